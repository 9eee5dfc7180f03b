/- What this claim is proved with: no condition. -/
import Derived.Test.YtlgkljpgagfndaaGreatDoorNu11
import Derived.RangeFuncNested
import Derived.RangeFuncBound
import Derived.RangeFuncCalls
import Derived.RangeFuncLeaves
import Derived.RangeFuncFrom
import Derived.TacticsIn
set_option linter.unusedVariables false
set_option linter.unusedSimpArgs false
namespace Go.Proofs.YtlgkljpgagfndaaGreatDoor.Pw
open Go Go.RowKit
section
variable {w w':World} {I I':Nat->Prop} {β aU:aB} {G:Gx} {s:ba} {a:Act} {st eU:List an}
def qz (st:List an):Bool:=st.all fun b=>match b.k with
 | .mp=>false
 | _=>true
theorem wM (h:qz st=true) {l:Nat} {b:an} (hl:st[l]?=some b):b.k≠.mp:=fun e=>by
 unfold qz at h
 rw[List.all_eq_true] at h
 have:=h b (List.mem_of_getElem? hl)
 rw[e] at this
 cases this
theorem gz.cells {l:Nat} {b:an} (h:gz I β st w l b) (hk:b.k≠.mp) {p:o8} {g o:Nat} (hp:β l=some p) (ha:p.a=some (g,o)):∃ arr ty fr,w.heap[g]?=some (.cells arr ty fr):=by
 obtain⟨q,hq,hm⟩:=h
 rw[hp] at hq
 cases hq
 split at hm
 ·obtain⟨g',o',arr,ty,fr,dH,hh,_⟩:=hm
  rw[ha] at dH; cases dH; exact⟨_,_,_,hh⟩
 ·obtain⟨g',arr,fr,dH,hh,_⟩:=hm
  rw[ha] at dH; cases dH; exact⟨_,_,_,hh⟩
 ·obtain⟨_,hm⟩:=hm
  rcases hm with ⟨dH,_⟩|⟨g',arr,fr,dH,hh,_⟩
  ·rw[ha] at dH; cases dH
  ·rw[ha] at dH; cases dH; exact⟨_,_,_,hh⟩
 ·rename_i cX
  exact absurd cX hk
structure lg (L:Nat) (w w':World):Prop where
 os:w'.os=w.os
 tape:w'.tape=w.tape
 output:w'.output=w.output
 size:w.heap.size<=w'.heap.size
 same:∀ g,g < w.heap.size->g≠L->w'.heap[g]?=w.heap[g]?
def Ef (L:Nat) (w:World):Prop:=∀ arr ty fr,w.heap[L]?≠some (.cells arr ty fr)
theorem lg.below (h:Below w.heap.size w w'):lg w.heap.size w w':=⟨h.os,h.tape,h.output,h.size,fun g hg _=>h.block g hg⟩
theorem lg.put (w:World) (L:Nat) (o:Obj):lg L w (w.putObj L o):=by
 have:=grownBy_putObj' w L o
 exact⟨this.os,this.tape,this.output,this.size,fun g _ dk=>World.putObj_heap_other dk⟩
theorem Jl (w:World):Ef w.heap.size w:=fun arr ty fr h=>by
 have:=(Array.getElem?_eq_some_iff.1 h).1
 omega
theorem aN.mE {L:Nat} (hH:aN I β st w) (rB:qz st=true) (hM:∀ g,I g->g < w.heap.size) (hL:¬ I L) (hb:Ef L w) (ht:lg L w w'):aN I β st w':=by
 refine⟨hH.qG,fun l b hl aP=>?_⟩
 have CZ:=hH.gM l b hl aP
 refine CZ.mono (fun _ h=>h) (fun g hg=>ht.same g (hM g hg) (fun e=>hL (e ▸ hg))) (fun _ _ h=>h) fun p g o hp ha=>?_
 obtain⟨arr,ty,fr,hc⟩:=CZ.cells (wM rB hl) hp ha
 obtain⟨_,_,_,_,ho⟩:=CZ.place hp ha
 exact⟨ht.same g (bT hc) (fun e=>hb _ _ _ (e ▸ hc)),fun hr=>⟨(ho.1 hr).2.1,(ho.1 hr).2.2⟩⟩
theorem de.mE {L:Nat} (hM:de G I w) (hL:¬ I L) (ht:lg L w w'):de G I w':=by
 have hs:∀ g,I g->w'.heap[g]?=w.heap[g]?:=fun g hg=>ht.same g (hM.ay g hg) (fun e=>hL (e ▸ hg))
 exact⟨fun g hg=>Nat.lt_of_lt_of_le (hM.ay g hg) ht.size,fun g cs h=>⟨(hM.nG g cs h).1,du.mono (fun _ h=>h) hs _ _ _ (hs g (hM.nG g cs h).1) (hM.nG g cs h).2⟩,fun g cs h=>by
  obtain⟨arr,ty,fr,h1,h2⟩:=hM.row g cs h
  exact⟨arr,ty,fr,(hs g (hM.nG g cs h).1).trans h1,h2⟩⟩
theorem Rel.mE {L:Nat} (hR:Rel G I β s a w) (rB:qz s.st=true) (hL:¬ I L) (hb:Ef L w) (ht:lg L w w'):Rel G I β s a w' :=
 ⟨hR.small,hR.defers,hR.size,hR.base,fun t x hx=>by
  obtain⟨v,hv,hi⟩:=hR.get t x hx
  exact⟨v,hv,PV.Is.mono (fun _ h=>h) (fun g hg=>ht.same g (hR.ay.ay g hg) (fun e=>hL (e ▸ hg))) x β β v (fun _ _ _ h=>h) hi⟩,hR.heap.mE rB hR.ay.ay hL hb ht,hR.ay.mE hL ht⟩
theorem Ext.mE {I0:Nat->Prop} {gd:aB} {o6:List an} {w0:World} {L:Nat} (hE:Ext I0 gd o6 w0 I β st w) (ht:lg L w w') (hL:w0.heap.size<=L):Ext I0 gd o6 w0 I β st w' :=
 ⟨ht.os.trans hE.os,ht.tape.trans hE.tape,ht.output.trans hE.output,Nat.le_trans hE.size ht.size,fun g hg hw=>(ht.same g (Nat.lt_of_lt_of_le hg hE.size) (by omega)).trans (hE.block g hg hw),hE.wr,hE.ay,hE.new⟩
theorem bW.mE {I0:Nat->Prop} {gd:aB} {s0:ba} {w0:World} {L:Nat} (hg:bW I0 gd s0 w0 I β s w) (ht:lg L w w') (hL:w0.heap.size<=L):bW I0 gd s0 w0 I β s w':=⟨hg.ext.mE ht hL,hg.base,hg.rl,hg.n,hg.low⟩
theorem bW.keeps {s':ba} (hg:bW I β s w I' aU s' w') (hH:aN I β s.st w) (rB:qz s.st=true) (B:Nat):KeepsFrom B w w':=by
 refine⟨hg.ext.size,fun k o _ hk ho=>(hg.ext.block k (bT hk) fun ⟨l,b,p,o',h1,h2,_,h4,h5⟩=>?_).trans hk⟩
 obtain⟨arr,ty,fr,hc⟩:=(hH.gM l b h1 h2).cells (wM rB h1) h4 h5
 rw[hk] at hc
 cases hc
 cases ho
theorem bW.Jm {s':ba} {L:Nat} (hg:bW I β s w I' aU s' w') (hH:aN I β s.st w) (rB:qz s.st=true) (hL:¬ I L) (hb:Ef L w) (cE:L < w.heap.size):¬ I' L:=fun h=>by
 rcases hg.ext.new L cE h with h|⟨l,b,p,o',h1,h2,_,h4,h5⟩
 ·exact hL h
 ·obtain⟨arr,ty,fr,hc⟩:=(hH.gM l b h1 h2).cells (wM rB h1) h4 h5
  exact hb _ _ _ hc
abbrev Jn (r:Option Nat):Fence:={ Fence.wide with round:=r }
def uU (o:Oper):Bool:=match o.op with
 | .defer _=>false
 | _=>true
theorem Jo {o:Oper} (h:uU o=true):∀ c,o.op≠.defer c:=fun c e=>by
 unfold uU at h
 rw[e] at h
 cases h
theorem Eg {P:Program} {r:Option Nat} {n:Nat} {o:Oper} {a:Act} {K:Value->World->Prop} {K':Act->World->Prop} {Q:Exit->Act->World->Prop} (hd:uU o=true) (h:Ev.nF P K ((execOp a.eval o).run P w)) (hK:∀ v w',K v w'->K' (a.put o.dst v) w'):o.wpIn (Jn r) n P a w K' Q:=by
 refine⟨fun f _=>trivial,?_⟩
 rw[show (Jn r).round=r from rfl,Oper.semAt_eq r _ _ (Jo hd)]
 generalize (execOp a.eval o).run P w=r at *
 cases r with
 | ok n w =>
  cases n<;>simp only[Ev.nF] at h
  case value u=>exact hK _ _ h
  case skip=>exact hK _ _ h
  case enter f args=>exact⟨fun h=>(by cases h),(callsIn_wide (n:=n - 1)).2 (h.mono fun e w' ⟨u,he,hu⟩=>by subst he; exact hK _ _ hu)⟩
 | halt x w=>exact h.elim
theorem oS (hG:m5 G) {r:Option Nat} {n:Nat} {ops:Array Oper} {l2:List Oper} {Q:X->ba->Prop} {Q':Exit->Act->World->Prop}:∀ (l:List Oper) {s:ba} {a:Act} {I:Nat->Prop} {β:aB} {w:World},l.all uU=true->xk G ops.toList Q l s->Rel G I β s a w ->
  (∀ s' I' aU a' w',Q .f_ s'->Rel G I' aU s' a' w'->bW I β s w I' aU s' w'->wpListIn (Jn r) n G.cx.P ops Q' l2 a' w')->wpListIn (Jn r) n G.cx.P ops Q' (l++l2) a w
 | [],s,a,I,β,w,_,h,hR,hQ=>hQ s I β a w h hR (bW.same ⟨rfl,rfl,rfl,rfl⟩)
 | o::l,s,a,I,β,w,hn,h,hR,hQ=>by
  simp only[List.all_cons,Bool.and_eq_true] at hn
  rw[List.cons_append]
  unfold wpListIn
  rcases iQ hR h with ⟨hw,s1,h1,mZ,ib⟩|⟨hw,s1,h1,mZ,ib⟩
  ·rw[hw,if_pos rfl]
   refine Eg hn.1 (vC hG ib h1) fun v w' hp=>?_
   obtain⟨x,s2,I2,gl,h2,kO,hx,hE,e1,e2,e3,gJ,_⟩:=hp
   obtain⟨s3,h3,ny,tL⟩:=ba.bV (G:=G) h2
   have g1:bW I β s w I2 gl s2 w':=(bW.same mZ).trans ⟨hE,e1,e2,e3,gJ⟩
   exact oS hG l hn.2 h3 (tL _ _ _ _ v kO hx) fun s' I' aU a' w9 hq dm hg=>hQ s' I' aU a' w9 hq dm ((g1.trans (bW.same ny)).trans hg)
  ·rw[hw,if_neg (by simp)]
   obtain⟨s3,h3,ny,tL⟩:=ba.bV (G:=G) h1
   exact⟨fun f _=>trivial,oS hG l hn.2 h3 (tL _ _ _ _ _ ib Is.undef) fun s' I' aU a' w9 hq dm hg=>hQ s' I' aU a' w9 hq dm (((bW.same mZ).trans (bW.same ny)).trans hg)⟩
theorem uV (hG:m5 G) {r:Option Nat} {n:Nat} {ops:Array Oper} {Q:X->ba->Prop} {Q':Exit->Act->World->Prop} (l:List Oper) {s:ba} {a:Act} {I:Nat->Prop} {β:aB} {w:World} (hn:l.all uU=true) (h:xk G ops.toList Q l s) (hR:Rel G I β s a w)
  (hQ:∀ s' I' aU a' w',Q .f_ s'->Rel G I' aU s' a' w'->bW I β s w I' aU s' w'->Q' .normal a' w'):wpListIn (Jn r) n G.cx.P ops Q' l a w:=by
 have:=oS (l2:=[]) (Q':=Q') (r:=r) (n:=n) hG l hn h hR fun s' I' aU a' w' hq dm hg=>hQ s' I' aU a' w' hq dm hg
 rwa [List.append_nil] at this
def kT:Code->Bool
 | .skip|.label _|.ret|.exit _=>true
 | .seq a b=>kT a && kT b
 | .cond _ a b=>kT a && kT b
 | .block _ c=>kT c
 | .region _ ops false=>ops.toList.all uU
 | _=>false
def Vz (l:Option Nat) (n:Nat) (G:Gx) (c:Code) (Q:X->ba->Prop) (s:ba):Prop:=∀ I β a w,Rel G I β s a w->c.wpIn (Jn l) n G.cx.P (dP G s I β w Q) a w
theorem Vz.from {l:Option Nat} {n:Nat} {c:Code} {Q:X->ba->Prop} {s0:ba} {I0:Nat->Prop} {gd:aB} {w0:World} (h:Vz l n G c Q s) (hR:Rel G I β s a w) (hg:bW I0 gd s0 w0 I β s w):c.wpIn (Jn l) n G.cx.P (dP G s0 I0 gd w0 Q) a w :=
 wpIn_mono (h I β a w hR) fun e a' w' hp=>by
  obtain⟨x,s',I',aU,rfl,hq,dm,xb⟩:=hp.goes
  exact dP.of hq dm (hg.trans xb)
theorem kK (hG:m5 G) {R:List (Nat × aS)} {ln:Option Nat} {m:Nat}:∀ (n:Nat) (c:Code) (Q:X->ba->Prop) (s:ba),kT c=true->pw G R n c Q s->Vz ln m G c Q s
 | 0,_,_,_,_,h=>h.elim
 | n+1,c,Q,s,hc,h=>by
  intro I β a w hR
  cases c with
  | skip=>exact wpIn_skip (dP.of (x:=.f_) h hR (bW.same ⟨rfl,rfl,rfl,rfl⟩))
  | label l=>exact wpIn_label (dP.of (x:=.f_) h hR (bW.same ⟨rfl,rfl,rfl,rfl⟩))
  | ret=>exact wpIn_ret (dP.of (x:=.ret) h hR (bW.same ⟨rfl,rfl,rfl,rfl⟩))
  | exit id=>exact wpIn_exit (dP.of (x:=.exit id) h hR (bW.same ⟨rfl,rfl,rfl,rfl⟩))
  | seq x y =>
   simp only[kT,Bool.and_eq_true] at hc
   refine wpIn_seq (wpIn_mono (kK hG n x _ s hc.1 h I β a w hR) fun e a' w' hp=>?_)
   obtain⟨x',s',I',aU,rfl,hq,dm,hg⟩:=hp.goes
   cases x' with
   | f_=>exact (kK hG n y Q s' hc.2 hq).from dm hg
   | exit id=>exact dP.of (Q:=Q) (x:=.exit id) hq dm hg
   | ret=>exact dP.of (Q:=Q) (x:=.ret) hq dm hg
  | cond c x y =>
   simp only[kT,Bool.and_eq_true] at hc
   obtain⟨b,s',he,hk,hs,dm⟩:=xN hR h
   refine wpIn_cond he ?_
   cases b with
   | true=>exact (kK hG n x Q s' hc.1 hk).from dm (bW.same hs)
   | false=>exact (kK hG n y Q s' hc.2 hk).from dm (bW.same hs)
  | block id c =>
   refine wpIn_block (wpIn_mono (kK hG n c _ s hc h I β a w hR) fun e a' w' hp=>?_)
   obtain⟨x',s',I',aU,rfl,hq,dm,hg⟩:=hp.goes
   cases x' with
   | f_=>exact dP.of (Q:=Q) (x:=.f_) hq dm hg
   | exit j =>
    show Exit.inBlock id _ (.exit j) a' w'
    simp only[Exit.inBlock]
    by_cases hj:j=id
    ·subst hj
     rw[if_pos rfl]
     have tJ:Q .f_ s':=by simpa [rK,Nat.beq_refl] using hq
     exact dP.of (x:=.f_) tJ dm hg
    ·have dw:Nat.beq j id=false:=by rw[Bool.eq_false_iff]; exact fun e=>hj (Nat.eq_of_beq_eq_true e)
     rw[if_neg hj]
     have tJ:Q (.exit j) s':=by simpa [rK,dw] using hq
     exact dP.of (x:=.exit j) tJ dm hg
   | ret=>exact dP.of (Q:=Q) (x:=.ret) hq dm hg
  | region id ops draw =>
   cases draw with
   | true=>cases hc
   | false=>exact wpIn_region_list (uV hG _ hc h hR fun s' I' aU a' w' hq dm hg=>dP.of (x:=.f_) hq dm hg)
  | _=>cases hc
def Cv {α:Type} (n:Nat) (P:Program) (g:Nat) (lb:Array Value) (Eh:α->Array Value) (all:List α) (Fc:World->Prop):Prop :=
 ∀ (l:Nat) (J:List α->World->Prop) (W:World),(∀ pre W W',J pre W->Below W.heap.size W W'->J pre W')->Fc W ->
  (∀ pre x W1,pre++[x] <+: all->J pre W1->YieldAt Fence.wide (n - 1) P l (Eh x) W1 fun e W'=>e = .returned (.bool true)/\J (pre++[x]) W'/\Fc W') ->
  J [] W->CallsIn Fence.wide n P g (#[.func (.yield l) #[] #[]]++lb) W fun e W'=>(∃ v,e = .returned v)/\J all W'
def mark (D:Nat):Deferred:={ target:=.collected D,args:=#[] }
theorem AW {n:Nat} {P:Program} {α:Type} {g:Operand} {ps:Array Tmp} {assign body:Code} {Q:Exit->Act->World->Prop} {gf:Nat} {lb:Array Value}
  (hg:a.eval g = .func (.func gf) #[] lb) (eg:∀ args w,(callFunc gf args).run P w = .ok (.enter gf args) w) {Eh:α->Array Value} {all:List α} {Fc:World->Prop}
  (Jp:Cv (n - 1) P gf lb Eh all Fc) (WC:∀ x,(Eh x).size=ps.size) (Inv:List α->World->Prop) (hInv:∀ pre W W',Inv pre W->Below W.heap.size W W'->Inv pre W') (h0:Inv [] w)
  (ht:∀ pre W r r',Inv pre W->W.heap[w.heap.size+1]?=some (.loop r)->Inv pre (W.putObj (w.heap.size+1) (.loop r'))) (Pm:∀ pre W,Inv pre W->Fc W)
  (Ax:List α->α->Act->World->Prop) (htA:∀ pre x a' W r r',Ax pre x a' W->W.heap[w.heap.size+1]?=some (.loop r)->Ax pre x a' (W.putObj (w.heap.size+1) (.loop r')))
  (Ni:∀ pre x W,pre++[x] <+: all->Inv pre W->(∃ r,W.heap[w.heap.size+1]?=some (.loop r))->W.heap[w.heap.size]?=some (.deferred (some []))->assign.wpIn (Jn (some (w.heap.size+1))) (n - 1 - 1) P (Exit.then (fun a' W'=>KeepsFrom w.heap.size W W'/\Ax pre x a' W') (fun _ _ _=>False)) { tmps:=(ps.zip (Eh x)).foldl (fun t (p,v)=>t.setIfInBounds p v) a.tmps,defers:=[] } W)
  (hbody:∀ pre x a' W,pre++[x] <+: all->Ax pre x a' W->(∃ r,W.heap[w.heap.size+1]?=some (.loop r))->W.heap[w.heap.size]?=some (.deferred (some []))->body.wpIn (Jn (some (w.heap.size+1))) (n - 1 - 1) P (fun e _ W'=>e = .normal/\KeepsFrom w.heap.size W W'/\Inv (pre++[x]) W') a' W)
  (Jq:∀ W,Inv all W->W.heap[w.heap.size]?=some (.deferred (some []))->Q .normal { a with defers:=mark w.heap.size::a.defers } W) :
  (Code.rangeFunc g ps assign body).wpIn Fence.wide n P Q a w:=by
 refine wpIn_rangeFunc ?_
 intro fn hfn
 obtain⟨rec,yS⟩:∃ rec:LoopState->Option Code->Loop,rec=fun st pe=>{ state:=st,pending:=pe,fn,tmps:=a.tmps,params:=ps,assign,body,defers:=w.heap.size }:=⟨_,rfl⟩
 obtain⟨W1,hW1⟩:∃ W1,(w.alloc (.deferred (some []))).alloc (.loop (rec .ready none))=W1:=⟨_,rfl⟩
 have hL1:W1.heap[w.heap.size+1]?=some (.loop (rec .ready none)):=by
  rw[← hW1]; have:=World.alloc_heap_new (w.alloc (.deferred (some []))) (.loop (rec .ready none)); rwa [World.size_alloc] at this
 have hK1:W1.heap[w.heap.size]?=some (.deferred (some [])):=by
  rw[← hW1]; exact (Below.heap_alloc _ _ _ (by simp)).trans (World.alloc_heap_new w _)
 have hI1:Inv [] W1:=by
  rw[← hW1]
  exact hInv _ _ _ h0 ((((Below.refl _ w).alloc (Nat.le_refl _) _).alloc (by simp) _))
 refine⟨w.heap.size+1,[mark w.heap.size],W1,{ target:=.fn (.func gf) lb,args:=#[.func (.yield (w.heap.size+1)) #[] #[]] },W1,gf,
  #[.func (.yield (w.heap.size+1)) #[] #[]]++lb,W1,?_,?_,fun _ _=>trivial,?_,fun h=>(by cases h),?_⟩
 ·rw[← hW1,yS]; exact run_enterLoop_outer _ _ _ _ _
 ·simp only[resolve,hg]
  simp[go_sem]
 ·simp[invoke,go_sem,eg]
 ·refine (Jp (w.heap.size+1) (fun pre W=>Inv pre W/\W.heap[w.heap.size+1]?=some (.loop (rec .ready none))/\W.heap[w.heap.size]?=some (.deferred (some [])))
   W1 (fun pre W W' ⟨h1,h2,h3⟩ hB=>⟨hInv _ _ _ h1 hB,(hB.block _ (bT h2)).trans h2,(hB.block _ (bT h3)).trans h3⟩) (Pm _ _ hI1) ?_ ⟨hI1,hL1,hK1⟩).mono ?_
  ·rintro pre x W AX ⟨hi,hl,hk⟩
   have hy:=run_yield (P:=P) (args:=Eh x) hl (by rw[yS]; exact WC x)
   rw[yS] at hy
   refine⟨fn,_,assign,body,hy,roundIn_of_wpIn hfn (wpIn_mono (Ni pre x W AX hi ⟨_,hl⟩ hk) ?_)⟩
   intro e a1 Wa hp
   cases e with
   | normal =>
    obtain⟨hka,hA⟩:=hp
    have hla:=hka.same _ _ (Nat.le_succ _) hl rfl
    have hda:=hka.same _ _ (Nat.le_refl _) hk rfl
    refine⟨_,run_beginRound hla (by rw[yS]),?_⟩
    have cE:=bT hla
    have gn:(Wa.putObj (w.heap.size+1) (.loop { rec .ready none with state:=.busy })).heap[w.heap.size+1]?=some (.loop { rec .ready none with state:=.busy }):=World.putObj_heap_same cE
    have tN:(Wa.putObj (w.heap.size+1) (.loop { rec .ready none with state:=.busy })).heap[w.heap.size]?=some (.deferred (some [])):=(World.putObj_heap_other (by omega)).trans hda
    refine wpIn_mono (hbody pre x a1 _ AX (htA _ _ _ _ _ _ hA hla) ⟨_,gn⟩ tN) ?_
    rintro e a3 W3 ⟨rfl,hk3,OM⟩
    have Kp:=hk3.same _ _ (Nat.le_succ _) gn rfl
    have hr:=run_endRound (P:=P) none Kp
    have hlt3:=bT Kp
    have WH:=ht _ _ _ (rec .ready none) OM Kp
    rw[yS] at hr WH
    refine⟨_,_,hr,rfl,⟨WH,?_,?_⟩,Pm _ _ WH⟩
    ·rw[yS]; exact World.putObj_heap_same hlt3
    ·exact (World.putObj_heap_other (by omega)).trans (hk3.same _ _ (Nat.le_refl _) tN rfl)
   | _=>exact hp.elim
  ·rintro e W2 ⟨⟨v,rfl⟩,hi,hl,hk⟩
   exact⟨none,_,by have:=run_endLoop (P:=P) hl (by rw[yS]; simp); rw[yS] at this; exact this,Jq _ (ht _ _ _ _ hi hl) ((World.putObj_heap_other (by omega)).trans hk)⟩
theorem Rel.outer {so s1 s2:ba} {a2:Act} {I1 I2:Nat->Prop} {ll gl:aB} {w1 w2:World} (hO:Rel G I1 ll (so.store s1.st) a w1) (hg:bW I1 ll s1 w1 I2 gl s2 w2) (hb:s1.base=s1.st.length) (hr:s1.rl = []) (h2:Rel G I2 gl s2 a2 w2):Rel G I2 gl (so.store s2.st) a w2:=by
 obtain⟨e1,e2,e3,e4,e5⟩:=ba.eP so s1.st
 obtain⟨f1,f2,f3,f4,f5⟩:=ba.eP so s2.st
 have hH1:aN I1 ll s1.st w1:=by have:=hO.heap; rwa [e3] at this
 have hlen:s1.st.length<=s2.st.length:=by have:=h2.base; rw[hg.base,hb] at this; exact this
 refine⟨by rw[f1,← e1]; exact hO.small,hO.defers,by rw[f1,← e1]; exact hO.size,by rw[f4,f3]; have:=hO.base; rw[e4,e3] at this; omega,fun t x hx=>?_,by rw[f3]; exact h2.heap,h2.ay⟩
 rw[f2,← e2] at hx
 obtain⟨v,hv,hi⟩:=hO.get t x hx
 refine⟨v,hv,PV.Is.mono hg.ext.ay (fun g tO=>hg.ext.block g (hO.ay.ay g tO) (fun hw=>hH1.ly hw tO)) x ll gl v (fun l p _ hp=>?_) hi⟩
 have hl:l < s1.st.length:=Nat.lt_of_not_le fun h=>by rw[hH1.qG l h] at hp; cases hp
 rw[hg.low l (by rw[hb]; exact hl) (by rw[hr]; simp)]
 exact hp
theorem bW.outer {so s1 s2:ba} {I0 I1 I2:Nat->Prop} {gd ll gl:aB} {w0 w1 w2:World} (h0:bW I0 gd so w0 I1 ll (so.store s1.st) w1) (hg:bW I1 ll s1 w1 I2 gl s2 w2) (hb:s1.base=s1.st.length) (hr:s1.rl = []) (hle:so.base<=s1.st.length):bW I0 gd so w0 I2 gl (so.store s2.st) w2:=by
 obtain⟨e1,e2,e3,e4,e5⟩:=ba.eP so s1.st
 obtain⟨f1,f2,f3,f4,f5⟩:=ba.eP so s2.st
 have hE:=h0.ext
 rw[e3] at hE
 refine⟨by rw[f3]; exact hE.trans hg.ext,f4,f5,f1,fun l hl hnr=>?_⟩
 rw[hg.low l (by rw[hb]; omega) (by rw[hr]; simp)]
 exact h0.low l hl hnr
theorem sS (s:ba) (st:List an):(s.store st).st=st:=(ba.eP s st).2.2.1
def RInv (G:Gx) (so:ba) (a:Act) (I0:Nat->Prop) (gd:aB) (w0:World) (st:List an) (W:World):Prop :=
 ∃ I β,Rel G I β (so.store st) a W/\bW I0 gd so w0 I β (so.store st) W/\¬ I w0.heap.size/\¬ I (w0.heap.size+1)
theorem ka {W:World} {L:Nat} (h:∃ r,W.heap[L]?=some (.loop r)):Ef L W:=fun arr ty fr e=>by
 obtain⟨r,h⟩:=h
 rw[h] at e
 cases e
theorem oT {W:World} {L:Nat} {ds:Option (List Deferred)} (h:W.heap[L]?=some (.deferred ds)):Ef L W:=fun arr ty fr e=>by
 rw[h] at e
 cases e
def AY (G:Gx) (N:Nat) (assign body:Code) (st eU:List an) (s:ba):Prop :=
 pw G [] N assign (fun e s3=>match e with
  | .f_=>s3.st=st/\pw G [] N body (fun e s4=>match e with
   | .f_=>∃ π,fD G.cx π s4 ⟨s4.n,.nil,eU,s4.base,s4.rl⟩
   | _=>False) s3
  | _=>False) s
set_option maxHeartbeats 1000000 in
theorem Jr (hG:m5 G) (hd:G.FT = []) {α:Type} {g:Operand} {p1 p2:Tmp} {assign body:Code} {Q:Exit->Act->World->Prop} {n N:Nat} {gf:Nat} {lb:Array Value} (X1 X2:α->PV) (V1 V2:α->Value) (hX:∀ x w I β,(X1 x).Is w I β (V1 x)/\(X2 x).Is w I β (V2 x)) {all:List α} {Fc:World->Prop}
  (hg:a.eval g = .func (.func gf) #[] lb) (eg:Ev.iu G.cx.P gf) (Jp:Cv (n - 1) G.cx.P gf lb (fun x=>#[V1 x,V2 x]) all Fc) (st:List α->List an) (rB:∀ pre,qz (st pre)=true) (hs:s.st=st []) (hR:Rel G I β s a w)
  (Pm:∀ pre W I' aU,Rel G I' aU (s.store (st pre)) a W->bW I β s w I' aU (s.store (st pre)) W->Fc W) (h1:kT assign=true) (h2:kT body=true)
  (sT:∀ pre x,pre++[x] <+: all->ba.put ⟨s.n,s.t,st pre,(st pre).length,[]⟩ (some p1) (X1 x) fun s1=>s1.put (some p2) (X2 x) fun s2=>AY G N assign body (st pre) (st (pre++[x])) s2)
  (Jq:∀ I' aU W,Rel G I' aU (s.store (st all)) a W->bW I β s w I' aU (s.store (st all)) W->W.heap[w.heap.size]?=some (.deferred (some []))->¬ I' w.heap.size->Q .normal { a with defers:=mark w.heap.size::a.defers } W) :
  (Code.rangeFunc g #[p1,p2] assign body).wpIn Fence.wide n G.cx.P Q a w:=by
 refine AW hg eg Jp (fun _=>rfl) (fun pre W=>RInv G s a I β w (st pre) W) ?inv ?h0 ?ht ?Pm (fun pre x a' W=>∃ s3 I' aU,(pw G [] N body (fun e s4=>match e with
   | .f_=>∃ π,fD G.cx π s4 ⟨s4.n,.nil,st (pre++[x]),s4.base,s4.rl⟩
   | _=>False) s3)/\Rel G I' aU s3 a' W/\Rel G I' aU (s.store s3.st) a W/\bW I β s w I' aU (s.store s3.st) W/\(¬ I' w.heap.size/\¬ I' (w.heap.size+1))/\s3.st=st pre/\s3.base=s3.st.length/\s3.rl = []) ?htA ?assign ?body ?done
 case inv =>
  rintro pre W W' ⟨I1,ll,ib,m8,n1,n2⟩ hB
  have hn:¬ I1 W.heap.size:=fun h=>by have:=ib.ay.ay _ h; omega
  exact⟨I1,ll,ib.mE (by rw[sS]; exact rB _) hn (Jl W) (lg.below hB),m8.mE (lg.below hB) m8.ext.size,n1,n2⟩
 case h0 =>
  have e:s.store (st [])=s:=by rw[← hs]; exact rL s
  refine⟨I,β,by rw[e]; exact hR,by rw[e]; exact bW.same ⟨rfl,rfl,rfl,rfl⟩,fun h=>?_,fun h=>?_⟩
  ·have:=hR.ay.ay _ h; omega
  ·have:=hR.ay.ay _ h; omega
 case ht =>
  rintro pre W r r' ⟨I1,ll,ib,m8,n1,n2⟩ hl
  exact⟨I1,ll,ib.mE (by rw[sS]; exact rB _) n2 (ka ⟨r,hl⟩) (lg.put W _ _),m8.mE (lg.put W _ _) (by omega),n1,n2⟩
 case Pm =>
  rintro pre W ⟨I1,ll,ib,m8,n1,n2⟩
  exact Pm pre W I1 ll ib m8
 case htA =>
  rintro pre x a' W r r' ⟨s3,I1,ll,hq,ib,hO1,m8,⟨n1,n2⟩,zu,hb,hr⟩ hl
  exact⟨s3,I1,ll,hq,ib.mE (by rw[zu]; exact rB _) n2 (ka ⟨r,hl⟩) (lg.put W _ _),hO1.mE (by rw[sS,zu]; exact rB _) n2 (ka ⟨r,hl⟩) (lg.put W _ _),m8.mE (lg.put W _ _) (by omega),⟨n1,n2⟩,zu,hb,hr⟩
 case assign =>
  rintro pre x W AX ⟨I1,ll,hO,m8,n1,n2⟩ hl hk
  obtain⟨e1,e2,e3,e4,e5⟩:=ba.eP s (st pre)
  have hRi:Rel G I1 ll ⟨s.n,s.t,st pre,(st pre).length,[]⟩ { tmps:=a.tmps,defers:=[] } W:=⟨by have:=hO.small; rw[e1] at this; exact this,hd.symm,by have:=hO.size; rw[e1] at this; exact this,Nat.le_refl _,fun t y hy=>hO.get t y (by rw[e2]; exact hy),by have:=hO.heap; rw[e3] at this; exact this,hO.ay⟩
  obtain⟨s1,mZ,sb1,hr1⟩:=ba.bV (G:=G) (sT pre x AX)
  obtain⟨s2,Yg,sb2,hr2⟩:=ba.bV (G:=G) mZ
  have hRj:=hr2 I1 ll _ W (V2 x) (hr1 I1 ll _ W (V1 x) hRi (hX x W I1 ll).1) (hX x W I1 ll).2
  have ea:({ tmps:=(#[p1,p2].zip #[V1 x,V2 x]).foldl (fun t (p,v)=>t.setIfInBounds p v) a.tmps,defers:=[] }:Act)=Act.put (Act.put { tmps:=a.tmps,defers:=[] } (some p1) (V1 x)) (some p2) (V2 x):=by simp[Act.put]
  rw[ea]
  refine wpIn_mono (kK hG N assign _ s2 h1 Yg I1 ll _ W hRj) fun e a' W' hp=>?_
  obtain⟨x',s3,I3,Fw,rfl,hq,vJ,OV⟩:=hp.goes
  cases x' with
  | f_ =>
   obtain⟨zu,hq⟩:=hq
   have Ei:bW I1 ll ⟨s.n,s.t,st pre,(st pre).length,[]⟩ W I3 Fw s3 W':=((bW.same sb1).trans (bW.same sb2)).trans OV
   have hO3:=Rel.outer (so:=s) (s1:=⟨s.n,s.t,st pre,(st pre).length,[]⟩) hO Ei rfl rfl vJ
   have hle:s.base<=(st pre).length:=by have:=hO.base; rw[e4,e3] at this; exact this
   exact⟨Ei.keeps hRi.heap (rB pre) _,s3,I3,Fw,hq,vJ,hO3,bW.outer (s1:=⟨s.n,s.t,st pre,(st pre).length,[]⟩) m8 Ei rfl rfl hle,⟨Ei.Jm hRi.heap (rB pre) n1 (oT hk) (bT hk),Ei.Jm hRi.heap (rB pre) n2 (ka hl) (bT hl.choose_spec)⟩,zu,by rw[Ei.base,zu],Ei.rl⟩
  | exit id=>exact hq.elim
  | ret=>exact hq.elim
 case body =>
  rintro pre x a' W AX ⟨s3,I3,Fw,hq,vJ,hO3,OV,⟨n1,n2⟩,zu,hb,hr⟩ hl hk
  refine wpIn_mono (kK hG N body _ s3 h2 hq I3 Fw a' W vJ) fun e a4 W4 hp=>?_
  obtain⟨x',s4,I4,VA,rfl,hq,Nj,Kz⟩:=hp.goes
  cases x' with
  | f_ =>
   obtain⟨π,m7⟩:=hq
   obtain⟨I5,VB,KA,FB⟩:=cL hG.ok m7 I4 VA a4 W4 Nj
   have Ei:=Kz.trans FB
   have Mb:qz s3.st=true:=by rw[zu]; exact rB _
   have hle:s.base<=s3.st.length:=by
    obtain⟨e1,e2,e3,e4,e5⟩:=ba.eP s s3.st
    have:=hO3.base; rw[e4,e3] at this; exact this
   exact⟨rfl,Ei.keeps vJ.heap Mb _,I5,VB,Rel.outer hO3 Ei hb hr KA,bW.outer OV Ei hb hr hle,Ei.Jm vJ.heap Mb n1 (oT hk) (bT hk),Ei.Jm vJ.heap Mb n2 (ka hl) (bT hl.choose_spec)⟩
  | exit id=>exact hq.elim
  | ret=>exact hq.elim
 case done =>
  rintro W ⟨I1,ll,ib,m8,n1,n2⟩ hk
  exact Jq I1 ll W ib m8 hk n1
def Cw:Nat->Code->Code
 | k+1,.seq a b=>.seq a (Cw k b)
 | _,_=>.skip
def sU:Nat->Code->Code
 | k+1,.seq a b=>sU k b
 | _,c=>c
def VC:Nat->Code->Bool
 | 0,_=>true
 | k+1,.seq a b=>VC k b
 | _,_=>false
theorem yT (hG:m5 G) {R:List (Nat × aS)} {m:Nat} {Q:Exit->Act->World->Prop} {K:ba->Prop}:∀ (k n:Nat) (c:Code) (s:ba) (a:Act) (I:Nat->Prop) (β:aB) (w:World),VC k c=true->cr R c=true ->
  pw G R n (Cw k c) (fun e s'=>match e with
   | .f_=>K s'
   | _=>False) s->Rel G I β s a w->(∀ s' I' aU a' w',K s'->Rel G I' aU s' a' w'->bW I β s w I' aU s' w'->(sU k c).wpIn Fence.wide m G.cx.P Q a' w')->c.wpIn Fence.wide m G.cx.P Q a w
 | _,0,_,_,_,_,_,_,_,_,h,_,_=>h.elim
 | 0,n+1,c,s,a,I,β,w,_,_,h,hR,hQ=>by
  have h':K s:=by cases c<;>exact h
  have:=hQ s I β a w h' hR (bW.same ⟨rfl,rfl,rfl,rfl⟩)
  cases c<;>exact this
 | k+1,n+1,c,s,a,I,β,w,hk,hp,h,hR,hQ=>by
  cases c with
  | seq A C =>
   simp only[cr,Bool.and_eq_true] at hp
   refine wpIn_seq (wpIn_mono (wpIn_wide.2 ((gE hG n A _ s hp.1 h).run hR)) fun e a' w' hq=>?_)
   obtain⟨x',s',I',aU,rfl,hq,dm,hg⟩:=hq.goes
   cases x' with
   | f_=>exact yT hG k n C s' a' I' aU w' hk hp.2 hq dm fun s2 I2 gl a2 w2 hK kO xa=>hQ s2 I2 gl a2 w2 hK kO (hg.trans xa)
   | exit id=>exact hq.elim
   | ret=>exact hq.elim
  | _=>cases hk
theorem Rel.FT {d:List Deferred} (hR:Rel G I β s a w):Rel { G with FT:=d } I β s { a with defers:=d } w:=⟨hR.small,rfl,hR.size,hR.base,hR.get,hR.heap,⟨hR.ay.ay,hR.ay.nG,hR.ay.row⟩⟩
theorem Rel.first {t:TM} {n:Nat} {args:List PV} {vals:List Value} {S:List an} {rl:List Nat} (hd:G.FT = []) (hle:args.length<=n) (nT:n<=16777215) (ht:∀ m x,t.get m=some x->(∃ j,m=0+j/\args[j]?=some x)\/TM.nil.get m=some x) (hH:aN I β S w) (hM:de G I w) (hA:bG w I args β vals):Rel G I β ⟨n,t,S,S.length,rl⟩ { tmps:=vals.toArray++Array.replicate (n - vals.toArray.size) Go.undef,defers:=[] } w:=by
 have O1:=hA.length
 refine⟨nT,hd.symm,by simp; omega,Nat.le_refl _,fun n x hx=>?_,hH,hM⟩
 rcases ht n x hx with ⟨j,hj,hx⟩|hx
 ·rw[Nat.zero_add] at hj
  subst hj
  obtain⟨v,hv,hi⟩:=hA.get hx
  have cE:n < vals.length:=(List.getElem?_eq_some_iff.1 hv).1
  exact⟨v,by rw[Array.getElem?_append_left (by simpa using cE)]; simpa using hv,hi⟩
 ·cases hx
abbrev qd (G:Gx) (D:Nat):Gx:={ G with FT:=[mark D] }
set_option maxHeartbeats 1000000 in
theorem Spec.VD (hG:m5 G) (R:List (Nat × aS)) {f:FuncId} {fn:Func} {c:Code} {args:List PV} {S:List an} {K:PV->List an->Prop} (N k:Nat) {i:Nat} {g:Operand} {p1 p2:Tmp} {assign body A B:Code} (hf:G.cx.P.funcs[f]?=some fn) (hb:fn.body=some c) (pU:cr R c=true) (hk:VC k c=true) (htl:sU k c = .seq (.seq A (.block i (.rangeFunc g #[p1,p2] assign body))) B) (h1:kT assign=true) (h2:kT body=true)
  {α:Type} (X1 X2:α->PV) (V1 V2:α->Value) (hX:∀ x w I β,(X1 x).Is w I β (V1 x)/\(X2 x).Is w I β (V2 x)) (all:List α) (st:List α->List an) (rB:∀ pre,qz (st pre)=true) (sv:List (Nat × PV))
  (AX:bif Nat.ble args.length fn.ntmps && Nat.ble fn.ntmps 16777215 && !(fn.name == "runtime.NumGoroutine") then lz S 0 fun b=>zZ args 0 .nil fun t=>pw G R N (Cw k c) (fun e s'=>match e with
   | .f_=>pw G R N A (fun e s'=>match e with
    | .f_=>∃ π,fD G.cx π s' ⟨fn.ntmps,ig sv .nil,st [],S.length,[]⟩
    | _=>False) s'
   | _=>False) ⟨fn.ntmps,t,S,b,[]⟩ else False)
  (WZ:∀ I β a w,Rel G I β ⟨fn.ntmps,ig sv .nil,st [],S.length,[]⟩ a w->∃ gf lb Fc,a.eval g = .func (.func gf) #[] lb/\Ev.iu G.cx.P gf/\Cv 4 G.cx.P gf lb (fun x=>#[V1 x,V2 x]) all Fc/\∀ pre W I' aU,Rel G I' aU ⟨fn.ntmps,ig sv .nil,st pre,S.length,[]⟩ a W->bW I β ⟨fn.ntmps,ig sv .nil,st [],S.length,[]⟩ w I' aU ⟨fn.ntmps,ig sv .nil,st pre,S.length,[]⟩ W->Fc W)
  (sT:∀ pre x,pre++[x] <+: all->ba.put ⟨fn.ntmps,ig sv .nil,st pre,(st pre).length,[]⟩ (some p1) (X1 x) fun s1=>s1.put (some p2) (X2 x) fun s2=>AY G N assign body (st pre) (st (pre++[x])) s2)
  (hend:∀ D,pw (qd G D) R N B (fun e s'=>qz s'.st=true/\C3 (qd G D) fn.results.toList S.length K e s') ⟨fn.ntmps,ig sv .nil,st all,S.length,[]⟩) (hd:G.FT = []:=by rfl):Spec G f args S [] K:=by
 obtain⟨hc,h⟩:=bs AX
 simp only[Bool.and_eq_true,Bool.not_eq_true'] at hc
 obtain⟨⟨hle,nT⟩,xU⟩:=hc
 have hle:=Nat.le_of_ble_eq_true hle
 have nT:=Nat.le_of_ble_eq_true nT
 replace h:=gY h
 rw[Nat.zero_add] at h
 obtain⟨t,h,ht⟩:=og h
 refine Spec.intro (Ev.l7 hf hb xU) fun I β w vals hH hM hA=>(callsIn_wide (n:=5)).1 (callsIn_of_wp_marks hf hb trivial ?_ rfl)
 have hR:=Rel.first (rl:=[]) hd hle nT ht hH hM hA
 have Nk:cr R (sU k c)=true:=by
  have key:∀ (k:Nat) (c:Code),cr R c=true->cr R (sU k c)=true:=by
   intro k
   induction k with
   | zero=>intro c h; cases c<;>exact h
   | succ k ih =>
    intro c h
    cases c with
    | seq a b =>
     simp only[cr,Bool.and_eq_true] at h
     exact ih b h.2
    | _=>exact h
  exact key k c pU
 rw[htl] at Nk
 simp only[cr,Bool.and_eq_true] at Nk
 have hplA:=Nk.1.1
 have hplB:=Nk.2
 refine yT hG k N c _ _ I β w hk pU h hR fun s0 I0 gd a0 w0 hA0 W_ hg0=>?_
 rw[htl]
 refine wpIn_seq (wpIn_seq (wpIn_mono (wpIn_wide.2 ((gE hG N A _ s0 hplA hA0).run W_)) fun e a' w' hp=>?_))
 obtain⟨x',s',I',aU,rfl,hq,dm,xb⟩:=hp.goes
 have xb:=hg0.trans xb
 cases x' with
 | exit id=>exact hq.elim
 | ret=>exact hq.elim
 | f_ =>
 obtain⟨π,m7⟩:=hq
 obtain⟨I1,ll,ib,m8⟩:=cL hG.ok m7 I' aU a' w' dm
 have m8:=xb.trans m8
 obtain⟨gf,lb,Fc,he,hen,Jp,Pm⟩:=WZ I1 ll a' w' ib
 refine wpIn_block ?_
 refine Jr hG hd X1 X2 V1 V2 hX he hen Jp st rB rfl ib (fun pre W I' aU h1 h2=>Pm pre W I' aU h1 h2) h1 h2 sT fun I2 gl W kO xa hkD hnD=>?_
 have hgB:=m8.trans xa
 have hda:a'.defers = []:=ib.defers.trans hd
 have hG':m5 (qd G w'.heap.size):=⟨hG.ok,hG.bF⟩
 show B.wpIn Fence.wide 5 G.cx.P (bodyPostM Fence.wide 5 G.cx.P fn _) { a' with defers:=mark w'.heap.size::a'.defers } W
 rw[hda]
 have vJ:Rel (qd G w'.heap.size) I2 gl ⟨fn.ntmps,ig sv .nil,st all,S.length,[]⟩ { a' with defers:=[mark w'.heap.size] } W:=Rel.FT kO
 refine wpIn_mono (wpIn_wide.2 ((gE hG' N B _ _ hplB (hend _)).run vJ)) fun e a4 W4 hp=>?_
 obtain⟨x',s4,I4,VA,rfl,⟨hm4,hq⟩,Nj,Kz⟩:=hp.goes
 have hmA:qz (st all)=true:=rB _
 have hkD4:W4.heap[w'.heap.size]?=some (.deferred (some [])):=(Kz.keeps vJ.heap hmA 0).same _ _ (Nat.zero_le _) hkD rfl
 have hnD4:¬ I4 w'.heap.size:=Kz.Jm vJ.heap hmA hnD (oT hkD) (bT hkD)
 have KA:=Nj.mE hm4 hnD4 (oT hkD4) (lg.put W4 w'.heap.size (.deferred none))
 have FB:=(hgB.trans (show bW I2 gl ⟨fn.ntmps,ig sv .nil,st all,S.length,[]⟩ W I4 VA s4 W4 from Kz)).mE (lg.put W4 w'.heap.size (.deferred none)) xb.ext.size
 have nS:C3 (qd G w'.heap.size) fn.results.toList S.length K .f_ s4->bodyPostM Fence.wide 5 G.cx.P fn (fun e w'=>∃ v r S' I' aU,e = .returned v/\K r S'/\r.Is w' I' aU v/\aN I' aU S' w'/\de G I' w'/\Ext I β S w I' aU S' w'/\S.length<=S'.length/\∀ l,l < S.length->l ∉ []->aU l=β l) .ret a4 W4:=fun hq=>by
  obtain⟨v,cj,v',r,S',I6,β6,hv,hK,hi,hH6,hM6,hE6,hl6,gJ⟩:=xT (fn:=fn) hG' rfl rfl rfl KA FB hq
  show LeavesInM _ _ _ _ _ _ a4.defers _ _
  rw[show a4.defers = [mark w'.heap.size] from Nj.defers]
  exact⟨by simp,.inl ⟨_,_,rfl,run_takeDeferred hkD4,v,cj,v',r,S',I6,β6,hv,hK,hi,hH6,⟨hM6.ay,hM6.nG,hM6.row⟩,hE6,hl6,gJ⟩⟩
 cases x' with
 | f_=>exact nS hq
 | ret=>exact nS hq
 | exit id=>exact hq.elim
end
end Go.Proofs.YtlgkljpgagfndaaGreatDoor.Pw

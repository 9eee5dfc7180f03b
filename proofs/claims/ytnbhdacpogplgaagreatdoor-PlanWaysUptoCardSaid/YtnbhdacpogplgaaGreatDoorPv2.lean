/- What this claim is proved with: no condition. -/
import Derived.Test.YtnbhdacpogplgaaGreatDoorPv1
import Derived.Deep.AppendLies
import Derived.Test.YtnbhdacpogplgaaGreatDoorChecked
import Derived.Maps.Own
set_option linter.unusedVariables false
set_option linter.unusedSimpArgs false
namespace Go.Proofs.YtnbhdacpogplgaaGreatDoor.Pw
open Go Go.RowKit
inductive PV where
 | lit (k:IntKind) (n:Int)|int (k:IntKind) (n:Int)
 | tt|ff|bool (p:Prop)
 | val (v:Value)
 | clo (f:FuncId) (cs:List PV)
 | nil|sl (n:Nat) (es:List PV)
 | wref (l:Nat)|ref (l off len:Nat)
 | mref (l:Nat)
 | ptr (l off:Nat)|pti (l off:Nat) (i:Int) (size:Nat)|dpt (l i size off:Nat)
 | ep (cs:List PV) (off:Nat)|gp (g off:Nat)|gpi (g off:Nat) (i:Int) (size:Nat)
 | agg (cs:List PV)|tup (vs:List PV)
 deriving Inhabited
def PV.cells:PV->List PV
 | .agg cs=>cs
 | v=>[v]
inductive BK where
 | loc|arr|dyn|mp
 deriving DecidableEq
inductive Md where
 | w|p|r
 deriving DecidableEq
def BK.xx:BK->Bool
 | .loc|.arr=>true
 | _=>false
structure an where
 k:BK
 ty:TypeId
 size:Nat
 m:Md
 live:Bool
 cs:List PV
structure tI where
 a:Option (Nat × Nat)
 len:Nat
 cap:Nat
def tI.whole (p:tI):Value:=match p.a with
 | none=>.slice none 0 0
 | some (g,o)=>.slice (some ⟨g,o,none⟩) p.len p.cap
abbrev ax:=Nat->Option tI
open Classical in
noncomputable def pb (p:Prop):Bool:=decide p
theorem cj {p:Prop} (h:p):pb p=true:=@decide_eq_true p (Classical.propDecidable p) h
theorem bM {p:Prop} (h:¬ p):pb p=false:=@decide_eq_false p (Classical.propDecidable p) h
theorem D9 {p:Prop} [Decidable p]:pb p=decide p:=by
 by_cases h:p
 ·rw[cj h,decide_eq_true h]
 ·rw[bM h,decide_eq_false h]
section
variable (w:World) (I:Nat->Prop)
mutual
def PV.Is:PV->ax->Value->Prop
 | .lit k n,_,v=>v = .int k n
 | .int k n,_,v=>v = .int k n
 | .tt,_,v=>v = .bool true
 | .ff,_,v=>v = .bool false
 | .bool p,_,v=>v = .bool (pb p)
 | .val x,_,v=>v=x/\Ev.flat x=true
 | .clo f cs,β,v=>∃ pe:Array Value,v = .func (.func f) #[] pe/\bp cs β pe.toList
 | .nil,_,v=>v = .slice none 0 0
 | .sl n es,_,v=>∃ a cap,v = .slice a es.length cap/\es.length<=cap/\es.length<=maxLen/\(∀ g o,a=some ⟨g,o,none⟩->cg es n g o)/\(es.length≠0->∃ g o,a=some ⟨g,o,none⟩/\I g/\0 < n)
 | .wref l,β,v=>∃ p,β l=some p/\v=p.whole
 | .ref l off len,β,v=>∃ p g o cap,β l=some p/\p.a=some (g,o)/\v = .slice (some ⟨g,o+off,none⟩) len cap/\len<=cap
 | .mref l,β,v=>∃ p g,β l=some p/\p.a=some (g,0)/\v = .map (some g)
 | .ptr l off,β,v=>∃ p g o,β l=some p/\p.a=some (g,o)/\v = .pointer (some ⟨g,o+off,none⟩)
 | .pti l off i n,β,v=>∃ p g o,β l=some p/\p.a=some (g,o)/\v = .pointer (some ⟨g,o+(off+i.toNat*n),none⟩)
 | .dpt l i n off,β,v=>∃ p g o,β l=some p/\p.a=some (g,o)/\v = .pointer (some ⟨g,o+(i*n+off),none⟩)
 | .ep cs off,_,v=>∃ g o,v = .pointer (some ⟨g,o+off,none⟩)/\I g/\c8 cs g o
 | .gp g off,_,v=>v = .pointer (some ⟨g,off,none⟩)
 | .gpi g off i n,_,v=>v = .pointer (some ⟨g,off+i.toNat*n,none⟩)
 | .agg cs,β,v=>∃ vs:Array Value,v = .agg vs/\bp cs β vs.toList
 | .tup cs,β,v=>∃ vs:Array Value,v = .tuple vs/\bp cs β vs.toList
def bp:List PV->ax->List Value->Prop
 | [],_,[]=>True
 | c::cs,β,v::vs=>c.Is β v/\bp cs β vs
 | _,_,_=>False
def c8:List PV->Nat->Nat->Prop
 | [],_,_=>True
 | c::cs,g,o=>(∃ v,w.cell? ⟨g,o,none⟩=some v/\c.Is (fun _=>none) v/\v.oneCell'=true)/\c8 cs g (o+1)
def cg:List PV->Nat->Nat->Nat->Prop
 | [],_,_,_=>True
 | .agg cs::es,n,g,o=>(cs.length=n/\c8 cs g o)/\cg es n g (o+n)
 | e::es,n,g,o=>(n=1/\∃ v,w.cell? ⟨g,o,none⟩=some v/\e.Is (fun _=>none) v/\v.oneCell'=true)/\cg es n g (o+n)
end
end
inductive TM where
 | nil|node (v:Option PV) (l r:TM)
 deriving Inhabited
def TM.get:TM->Nat->Option PV
 | .nil,_=>none
 | .node v l r,n=>bif Nat.beq n 0 then v else bif Nat.beq (n % 2) 1 then l.get ((n - 1) / 2) else r.get ((n - 1) / 2)
def TM.zF (v:Option PV):Nat->TM->Nat->(TM->Prop)->Prop
 | 0,_,_,_=>False
 | f+1,.nil,n,k=>bif Nat.beq n 0 then k (.node v .nil .nil) else bif Nat.beq (n % 2) 1 then TM.zF v f .nil ((n - 1) / 2) (fun t=>k (.node none t .nil)) else TM.zF v f .nil ((n - 1) / 2) (fun t=>k (.node none .nil t))
 | f+1,.node u l r,n,k=>bif Nat.beq n 0 then k (.node v l r) else bif Nat.beq (n % 2) 1 then TM.zF v f l ((n - 1) / 2) (fun t=>k (.node u t r)) else TM.zF v f r ((n - 1) / 2) (fun t=>k (.node u l t))
structure aN where
 n:Nat
 t:TM
 st:List an
 base:Nat
 rl:List Nat
structure Gx where
 cx:Ev.Cx
 pX:List (Nat × List PV)
 bt:List (Nat × Nat)
 ext:List Nat:=[]
 dfs:List Deferred:=[]
def Own (I:Nat->Prop) (β:ax) (st:List an) (l g:Nat) (fr:Nat × Nat) (b:an):Prop :=
 (b.m≠.r->fr=(0,0)/\¬ I g/\∀ l' b',l'≠l->st[l']?=some b'->b'.live=true->∀ p g' o',β l'=some p->p.a=some (g',o')->g'≠g)/\(b.m = .r->I g)
def bg (w:World) (I:Nat->Prop) (β:ax) (cs:List PV) (arr:Array Value) (o:Nat):Prop:=∀ i c,cs[i]?=some c->∃ v,arr[o+i]?=some v/\c.Is w I β v/\v.oneCell'=true
def kvD:PV->Lit × DataW Unit
 | .agg [.int _ k,.int _ v]=>(.int .i64 k,.lit (.int .i64 v))
 | _=>(.int .i64 0,.lit (.int .i64 0))
def mapD (cs:List PV):DataW Unit:=cs.foldl (fun D e=>D.put (kvD e).1 (kvD e).2) (.map [])
def FQ (w:World) (g:Nat) (cs:List PV):Prop:=w.ownsMap Tryz.prog 3 (plainElem Tryz.prog 3) g cs.length (mapD cs)
def ji (I:Nat->Prop) (β:ax) (st:List an) (w:World) (l:Nat) (b:an):Prop :=
 ∃ p,β l=some p/\match b.k with
 | .loc=>∃ g o arr ty fr,p.a=some (g,o)/\w.heap[g]?=some (.cells arr ty fr)/\bg w I β b.cs arr o/\Own I β st l g fr b
 | .arr=>∃ g arr fr,p.a=some (g,0)/\w.heap[g]?=some (.cells arr b.ty fr)/\bg w I β b.cs arr 0/\Own I β st l g fr b/\b.cs.length=p.len*b.size/\p.len<=p.cap/\p.cap<=maxLen/\arr.size=p.cap*b.size/\0 < b.size
 | .dyn=>(0 < b.size/\b.cs.length=p.len/\p.len<=p.cap/\p.cap<=maxLen)/\((p.a=none/\p.cap=0)\/∃ g arr fr,p.a=some (g,0)/\w.heap[g]?=some (.cells arr b.ty fr)/\cg w I b.cs b.size g 0/\Own I β st l g fr b/\arr.size=p.cap*b.size)
 | .mp=>∃ g,p.a=some (g,0)/\FQ w g b.cs/\Own I β st l g (0,0) b
structure aL (I:Nat->Prop) (β:ax) (st:List an) (w:World):Prop where
 py:∀ l,st.length<=l->β l=none
 iI:∀ l b,st[l]?=some b->b.live=true->ji I β st w l b
structure d_ (G:Gx) (I:Nat->Prop) (w:World):Prop where
 aC:∀ g,I g->g < w.heap.size
 vn:∀ g cs,(g,cs)∈G.pX->I g/\c8 w I cs g 0
 row:∀ g cs,(g,cs)∈G.pX->∃ arr ty fr,w.heap[g]?=some (.cells arr ty fr)/\arr.size=cs.length
structure Rel (G:Gx) (I:Nat->Prop) (β:ax) (s:aN) (a:Act) (w:World):Prop where
 small:s.n<=16777215
 defers:a.defers=G.dfs
 size:a.tmps.size=s.n
 base:s.base<=s.st.length
 get:∀ t x,s.t.get t=some x->∃ v,a.tmps[t]?=some v/\x.Is w I β v
 heap:aL I β s.st w
 aC:d_ G I w
def Wr (β:ax) (st:List an) (g:Nat):Prop:=∃ l b p o,st[l]?=some b/\b.live=true/\b.m = .w/\β l=some p/\p.a=some (g,o)
structure Ext (I:Nat->Prop) (β:ax) (st:List an) (w:World) (I':Nat->Prop) (aM:ax) (eP:List an) (w':World):Prop where
 os:w'.os=w.os
 tape:w'.tape=w.tape
 output:w'.output=w.output
 size:w.heap.size<=w'.heap.size
 block:∀ g,g < w.heap.size->¬ Wr β st g->w'.heap[g]?=w.heap[g]?
 wr:∀ g,g < w.heap.size->Wr aM eP g->Wr β st g
 aC:∀ g,I g->I' g
 new:∀ g,g < w.heap.size->I' g->I g\/Wr β st g
inductive X where
 | hU|exit (id:Nat)|ret
def X.e:X->Exit
 | .hU=>.normal
 | .exit id=>.exit id
 | .ret=>.ret
@[irreducible] def Spec (G:Gx) (f:FuncId) (args:List PV) (S:List an) (rl:List Nat) (K:PV->List an->Prop):Prop :=
 Ev.ke G.cx.P f/\∀ I β w a_,aL I β S w->d_ G I w->bp w I args β a_ ->
  Calls G.cx.P f a_.toArray w fun e w'=>∃ v r S' I' aM,e = .returned v/\K r S'/\r.Is w' I' aM v/\aL I' aM S' w'/\d_ G I' w'/\Ext I β S w I' aM S' w'/\S.length<=S'.length/\∀ l,l < S.length->l ∉ rl->aM l=β l
def cm (G:Gx) (s:aN) (I:Nat->Prop) (β:ax) (w:World) (Q:X->aN->Prop) (e:Exit) (a':Act) (w':World):Prop :=
 ∃ x s' I' aM,e=X.e x/\Q x s'/\Rel G I' aM s' a' w'/\Ext I β s.st w I' aM s'.st w'/\s'.base=s.base/\s'.rl=s.rl/\s'.n=s.n/\∀ l,l < s.base->l ∉ s.rl->aM l=β l
@[irreducible] def SW (G:Gx) (c:Code) (Q:X->aN->Prop) (s:aN):Prop :=
 ∀ I β a w,Rel G I β s a w->c.wp G.cx.P (cm G s I β w Q) a w
def cC (G:Gx) (s:aN) (I:Nat->Prop) (β:ax) (w:World) (a:Act) (q:PV->aN->Prop) (v:Value) (w':World):Prop :=
 ∃ x s' I' aM,q x s'/\Rel G I' aM s' a w'/\x.Is w' I' aM v/\Ext I β s.st w I' aM s'.st w'/\s'.base=s.base/\s'.rl=s.rl/\s'.n=s.n/\(∀ l,l < s.base->l ∉ s.rl->aM l=β l)/\∀ l b,s.st[l]?=some b->b.m = .p->aM l=β l
@[irreducible] def oB (G:Gx) (s:aN) (o:Oper) (q:PV->aN->Prop):Prop:=∀ I β a w,Rel G I β s a w->Ev.sv G.cx.P (cC G s I β w a q) ((execOp a.eval o).run G.cx.P w)
mutual
def PV.c9:PV->List Nat
 | .wref l=>[l]|.mref l=>[l]|.ref l _ _=>[l]|.ptr l _=>[l]|.pti l _ _ _=>[l]|.dpt l _ _ _=>[l]
 | .clo _ cs=>eu cs|.agg cs=>eu cs|.tup cs=>eu cs
 | _=>[]
def eu:List PV->List Nat
 | []=>[]
 | c::cs=>c.c9++eu cs
end
section
variable {w w':World} {I I':Nat->Prop} {β aM:ax}
mutual
theorem PV.Is.mono (hI:∀ g,I g->I' g) (hw:∀ g,I g->w'.heap[g]?=w.heap[g]?):∀ (x:PV) (β aM:ax) (v:Value),(∀ l p,l∈x.c9->β l=some p->aM l=some p)->x.Is w I β v->x.Is w' I' aM v
 | .lit ..,_,_,_,_,h=>by simp only[PV.Is] at h ⊢; exact h
 | .int ..,_,_,_,_,h=>by simp only[PV.Is] at h ⊢; exact h
 | .tt,_,_,_,_,h=>by simp only[PV.Is] at h ⊢; exact h
 | .ff,_,_,_,_,h=>by simp only[PV.Is] at h ⊢; exact h
 | .bool _,_,_,_,_,h=>by simp only[PV.Is] at h ⊢; exact h
 | .val _,_,_,_,_,h=>by simp only[PV.Is] at h ⊢; exact h
 | .nil,_,_,_,_,h=>by simp only[PV.Is] at h ⊢; exact h
 | .gp ..,_,_,_,_,h=>by simp only[PV.Is] at h ⊢; exact h
 | .gpi ..,_,_,_,_,h=>by simp only[PV.Is] at h ⊢; exact h
 | .clo f cs,β,aM,v,hb,h=>by
  simp only[PV.Is] at h ⊢
  obtain⟨pe,rfl,h⟩:=h
  exact⟨pe,rfl,bp.mono hI hw cs β aM _ (fun l p hl=>hb l p (by simpa only [PV.c9] using hl)) h⟩
 | .agg cs,β,aM,v,hb,h=>by
  simp only[PV.Is] at h ⊢
  obtain⟨pe,rfl,h⟩:=h
  exact⟨pe,rfl,bp.mono hI hw cs β aM _ (fun l p hl=>hb l p (by simpa only [PV.c9] using hl)) h⟩
 | .tup cs,β,aM,v,hb,h=>by
  simp only[PV.Is] at h ⊢
  obtain⟨pe,rfl,h⟩:=h
  exact⟨pe,rfl,bp.mono hI hw cs β aM _ (fun l p hl=>hb l p (by simpa only [PV.c9] using hl)) h⟩
 | .sl n es,_,_,v,_,h=>by
  simp only[PV.Is] at h ⊢
  obtain⟨a,cap,rfl,h1,h2,h3,h4⟩:=h
  refine⟨a,cap,rfl,h1,h2,fun g o ha=>?_,fun hn=>?_⟩
  ·by_cases hl:es.length=0
   ·have:es = []:=List.eq_nil_of_length_eq_zero hl
    subst this; simp only[cg]
   ·obtain⟨g',o',fW,hg,_⟩:=h4 hl
    rw[ha] at fW
    cases fW
    exact cg.mono hI hw es n g o (hw g hg) (h3 g o ha)
  ·obtain⟨g,o,ha,hg,hn⟩:=h4 hn
   exact⟨g,o,ha,hI g hg,hn⟩
 | .wref l,β,aM,v,hb,h=>by
  simp only[PV.Is] at h ⊢
  obtain⟨p,hp,h⟩:=h
  exact⟨p,hb l p (by simp[PV.c9]) hp,h⟩
 | .mref l,β,aM,v,hb,h=>by
  simp only[PV.Is] at h ⊢
  obtain⟨p,g,hp,h⟩:=h
  exact⟨p,g,hb l p (by simp[PV.c9]) hp,h⟩
 | .ref l _ _,β,aM,v,hb,h=>by
  simp only[PV.Is] at h ⊢
  obtain⟨p,g,o,c,hp,h⟩:=h
  exact⟨p,g,o,c,hb l p (by simp[PV.c9]) hp,h⟩
 | .ptr l _,β,aM,v,hb,h=>by
  simp only[PV.Is] at h ⊢
  obtain⟨p,g,o,hp,h⟩:=h
  exact⟨p,g,o,hb l p (by simp[PV.c9]) hp,h⟩
 | .pti l _ _ _,β,aM,v,hb,h=>by
  simp only[PV.Is] at h ⊢
  obtain⟨p,g,o,hp,h⟩:=h
  exact⟨p,g,o,hb l p (by simp[PV.c9]) hp,h⟩
 | .dpt l _ _ _,β,aM,v,hb,h=>by
  simp only[PV.Is] at h ⊢
  obtain⟨p,g,o,hp,h⟩:=h
  exact⟨p,g,o,hb l p (by simp[PV.c9]) hp,h⟩
 | .ep cs _,_,_,v,_,h=>by
  simp only[PV.Is] at h ⊢
  obtain⟨g,o,rfl,hg,h⟩:=h
  exact⟨g,o,rfl,hI g hg,c8.mono hI hw cs g o (hw g hg) h⟩
theorem bp.mono (hI:∀ g,I g->I' g) (hw:∀ g,I g->w'.heap[g]?=w.heap[g]?):∀ (cs:List PV) (β aM:ax) (vs:List Value),(∀ l p,l∈eu cs->β l=some p->aM l=some p)->bp w I cs β vs->bp w' I' cs aM vs
 | [],_,_,[],_,_=>by simp only[bp]
 | c::cs,β,aM,v::vs,hb,h=>by
  simp only[bp] at h ⊢
  exact⟨PV.Is.mono hI hw c β aM v (fun l p hl=>hb l p (by simp only[eu,List.mem_append]; exact .inl hl)) h.1,bp.mono hI hw cs β aM vs (fun l p hl=>hb l p (by simp only[eu,List.mem_append]; exact .inr hl)) h.2⟩
 | [],_,_,_::_,_,h=>by simp only[bp] at h
 | _::_,_,_,[],_,h=>by simp only[bp] at h
theorem c8.mono (hI:∀ g,I g->I' g) (hw:∀ g,I g->w'.heap[g]?=w.heap[g]?):∀ (cs:List PV) (g o:Nat),w'.heap[g]?=w.heap[g]?->c8 w I cs g o->c8 w' I' cs g o
 | [],_,_,_,_=>by simp only[c8]
 | c::cs,g,o,hg,h=>by
  simp only[c8] at h ⊢
  obtain⟨⟨v,h1,h2,h3⟩,h4⟩:=h
  exact⟨⟨v,(World.cell?_of_block (a:=⟨g,o,none⟩) hg).trans h1,PV.Is.mono hI hw c _ _ v (fun _ _ _ h=>h) h2,h3⟩,c8.mono hI hw cs g (o+1) hg h4⟩
theorem cg.mono (hI:∀ g,I g->I' g) (hw:∀ g,I g->w'.heap[g]?=w.heap[g]?):∀ (es:List PV) (n g o:Nat),w'.heap[g]?=w.heap[g]?->cg w I es n g o->cg w' I' es n g o
 | [],_,_,_,_,_=>by simp only[cg]
 | e::es,n,g,o,hg,h=>by
  have one:(n=1/\∃ v,w.cell? ⟨g,o,none⟩=some v/\e.Is w I (fun _=>none) v/\v.oneCell'=true)->(n=1/\∃ v,w'.cell? ⟨g,o,none⟩=some v/\e.Is w' I' (fun _=>none) v/\v.oneCell'=true):=by
   rintro⟨h0,v,h1,h2,h3⟩
   exact⟨h0,v,(World.cell?_of_block (a:=⟨g,o,none⟩) hg).trans h1,PV.Is.mono hI hw e _ _ v (fun _ _ _ h=>h) h2,h3⟩
  cases e with
  | agg cs =>
   simp only[cg] at h ⊢
   exact⟨⟨h.1.1,c8.mono hI hw cs g o hg h.1.2⟩,cg.mono hI hw es n g (o+n) hg h.2⟩
  | _=>simp only[cg] at h ⊢; exact⟨one h.1,cg.mono hI hw es n g (o+n) hg h.2⟩
end
end
def HU (w:World) (I:Nat->Prop) (n:Nat) (e:PV) (g o:Nat):Prop:=e.cells.length=n/\c8 w I e.cells g o
section
variable {w w':World} {I I':Nat->Prop} {β aM:ax} {G:Gx}
theorem cg.cons {e:PV} {es:List PV} {n g o:Nat}:cg w I (e::es) n g o↔HU w I n e g o/\cg w I es n g (o+n):=by
 cases e<;>simp only[cg,HU,PV.cells,c8,List.length_cons,List.length_nil,and_true,Nat.zero_add]<;>exact and_congr_left fun _=>and_congr_left fun _=>⟨fun h=>h.symm,fun h=>h.symm⟩
theorem cg.get:∀ {es:List PV} {n g o i:Nat} {e:PV},cg w I es n g o->es[i]?=some e->HU w I n e g (o+i*n)
 | [],_,_,_,_,_,_,h=>by simp at h
 | x::es,n,g,o,0,e,h,he=>by
  simp at he; subst he
  simpa using (cg.cons.1 h).1
 | x::es,n,g,o,i+1,e,h,he=>by
  have:=cg.get (i:=i) (cg.cons.1 h).2 (by simpa using he)
  rw[show o+(i+1)*n=o+n+i*n by rw[Nat.succ_mul]; omega]
  exact this
theorem cg.of:∀ {es:List PV} {n g o:Nat},(∀ i e,es[i]?=some e->HU w I n e g (o+i*n))->cg w I es n g o
 | [],_,_,_,_=>by simp only[cg]
 | x::es,n,g,o,h=>cg.cons.2 ⟨by simpa using h 0 x rfl,cg.of fun i e he=>by
  have:=h (i+1) e (by simpa using he)
  rw[show o+(i+1)*n=o+n+i*n by rw[Nat.succ_mul]; omega] at this
  exact this⟩
theorem cg.append {es fs:List PV} {n g o:Nat} (h:cg w I es n g o) (h':cg w I fs n g (o+es.length*n)):cg w I (es++fs) n g o:=by
 refine cg.of fun i e he=>?_
 by_cases hi:i < es.length
 ·rw[List.getElem?_append_left hi] at he; exact h.get he
 ·rw[List.getElem?_append_right (by omega)] at he
  have:=h'.get he
  rw[show o+es.length*n+(i - es.length)*n=o+i*n by rw[Nat.sub_mul]; have:es.length*n<=i*n:=Nat.mul_le_mul_right _ (by omega); omega] at this
  exact this
theorem c8.get:∀ {cs:List PV} {g o i:Nat} {c:PV},c8 w I cs g o->cs[i]?=some c->∃ v,w.cell? ⟨g,o+i,none⟩=some v/\c.Is w I (fun _=>none) v/\v.oneCell'=true
 | [],_,_,_,_,_,h=>by simp at h
 | x::es,g,o,0,e,h,he=>by
  simp at he; subst he
  simp only[c8] at h
  exact h.1
 | x::es,g,o,i+1,e,h,he=>by
  simp only[c8] at h
  have:=c8.get (i:=i) h.2 (by simpa using he)
  rw[show o+(i+1)=o+1+i by omega]
  exact this
theorem c8.of:∀ {cs:List PV} {g o:Nat},(∀ i c,cs[i]?=some c->∃ v,w.cell? ⟨g,o+i,none⟩=some v/\c.Is w I (fun _=>none) v/\v.oneCell'=true)->c8 w I cs g o
 | [],_,_,_=>by simp only[c8]
 | x::es,g,o,h=>by
  simp only[c8]
  refine⟨h 0 x rfl,c8.of fun i c hc=>?_⟩
  have:=h (i+1) c (by simpa using hc)
  rw[show o+(i+1)=o+1+i by omega] at this
  exact this
theorem bp.length:∀ {cs:List PV} {β:ax} {vs:List Value},bp w I cs β vs->cs.length=vs.length
 | [],_,[],_=>rfl
 | _::cs,_,_::vs,h=>by simp only[bp] at h; simp only[List.length_cons,bp.length h.2]
 | [],_,_::_,h=>by simp only[bp] at h
 | _::_,_,[],h=>by simp only[bp] at h
theorem bp.get:∀ {cs:List PV} {β:ax} {vs:List Value} {i:Nat} {c:PV},bp w I cs β vs->cs[i]?=some c->∃ v,vs[i]?=some v/\c.Is w I β v
 | [],_,_,_,_,_,h=>by simp at h
 | x::cs,_,v::vs,0,c,h,hc=>by simp at hc; subst hc; simp only[bp] at h; exact⟨v,rfl,h.1⟩
 | x::cs,_,v::vs,i+1,c,h,hc=>by simp only[bp] at h; simpa using bp.get (i:=i) h.2 (by simpa using hc)
 | _::_,_,[],_,_,h,_=>by simp only[bp] at h
theorem bp.of:∀ {cs:List PV} {β:ax} {vs:List Value},cs.length=vs.length->(∀ (i:Nat) (c:PV),cs[i]?=some c->∃ v,vs[i]?=some v/\c.Is w I β v)->bp w I cs β vs
 | [],_,[],_,_=>by simp only[bp]
 | x::cs,_,v::vs,hl,h=>by
  simp only[bp]
  refine⟨?_,bp.of (by simpa using hl) fun i c hc=>by simpa using h (i+1) c (by simpa using hc)⟩
  obtain⟨u,hu,hi⟩:=h 0 x rfl
  simp at hu; subst hu; exact hi
 | [],_,_::_,h,_=>by simp at h
 | _::_,_,[],h,_=>by simp at h
theorem bp.append {cs ds:List PV} {vs us:List Value} (h:bp w I cs β vs) (h':bp w I ds β us):bp w I (cs++ds) β (vs++us):=by
 refine bp.of (by simp[h.length,h'.length]) fun i c hc=>?_
 have hl:=h.length
 by_cases hi:i < cs.length
 ·rw[List.getElem?_append_left hi] at hc
  rw[List.getElem?_append_left (by omega)]; exact h.get hc
 ·rw[List.getElem?_append_right (by omega)] at hc
  rw[List.getElem?_append_right (by omega),← hl]; exact h'.get hc
theorem bp.take {cs:List PV} {vs:List Value} (n:Nat) (h:bp w I cs β vs):bp w I (cs.take n) β (vs.take n):=by
 refine bp.of (by simp[h.length]) fun i c hc=>?_
 rw[List.getElem?_take] at hc ⊢
 split at hc
 ·rename_i hi; rw[if_pos hi]; exact h.get hc
 ·cases hc
theorem bp.drop {cs:List PV} {vs:List Value} (n:Nat) (h:bp w I cs β vs):bp w I (cs.drop n) β (vs.drop n):=by
 refine bp.of (by simp[h.length]) fun i c hc=>?_
 rw[List.getElem?_drop] at hc ⊢
 exact h.get hc
theorem bp.one {c:PV} {v:Value} (h:c.Is w I β v):bp w I [c] β [v]:=by simp only[bp,and_true]; exact h
def PV.lC:PV->Bool
 | .agg _|.tup _=>false
 | _=>true
theorem PV.Is.flat {x:PV} {v:Value} (hx:x.lC=true) (h:x.Is w I β v):Ev.flat v=true:=by
 cases x<;>simp only[PV.Is] at h
 case lit=>subst h; rfl
 case int=>subst h; rfl
 case tt=>subst h; rfl
 case ff=>subst h; rfl
 case bool=>subst h; rfl
 case val=>rw[h.1]; exact h.2
 case clo=>obtain⟨_,rfl,_⟩:=h; rfl
 case nil=>subst h; rfl
 case sl=>obtain⟨_,_,rfl,_⟩:=h; rfl
 case wref=>obtain⟨p,_,rfl⟩:=h; unfold tI.whole; split<;>rfl
 case mref=>obtain⟨_,_,_,_,rfl⟩:=h; rfl
 case ref=>obtain⟨_,_,_,_,_,_,rfl,_⟩:=h; rfl
 case ptr=>obtain⟨_,_,_,_,_,rfl⟩:=h; rfl
 case pti=>obtain⟨_,_,_,_,_,rfl⟩:=h; rfl
 case dpt=>obtain⟨_,_,_,_,_,rfl⟩:=h; rfl
 case ep=>obtain⟨_,_,rfl,_⟩:=h; rfl
 case gp=>subst h; rfl
 case gpi=>subst h; rfl
 case agg=>cases hx
 case tup=>cases hx
theorem jj {v:Value} (h:Ev.flat v=true):v.oneCell'=true:=by cases v<;>simp_all [Ev.flat,Value.oneCell']
theorem PV.Is.nt {x:PV} {v:Value} (hx:∀ vs,x≠.tup vs) (h:x.Is w I β v):bp w I x.cells β v.cells.toList:=by
 cases x with
 | agg cs=>simp only[PV.Is] at h; obtain⟨vs,rfl,h⟩:=h; exact h
 | tup vs=>exact absurd rfl (hx vs)
 | _=>rw[Ev.vl (h.flat rfl)]; simp only[PV.cells]; exact bp.one h
theorem bg.mono {cs:List PV} {arr:Array Value} {o:Nat} (hI:∀ g,I g->I' g) (hw:∀ g,I g->w'.heap[g]?=w.heap[g]?) (hb:∀ l p,β l=some p->aM l=some p) (h:bg w I β cs arr o):bg w' I' aM cs arr o :=
 fun i c hc=>let ⟨v,h1,h2,h3⟩:=h i c hc; ⟨v,h1,PV.Is.mono hI hw c β aM v (fun l p _=>hb l p) h2,h3⟩
theorem dD {o:Obj} {b:Nat} (h:w.heap[b]?=some o):b < w.heap.size:=(Array.getElem?_eq_some_iff.1 h).1
theorem Ext.refl {st:List an}:Ext I β st w I β st w:=⟨rfl,rfl,rfl,Nat.le_refl _,fun _ _ _=>rfl,fun _ _ h=>h,fun _ h=>h,fun _ _ h=>.inl h⟩
theorem Ext.trans {I'':Nat->Prop} {KC:ax} {st eP st'':List an} {xD:World} (h:Ext I β st w I' aM eP w') (k:Ext I' aM eP w' I'' KC st'' xD):Ext I β st w I'' KC st'' xD where
 os:=k.os.trans h.os
 tape:=k.tape.trans h.tape
 output:=k.output.trans h.output
 size:=Nat.le_trans h.size k.size
 block:=fun g hg hn=>(k.block g (Nat.lt_of_lt_of_le hg h.size) fun hw=>hn (h.wr g hg hw)).trans (h.block g hg hn)
 wr:=fun g hg hw=>h.wr g hg (k.wr g (Nat.lt_of_lt_of_le hg h.size) hw)
 aC:=fun g hg=>k.aC g (h.aC g hg)
 new:=fun g hg hi=>(k.new g (Nat.lt_of_lt_of_le hg h.size) hi).elim (fun h1=>h.new g hg h1) fun h1=>.inr (h.wr g hg h1)
theorem Own.mono {st eP:List an} {l g:Nat} {fr:Nat × Nat} {b:an} (hI:∀ g,I g->I' g) (hn:¬ I g->¬ I' g)
  (hs:∀ l' b',l'≠l->eP[l']?=some b'->b'.live=true->∀ p g' o',aM l'=some p->p.a=some (g',o')->g'≠g\/∃ pY,st[l']?=some pY/\pY.live=true/\β l'=some p) (h:Own I β st l g fr b):Own I' aM eP l g fr b :=
 ⟨fun hr=>let ⟨h1,h2,h3⟩:=h.1 hr; ⟨h1,hn h2,fun l' b' cH hb hl p g' o' hp ha=>(hs l' b' cH hb hl p g' o' hp ha).elim id fun ⟨pY,hb'',Pr,e_⟩=>h3 l' pY cH hb'' Pr p g' o' e_ ha⟩,fun hr=>hI g (h.2 hr)⟩
theorem aL.pZ {st:List an} (h:aL I β st w) {g:Nat} (hg:Wr β st g):¬ I g:=by
 obtain⟨l,b,p,o,h1,h2,h3,h4,h5⟩:=hg
 obtain⟨q,hq,hk⟩:=h.iI l b h1 h2
 rw[h4] at hq
 cases hq
 split at hk
 ·obtain⟨g',o',arr,ty,fr,ha,_,_,ho,_⟩:=hk
  rw[h5] at ha; cases ha; exact (ho (by rw[h3]; decide)).2.1
 ·obtain⟨g',arr,fr,ha,_,_,ho,_⟩:=hk
  rw[h5] at ha; cases ha; exact (ho.1 (by rw[h3]; decide)).2.1
 ·obtain⟨_,hk⟩:=hk
  rcases hk with ⟨ha,_⟩|⟨g',arr,fr,ha,_,_,ho,_⟩
  ·rw[h5] at ha; cases ha
  ·rw[h5] at ha; cases ha; exact (ho.1 (by rw[h3]; decide)).2.1
 ·obtain⟨g',ha,_,ho⟩:=hk
  rw[h5] at ha; cases ha; exact (ho.1 (by rw[h3]; decide)).2.1
theorem d_.ext {st eP:List an} (h:d_ G I w) (hk:aL I β st w) (he:Ext I β st w I' aM eP w') (ch:∀ g,I' g->g < w'.heap.size):d_ G I' w' where
 aC:=ch
 vn:=fun g cs hg=>by
  obtain⟨h1,h2⟩:=h.vn g cs hg
  have hw:∀ g,I g->w'.heap[g]?=w.heap[g]?:=fun g hg=>he.block g (h.aC g hg) fun hw=>hk.pZ hw hg
  exact⟨he.aC g h1,c8.mono he.aC hw cs g 0 (hw g h1) h2⟩
 row:=fun g cs hg=>by
  obtain⟨arr,ty,fr,h1,h2⟩:=h.row g cs hg
  have hI:=(h.vn g cs hg).1
  exact⟨arr,ty,fr,(he.block g (h.aC g hI) fun hw=>hk.pZ hw hI).trans h1,h2⟩
theorem Ext.keeps {st eP:List an} (he:Ext I β st w I' aM eP w') (hk:aL I β st w) (hm:∀ g,I g->g < w.heap.size):∀ g,I g->w'.heap[g]?=w.heap[g]?:=fun g hg=>he.block g (hm g hg) fun hw=>hk.pZ hw hg
end
open Go
def aP {α:Type} (o:Option α) (k:α->Prop):Prop:=match o with
 | some x=>k x
 | none=>False
def pf {α:Type}:List α->Nat->(Nat->Prop)->Prop
 | [],n,q=>q n
 | _::l,n,q=>pf l (n+1) q
def Ps {α β:Type}:List α->Nat->(Nat->Option β)->Option β
 | [],n,q=>q n
 | _::l,n,q=>Ps l (n+1) q
theorem FR {α β:Type}:∀ (l:List α) (n:Nat) (q:Nat->Option β),Ps l n q=q (n+l.length)
 | [],_,_=>rfl
 | _::l,n,q=>by rw[Ps,FR l,List.length_cons,show n+1+l.length=n+(l.length+1) by omega]
theorem oC {α:Type}:∀ (l:List α) (n:Nat) (q:Nat->Prop),pf l n q=q (n+l.length)
 | [],_,_=>rfl
 | _::l,n,q=>by rw[pf,oC l,List.length_cons,show n+1+l.length=n+(l.length+1) by omega]
def an.szK {α:Sort _} (b:an) (q:Nat->α):α:=match b with
 | ⟨_,_,n,_,_,_⟩=>q n
theorem an.D' {α:Sort _} (b:an) (q:Nat->α):b.szK q=q b.size:=by cases b; rfl
def fc1 (x:PV) (q:PV->Prop):Prop:=match x with
 | .lit k n=>q (.lit k n)|.int k n=>q (.int k n)|.tt=>q .tt|.ff=>q .ff|.bool p=>q (.bool p)|.val v=>q (.val v)
 | .clo f cs=>q (.clo f cs)|.nil=>q .nil|.sl n es=>q (.sl n es)|.wref l=>q (.wref l)|.mref l=>q (.mref l)|.ref l o n=>q (.ref l o n)
 | .ptr l o=>q (.ptr l o)|.pti l o i n=>q (.pti l o i n)|.dpt l i n o=>q (.dpt l i n o)|.ep cs o=>q (.ep cs o)
 | .gp g o=>q (.gp g o)|.gpi g o i n=>q (.gpi g o i n)|.agg cs=>q (.agg cs)|.tup vs=>q (.tup vs)
def fE:List PV->(List PV->Prop)->Prop
 | [],q=>q []
 | c::cs,q=>fc1 c fun c=>fE cs fun cs=>q (c::cs)
def fcA (x:PV) (q:PV->Prop):Prop:=match x with
 | .agg cs=>fE cs fun cs=>q (.agg cs)
 | .clo f cs=>fE cs fun cs=>q (.clo f cs)
 | x=>fc1 x q
def D_:List PV->(List PV->Prop)->Prop
 | [],q=>q []
 | c::cs,q=>fcA c fun c=>D_ cs fun cs=>q (c::cs)
def fc (x:PV) (q:PV->Prop):Prop:=match x with
 | .tup cs=>D_ cs fun cs=>q (.tup cs)
 | x=>fcA x q
def aN.put (s:aN) (dst:Option Tmp) (x:PV) (k:aN->Prop):Prop:=match s with
 | ⟨n,t,st,b,rl⟩=>(match dst with
  | none=>k ⟨n,t,st,b,rl⟩
  | some d=>bif Nat.blt d n then fc x fun x=>t.zF (some x) 24 d fun t=>k ⟨n,t,st,b,rl⟩ else False)
def aN.store (s:aN) (st:List an):aN:=match s with
 | ⟨n,t,_,b,rl⟩=>⟨n,t,st,b,rl⟩
def Ea (k:Value->(PV->Prop)->Prop):List Value->(List PV->Prop)->Prop
 | [],q=>q []
 | v::vs,q=>k v fun x=>Ea k vs fun xs=>q (x::xs)
def ka (v:Value) (q:PV->Prop):Prop:=match v with
 | .int k n=>q (.lit k n)
 | .bool true=>q .tt
 | .bool false=>q .ff
 | .slice none 0 0=>q .nil
 | .func (.func f) ⟨[]⟩ ⟨[]⟩=>q (.clo f [])
 | v=>bif Ev.flat v then q (.val v) else False
def tH (v:Value) (q:PV->Prop):Prop:=match v with
 | .agg ⟨cs⟩=>Ea ka cs fun cs=>q (.agg cs)
 | v=>ka v q
def aN.ev (s:aN) (o:Operand) (q:PV->Prop):Prop:=match o with
 | .tmp t=>aP (s.t.get t) q
 | .const v=>tH v q
 | .global g=>q (.gp g 0)
 | .func f=>q (.clo f [])
def PV.num:PV->Option (Bool × IntKind × Int)
 | .lit k n=>some (true,k,n)
 | .int k n=>some (false,k,n)
 | _=>none
def PV.bl:PV->Option Prop
 | .tt=>some True
 | .ff=>some False
 | .bool p=>some p
 | _=>none
def ym (k:IntKind) (z:Int):Prop:=Ev.ng k<=z/\z<=Ev.mo k
def Bc (k:IntKind) (z:Int) (q:PV->Prop):Prop:=(ym k z/\q (.int k z))\/q (.int k (k.wrap z))
def TF (op:BinOp) (k:IntKind) (a b:Int) (q:PV->Prop):Prop:=match op with
 | .add=>Bc k (a+b) q
 | .sub=>Bc k (a - b) q
 | .mul=>Bc k (a*b) q
 | .quo=>b≠0/\((0<=a/\a<=Ev.mo k/\0 < b/\q (.int k (a / b)))\/q (.int k (k.wrap (a.tdiv b))))
 | .rem=>b≠0/\((0<=a/\0 < b/\q (.int k (a % b)))\/q (.int k (a.tmod b)))
 | .and=>q (.int k (bits .and k a b))
 | .or=>q (.int k (bits .or k a b))
 | .xor=>q (.int k (bits .xor k a b))
 | .andNot=>q (.int k (bits .andNot k a b))
 | .eql=>q (.bool (a=b))
 | .neq=>q (.bool (¬ a=b))
 | .lss=>q (.bool (a < b))
 | .leq=>q (.bool (a<=b))
 | .gtr=>q (.bool (b < a))
 | .geq=>q (.bool (b<=a))
 | _=>False
def tf (b:Bool) (q:PV->Prop):Prop:=match b with
 | true=>q .tt
 | false=>q .ff
def TG (op:BinOp) (k:IntKind) (a b:Int) (q:PV->Prop):Prop:=match op with
 | .add=>q (.lit k (k.wrap (a+b)))
 | .sub=>q (.lit k (k.wrap (a - b)))
 | .mul=>q (.lit k (k.wrap (a*b)))
 | .quo=>bif decide (b=0) then False else q (.lit k (k.wrap (a.tdiv b)))
 | .rem=>bif decide (b=0) then False else q (.lit k (a.tmod b))
 | .and=>q (.lit k (bits .and k a b))
 | .or=>q (.lit k (bits .or k a b))
 | .xor=>q (.lit k (bits .xor k a b))
 | .andNot=>q (.lit k (bits .andNot k a b))
 | .eql=>tf (decide (a=b)) q
 | .neq=>tf (!decide (a=b)) q
 | .lss=>tf (decide (a < b)) q
 | .leq=>tf (decide (a<=b)) q
 | .gtr=>tf (decide (b < a)) q
 | .geq=>tf (decide (b<=a)) q
 | _=>False
def shift (op:BinOp) (st:Bool) (k:IntKind) (a b:Int) (q:PV->Prop):Prop:=match op,st with
 | .shl,true=>bif decide (0<=b) then q (.lit k (k.wrap (a*Ev.aQ k b))) else False
 | .shr,true=>bif decide (0<=b) then q (.lit k (a / Ev.aQ k b)) else False
 | .shl,false=>0<=b/\Bc k (a*Ev.aQ k b) q
 | .shr,false=>0<=b/\q (.int k (a / Ev.aQ k b))
 | _,_=>False
def TH (op:BinOp) (sx sy:Bool) (k k':IntKind) (a b:Int) (q:PV->Prop):Prop:=match op with
 | .shl=>shift .shl (sx && sy) k a b q
 | .shr=>shift .shr (sx && sy) k a b q
 | op=>bif decide (k=k') then (match sx && sy with
   | true=>TG op k a b q
   | false=>TF op k a b q) else False
def eqn (op:BinOp) (p:Prop) (q:PV->Prop):Prop:=match op with
 | .eql=>q (.bool p)
 | .neq=>q (.bool (¬ p))
 | _=>False
def Eb (op:BinOp) (b:Bool) (q:PV->Prop):Prop:=match op with
 | .eql=>tf b q
 | .neq=>tf (!b) q
 | _=>False
def tJ (cx:Ev.Cx) (t:TypeId) (cs:List PV) (off:Nat):Option PV :=
 match Ev.gD cx t,Ev.dN cx t with
 | some true,some n=>if Nat.ble (off+n) cs.length then some (.agg ((cs.drop off).take n)) else none
 | some false,_=>cs[off]?
 | _,_=>none
def part (cx:Ev.Cx) (t:TypeId) (cs:List PV) (off:Nat) (q:PV->Prop):Prop:=aP (tJ cx t cs off) fun x=>fcA x q
def A9 (r:TypeId->PV->PV->Option Prop) (cx:Ev.Cx) (xs ys:List PV):List Field->Option Prop
 | []=>some True
 | f::fs=>match tJ cx f.type xs f.offset,tJ cx f.type ys f.offset with
  | some a,some b=>(match r f.type a b,A9 r cx xs ys fs with
   | some e,some e'=>some (e/\e')
   | _,_=>none)
  | _,_=>none
def qF (r:TypeId->PV->PV->Option Prop) (cx:Ev.Cx) (t:TypeId) (size:Nat) (xs ys:List PV):Nat->Nat->Option Prop
 | 0,_=>some True
 | n+1,off=>match tJ cx t xs off,tJ cx t ys off with
  | some a,some b=>(match r t a b,qF r cx t size xs ys n (off+size) with
   | some e,some e'=>some (e/\e')
   | _,_=>none)
  | _,_=>none
def OX (cx:Ev.Cx):Nat->TypeId->PV->PV->Option Prop
 | 0,_,_,_=>none
 | n+1,t,a,b=>match cx.ns t with
  | some (.int _)=>(match a.num,b.num with
   | some (_,k,x),some (_,l,y)=>if decide (k=l) then some (x=y) else none
   | _,_=>none)
  | some .bool=>(match a.bl,b.bl with
   | some p,some q=>some (p↔q)
   | _,_=>none)
  | some (.struct fs)=>(match a,b with
   | .agg xs,.agg ys=>if cx.eqs.any (Nat.beq t) then A9 (OX cx n) cx xs ys fs.toList else none
   | _,_=>none)
  | some (.array len elem)=>(match a,b with
   | .agg xs,.agg ys=>(match Ev.dN cx elem with
    | some c=>qF (OX cx n) cx elem c xs ys len 0
    | none=>none)
   | _,_=>none)
  | _=>none
def KD (st:List an) (op:BinOp) (x:PV) (q:PV->Prop):Prop:=match x with
 | .nil=>Eb op true q
 | .ref _ _ _=>Eb op false q
 | .wref l=>aP st[l]? fun b=>bif b.live then (match b.k with
  | .arr=>Eb op false q
  | .dyn=>(b.cs.length≠0/\Eb op false q)\/(Eb op true q/\Eb op false q)
  | _=>False) else False
 | .sl _ es=>(es.length≠0/\Eb op false q)\/(Eb op true q/\Eb op false q)
 | _=>False
def TJ (cx:Ev.Cx) (st:List an) (op:BinOp) (t:TypeId) (x y:PV) (q:PV->Prop):Prop :=
 match x.num with
 | some (sx,k,a)=>aP y.num fun z=>(match z with
  | (sy,k',b)=>TH op sx sy k k' a b q)
 | none=>aP (cx.ns t) fun d=>match d with
  | .bool=>aP x.bl fun p=>aP y.bl fun p'=>eqn op (p↔p') q
  | .string=>(match x,y with
   | .val (.string a),.val (.string b)=>Eb op (a.toList == b.toList) q
   | _,_=>False)
  | .slice _=>(match y with
   | .nil=>KD st op x q
   | _=>False)
  | .pointer _=>(match x,y with
   | .val (.pointer none),.val (.pointer none)=>Eb op true q
   | .ptr _ _,.val (.pointer none)=>Eb op false q
   | _,_=>False)
  | .struct _=>(match x,y with
   | .agg xs,.agg ys=>bif cx.eqs.any (Nat.beq t) then aP (OX cx 6 t (.agg xs) (.agg ys)) fun p=>eqn op p q else False
   | _,_=>False)
  | .array _ _=>(match x,y with
   | .agg xs,.agg ys=>bif cx.eqs.any (Nat.beq t) then aP (OX cx 6 t (.agg xs) (.agg ys)) fun p=>eqn op p q else False
   | _,_=>False)
  | _=>False
def pun (op:UnOp) (x:PV) (q:PV->Prop):Prop:=match op,x with
 | .neg,.lit k a=>q (.lit k (k.wrap (-a)))
 | .neg,.int k a=>Bc k (-a) q
 | .xor,.lit k a=>q (.lit k (bits .xor k (if k.signed then -1 else k.max) a))
 | .xor,.int k a=>q (.int k (bits .xor k (if k.signed then -1 else k.max) a))
 | .not,.tt=>q .ff
 | .not,.ff=>q .tt
 | .not,.bool p=>q (.bool (¬ p))
 | _,_=>False
def Se (cx:Ev.Cx) (src dst:TypeId) (x:PV) (q:PV->Prop):Prop :=
 aP (cx.ns src) fun _=>aP (cx.ns dst) fun d=>match d,x with
 | .int k,.lit _ n=>q (.lit k (k.wrap n))
 | .int k,.int _ n=>Bc k n q
 | _,_=>False
def nu (cx:Ev.Cx) (t:TypeId) (q:List PV->Prop):Prop:=aP ((Ev.ye t cx.tt).bind Ev.TI.zero) fun v=>tH v fun x=>q x.cells
def yn (place:Nat->Option (Nat × Nat)):List PV->List (Nat × PV)->Option (List PV)
 | cells,[]=>some cells
 | cells,(i,v)::rest=>match place i with
  | none=>none
  | some (off,size)=>if Nat.beq v.cells.length size && Nat.ble (off+size) cells.length then yn place (cells.take off++v.cells++cells.drop (off+size)) rest else none
def yo (place:Nat->Option (Nat × Nat)):List PV->List (Nat × PV)->(List PV->Prop)->Prop
 | cells,[],q=>q cells
 | cells,(i,v)::rest,q=>match place i with
  | none=>False
  | some (off,size)=>bif Nat.beq v.cells.length size && Nat.ble (off+size) cells.length then fE (cells.take off++v.cells++cells.drop (off+size)) fun cells=>yo place cells rest q else False
def vo (s:aN):List (Nat × Operand)->(List (Nat × PV)->Prop)->Prop
 | [],q=>q []
 | (i,o)::r,q=>s.ev o fun x=>(match x with
  | .tup _=>False
  | x=>vo s r fun l=>q ((i,x)::l))
def pU (cx:Ev.Cx) (fs:List Field):Option (List (Nat × Nat)):=Ev.pU cx fs
def KE (cx:Ev.Cx) (s:aN) (t:TypeId) (ps:List (Nat × Operand)) (q:PV->Prop):Prop :=
 nu cx t fun z=>vo s ps fun l=>aP (cx.ns t) fun d=>match d with
 | .struct fs=>aP (pU cx fs.toList) fun pl=>yo (pl[·]?) z l fun cs=>fE cs fun cs=>q (.agg cs)
 | .array _ elem=>aP (Ev.dN cx elem) fun n=>yo (fun i=>some (i*n,n)) z l fun cs=>fE cs fun cs=>q (.agg cs)
 | _=>False
def vp (cx:Ev.Cx) (t:TypeId) (x:PV) (f:Nat) (q:PV->Prop):Prop :=
 aP (cx.ns t) fun d=>match d with
 | .struct fs=>aP fs.toList[f]? fun fd=>aP (Ev.dN cx fd.type) fun n=>bif Nat.beq n 0 then False else (match x with
  | .ptr l off=>q (.ptr l (off+fd.offset))
  | .pti l off i n=>q (.pti l (off+fd.offset) i n)
  | .dpt l i n off=>q (.dpt l i n (off+fd.offset))
  | .ep cs off=>q (.ep cs (off+fd.offset))
  | .gp g off=>q (.gp g (off+fd.offset))
  | .gpi g off i n=>q (.gpi g (off+fd.offset) i n)
  | _=>False)
 | _=>False
def Sf (es:List PV) (i:Int) (q:PV->Prop):Prop :=
 ∃ (α:Type) (l:List α) (enc:α->PV),es=l.map enc/\0<=i/\i < l.length/\∀ x,l[i.toNat]?=some x->q (enc x)
def within (st:Bool) (i:Int) (len:Nat) (f:Nat->Prop) (g:Prop):Prop:=match st with
 | true=>bif decide (0<=i) && decide (i < len) then f i.toNat else False
 | false=>0<=i/\i < len/\g
def Sg (st:List an) (l:Nat):Bool:=match st[l]? with
 | some b=>(match b.k with
  | .dyn=>true
  | _=>false)
 | none=>false
def vq (cx:Ev.Cx) (st:List an) (t:TypeId) (x i:PV) (q:PV->Prop):Prop :=
 aP i.num fun z=>match z with
 | (OZ,_,n0)=>aP (cx.ns t) fun d=>match d with
 | .array len elem=>aP (Ev.dN cx elem) fun n=>(match x with
  | .ptr l off=>within OZ n0 len (fun j=>q (.ptr l (off+j*n))) (q (.pti l off n0 n))
  | .gp g off=>within OZ n0 len (fun j=>q (.gp g (off+j*n))) (q (.gpi g off n0 n))
  | .ep cs off=>within OZ n0 len (fun j=>q (.ep cs (off+j*n))) False
  | _=>False)
 | .slice elem=>aP (Ev.dN cx elem) fun n=>(match x with
  | .sl m es=>bif Nat.beq m n then Sf es n0 fun e=>fE e.cells fun cs=>q (.ep cs 0) else False
  | .ref l off len=>bif Sg st l then (bif Nat.beq n 1 then within OZ n0 len (fun j=>q (.dpt l (off+j) n 0)) (q (.dpt l (off+n0.toNat) n 0)) else False) else within OZ n0 len (fun j=>q (.ptr l (off+j*n))) (q (.pti l off n0 n))
  | .wref l=>aP st[l]? fun b=>bif b.live && Nat.beq b.size n && Nat.blt 0 n then (match b.k with
   | .arr=>pf b.cs 0 fun m=>within OZ n0 (m / n) (fun j=>q (.ptr l (j*n))) (q (.pti l 0 n0 n))
   | .dyn=>0<=n0/\n0 < b.cs.length/\q (.dpt l n0.toNat n 0)
   | _=>False) else False
  | _=>False)
 | _=>False
def KF (cx:Ev.Cx) (t:TypeId) (x i:PV) (q:PV->Prop):Prop :=
 aP i.num fun z=>match z with
 | (OZ,_,n0)=>aP (cx.ns t) fun d=>match d,x with
 | .array len elem,.agg cs=>aP (Ev.dN cx elem) fun n=>within OZ n0 len (fun j=>part cx elem cs (j*n) q)
   (aP (Ev.gD cx elem) fun ag=>bif !ag && Nat.beq n 1 && Nat.beq cs.length len then ∀ c,cs[n0.toNat]?=some c->q c else False)
 | .string,.val (.string s)=>0<=n0/\n0 < s.size/\q (.int .u8 (((s.data.toList.map fun b=>((b.toNat:Nat):Int))[n0.toNat]?).getD 0))
 | _,_=>False
def Pt (s:aN) (o:Option Operand) (d:Bool × Int) (q:Bool × Int->Prop):Prop:=match o with
 | none=>q d
 | some o=>s.ev o fun x=>aP x.num fun z=>(match z with
  | (OZ,_,n)=>q (OZ,n))
def KG (cx:Ev.Cx) (s:aN) (t:TypeId) (x:PV) (lo hi mx:Option Operand) (q:PV->Prop):Prop :=
 aP (cx.ns t) fun d=>match mx,d with
 | none,.array n elem=>aP (Ev.dN cx elem) fun m=>bif Nat.blt 0 m && Nat.blt 0 n then Pt s lo (true,0) fun l=>Pt s hi (true,n) fun h =>
  (match x with
  | .ptr b off=>bif l.1 && h.1 && decide (0<=l.2) && decide (l.2 < n) && decide (l.2<=h.2) && decide (h.2<=n) then q (.ref b (off+l.2.toNat*m) (h.2 - l.2).toNat) else False
  | _=>False) else False
 | none,.slice elem=>aP (Ev.dN cx elem) fun m=>Pt s lo (true,0) fun l =>
  (match x with
  | .nil=>Pt s hi (true,0) fun h=>l.2=0/\h.2=0/\q .nil
  | .ref b off len=>Pt s hi (true,len) fun h=>bif l.1 && h.1 && decide (0<=l.2) && decide (l.2 < len) && decide (l.2<=h.2) && decide (h.2<=len) then q (.ref b (off+l.2.toNat*m) (h.2 - l.2).toNat) else False
  | .sl n es=>Pt s hi (false,es.length) fun h=>bif Nat.beq n m && Nat.blt 0 m then 0<=l.2/\l.2<=h.2/\h.2<=es.length/\q (.sl n ((es.drop l.2.toNat).take (h.2 - l.2).toNat)) else False
  | .wref b=>aP s.st[b]? fun k=>(match k.k with
   | .arr=>bif k.live && Nat.beq k.size m && Nat.blt 0 m then pf k.cs 0 fun len=>Pt s hi (true,(len / m:Nat)) fun h =>
     (bif l.1 && h.1 && decide (0<=l.2) && decide (l.2 < (len / m:Nat)) && decide (l.2<=h.2) && decide (h.2<=(len / m:Nat)) then q (.ref b (l.2.toNat*m) (h.2 - l.2).toNat) else False) else False
   | .dyn=>bif k.live && Nat.beq k.size m && Nat.blt 0 m then Pt s hi (false,k.cs.length) fun h=>∃ i j:Nat,l.2=i/\h.2=j/\i<=j/\j<=k.cs.length/\i < k.cs.length/\q (.ref b (i*m) (j - i)) else False
   | _=>False)
  | _=>False)
 | _,_=>False
def TK (st:List an) (x:PV) (q:PV->Prop):Prop:=match x with
 | .nil=>q (.lit .i64 0)
 | .sl _ es=>es.length<=maxLen->q (.int .i64 es.length)
 | .ref _ _ len=>q (.lit .i64 len)
 | .wref l=>aP st[l]? fun b=>bif b.live then (match b.k with
  | .arr=>pf b.cs 0 fun m=>b.szK fun n=>q (.lit .i64 (m / n:Nat))
  | .dyn=>b.cs.length<=maxLen->q (.int .i64 b.cs.length)
  | _=>False) else False
 | _=>False
def uJ (f:Int->Int->Int) (x y:PV) (q:PV->Prop):Prop:=match x,y with
 | .lit k a,.lit _ b=>q (.lit k (f a b))
 | .lit k a,.int _ b=>q (.int k (f a b))
 | .int k a,.lit _ b=>q (.int k (f a b))
 | .int k a,.int _ b=>q (.int k (f a b))
 | _,_=>False
def qG (cx:Ev.Cx) (s:aN) (op:Op) (q:PV->Prop):Prop:=match op with
 | .move x|.assign x=>s.ev x q
 | .pick c a b=>s.ev c fun c=>(match c with
  | .tt=>s.ev a q
  | .ff=>s.ev b q
  | .bool p=>(p->s.ev a q)/\(¬ p->s.ev b q)
  | _=>False)
 | .binOp op t x y _=>s.ev x fun x=>s.ev y fun y=>TJ cx s.st op t x y q
 | .unOp op _ x=>s.ev x fun x=>pun op x q
 | .convert src dst x=>s.ev x fun x=>Se cx src dst x q
 | .nilCheck x=>s.ev x fun x=>(match x with
  | .ptr ..|.pti ..|.dpt ..|.ep ..|.gp ..|.gpi ..=>q x
  | _=>False)
 | .build t ps=>KE cx s t ps.toList q
 | .fieldAddr t x f=>s.ev x fun x=>vp cx t x f q
 | .field t x f=>aP (cx.ns t) fun d=>s.ev x fun x=>(match d,x with
  | .struct fs,.agg cs=>aP fs.toList[f]? fun fd=>part cx fd.type cs fd.offset q
  | _,_=>False)
 | .indexAddr t x i=>s.ev x fun x=>s.ev i fun i=>vq cx s.st t x i q
 | .index t x i=>s.ev x fun x=>s.ev i fun i=>KF cx t x i q
 | .extract x i=>s.ev x fun x=>(match x with
  | .tup l=>aP l[i]? q
  | _=>False)
 | .slice t x lo hi mx=>s.ev x fun x=>KG cx s t x lo hi mx q
 | .makeFunc (.func f) ⟨[]⟩ ⟨pe⟩=>qH s pe fun cs=>q (.clo f cs)
 | .call { callee:=.builtin .len,args:=⟨[x]⟩,argTypes:=⟨[t]⟩ }=>aP (cx.ns t) fun d=>s.ev x fun x=>(match d with
  | .slice _=>TK s.st x q
  | .array n _=>q (.lit .i64 n)
  | .string=>(match x with
   | .val (.string b)=>q (.lit .i64 b.size)
   | _=>False)
  | _=>False)
 | .call { callee:=.builtin .min,args:=⟨[x,y]⟩,argTypes:=_ }=>s.ev x fun x=>s.ev y fun y=>uJ min x y q
 | .call { callee:=.builtin .max,args:=⟨[x,y]⟩,argTypes:=_ }=>s.ev x fun x=>s.ev y fun y=>uJ max x y q
 | _=>False
where qH (s:aN):List Operand->(List PV->Prop)->Prop
 | [],q=>q []
 | o::os,q=>s.ev o fun x=>(match x with
  | .tup _|.agg _=>False
  | x=>qH s os fun xs=>q (x::xs))
def xE:List an->Nat->an->(List an->Prop)->Prop
 | [],_,_,_=>False
 | _::l,0,b,q=>q (b::l)
 | a::l,n+1,b,q=>xE l n b fun l=>q (a::l)
def Ec:List an->an->(List an->Prop)->Prop
 | [],b,q=>q [b]
 | a::l,b,q=>Ec l b fun l=>q (a::l)
def an.mem (b:an):Bool:=b.live && (match b.k with
 | .dyn=>false
 | .mp=>false
 | _=>true)
def ptab (pX:List (Nat × List PV)) (g:Nat):Option (List PV):=Ev.ye g pX
def tK (G:Gx) (st:List an) (t:TypeId) (x:PV) (q:PV->Prop):Prop:=match x with
 | .ptr l off=>aP st[l]? fun b=>bif b.mem then part G.cx t b.cs off q else False
 | .pti l off i n=>aP st[l]? fun b=>bif b.mem then (∃ m:Nat,i=m/\part G.cx t b.cs (off+m*n) q)\/(Ev.gD G.cx t=some false/\0<=i/\off+i.toNat*n < b.cs.length/\∀ c,b.cs[off+i.toNat*n]?=some c->q c) else False
 | .dpt l i n off=>aP st[l]? fun b=>(match b.k with
  | .dyn=>bif b.live && Nat.beq b.size n then ∃ (α:Type) (l:List α) (enc:α->PV),b.cs=l.map enc/\i < l.length/\∀ x,l[i]?=some x->part G.cx t (enc x).cells off q else False
  | _=>False)
 | .ep cs off=>part G.cx t cs off q
 | .gp g off=>aP (ptab G.pX g) fun cs=>part G.cx t cs off q
 | .gpi g off i n=>aP (ptab G.pX g) fun cs=>(∃ m:Nat,i=m/\part G.cx t cs (off+m*n) q)\/(Ev.gD G.cx t=some false/\0<=i/\off+i.toNat*n < cs.length/\∀ c,cs[off+i.toNat*n]?=some c->q c)
 | _=>False
def PV.iI:PV->Option Nat
 | .ptr l _=>some l
 | .pti l _ _ _=>some l
 | .dpt l _ _ _=>some l
 | _=>none
def KH (cs new:List PV) (off:Nat):Option (List PV):=if Nat.ble (off+new.length) cs.length then some (cs.take off++new++cs.drop (off+new.length)) else none
def PV.pz:PV->Bool
 | .wref _|.mref _|.ref ..|.ptr ..|.pti ..|.dpt ..|.clo ..|.agg _|.tup _=>false
 | _=>true
def PV.elem:PV->Bool
 | .agg cs=>cs.all PV.pz
 | x=>x.pz
def mix (p:Prop) [Decidable p]:PV->PV->Option PV
 | .int k a,.int l b=>if decide (k=l) then some (.int k (if p then a else b)) else none
 | .int k a,.lit l b=>if decide (k=l) then some (.int k (if p then a else b)) else none
 | .lit k a,.int l b=>if decide (k=l) then some (.int k (if p then a else b)) else none
 | .lit k a,.lit l b=>if decide (k=l) then some (.int k (if p then a else b)) else none
 | _,_=>none
def qI (i:Int) (v:PV) (off m k:Nat):Nat->List PV->Option (List PV)
 | _,[]=>some []
 | p,c::cs=>bif Nat.ble off p && Nat.blt p (off+k*m) && Nat.beq ((p - off) % m) 0 then (match mix (i=(((p - off) / m:Nat):Int)) v c,qI i v off m k (p+1) cs with
   | some x,some l=>some (x::l)
   | _,_=>none) else (match qI i v off m k (p+1) cs with
   | some l=>some (c::l)
   | none=>none)
def an.fX (b:an) (cs:List PV):an:=match b with
 | ⟨k,ty,n,m,live,_⟩=>⟨k,ty,n,m,live,cs⟩
def an.can (b:an):Bool:=b.live && (match b.m with
 | .w=>true
 | _=>false)
def PV.norm (x:PV):PV:=match x with
 | .lit k n=>.int k n
 | x=>x
def KI (G:Gx) (st:List an) (t:TypeId) (x v:PV) (q:List an->Prop):Prop :=
 aP (Ev.dN G.cx t) fun n=>bif Nat.beq v.cells.length n && Nat.blt 0 n && v.cells.all PV.lC then (match v with
 | .tup _=>False
 | v=>(match x with
  | .ptr l off=>aP st[l]? fun b=>bif b.mem && b.can then aP (KH b.cs v.cells off) fun cs=>fE cs fun cs=>xE st l (b.fX cs) q else False
  | .dpt l i m off=>aP st[l]? fun b=>(match b.k with
   | .dyn=>bif b.can && Nat.beq b.size n && Nat.beq m n && Nat.beq off 0 && v.elem then i < b.cs.length/\xE st l (b.fX (b.cs.set i v.norm)) q else False
   | _=>False)
  | .pti l off i m=>aP st[l]? fun b=>bif b.mem && b.can && Nat.beq n 1 && Nat.blt 0 m then ∃ k:Nat,0<=i/\i < k/\aP (qI i v off m k 0 b.cs) fun cs=>fE cs fun cs=>off+i.toNat*m < b.cs.length/\xE st l (b.fX cs) q else False
  | _=>False)) else False
def TL (s:aN) (b:an) (q:PV->aN->Prop):Prop:=pf s.st 0 fun l=>Ec s.st b fun st=>q (.ptr l 0) (s.store st)
def pC (s:aN) (b:an) (q:PV->aN->Prop):Prop:=pf s.st 0 fun l=>Ec s.st b fun st=>q (.wref l) (s.store st)
def chunk (ag:Bool) (n:Nat):Nat->List PV->List PV
 | 0,_=>[]
 | k+1,cs=>(if ag then .agg (cs.take n) else (match cs with
  | c::_=>c
  | []=>.nil))::chunk ag n k (cs.drop n)
inductive Src where
 | stat (cs:List PV)|told (es:List PV)
def Pu (cx:Ev.Cx) (st:List an) (n:Nat) (x:PV) (q:Src->Prop):Prop:=match x with
 | .nil=>q (.told [])
 | .sl m es=>bif Nat.beq m n then q (.told es) else False
 | .ref l off len=>aP st[l]? fun b=>bif b.mem && Nat.ble (off+len*n) b.cs.length then fE ((b.cs.drop off).take (len*n)) fun cs=>q (.stat cs) else False
 | .wref l=>aP st[l]? fun b=>bif b.live && Nat.beq b.size n then (match b.k with
  | .arr=>q (.stat b.cs)
  | .dyn=>q (.told b.cs)
  | _=>False) else False
 | _=>False
def fw (ag:Bool) (n:Nat):Src->Option (List PV)
 | .told es=>some es
 | .stat cs=>Ps cs 0 fun m=>let l:=chunk ag n (m / n) (cs.map PV.norm)
  if l.all PV.elem then some l else none
def KJ (st:List an) (l:Nat) (q:List an->Prop):Prop:=aP st[l]? fun b=>match b with
 | ⟨k,ty,n,m,_,cs⟩=>xE st l ⟨k,ty,n,m,false,cs⟩ q
def FT (st:List an) (elem:TypeId) (n:Nat) (x:PV) (q:Src->List an->Prop):Prop:=match x with
 | .nil=>q (.stat []) st
 | .wref l=>aP st[l]? fun b=>bif b.can && Nat.beq b.size n && Nat.beq b.ty elem then (match b.k with
  | .arr=>KJ st l (q (.stat b.cs))
  | .dyn=>KJ st l (q (.told b.cs))
  | _=>False) else False
 | _=>False
def FU (G:Gx) (s:aN) (t:TypeId) (d x:PV) (q:PV->aN->Prop):Prop :=
 aP (G.cx.ns t) fun td=>match td with
 | .slice elem=>aP (Ev.dN G.cx elem) fun n=>aP (Ev.gD G.cx elem) fun ag=>aP (Ev.ye elem G.bt) fun bD=>nu G.cx elem fun z=>bif Nat.blt 0 n && Nat.beq z.length n && (ag || Nat.beq n 1) then
  Pu G.cx s.st n x fun src=>FT s.st elem n d fun dst st=>(match dst,src with
  | .stat cs,.stat ds=>pf cs 0 fun lc=>pf ds 0 fun ld=>bif Nat.blt 0 ld && Nat.beq (ld % n) 0 && Nat.ble ((lc+ld)*bD) 140737488355328 && Nat.ble (lc+ld) maxLen then fE (cs++ds) fun cs=>pC (s.store st) ⟨.arr,elem,n,.w,true,cs⟩ q else False
  | dst,src=>aP (fw ag n dst) fun es=>aP (fw ag n src) fun fs=>es.length+fs.length<=maxLen/\(es.length+fs.length)*bD<=140737488355328/\pC (s.store st) ⟨.dyn,elem,n,.w,true,es++fs⟩ q) else False
 | _=>False
def Bd (s:aN):List Operand->(List PV->Prop)->Prop
 | [],q=>q []
 | o::os,q=>s.ev o fun x=>Bd s os fun xs=>q (x::xs)
def PV.leads (rl:List Nat) (x:PV):Bool:=x.c9.any fun l=>rl.any (Nat.beq l)
def TM.clear (rl:List Nat):TM->TM
 | .nil=>.nil
 | .node v l r=>.node (match v with
  | some x=>if x.leads rl then none else some x
  | none=>none) (l.clear rl) (r.clear rl)
def Ed (rl:List Nat) (t:TM) (q:TM->Prop):Prop:=match rl with
 | []=>q t
 | rl=>q (t.clear rl)
def KK (G:Gx) (s:aN) (f:FuncId) (args:List PV) (q:PV->aN->Prop):Prop :=
 match s with
 | ⟨n,t,st,b,TN⟩=>∃ rl:List Nat,(∀ l∈rl,(b<=l\/l∈TN)/\∀ b,st[l]?=some b->b.m≠.p)/\Spec G f args st rl fun r S=>Ed rl t fun t=>q r ⟨n,t,S,b,TN⟩
def pop (G:Gx) (s:aN) (o:Oper) (q:PV->aN->Prop):Prop:=match o.op with
 | .load t a=>s.ev a fun a=>tK G s.st t a fun v=>q v s
 | .store t a x=>s.ev a fun a=>s.ev x fun x=>KI G s.st t a x fun st=>q (.tup []) (s.store st)
 | .alloc t=>nu G.cx t fun z=>fE z fun z=>bif z.all PV.lC then TL s ⟨.loc,t,1,.w,true,z⟩ q else False
 | .box t x=>s.ev x fun x=>(match x with
  | .tup _=>False
  | x=>bif x.cells.all PV.lC then fE x.cells fun cs=>TL s ⟨.loc,t,1,.w,true,cs⟩ q else False)
 | .buildSlice t len ps=>aP (G.cx.ns t) fun d=>(match d with
  | .slice elem=>aP (Ev.dN G.cx elem) fun n=>nu G.cx elem fun z=>vo s ps.toList fun l =>
   bif Nat.beq z.length n && Nat.ble (len*n) 16777216 && Nat.blt 0 n then yo (fun i=>some (i*n,n)) ((List.replicate len z).flatten) l fun cs=>fE cs fun cs=>bif cs.all PV.lC && Nat.beq cs.length (len*n) && Nat.ble len maxLen then pC s ⟨.arr,elem,n,.w,true,cs⟩ q else False else False
  | _=>False)
 | .call { callee:=.value x,args:=⟨KM⟩,argTypes:=_ }=>s.ev x fun x=>(match x with
  | .clo f pe=>bif G.ext.any (Nat.beq f) then oB G s o q else Bd s KM fun l=>KK G s f (l++pe) q
  | _=>False)
 | .call { callee:=.builtin .append,args:=⟨[d,x]⟩,argTypes:=⟨[t,t']⟩ }=>bif Nat.beq t t' then s.ev d fun d=>s.ev x fun x=>FU G s t d x q else False
 | .makeSlice _ _ _=>oB G s o q
 | .makeMap _ _=>oB G s o q
 | .mapUpdate _ _ _ _=>oB G s o q
 | .lookup _ _ _ _=>oB G s o q
 | .call { callee:=.builtin .copy,args:=_,argTypes:=_ }=>oB G s o q
 | .call { callee:=.builtin .clear,args:=_,argTypes:=_ }=>oB G s o q
 | .convert src dst x=>bif Nat.beq dst 9 then oB G s o q else qG G.cx s (.convert src dst x) fun v=>q v s
 | op=>qG G.cx s op fun v=>q v s
def lg (ops:List Oper) (s:aN) (o:Oper) (run skip:aN->Prop):Prop:=match o.guard with
 | none=>run s
 | some (j,want)=>aP ((ops[j]?).bind (·.dst)) fun t=>aP (s.t.get t) fun x=>(match x with
  | .tt=>bif want then run s else skip s
  | .ff=>bif want then skip s else run s
  | .bool p=>(p->s.put (some t) .tt (bif want then run else skip))/\(¬ p->s.put (some t) .ff (bif want then skip else run))
  | .tup []=>skip s
  | _=>False)
def KN (G:Gx) (ops:List Oper) (Q:X->aN->Prop):List Oper->aN->Prop
 | [],s=>Q .hU s
 | o::rest,s=>lg ops s o (fun s=>pop G s o fun v s=>s.put o.dst v (KN G ops Q rest)) (fun s=>s.put o.dst (.tup []) (KN G ops Q rest))
theorem au {α:Type} {o:Option α} {k:α->Prop} (h:aP o k):∃ x,o=some x/\k x:=by
 cases o with
 | none=>exact h.elim
 | some x=>exact⟨x,rfl,h⟩
theorem aZ {b:Bool} {p:Prop} (h:bif b then p else False):b=true/\p:=by
 cases b with
 | true=>exact⟨rfl,h⟩
 | false=>exact h.elim
theorem Pv {b:Bool} {p:Prop} (h:bif b then False else p):b=false/\p:=by
 cases b with
 | true=>exact h.elim
 | false=>exact⟨rfl,h⟩
theorem TO {x:PV} {q:PV->Prop} (h:fc1 x q):q x:=by cases x<;>exact h
theorem cI:∀ {cs:List PV} {q:List PV->Prop},fE cs q->q cs
 | [],_,h=>h
 | c::cs,q,h=>by
  have:=cI (TO h)
  exact this
theorem Ee {x:PV} {q:PV->Prop} (h:fcA x q):q x:=by
 cases x<;>first|exact h|exact cI h
theorem yp:∀ {cs:List PV} {q:List PV->Prop},D_ cs q->q cs
 | [],_,h=>h
 | c::cs,q,h=>by
  have:=yp (Ee h)
  exact this
theorem KO {x:PV} {q:PV->Prop} (h:fc x q):q x:=by
 cases x<;>first|exact h|exact cI h|exact yp h
section
variable {w:World} {I:Nat->Prop} {β:ax} {cx:Ev.Cx} {G:Gx} {P:Program}
theorem Is.int {k:IntKind} {n:Int}:(PV.int k n).Is w I β (.int k n):=by simp only[PV.Is]
theorem Is.lit {k:IntKind} {n:Int}:(PV.lit k n).Is w I β (.int k n):=by simp only[PV.Is]
theorem Is.tt:PV.tt.Is w I β (.bool true):=by simp only[PV.Is]
theorem Is.ff:PV.ff.Is w I β (.bool false):=by simp only[PV.Is]
theorem Is.bool {p:Prop}:(PV.bool p).Is w I β (.bool (pb p)):=by simp only[PV.Is]
theorem yq {v:Value} {q:PV->Prop} (h:ka v q):∃ x,q x/\x.Is w I β v/\x.lC=true:=by
 unfold ka at h
 split at h
 ·exact⟨_,h,by simp only[PV.Is],rfl⟩
 ·exact⟨_,h,by simp only[PV.Is],rfl⟩
 ·exact⟨_,h,by simp only[PV.Is],rfl⟩
 ·exact⟨_,h,by simp only[PV.Is],rfl⟩
 ·exact⟨_,h,by simp only[PV.Is]; exact⟨#[],rfl,by simp only[bp]⟩,rfl⟩
 ·obtain⟨hf,h⟩:=aZ h
  exact⟨_,h,by simp only[PV.Is]; exact⟨trivial,hf⟩,rfl⟩
theorem yr:∀ {vs:List Value} {q:List PV->Prop},Ea ka vs q->∃ xs,q xs/\bp w I xs β vs
 | [],q,h=>⟨[],h,by simp only[bp]⟩
 | v::vs,q,h=>by
  obtain⟨x,h,hx,_⟩:=yq (w:=w) (I:=I) (β:=β) h
  obtain⟨xs,h,qJ⟩:=yr h
  exact⟨x::xs,h,by simp only[bp]; exact⟨hx,qJ⟩⟩
theorem Be {v:Value} {q:PV->Prop} (h:tH v q):∃ x,q x/\x.Is w I β v/\∀ vs,x≠.tup vs:=by
 unfold tH at h
 split at h
 ·rename_i cs
  obtain⟨xs,h,qJ⟩:=yr (w:=w) (I:=I) (β:=β) h
  exact⟨_,h,by simp only[PV.Is]; exact⟨⟨cs⟩,rfl,qJ⟩,fun _ e=>by cases e⟩
 ·obtain⟨x,h,hx,h1⟩:=yq (w:=w) (I:=I) (β:=β) h
  exact⟨x,h,hx,fun vs e=>by subst e; cases h1⟩
theorem PV.p6 {x:PV} {b:Bool} {k:IntKind} {n:Int} {v:Value} (h:x.num=some (b,k,n)) (hx:x.Is w I β v):v = .int k n:=by
 cases x<;>simp only[PV.num] at h<;>cases h<;>simpa only [PV.Is] using hx
theorem PV.FV {x:PV} {p:Prop} {v:Value} (h:x.bl=some p) (hx:x.Is w I β v):v = .bool (pb p):=by
 cases x<;>simp only[PV.bl] at h<;>cases h<;>simp only[PV.Is] at hx
 ·rw[hx,cj trivial]
 ·rw[hx,bM id]
 ·exact hx
theorem uK {k:IntKind} {z:Int} {q:PV->Prop} (h:Bc k z q):∃ x,q x/\x.Is w I β (.int k (k.wrap z)):=by
 rcases h with ⟨⟨h1,h2⟩,h⟩|h
 ·exact⟨_,h,by rw[Ev.eF k z h1 h2]; exact Is.int⟩
 ·exact⟨_,h,Is.int⟩
theorem KP {b:Bool} {q:PV->Prop} (h:tf b q):∃ x,q x/\x.Is w I β (.bool b):=by
 cases b with
 | true=>exact⟨_,h,Is.tt⟩
 | false=>exact⟨_,h,Is.ff⟩
theorem boolD {p:Prop} [Decidable p] {q:PV->Prop} (h:q (.bool p)):∃ x,q x/\x.Is w I β (.bool (decide p)):=⟨_,h,by rw[← D9]; exact Is.bool⟩
theorem Bf {op:BinOp} {t:TypeId} {k:IntKind} {a b:Int} (w:World) :
  (binOp .eql t (.int k a) (.int k b)).run P w = .ok (.bool (decide (a=b))) w/\(binOp .neq t (.int k a) (.int k b)).run P w = .ok (.bool (!decide (a=b))) w/\(binOp .lss t (.int k a) (.int k b)).run P w = .ok (.bool (decide (a < b))) w /\
  (binOp .leq t (.int k a) (.int k b)).run P w = .ok (.bool (decide (a<=b))) w/\(binOp .gtr t (.int k a) (.int k b)).run P w = .ok (.bool (decide (b < a))) w/\(binOp .geq t (.int k a) (.int k b)).run P w = .ok (.bool (decide (b<=a))) w:=by
 refine⟨by simp only[binOp_eql]; rfl,?_,by simp only[binOp_lss]; rfl,by simp only[binOp_leq]; rfl,by simp only[binOp_gtr]; rfl,by simp only[binOp_geq]; rfl⟩
 simp only[binOp_neq]
 show Result.ok (Value.bool (a != b)) w=_
 congr 2
theorem zG {op:BinOp} {t:TypeId} {k:IntKind} {a b:Int} {q:PV->Prop} (h:TF op k a b q):∃ x v,q x/\x.Is w I β v/\∀ w,(binOp op t (.int k a) (.int k b)).run P w = .ok v w:=by
 have cmp:=fun w=>Bf (P:=P) (op:=op) (t:=t) (k:=k) (a:=a) (b:=b) w
 have out:∀ {z},Bc k z q->(∀ w,(binOp op t (.int k a) (.int k b)).run P w = .ok (.int k (k.wrap z)) w)->∃ x v,q x/\x.Is w I β v/\∀ w,(binOp op t (.int k a) (.int k b)).run P w = .ok v w:=fun h hr=>by
  obtain⟨x,h,hx⟩:=uK (w:=w) (I:=I) (β:=β) h
  exact⟨x,_,h,hx,hr⟩
 have bl:∀ {p:Prop} [Decidable p],q (.bool p)->(∀ w,(binOp op t (.int k a) (.int k b)).run P w = .ok (.bool (decide p)) w)->∃ x v,q x/\x.Is w I β v/\∀ w,(binOp op t (.int k a) (.int k b)).run P w = .ok v w:=fun h hr=>by
  obtain⟨x,h,hx⟩:=boolD (w:=w) (I:=I) (β:=β) h
  exact⟨x,_,h,hx,hr⟩
 cases op<;>simp only[TF] at h
 case add=>exact out h fun w=>by rw[binOp_add]; rfl
 case sub=>exact out h fun w=>by rw[binOp_sub]; rfl
 case mul=>exact out h fun w=>by rw[binOp_mul]; rfl
 case quo =>
  obtain⟨h0,h⟩:=h
  have hr:∀ w,(binOp .quo t (.int k a) (.int k b)).run P w = .ok (.int k (k.wrap (a.tdiv b))) w:=fun w=>by rw[binOp_quo]; simp[Op.intDiv,h0]
  rcases h with ⟨ha,hk,hb,h⟩|h
  ·refine⟨_,_,h,?_,hr⟩
   have e:a.tdiv b=a / b:=Int.tdiv_eq_ediv_of_nonneg ha
   have h1:0<=a / b:=Int.ediv_nonneg ha (by omega)
   have h2:a / b<=a:=Int.ediv_le_self b ha
   rw[e,Ev.eF k _ (by (have:Ev.ng k<=0:=by cases k<;>simp[Ev.ng,IntKind.signed,IntKind.bits]); omega) (by omega)]
   exact Is.int
  ·exact⟨_,_,h,Is.int,hr⟩
 case rem =>
  obtain⟨h0,h⟩:=h
  have hr:∀ w,(binOp .rem t (.int k a) (.int k b)).run P w = .ok (.int k (a.tmod b)) w:=fun w=>by rw[binOp_rem]; simp[Op.intDiv,h0]
  rcases h with ⟨ha,hb,h⟩|h
  ·refine⟨_,_,h,?_,hr⟩
   rw[Int.tmod_eq_emod_of_nonneg ha]
   exact Is.int
  ·exact⟨_,_,h,Is.int,hr⟩
 case and=>exact⟨_,_,h,Is.int,fun w=>by rw[binOp_and,intBits_and]; rfl⟩
 case or=>exact⟨_,_,h,Is.int,fun w=>by rw[binOp_or,intBits_or]; rfl⟩
 case xor=>exact⟨_,_,h,Is.int,fun w=>by rw[binOp_xor,intBits_xor]; rfl⟩
 case andNot=>exact⟨_,_,h,Is.int,fun w=>by rw[binOp_andNot,intBits_andNot]; rfl⟩
 case eql=>exact bl h fun w=>(cmp w).1
 case neq=>exact bl h fun w=>by rw[(cmp w).2.1]; congr 2; by_cases hh:a=b<;>simp[hh]
 case lss=>exact bl h fun w=>(cmp w).2.2.1
 case leq=>exact bl h fun w=>(cmp w).2.2.2.1
 case gtr=>exact bl h fun w=>(cmp w).2.2.2.2.1
 case geq=>exact bl h fun w=>(cmp w).2.2.2.2.2
theorem Px {op:BinOp} {t:TypeId} {k:IntKind} {a b:Int} {q:PV->Prop} (h:TG op k a b q):∃ x v,q x/\x.Is w I β v/\∀ w,(binOp op t (.int k a) (.int k b)).run P w = .ok v w:=by
 have cmp:=fun w=>Bf (P:=P) (op:=op) (t:=t) (k:=k) (a:=a) (b:=b) w
 have bl:∀ {b':Bool},tf b' q->(∀ w,(binOp op t (.int k a) (.int k b)).run P w = .ok (.bool b') w)->∃ x v,q x/\x.Is w I β v/\∀ w,(binOp op t (.int k a) (.int k b)).run P w = .ok v w:=fun h hr=>by
  obtain⟨x,h,hx⟩:=KP (w:=w) (I:=I) (β:=β) h
  exact⟨x,_,h,hx,hr⟩
 cases op<;>simp only[TG] at h
 case add=>exact⟨_,_,h,Is.lit,fun w=>by rw[binOp_add]; rfl⟩
 case sub=>exact⟨_,_,h,Is.lit,fun w=>by rw[binOp_sub]; rfl⟩
 case mul=>exact⟨_,_,h,Is.lit,fun w=>by rw[binOp_mul]; rfl⟩
 case quo =>
  cases h0:decide (b=0)<;>rw[h0] at h
  ·exact⟨_,_,h,Is.lit,fun w=>by rw[binOp_quo]; simp[Op.intDiv,of_decide_eq_false h0]⟩
  ·exact h.elim
 case rem =>
  cases h0:decide (b=0)<;>rw[h0] at h
  ·exact⟨_,_,h,Is.lit,fun w=>by rw[binOp_rem]; simp[Op.intDiv,of_decide_eq_false h0]⟩
  ·exact h.elim
 case and=>exact⟨_,_,h,Is.lit,fun w=>by rw[binOp_and,intBits_and]; rfl⟩
 case or=>exact⟨_,_,h,Is.lit,fun w=>by rw[binOp_or,intBits_or]; rfl⟩
 case xor=>exact⟨_,_,h,Is.lit,fun w=>by rw[binOp_xor,intBits_xor]; rfl⟩
 case andNot=>exact⟨_,_,h,Is.lit,fun w=>by rw[binOp_andNot,intBits_andNot]; rfl⟩
 case eql=>exact bl h fun w=>(cmp w).1
 case neq=>exact bl h fun w=>(cmp w).2.1
 case lss=>exact bl h fun w=>(cmp w).2.2.1
 case leq=>exact bl h fun w=>(cmp w).2.2.2.1
 case gtr=>exact bl h fun w=>(cmp w).2.2.2.2.1
 case geq=>exact bl h fun w=>(cmp w).2.2.2.2.2
theorem Bg {op:BinOp} {st:Bool} {t:TypeId} {k k':IntKind} {a b:Int} {q:PV->Prop} (h:shift op st k a b q):∃ x v,q x/\x.Is w I β v/\∀ w,(binOp op t (.int k a) (.int k' b)).run P w = .ok v w:=by
 have hl:0<=b->∀ w,(binOp .shl t (.int k a) (.int k' b)).run P w = .ok (.int k (k.wrap (a*Ev.aQ k b))) w:=fun h0 w=>by
  rw[binOp_shl]
  simp only[Op.shift,if_neg (by omega:¬ b < 0),Ev.aQ]
  simp
 have hr:0<=b->∀ w,(binOp .shr t (.int k a) (.int k' b)).run P w = .ok (.int k (a / Ev.aQ k b)) w:=fun h0 w=>by
  rw[binOp_shr]
  simp only[Op.shift,if_neg (by omega:¬ b < 0),Ev.aQ,Ev.fdiv_pow]
  rfl
 unfold shift at h
 split at h
 ·obtain⟨h0,h⟩:=aZ h
  exact⟨_,_,h,Is.lit,hl (of_decide_eq_true h0)⟩
 ·obtain⟨h0,h⟩:=aZ h
  exact⟨_,_,h,Is.lit,hr (of_decide_eq_true h0)⟩
 ·obtain⟨h0,h⟩:=h
  obtain⟨x,h,hx⟩:=uK (w:=w) (I:=I) (β:=β) h
  exact⟨x,_,h,hx,hl h0⟩
 ·obtain⟨h0,h⟩:=h
  exact⟨_,_,h,Is.int,hr h0⟩
 ·exact h.elim
theorem Py {op:BinOp} {sx sy:Bool} {t:TypeId} {k k':IntKind} {a b:Int} {q:PV->Prop} (h:TH op sx sy k k' a b q):∃ x v,q x/\x.Is w I β v/\∀ w,(binOp op t (.int k a) (.int k' b)).run P w = .ok v w:=by
 unfold TH at h
 split at h
 ·exact Bg h
 ·exact Bg h
 ·obtain⟨hk,h'⟩:=aZ h
  have cQ:=of_decide_eq_true hk
  subst cQ
  clear h hk
  cases sx<;>cases sy
  ·exact zG h'
  ·exact zG h'
  ·exact zG h'
  ·exact Px h'
theorem Ef {op:BinOp} {t:TypeId} {p:Prop} {q:PV->Prop} {u v:Value} (h:eqn op p q) (he:op = .eql->∀ w,(binOp .eql t u v).run P w = .ok (.bool (pb p)) w) (hn:op = .neq->∀ w,(binOp .neq t u v).run P w = .ok (.bool (!pb p)) w) :
  ∃ x r,q x/\x.Is w I β r/\∀ w,(binOp op t u v).run P w = .ok r w:=by
 cases op<;>simp only[eqn] at h
 case eql=>exact⟨_,_,h,Is.bool,he rfl⟩
 case neq =>
  refine⟨_,_,h,Is.bool,fun w=>?_⟩
  rw[hn rfl w]
  congr 2
  by_cases hp:p
  ·rw[cj hp,bM (fun h=>h hp)]; rfl
  ·rw[bM hp,cj hp]; rfl
theorem zH {op:BinOp} {t:TypeId} {b:Bool} {q:PV->Prop} {u v:Value} (h:Eb op b q) (he:op = .eql->∀ w,(binOp .eql t u v).run P w = .ok (.bool b) w) (hn:op = .neq->∀ w,(binOp .neq t u v).run P w = .ok (.bool (!b)) w) :
  ∃ x r,q x/\x.Is w I β r/\∀ w,(binOp op t u v).run P w = .ok r w:=by
 cases op<;>simp only[Eb] at h
 case eql =>
  obtain⟨x,h,hx⟩:=KP (w:=w) (I:=I) (β:=β) h
  exact⟨x,_,h,hx,he rfl⟩
 case neq =>
  obtain⟨x,h,hx⟩:=KP (w:=w) (I:=I) (β:=β) h
  exact⟨x,_,h,hx,hn rfl⟩
theorem nv (hO:Ev.hC cx) {t:TypeId} {cs:List PV} {off:Nat} {x:PV} {vs:Array Value} (h:tJ cx t cs off=some x) (hc:bp w I cs β vs.toList) :
  ∃ v,x.Is w I β v/\∀ w',(Go.part t vs off).run cx.P w' = .ok v w':=by
 unfold tJ at h
 split at h
 ·rename_i n ha hn
  split at h
  ·cases h
   refine⟨.agg (vs.extract off (off+n)),?_,fun w'=>?_⟩
   ·simp only[PV.Is]
    refine⟨_,rfl,?_⟩
    have:=(hc.drop off).take n
    rw[show (vs.extract off (off+n)).toList=(vs.toList.drop off).take n by simp]
    exact this
   ·simp[Go.part,Ev.j4 hO ha,Ev.dY hO hn]
  ·cases h
 ·rename_i ha
  obtain⟨v,hv,hi⟩:=hc.get h
  refine⟨v,hi,fun w'=>?_⟩
  have hv':vs[off]?=some v:=by simpa using hv
  simp[Go.part,Ev.j4 hO ha,hv']
 ·cases h
end
end Go.Proofs.YtnbhdacpogplgaaGreatDoor.Pw

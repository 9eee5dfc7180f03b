/- What this claim is proved with: no condition. -/
import Derived.Test.YtnbhdacpogplgaaGreatDoorPd2
import Derived.Deep.AppendLies
import Derived.Test.YtnbhdacpogplgaaGreatDoorChecked
import Derived.Maps.Own
set_option linter.unusedVariables false
set_option linter.unusedSimpArgs false
namespace Go.Proofs.YtnbhdacpogplgaaGreatDoor.Pw
open Go Go.RowKit
inductive PV where
 | lit (k:IntKind) (n:Int)|int (k:IntKind) (n:Int)
 | tt|ff|bool (p:Prop)
 | val (v:Value)
 | clo (f:FuncId) (cs:List PV)
 | nil|sl (n:Nat) (es:List PV)
 | wref (l:Nat)|ref (l off len:Nat)
 | mref (l:Nat)
 | ptr (l off:Nat)|pti (l off:Nat) (i:Int) (size:Nat)|dpt (l i size off:Nat)
 | ep (cs:List PV) (off:Nat)|gp (g off:Nat)|gpi (g off:Nat) (i:Int) (size:Nat)
 | agg (cs:List PV)|tup (vs:List PV)
 deriving Inhabited
def PV.cells:PV->List PV
 | .agg cs=>cs
 | v=>[v]
inductive BK where
 | loc|arr|dyn|mp
 deriving DecidableEq
inductive Md where
 | w|p|r
 deriving DecidableEq
def BK.qL:BK->Bool
 | .loc|.arr=>true
 | _=>false
structure ak where
 k:BK
 ty:TypeId
 size:Nat
 m:Md
 live:Bool
 cs:List PV
structure nN where
 a:Option (Nat × Nat)
 len:Nat
 cap:Nat
def nN.whole (p:nN):Value:=match p.a with
 | none=>.slice none 0 0
 | some (g,o)=>.slice (some ⟨g,o,none⟩) p.len p.cap
abbrev ax:=Nat->Option nN
open Classical in
noncomputable def pb (p:Prop):Bool:=decide p
theorem bB {p:Prop} (h:p):pb p=true:=@decide_eq_true p (Classical.propDecidable p) h
theorem br {p:Prop} (h:¬ p):pb p=false:=@decide_eq_false p (Classical.propDecidable p) h
theorem CR {p:Prop} [Decidable p]:pb p=decide p:=by
 by_cases h:p
 ·rw[bB h,decide_eq_true h]
 ·rw[br h,decide_eq_false h]
section
variable (w:World) (I:Nat->Prop)
mutual
def PV.Is:PV->ax->Value->Prop
 | .lit k n,_,v=>v = .int k n
 | .int k n,_,v=>v = .int k n
 | .tt,_,v=>v = .bool true
 | .ff,_,v=>v = .bool false
 | .bool p,_,v=>v = .bool (pb p)
 | .val x,_,v=>v=x/\Ev.flat x=true
 | .clo f cs,β,v=>∃ kF:Array Value,v = .func (.func f) #[] kF/\a_ cs β kF.toList
 | .nil,_,v=>v = .slice none 0 0
 | .sl n es,_,v=>∃ a cap,v = .slice a es.length cap/\es.length<=cap/\es.length<=maxLen/\(∀ g o,a=some ⟨g,o,none⟩->bE es n g o)/\(es.length≠0->∃ g o,a=some ⟨g,o,none⟩/\I g/\0 < n)
 | .wref l,β,v=>∃ p,β l=some p/\v=p.whole
 | .ref l off len,β,v=>∃ p g o cap,β l=some p/\p.a=some (g,o)/\v = .slice (some ⟨g,o+off,none⟩) len cap/\len<=cap
 | .mref l,β,v=>∃ p g,β l=some p/\p.a=some (g,0)/\v = .map (some g)
 | .ptr l off,β,v=>∃ p g o,β l=some p/\p.a=some (g,o)/\v = .pointer (some ⟨g,o+off,none⟩)
 | .pti l off i n,β,v=>∃ p g o,β l=some p/\p.a=some (g,o)/\v = .pointer (some ⟨g,o+(off+i.toNat*n),none⟩)
 | .dpt l i n off,β,v=>∃ p g o,β l=some p/\p.a=some (g,o)/\v = .pointer (some ⟨g,o+(i*n+off),none⟩)
 | .ep cs off,_,v=>∃ g o,v = .pointer (some ⟨g,o+off,none⟩)/\I g/\cd cs g o
 | .gp g off,_,v=>v = .pointer (some ⟨g,off,none⟩)
 | .gpi g off i n,_,v=>v = .pointer (some ⟨g,off+i.toNat*n,none⟩)
 | .agg cs,β,v=>∃ vs:Array Value,v = .agg vs/\a_ cs β vs.toList
 | .tup cs,β,v=>∃ vs:Array Value,v = .tuple vs/\a_ cs β vs.toList
def a_:List PV->ax->List Value->Prop
 | [],_,[]=>True
 | c::cs,β,v::vs=>c.Is β v/\a_ cs β vs
 | _,_,_=>False
def cd:List PV->Nat->Nat->Prop
 | [],_,_=>True
 | c::cs,g,o=>(∃ v,w.cell? ⟨g,o,none⟩=some v/\c.Is (fun _=>none) v/\v.oneCell'=true)/\cd cs g (o+1)
def bE:List PV->Nat->Nat->Nat->Prop
 | [],_,_,_=>True
 | .agg cs::es,n,g,o=>(cs.length=n/\cd cs g o)/\bE es n g (o+n)
 | e::es,n,g,o=>(n=1/\∃ v,w.cell? ⟨g,o,none⟩=some v/\e.Is (fun _=>none) v/\v.oneCell'=true)/\bE es n g (o+n)
end
end
inductive TM where
 | nil|node (v:Option PV) (l r:TM)
 deriving Inhabited
def TM.get:TM->Nat->Option PV
 | .nil,_=>none
 | .node v l r,n=>bif Nat.beq n 0 then v else bif Nat.beq (n % 2) 1 then l.get ((n - 1) / 2) else r.get ((n - 1) / 2)
def TM.s6 (v:Option PV):Nat->TM->Nat->(TM->Prop)->Prop
 | 0,_,_,_=>False
 | f+1,.nil,n,k=>bif Nat.beq n 0 then k (.node v .nil .nil) else bif Nat.beq (n % 2) 1 then TM.s6 v f .nil ((n - 1) / 2) (fun t=>k (.node none t .nil)) else TM.s6 v f .nil ((n - 1) / 2) (fun t=>k (.node none .nil t))
 | f+1,.node u l r,n,k=>bif Nat.beq n 0 then k (.node v l r) else bif Nat.beq (n % 2) 1 then TM.s6 v f l ((n - 1) / 2) (fun t=>k (.node u t r)) else TM.s6 v f r ((n - 1) / 2) (fun t=>k (.node u l t))
structure aO where
 n:Nat
 t:TM
 st:List ak
 base:Nat
 rl:List Nat
structure Gx where
 cx:Ev.Cx
 k8:List (Nat × List PV)
 bt:List (Nat × Nat)
 ext:List Nat:=[]
 Vm:List Deferred:=[]
def Own (I:Nat->Prop) (β:ax) (st:List ak) (l g:Nat) (fr:Nat × Nat) (b:ak):Prop :=
 (b.m≠.r->fr=(0,0)/\¬ I g/\∀ l' b',l'≠l->st[l']?=some b'->b'.live=true->∀ p g' o',β l'=some p->p.a=some (g',o')->g'≠g)/\(b.m = .r->I g)
def aS (w:World) (I:Nat->Prop) (β:ax) (cs:List PV) (arr:Array Value) (o:Nat):Prop:=∀ i c,cs[i]?=some c->∃ v,arr[o+i]?=some v/\c.Is w I β v/\v.oneCell'=true
def Y9:PV->Lit × DataW Unit
 | .agg [.int _ k,.int _ v]=>(.int .i64 k,.lit (.int .i64 v))
 | _=>(.int .i64 0,.lit (.int .i64 0))
def V2 (cs:List PV):DataW Unit:=cs.foldl (fun D e=>D.put (Y9 e).1 (Y9 e).2) (.map [])
def yY (w:World) (g:Nat) (cs:List PV):Prop:=w.ownsMap Tryz.prog 3 (plainElem Tryz.prog 3) g cs.length (V2 cs)
def fD (I:Nat->Prop) (β:ax) (st:List ak) (w:World) (l:Nat) (b:ak):Prop :=
 ∃ p,β l=some p/\match b.k with
 | .loc=>∃ g o arr ty fr,p.a=some (g,o)/\w.heap[g]?=some (.cells arr ty fr)/\aS w I β b.cs arr o/\Own I β st l g fr b
 | .arr=>∃ g arr fr,p.a=some (g,0)/\w.heap[g]?=some (.cells arr b.ty fr)/\aS w I β b.cs arr 0/\Own I β st l g fr b/\b.cs.length=p.len*b.size/\p.len<=p.cap/\p.cap<=maxLen/\arr.size=p.cap*b.size/\0 < b.size
 | .dyn=>(0 < b.size/\b.cs.length=p.len/\p.len<=p.cap/\p.cap<=maxLen)/\((p.a=none/\p.cap=0)\/∃ g arr fr,p.a=some (g,0)/\w.heap[g]?=some (.cells arr b.ty fr)/\bE w I b.cs b.size g 0/\Own I β st l g fr b/\arr.size=p.cap*b.size)
 | .mp=>∃ g,p.a=some (g,0)/\yY w g b.cs/\Own I β st l g (0,0) b
structure aD (I:Nat->Prop) (β:ax) (st:List ak) (w:World):Prop where
 jI:∀ l,st.length<=l->β l=none
 fp:∀ l b,st[l]?=some b->b.live=true->fD I β st w l b
structure cL (G:Gx) (I:Nat->Prop) (w:World):Prop where
 aw:∀ g,I g->g < w.heap.size
 pd:∀ g cs,(g,cs)∈G.k8->I g/\cd w I cs g 0
 row:∀ g cs,(g,cs)∈G.k8->∃ arr ty fr,w.heap[g]?=some (.cells arr ty fr)/\arr.size=cs.length
structure Rel (G:Gx) (I:Nat->Prop) (β:ax) (s:aO) (a:Act) (w:World):Prop where
 small:s.n<=16777215
 defers:a.defers=G.Vm
 size:a.tmps.size=s.n
 base:s.base<=s.st.length
 get:∀ t x,s.t.get t=some x->∃ v,a.tmps[t]?=some v/\x.Is w I β v
 heap:aD I β s.st w
 aw:cL G I w
def Wr (β:ax) (st:List ak) (g:Nat):Prop:=∃ l b p o,st[l]?=some b/\b.live=true/\b.m = .w/\β l=some p/\p.a=some (g,o)
structure Ext (I:Nat->Prop) (β:ax) (st:List ak) (w:World) (I':Nat->Prop) (aI:ax) (dc:List ak) (w':World):Prop where
 os:w'.os=w.os
 tape:w'.tape=w.tape
 output:w'.output=w.output
 size:w.heap.size<=w'.heap.size
 block:∀ g,g < w.heap.size->¬ Wr β st g->w'.heap[g]?=w.heap[g]?
 wr:∀ g,g < w.heap.size->Wr aI dc g->Wr β st g
 aw:∀ g,I g->I' g
 new:∀ g,g < w.heap.size->I' g->I g\/Wr β st g
inductive X where
 | nO|exit (id:Nat)|ret
def X.e:X->Exit
 | .nO=>.normal
 | .exit id=>.exit id
 | .ret=>.ret
@[irreducible] def Spec (G:Gx) (f:FuncId) (args:List PV) (S:List ak) (rl:List Nat) (K:PV->List ak->Prop):Prop :=
 Ev.ij G.cx.P f/\∀ I β w aZ,aD I β S w->cL G I w->a_ w I args β aZ ->
  Calls G.cx.P f aZ.toArray w fun e w'=>∃ v r S' I' aI,e = .returned v/\K r S'/\r.Is w' I' aI v/\aD I' aI S' w'/\cL G I' w'/\Ext I β S w I' aI S' w'/\S.length<=S'.length/\∀ l,l < S.length->l ∉ rl->aI l=β l
def dI (G:Gx) (s:aO) (I:Nat->Prop) (β:ax) (w:World) (Q:X->aO->Prop) (e:Exit) (a':Act) (w':World):Prop :=
 ∃ x s' I' aI,e=X.e x/\Q x s'/\Rel G I' aI s' a' w'/\Ext I β s.st w I' aI s'.st w'/\s'.base=s.base/\s'.rl=s.rl/\s'.n=s.n/\∀ l,l < s.base->l ∉ s.rl->aI l=β l
@[irreducible] def SW (G:Gx) (c:Code) (Q:X->aO->Prop) (s:aO):Prop :=
 ∀ I β a w,Rel G I β s a w->c.wp G.cx.P (dI G s I β w Q) a w
def cf (G:Gx) (s:aO) (I:Nat->Prop) (β:ax) (w:World) (a:Act) (q:PV->aO->Prop) (v:Value) (w':World):Prop :=
 ∃ x s' I' aI,q x s'/\Rel G I' aI s' a w'/\x.Is w' I' aI v/\Ext I β s.st w I' aI s'.st w'/\s'.base=s.base/\s'.rl=s.rl/\s'.n=s.n/\(∀ l,l < s.base->l ∉ s.rl->aI l=β l)/\∀ l b,s.st[l]?=some b->b.m = .p->aI l=β l
@[irreducible] def pe (G:Gx) (s:aO) (o:Oper) (q:PV->aO->Prop):Prop:=∀ I β a w,Rel G I β s a w->Ev.ou G.cx.P (cf G s I β w a q) ((execOp a.eval o).run G.cx.P w)
mutual
def PV.cr:PV->List Nat
 | .wref l=>[l]|.mref l=>[l]|.ref l _ _=>[l]|.ptr l _=>[l]|.pti l _ _ _=>[l]|.dpt l _ _ _=>[l]
 | .clo _ cs=>c8 cs|.agg cs=>c8 cs|.tup cs=>c8 cs
 | _=>[]
def c8:List PV->List Nat
 | []=>[]
 | c::cs=>c.cr++c8 cs
end
section
variable {w w':World} {I I':Nat->Prop} {β aI:ax}
mutual
theorem PV.Is.mono (hI:∀ g,I g->I' g) (hw:∀ g,I g->w'.heap[g]?=w.heap[g]?):∀ (x:PV) (β aI:ax) (v:Value),(∀ l p,l∈x.cr->β l=some p->aI l=some p)->x.Is w I β v->x.Is w' I' aI v
 | .lit ..,_,_,_,_,h=>by simp only[PV.Is] at h ⊢; exact h
 | .int ..,_,_,_,_,h=>by simp only[PV.Is] at h ⊢; exact h
 | .tt,_,_,_,_,h=>by simp only[PV.Is] at h ⊢; exact h
 | .ff,_,_,_,_,h=>by simp only[PV.Is] at h ⊢; exact h
 | .bool _,_,_,_,_,h=>by simp only[PV.Is] at h ⊢; exact h
 | .val _,_,_,_,_,h=>by simp only[PV.Is] at h ⊢; exact h
 | .nil,_,_,_,_,h=>by simp only[PV.Is] at h ⊢; exact h
 | .gp ..,_,_,_,_,h=>by simp only[PV.Is] at h ⊢; exact h
 | .gpi ..,_,_,_,_,h=>by simp only[PV.Is] at h ⊢; exact h
 | .clo f cs,β,aI,v,hb,h=>by
  simp only[PV.Is] at h ⊢
  obtain⟨kF,rfl,h⟩:=h
  exact⟨kF,rfl,a_.mono hI hw cs β aI _ (fun l p hl=>hb l p (by simpa only [PV.cr] using hl)) h⟩
 | .agg cs,β,aI,v,hb,h=>by
  simp only[PV.Is] at h ⊢
  obtain⟨kF,rfl,h⟩:=h
  exact⟨kF,rfl,a_.mono hI hw cs β aI _ (fun l p hl=>hb l p (by simpa only [PV.cr] using hl)) h⟩
 | .tup cs,β,aI,v,hb,h=>by
  simp only[PV.Is] at h ⊢
  obtain⟨kF,rfl,h⟩:=h
  exact⟨kF,rfl,a_.mono hI hw cs β aI _ (fun l p hl=>hb l p (by simpa only [PV.cr] using hl)) h⟩
 | .sl n es,_,_,v,_,h=>by
  simp only[PV.Is] at h ⊢
  obtain⟨a,cap,rfl,h1,h2,h3,h4⟩:=h
  refine⟨a,cap,rfl,h1,h2,fun g o ha=>?_,fun hn=>?_⟩
  ·by_cases hl:es.length=0
   ·have:es = []:=List.eq_nil_of_length_eq_zero hl
    subst this; simp only[bE]
   ·obtain⟨g',o',dJ,hg,_⟩:=h4 hl
    rw[ha] at dJ
    cases dJ
    exact bE.mono hI hw es n g o (hw g hg) (h3 g o ha)
  ·obtain⟨g,o,ha,hg,hn⟩:=h4 hn
   exact⟨g,o,ha,hI g hg,hn⟩
 | .wref l,β,aI,v,hb,h=>by
  simp only[PV.Is] at h ⊢
  obtain⟨p,hp,h⟩:=h
  exact⟨p,hb l p (by simp[PV.cr]) hp,h⟩
 | .mref l,β,aI,v,hb,h=>by
  simp only[PV.Is] at h ⊢
  obtain⟨p,g,hp,h⟩:=h
  exact⟨p,g,hb l p (by simp[PV.cr]) hp,h⟩
 | .ref l _ _,β,aI,v,hb,h=>by
  simp only[PV.Is] at h ⊢
  obtain⟨p,g,o,c,hp,h⟩:=h
  exact⟨p,g,o,c,hb l p (by simp[PV.cr]) hp,h⟩
 | .ptr l _,β,aI,v,hb,h=>by
  simp only[PV.Is] at h ⊢
  obtain⟨p,g,o,hp,h⟩:=h
  exact⟨p,g,o,hb l p (by simp[PV.cr]) hp,h⟩
 | .pti l _ _ _,β,aI,v,hb,h=>by
  simp only[PV.Is] at h ⊢
  obtain⟨p,g,o,hp,h⟩:=h
  exact⟨p,g,o,hb l p (by simp[PV.cr]) hp,h⟩
 | .dpt l _ _ _,β,aI,v,hb,h=>by
  simp only[PV.Is] at h ⊢
  obtain⟨p,g,o,hp,h⟩:=h
  exact⟨p,g,o,hb l p (by simp[PV.cr]) hp,h⟩
 | .ep cs _,_,_,v,_,h=>by
  simp only[PV.Is] at h ⊢
  obtain⟨g,o,rfl,hg,h⟩:=h
  exact⟨g,o,rfl,hI g hg,cd.mono hI hw cs g o (hw g hg) h⟩
theorem a_.mono (hI:∀ g,I g->I' g) (hw:∀ g,I g->w'.heap[g]?=w.heap[g]?):∀ (cs:List PV) (β aI:ax) (vs:List Value),(∀ l p,l∈c8 cs->β l=some p->aI l=some p)->a_ w I cs β vs->a_ w' I' cs aI vs
 | [],_,_,[],_,_=>by simp only[a_]
 | c::cs,β,aI,v::vs,hb,h=>by
  simp only[a_] at h ⊢
  exact⟨PV.Is.mono hI hw c β aI v (fun l p hl=>hb l p (by simp only[c8,List.mem_append]; exact .inl hl)) h.1,a_.mono hI hw cs β aI vs (fun l p hl=>hb l p (by simp only[c8,List.mem_append]; exact .inr hl)) h.2⟩
 | [],_,_,_::_,_,h=>by simp only[a_] at h
 | _::_,_,_,[],_,h=>by simp only[a_] at h
theorem cd.mono (hI:∀ g,I g->I' g) (hw:∀ g,I g->w'.heap[g]?=w.heap[g]?):∀ (cs:List PV) (g o:Nat),w'.heap[g]?=w.heap[g]?->cd w I cs g o->cd w' I' cs g o
 | [],_,_,_,_=>by simp only[cd]
 | c::cs,g,o,hg,h=>by
  simp only[cd] at h ⊢
  obtain⟨⟨v,h1,h2,h3⟩,h4⟩:=h
  exact⟨⟨v,(World.cell?_of_block (a:=⟨g,o,none⟩) hg).trans h1,PV.Is.mono hI hw c _ _ v (fun _ _ _ h=>h) h2,h3⟩,cd.mono hI hw cs g (o+1) hg h4⟩
theorem bE.mono (hI:∀ g,I g->I' g) (hw:∀ g,I g->w'.heap[g]?=w.heap[g]?):∀ (es:List PV) (n g o:Nat),w'.heap[g]?=w.heap[g]?->bE w I es n g o->bE w' I' es n g o
 | [],_,_,_,_,_=>by simp only[bE]
 | e::es,n,g,o,hg,h=>by
  have one:(n=1/\∃ v,w.cell? ⟨g,o,none⟩=some v/\e.Is w I (fun _=>none) v/\v.oneCell'=true)->(n=1/\∃ v,w'.cell? ⟨g,o,none⟩=some v/\e.Is w' I' (fun _=>none) v/\v.oneCell'=true):=by
   rintro⟨h0,v,h1,h2,h3⟩
   exact⟨h0,v,(World.cell?_of_block (a:=⟨g,o,none⟩) hg).trans h1,PV.Is.mono hI hw e _ _ v (fun _ _ _ h=>h) h2,h3⟩
  cases e with
  | agg cs =>
   simp only[bE] at h ⊢
   exact⟨⟨h.1.1,cd.mono hI hw cs g o hg h.1.2⟩,bE.mono hI hw es n g (o+n) hg h.2⟩
  | _=>simp only[bE] at h ⊢; exact⟨one h.1,bE.mono hI hw es n g (o+n) hg h.2⟩
end
end
def As (w:World) (I:Nat->Prop) (n:Nat) (e:PV) (g o:Nat):Prop:=e.cells.length=n/\cd w I e.cells g o
section
variable {w w':World} {I I':Nat->Prop} {β aI:ax} {G:Gx}
theorem bE.cons {e:PV} {es:List PV} {n g o:Nat}:bE w I (e::es) n g o↔As w I n e g o/\bE w I es n g (o+n):=by
 cases e<;>simp only[bE,As,PV.cells,cd,List.length_cons,List.length_nil,and_true,Nat.zero_add]<;>exact and_congr_left fun _=>and_congr_left fun _=>⟨fun h=>h.symm,fun h=>h.symm⟩
theorem bE.get:∀ {es:List PV} {n g o i:Nat} {e:PV},bE w I es n g o->es[i]?=some e->As w I n e g (o+i*n)
 | [],_,_,_,_,_,_,h=>by simp at h
 | x::es,n,g,o,0,e,h,he=>by
  simp at he; subst he
  simpa using (bE.cons.1 h).1
 | x::es,n,g,o,i+1,e,h,he=>by
  have:=bE.get (i:=i) (bE.cons.1 h).2 (by simpa using he)
  rw[show o+(i+1)*n=o+n+i*n by rw[Nat.succ_mul]; omega]
  exact this
theorem bE.of:∀ {es:List PV} {n g o:Nat},(∀ i e,es[i]?=some e->As w I n e g (o+i*n))->bE w I es n g o
 | [],_,_,_,_=>by simp only[bE]
 | x::es,n,g,o,h=>bE.cons.2 ⟨by simpa using h 0 x rfl,bE.of fun i e he=>by
  have:=h (i+1) e (by simpa using he)
  rw[show o+(i+1)*n=o+n+i*n by rw[Nat.succ_mul]; omega] at this
  exact this⟩
theorem bE.append {es fs:List PV} {n g o:Nat} (h:bE w I es n g o) (h':bE w I fs n g (o+es.length*n)):bE w I (es++fs) n g o:=by
 refine bE.of fun i e he=>?_
 by_cases hi:i < es.length
 ·rw[List.getElem?_append_left hi] at he; exact h.get he
 ·rw[List.getElem?_append_right (by omega)] at he
  have:=h'.get he
  rw[show o+es.length*n+(i - es.length)*n=o+i*n by rw[Nat.sub_mul]; have:es.length*n<=i*n:=Nat.mul_le_mul_right _ (by omega); omega] at this
  exact this
theorem cd.get:∀ {cs:List PV} {g o i:Nat} {c:PV},cd w I cs g o->cs[i]?=some c->∃ v,w.cell? ⟨g,o+i,none⟩=some v/\c.Is w I (fun _=>none) v/\v.oneCell'=true
 | [],_,_,_,_,_,h=>by simp at h
 | x::es,g,o,0,e,h,he=>by
  simp at he; subst he
  simp only[cd] at h
  exact h.1
 | x::es,g,o,i+1,e,h,he=>by
  simp only[cd] at h
  have:=cd.get (i:=i) h.2 (by simpa using he)
  rw[show o+(i+1)=o+1+i by omega]
  exact this
theorem cd.of:∀ {cs:List PV} {g o:Nat},(∀ i c,cs[i]?=some c->∃ v,w.cell? ⟨g,o+i,none⟩=some v/\c.Is w I (fun _=>none) v/\v.oneCell'=true)->cd w I cs g o
 | [],_,_,_=>by simp only[cd]
 | x::es,g,o,h=>by
  simp only[cd]
  refine⟨h 0 x rfl,cd.of fun i c hc=>?_⟩
  have:=h (i+1) c (by simpa using hc)
  rw[show o+(i+1)=o+1+i by omega] at this
  exact this
theorem a_.length:∀ {cs:List PV} {β:ax} {vs:List Value},a_ w I cs β vs->cs.length=vs.length
 | [],_,[],_=>rfl
 | _::cs,_,_::vs,h=>by simp only[a_] at h; simp only[List.length_cons,a_.length h.2]
 | [],_,_::_,h=>by simp only[a_] at h
 | _::_,_,[],h=>by simp only[a_] at h
theorem a_.get:∀ {cs:List PV} {β:ax} {vs:List Value} {i:Nat} {c:PV},a_ w I cs β vs->cs[i]?=some c->∃ v,vs[i]?=some v/\c.Is w I β v
 | [],_,_,_,_,_,h=>by simp at h
 | x::cs,_,v::vs,0,c,h,hc=>by simp at hc; subst hc; simp only[a_] at h; exact⟨v,rfl,h.1⟩
 | x::cs,_,v::vs,i+1,c,h,hc=>by simp only[a_] at h; simpa using a_.get (i:=i) h.2 (by simpa using hc)
 | _::_,_,[],_,_,h,_=>by simp only[a_] at h
theorem a_.of:∀ {cs:List PV} {β:ax} {vs:List Value},cs.length=vs.length->(∀ (i:Nat) (c:PV),cs[i]?=some c->∃ v,vs[i]?=some v/\c.Is w I β v)->a_ w I cs β vs
 | [],_,[],_,_=>by simp only[a_]
 | x::cs,_,v::vs,hl,h=>by
  simp only[a_]
  refine⟨?_,a_.of (by simpa using hl) fun i c hc=>by simpa using h (i+1) c (by simpa using hc)⟩
  obtain⟨u,hu,hi⟩:=h 0 x rfl
  simp at hu; subst hu; exact hi
 | [],_,_::_,h,_=>by simp at h
 | _::_,_,[],h,_=>by simp at h
theorem a_.append {cs ds:List PV} {vs us:List Value} (h:a_ w I cs β vs) (h':a_ w I ds β us):a_ w I (cs++ds) β (vs++us):=by
 refine a_.of (by simp[h.length,h'.length]) fun i c hc=>?_
 have hl:=h.length
 by_cases hi:i < cs.length
 ·rw[List.getElem?_append_left hi] at hc
  rw[List.getElem?_append_left (by omega)]; exact h.get hc
 ·rw[List.getElem?_append_right (by omega)] at hc
  rw[List.getElem?_append_right (by omega),← hl]; exact h'.get hc
theorem a_.take {cs:List PV} {vs:List Value} (n:Nat) (h:a_ w I cs β vs):a_ w I (cs.take n) β (vs.take n):=by
 refine a_.of (by simp[h.length]) fun i c hc=>?_
 rw[List.getElem?_take] at hc ⊢
 split at hc
 ·rename_i hi; rw[if_pos hi]; exact h.get hc
 ·cases hc
theorem a_.drop {cs:List PV} {vs:List Value} (n:Nat) (h:a_ w I cs β vs):a_ w I (cs.drop n) β (vs.drop n):=by
 refine a_.of (by simp[h.length]) fun i c hc=>?_
 rw[List.getElem?_drop] at hc ⊢
 exact h.get hc
theorem a_.one {c:PV} {v:Value} (h:c.Is w I β v):a_ w I [c] β [v]:=by simp only[a_,and_true]; exact h
def PV.jL:PV->Bool
 | .agg _|.tup _=>false
 | _=>true
theorem PV.Is.flat {x:PV} {v:Value} (hx:x.jL=true) (h:x.Is w I β v):Ev.flat v=true:=by
 cases x<;>simp only[PV.Is] at h
 case lit=>subst h; rfl
 case int=>subst h; rfl
 case tt=>subst h; rfl
 case ff=>subst h; rfl
 case bool=>subst h; rfl
 case val=>rw[h.1]; exact h.2
 case clo=>obtain⟨_,rfl,_⟩:=h; rfl
 case nil=>subst h; rfl
 case sl=>obtain⟨_,_,rfl,_⟩:=h; rfl
 case wref=>obtain⟨p,_,rfl⟩:=h; unfold nN.whole; split<;>rfl
 case mref=>obtain⟨_,_,_,_,rfl⟩:=h; rfl
 case ref=>obtain⟨_,_,_,_,_,_,rfl,_⟩:=h; rfl
 case ptr=>obtain⟨_,_,_,_,_,rfl⟩:=h; rfl
 case pti=>obtain⟨_,_,_,_,_,rfl⟩:=h; rfl
 case dpt=>obtain⟨_,_,_,_,_,rfl⟩:=h; rfl
 case ep=>obtain⟨_,_,rfl,_⟩:=h; rfl
 case gp=>subst h; rfl
 case gpi=>subst h; rfl
 case agg=>cases hx
 case tup=>cases hx
theorem lN {v:Value} (h:Ev.flat v=true):v.oneCell'=true:=by cases v<;>simp_all [Ev.flat,Value.oneCell']
theorem PV.Is.jM {x:PV} {v:Value} (hx:∀ vs,x≠.tup vs) (h:x.Is w I β v):a_ w I x.cells β v.cells.toList:=by
 cases x with
 | agg cs=>simp only[PV.Is] at h; obtain⟨vs,rfl,h⟩:=h; exact h
 | tup vs=>exact absurd rfl (hx vs)
 | _=>rw[Ev.o_ (h.flat rfl)]; simp only[PV.cells]; exact a_.one h
theorem aS.mono {cs:List PV} {arr:Array Value} {o:Nat} (hI:∀ g,I g->I' g) (hw:∀ g,I g->w'.heap[g]?=w.heap[g]?) (hb:∀ l p,β l=some p->aI l=some p) (h:aS w I β cs arr o):aS w' I' aI cs arr o :=
 fun i c hc=>let ⟨v,h1,h2,h3⟩:=h i c hc; ⟨v,h1,PV.Is.mono hI hw c β aI v (fun l p _=>hb l p) h2,h3⟩
theorem cw {o:Obj} {b:Nat} (h:w.heap[b]?=some o):b < w.heap.size:=(Array.getElem?_eq_some_iff.1 h).1
theorem Ext.refl {st:List ak}:Ext I β st w I β st w:=⟨rfl,rfl,rfl,Nat.le_refl _,fun _ _ _=>rfl,fun _ _ h=>h,fun _ h=>h,fun _ _ h=>.inl h⟩
theorem Ext.trans {Rs:Nat->Prop} {CS:ax} {st dc Rt:List ak} {yX:World} (h:Ext I β st w I' aI dc w') (k:Ext I' aI dc w' Rs CS Rt yX):Ext I β st w Rs CS Rt yX where
 os:=k.os.trans h.os
 tape:=k.tape.trans h.tape
 output:=k.output.trans h.output
 size:=Nat.le_trans h.size k.size
 block:=fun g hg hn=>(k.block g (Nat.lt_of_lt_of_le hg h.size) fun hw=>hn (h.wr g hg hw)).trans (h.block g hg hn)
 wr:=fun g hg hw=>h.wr g hg (k.wr g (Nat.lt_of_lt_of_le hg h.size) hw)
 aw:=fun g hg=>k.aw g (h.aw g hg)
 new:=fun g hg hi=>(k.new g (Nat.lt_of_lt_of_le hg h.size) hi).elim (fun h1=>h.new g hg h1) fun h1=>.inr (h.wr g hg h1)
theorem Own.mono {st dc:List ak} {l g:Nat} {fr:Nat × Nat} {b:ak} (hI:∀ g,I g->I' g) (hn:¬ I g->¬ I' g)
  (hs:∀ l' b',l'≠l->dc[l']?=some b'->b'.live=true->∀ p g' o',aI l'=some p->p.a=some (g',o')->g'≠g\/∃ k9,st[l']?=some k9/\k9.live=true/\β l'=some p) (h:Own I β st l g fr b):Own I' aI dc l g fr b :=
 ⟨fun hr=>let ⟨h1,h2,h3⟩:=h.1 hr; ⟨h1,hn h2,fun l' b' bZ hb hl p g' o' hp ha=>(hs l' b' bZ hb hl p g' o' hp ha).elim id fun ⟨k9,V3,GQ,dk⟩=>h3 l' k9 bZ V3 GQ p g' o' dk ha⟩,fun hr=>hI g (h.2 hr)⟩
theorem aD.k_ {st:List ak} (h:aD I β st w) {g:Nat} (hg:Wr β st g):¬ I g:=by
 obtain⟨l,b,p,o,h1,h2,h3,h4,h5⟩:=hg
 obtain⟨q,hq,hk⟩:=h.fp l b h1 h2
 rw[h4] at hq
 cases hq
 split at hk
 ·obtain⟨g',o',arr,ty,fr,ha,_,_,ho,_⟩:=hk
  rw[h5] at ha; cases ha; exact (ho (by rw[h3]; decide)).2.1
 ·obtain⟨g',arr,fr,ha,_,_,ho,_⟩:=hk
  rw[h5] at ha; cases ha; exact (ho.1 (by rw[h3]; decide)).2.1
 ·obtain⟨_,hk⟩:=hk
  rcases hk with ⟨ha,_⟩|⟨g',arr,fr,ha,_,_,ho,_⟩
  ·rw[h5] at ha; cases ha
  ·rw[h5] at ha; cases ha; exact (ho.1 (by rw[h3]; decide)).2.1
 ·obtain⟨g',ha,_,ho⟩:=hk
  rw[h5] at ha; cases ha; exact (ho.1 (by rw[h3]; decide)).2.1
theorem cL.ext {st dc:List ak} (h:cL G I w) (hk:aD I β st w) (he:Ext I β st w I' aI dc w') (bG:∀ g,I' g->g < w'.heap.size):cL G I' w' where
 aw:=bG
 pd:=fun g cs hg=>by
  obtain⟨h1,h2⟩:=h.pd g cs hg
  have hw:∀ g,I g->w'.heap[g]?=w.heap[g]?:=fun g hg=>he.block g (h.aw g hg) fun hw=>hk.k_ hw hg
  exact⟨he.aw g h1,cd.mono he.aw hw cs g 0 (hw g h1) h2⟩
 row:=fun g cs hg=>by
  obtain⟨arr,ty,fr,h1,h2⟩:=h.row g cs hg
  have hI:=(h.pd g cs hg).1
  exact⟨arr,ty,fr,(he.block g (h.aw g hI) fun hw=>hk.k_ hw hI).trans h1,h2⟩
theorem Ext.keeps {st dc:List ak} (he:Ext I β st w I' aI dc w') (hk:aD I β st w) (hm:∀ g,I g->g < w.heap.size):∀ g,I g->w'.heap[g]?=w.heap[g]?:=fun g hg=>he.block g (hm g hg) fun hw=>hk.k_ hw hg
end
open Go
def aV {α:Type} (o:Option α) (k:α->Prop):Prop:=match o with
 | some x=>k x
 | none=>False
def la {α:Type}:List α->Nat->(Nat->Prop)->Prop
 | [],n,q=>q n
 | _::l,n,q=>la l (n+1) q
def GR {α β:Type}:List α->Nat->(Nat->Option β)->Option β
 | [],n,q=>q n
 | _::l,n,q=>GR l (n+1) q
theorem yZ {α β:Type}:∀ (l:List α) (n:Nat) (q:Nat->Option β),GR l n q=q (n+l.length)
 | [],_,_=>rfl
 | _::l,n,q=>by rw[GR,yZ l,List.length_cons,show n+1+l.length=n+(l.length+1) by omega]
theorem ki {α:Type}:∀ (l:List α) (n:Nat) (q:Nat->Prop),la l n q=q (n+l.length)
 | [],_,_=>rfl
 | _::l,n,q=>by rw[la,ki l,List.length_cons,show n+1+l.length=n+(l.length+1) by omega]
def ak.Vn {α:Sort _} (b:ak) (q:Nat->α):α:=match b with
 | ⟨_,_,n,_,_,_⟩=>q n
theorem ak.xm {α:Sort _} (b:ak) (q:Nat->α):b.Vn q=q b.size:=by cases b; rfl
def V4 (x:PV) (q:PV->Prop):Prop:=match x with
 | .lit k n=>q (.lit k n)|.int k n=>q (.int k n)|.tt=>q .tt|.ff=>q .ff|.bool p=>q (.bool p)|.val v=>q (.val v)
 | .clo f cs=>q (.clo f cs)|.nil=>q .nil|.sl n es=>q (.sl n es)|.wref l=>q (.wref l)|.mref l=>q (.mref l)|.ref l o n=>q (.ref l o n)
 | .ptr l o=>q (.ptr l o)|.pti l o i n=>q (.pti l o i n)|.dpt l i n o=>q (.dpt l i n o)|.ep cs o=>q (.ep cs o)
 | .gp g o=>q (.gp g o)|.gpi g o i n=>q (.gpi g o i n)|.agg cs=>q (.agg cs)|.tup vs=>q (.tup vs)
def dx:List PV->(List PV->Prop)->Prop
 | [],q=>q []
 | c::cs,q=>V4 c fun c=>dx cs fun cs=>q (c::cs)
def Vo (x:PV) (q:PV->Prop):Prop:=match x with
 | .agg cs=>dx cs fun cs=>q (.agg cs)
 | .clo f cs=>dx cs fun cs=>q (.clo f cs)
 | x=>V4 x q
def xn:List PV->(List PV->Prop)->Prop
 | [],q=>q []
 | c::cs,q=>Vo c fun c=>xn cs fun cs=>q (c::cs)
def fc (x:PV) (q:PV->Prop):Prop:=match x with
 | .tup cs=>xn cs fun cs=>q (.tup cs)
 | x=>Vo x q
def aO.put (s:aO) (dst:Option Tmp) (x:PV) (k:aO->Prop):Prop:=match s with
 | ⟨n,t,st,b,rl⟩=>(match dst with
  | none=>k ⟨n,t,st,b,rl⟩
  | some d=>bif Nat.blt d n then fc x fun x=>t.s6 (some x) 24 d fun t=>k ⟨n,t,st,b,rl⟩ else False)
def aO.store (s:aO) (st:List ak):aO:=match s with
 | ⟨n,t,_,b,rl⟩=>⟨n,t,st,b,rl⟩
def xo (k:Value->(PV->Prop)->Prop):List Value->(List PV->Prop)->Prop
 | [],q=>q []
 | v::vs,q=>k v fun x=>xo k vs fun xs=>q (x::xs)
def gj (v:Value) (q:PV->Prop):Prop:=match v with
 | .int k n=>q (.lit k n)
 | .bool true=>q .tt
 | .bool false=>q .ff
 | .slice none 0 0=>q .nil
 | .func (.func f) ⟨[]⟩ ⟨[]⟩=>q (.clo f [])
 | v=>bif Ev.flat v then q (.val v) else False
def nM (v:Value) (q:PV->Prop):Prop:=match v with
 | .agg ⟨cs⟩=>xo gj cs fun cs=>q (.agg cs)
 | v=>gj v q
def aO.ev (s:aO) (o:Operand) (q:PV->Prop):Prop:=match o with
 | .tmp t=>aV (s.t.get t) q
 | .const v=>nM v q
 | .global g=>q (.gp g 0)
 | .func f=>q (.clo f [])
def PV.num:PV->Option (Bool × IntKind × Int)
 | .lit k n=>some (true,k,n)
 | .int k n=>some (false,k,n)
 | _=>none
def PV.bl:PV->Option Prop
 | .tt=>some True
 | .ff=>some False
 | .bool p=>some p
 | _=>none
def rD (k:IntKind) (z:Int):Prop:=Ev.jE k<=z/\z<=Ev.jb k
def uF (k:IntKind) (z:Int) (q:PV->Prop):Prop:=(rD k z/\q (.int k z))\/q (.int k (k.wrap z))
def Kz (op:BinOp) (k:IntKind) (a b:Int) (q:PV->Prop):Prop:=match op with
 | .add=>uF k (a+b) q
 | .sub=>uF k (a - b) q
 | .mul=>uF k (a*b) q
 | .quo=>b≠0/\((0<=a/\a<=Ev.jb k/\0 < b/\q (.int k (a / b)))\/q (.int k (k.wrap (a.tdiv b))))
 | .rem=>b≠0/\((0<=a/\0 < b/\q (.int k (a % b)))\/q (.int k (a.tmod b)))
 | .and=>q (.int k (bits .and k a b))
 | .or=>q (.int k (bits .or k a b))
 | .xor=>q (.int k (bits .xor k a b))
 | .andNot=>q (.int k (bits .andNot k a b))
 | .eql=>q (.bool (a=b))
 | .neq=>q (.bool (¬ a=b))
 | .lss=>q (.bool (a < b))
 | .leq=>q (.bool (a<=b))
 | .gtr=>q (.bool (b < a))
 | .geq=>q (.bool (b<=a))
 | _=>False
def tf (b:Bool) (q:PV->Prop):Prop:=match b with
 | true=>q .tt
 | false=>q .ff
def KA (op:BinOp) (k:IntKind) (a b:Int) (q:PV->Prop):Prop:=match op with
 | .add=>q (.lit k (k.wrap (a+b)))
 | .sub=>q (.lit k (k.wrap (a - b)))
 | .mul=>q (.lit k (k.wrap (a*b)))
 | .quo=>bif decide (b=0) then False else q (.lit k (k.wrap (a.tdiv b)))
 | .rem=>bif decide (b=0) then False else q (.lit k (a.tmod b))
 | .and=>q (.lit k (bits .and k a b))
 | .or=>q (.lit k (bits .or k a b))
 | .xor=>q (.lit k (bits .xor k a b))
 | .andNot=>q (.lit k (bits .andNot k a b))
 | .eql=>tf (decide (a=b)) q
 | .neq=>tf (!decide (a=b)) q
 | .lss=>tf (decide (a < b)) q
 | .leq=>tf (decide (a<=b)) q
 | .gtr=>tf (decide (b < a)) q
 | .geq=>tf (decide (b<=a)) q
 | _=>False
def shift (op:BinOp) (st:Bool) (k:IntKind) (a b:Int) (q:PV->Prop):Prop:=match op,st with
 | .shl,true=>bif decide (0<=b) then q (.lit k (k.wrap (a*Ev.aG k b))) else False
 | .shr,true=>bif decide (0<=b) then q (.lit k (a / Ev.aG k b)) else False
 | .shl,false=>0<=b/\uF k (a*Ev.aG k b) q
 | .shr,false=>0<=b/\q (.int k (a / Ev.aG k b))
 | _,_=>False
def KB (op:BinOp) (sx sy:Bool) (k k':IntKind) (a b:Int) (q:PV->Prop):Prop:=match op with
 | .shl=>shift .shl (sx && sy) k a b q
 | .shr=>shift .shr (sx && sy) k a b q
 | op=>bif decide (k=k') then (match sx && sy with
   | true=>KA op k a b q
   | false=>Kz op k a b q) else False
def Ru (op:BinOp) (p:Prop) (q:PV->Prop):Prop:=match op with
 | .eql=>q (.bool p)
 | .neq=>q (.bool (¬ p))
 | _=>False
def xp (op:BinOp) (b:Bool) (q:PV->Prop):Prop:=match op with
 | .eql=>tf b q
 | .neq=>tf (!b) q
 | _=>False
def nQ (cx:Ev.Cx) (t:TypeId) (cs:List PV) (off:Nat):Option PV :=
 match Ev.eL cx t,Ev.cU cx t with
 | some true,some n=>if Nat.ble (off+n) cs.length then some (.agg ((cs.drop off).take n)) else none
 | some false,_=>cs[off]?
 | _,_=>none
def part (cx:Ev.Cx) (t:TypeId) (cs:List PV) (off:Nat) (q:PV->Prop):Prop:=aV (nQ cx t cs off) fun x=>Vo x q
def uz (r:TypeId->PV->PV->Option Prop) (cx:Ev.Cx) (xs ys:List PV):List Field->Option Prop
 | []=>some True
 | f::fs=>match nQ cx f.type xs f.offset,nQ cx f.type ys f.offset with
  | some a,some b=>(match r f.type a b,uz r cx xs ys fs with
   | some e,some e'=>some (e/\e')
   | _,_=>none)
  | _,_=>none
def lO (r:TypeId->PV->PV->Option Prop) (cx:Ev.Cx) (t:TypeId) (size:Nat) (xs ys:List PV):Nat->Nat->Option Prop
 | 0,_=>some True
 | n+1,off=>match nQ cx t xs off,nQ cx t ys off with
  | some a,some b=>(match r t a b,lO r cx t size xs ys n (off+size) with
   | some e,some e'=>some (e/\e')
   | _,_=>none)
  | _,_=>none
def Gl (cx:Ev.Cx):Nat->TypeId->PV->PV->Option Prop
 | 0,_,_,_=>none
 | n+1,t,a,b=>match cx.kX t with
  | some (.int _)=>(match a.num,b.num with
   | some (_,k,x),some (_,l,y)=>if decide (k=l) then some (x=y) else none
   | _,_=>none)
  | some .bool=>(match a.bl,b.bl with
   | some p,some q=>some (p↔q)
   | _,_=>none)
  | some (.struct fs)=>(match a,b with
   | .agg xs,.agg ys=>if cx.eqs.any (Nat.beq t) then uz (Gl cx n) cx xs ys fs.toList else none
   | _,_=>none)
  | some (.array len elem)=>(match a,b with
   | .agg xs,.agg ys=>(match Ev.cU cx elem with
    | some c=>lO (Gl cx n) cx elem c xs ys len 0
    | none=>none)
   | _,_=>none)
  | _=>none
def CT (st:List ak) (op:BinOp) (x:PV) (q:PV->Prop):Prop:=match x with
 | .nil=>xp op true q
 | .ref _ _ _=>xp op false q
 | .wref l=>aV st[l]? fun b=>bif b.live then (match b.k with
  | .arr=>xp op false q
  | .dyn=>(b.cs.length≠0/\xp op false q)\/(xp op true q/\xp op false q)
  | _=>False) else False
 | .sl _ es=>(es.length≠0/\xp op false q)\/(xp op true q/\xp op false q)
 | _=>False
def KC (cx:Ev.Cx) (st:List ak) (op:BinOp) (t:TypeId) (x y:PV) (q:PV->Prop):Prop :=
 match x.num with
 | some (sx,k,a)=>aV y.num fun z=>(match z with
  | (sy,k',b)=>KB op sx sy k k' a b q)
 | none=>aV (cx.kX t) fun d=>match d with
  | .bool=>aV x.bl fun p=>aV y.bl fun p'=>Ru op (p↔p') q
  | .string=>(match x,y with
   | .val (.string a),.val (.string b)=>xp op (a.toList == b.toList) q
   | _,_=>False)
  | .slice _=>(match y with
   | .nil=>CT st op x q
   | _=>False)
  | .pointer _=>(match x,y with
   | .val (.pointer none),.val (.pointer none)=>xp op true q
   | .ptr _ _,.val (.pointer none)=>xp op false q
   | _,_=>False)
  | .struct _=>(match x,y with
   | .agg xs,.agg ys=>bif cx.eqs.any (Nat.beq t) then aV (Gl cx 6 t (.agg xs) (.agg ys)) fun p=>Ru op p q else False
   | _,_=>False)
  | .array _ _=>(match x,y with
   | .agg xs,.agg ys=>bif cx.eqs.any (Nat.beq t) then aV (Gl cx 6 t (.agg xs) (.agg ys)) fun p=>Ru op p q else False
   | _,_=>False)
  | _=>False
def V5 (op:UnOp) (x:PV) (q:PV->Prop):Prop:=match op,x with
 | .neg,.lit k a=>q (.lit k (k.wrap (-a)))
 | .neg,.int k a=>uF k (-a) q
 | .xor,.lit k a=>q (.lit k (bits .xor k (if k.signed then -1 else k.max) a))
 | .xor,.int k a=>q (.int k (bits .xor k (if k.signed then -1 else k.max) a))
 | .not,.tt=>q .ff
 | .not,.ff=>q .tt
 | .not,.bool p=>q (.bool (¬ p))
 | _,_=>False
def JE (cx:Ev.Cx) (src dst:TypeId) (x:PV) (q:PV->Prop):Prop :=
 aV (cx.kX src) fun _=>aV (cx.kX dst) fun d=>match d,x with
 | .int k,.lit _ n=>q (.lit k (k.wrap n))
 | .int k,.int _ n=>uF k n q
 | _,_=>False
def mX (cx:Ev.Cx) (t:TypeId) (q:List PV->Prop):Prop:=aV ((Ev.Cm t cx.tt).bind Ev.TI.zero) fun v=>nM v fun x=>q x.cells
def rE (place:Nat->Option (Nat × Nat)):List PV->List (Nat × PV)->Option (List PV)
 | cells,[]=>some cells
 | cells,(i,v)::rest=>match place i with
  | none=>none
  | some (off,size)=>if Nat.beq v.cells.length size && Nat.ble (off+size) cells.length then rE place (cells.take off++v.cells++cells.drop (off+size)) rest else none
def rF (place:Nat->Option (Nat × Nat)):List PV->List (Nat × PV)->(List PV->Prop)->Prop
 | cells,[],q=>q cells
 | cells,(i,v)::rest,q=>match place i with
  | none=>False
  | some (off,size)=>bif Nat.beq v.cells.length size && Nat.ble (off+size) cells.length then dx (cells.take off++v.cells++cells.drop (off+size)) fun cells=>rF place cells rest q else False
def pf (s:aO):List (Nat × Operand)->(List (Nat × PV)->Prop)->Prop
 | [],q=>q []
 | (i,o)::r,q=>s.ev o fun x=>(match x with
  | .tup _=>False
  | x=>pf s r fun l=>q ((i,x)::l))
def kY (cx:Ev.Cx) (fs:List Field):Option (List (Nat × Nat)):=Ev.kY cx fs
def CU (cx:Ev.Cx) (s:aO) (t:TypeId) (ps:List (Nat × Operand)) (q:PV->Prop):Prop :=
 mX cx t fun z=>pf s ps fun l=>aV (cx.kX t) fun d=>match d with
 | .struct fs=>aV (kY cx fs.toList) fun pl=>rF (pl[·]?) z l fun cs=>dx cs fun cs=>q (.agg cs)
 | .array _ elem=>aV (Ev.cU cx elem) fun n=>rF (fun i=>some (i*n,n)) z l fun cs=>dx cs fun cs=>q (.agg cs)
 | _=>False
def pg (cx:Ev.Cx) (t:TypeId) (x:PV) (f:Nat) (q:PV->Prop):Prop :=
 aV (cx.kX t) fun d=>match d with
 | .struct fs=>aV fs.toList[f]? fun fd=>aV (Ev.cU cx fd.type) fun n=>bif Nat.beq n 0 then False else (match x with
  | .ptr l off=>q (.ptr l (off+fd.offset))
  | .pti l off i n=>q (.pti l (off+fd.offset) i n)
  | .dpt l i n off=>q (.dpt l i n (off+fd.offset))
  | .ep cs off=>q (.ep cs (off+fd.offset))
  | .gp g off=>q (.gp g (off+fd.offset))
  | .gpi g off i n=>q (.gpi g (off+fd.offset) i n)
  | _=>False)
 | _=>False
def JF (es:List PV) (i:Int) (q:PV->Prop):Prop :=
 ∃ (α:Type) (l:List α) (enc:α->PV),es=l.map enc/\0<=i/\i < l.length/\∀ x,l[i.toNat]?=some x->q (enc x)
def within (st:Bool) (i:Int) (len:Nat) (f:Nat->Prop) (g:Prop):Prop:=match st with
 | true=>bif decide (0<=i) && decide (i < len) then f i.toNat else False
 | false=>0<=i/\i < len/\g
def JG (st:List ak) (l:Nat):Bool:=match st[l]? with
 | some b=>(match b.k with
  | .dyn=>true
  | _=>false)
 | none=>false
def ph (cx:Ev.Cx) (st:List ak) (t:TypeId) (x i:PV) (q:PV->Prop):Prop :=
 aV i.num fun z=>match z with
 | (Gn,_,n0)=>aV (cx.kX t) fun d=>match d with
 | .array len elem=>aV (Ev.cU cx elem) fun n=>(match x with
  | .ptr l off=>within Gn n0 len (fun j=>q (.ptr l (off+j*n))) (q (.pti l off n0 n))
  | .gp g off=>within Gn n0 len (fun j=>q (.gp g (off+j*n))) (q (.gpi g off n0 n))
  | .ep cs off=>within Gn n0 len (fun j=>q (.ep cs (off+j*n))) False
  | _=>False)
 | .slice elem=>aV (Ev.cU cx elem) fun n=>(match x with
  | .sl m es=>bif Nat.beq m n then JF es n0 fun e=>dx e.cells fun cs=>q (.ep cs 0) else False
  | .ref l off len=>bif JG st l then (bif Nat.beq n 1 then within Gn n0 len (fun j=>q (.dpt l (off+j) n 0)) (q (.dpt l (off+n0.toNat) n 0)) else False) else within Gn n0 len (fun j=>q (.ptr l (off+j*n))) (q (.pti l off n0 n))
  | .wref l=>aV st[l]? fun b=>bif b.live && Nat.beq b.size n && Nat.blt 0 n then (match b.k with
   | .arr=>la b.cs 0 fun m=>within Gn n0 (m / n) (fun j=>q (.ptr l (j*n))) (q (.pti l 0 n0 n))
   | .dyn=>0<=n0/\n0 < b.cs.length/\q (.dpt l n0.toNat n 0)
   | _=>False) else False
  | _=>False)
 | _=>False
def CV (cx:Ev.Cx) (t:TypeId) (x i:PV) (q:PV->Prop):Prop :=
 aV i.num fun z=>match z with
 | (Gn,_,n0)=>aV (cx.kX t) fun d=>match d,x with
 | .array len elem,.agg cs=>aV (Ev.cU cx elem) fun n=>within Gn n0 len (fun j=>part cx elem cs (j*n) q)
   (aV (Ev.eL cx elem) fun ag=>bif !ag && Nat.beq n 1 && Nat.beq cs.length len then ∀ c,cs[n0.toNat]?=some c->q c else False)
 | .string,.val (.string s)=>0<=n0/\n0 < s.size/\q (.int .u8 (((s.data.toList.map fun b=>((b.toNat:Nat):Int))[n0.toNat]?).getD 0))
 | _,_=>False
def GU (s:aO) (o:Option Operand) (d:Bool × Int) (q:Bool × Int->Prop):Prop:=match o with
 | none=>q d
 | some o=>s.ev o fun x=>aV x.num fun z=>(match z with
  | (Gn,_,n)=>q (Gn,n))
def CW (cx:Ev.Cx) (s:aO) (t:TypeId) (x:PV) (lo hi mx:Option Operand) (q:PV->Prop):Prop :=
 aV (cx.kX t) fun d=>match mx,d with
 | none,.array n elem=>aV (Ev.cU cx elem) fun m=>bif Nat.blt 0 m && Nat.blt 0 n then GU s lo (true,0) fun l=>GU s hi (true,n) fun h =>
  (match x with
  | .ptr b off=>bif l.1 && h.1 && decide (0<=l.2) && decide (l.2 < n) && decide (l.2<=h.2) && decide (h.2<=n) then q (.ref b (off+l.2.toNat*m) (h.2 - l.2).toNat) else False
  | _=>False) else False
 | none,.slice elem=>aV (Ev.cU cx elem) fun m=>GU s lo (true,0) fun l =>
  (match x with
  | .nil=>GU s hi (true,0) fun h=>l.2=0/\h.2=0/\q .nil
  | .ref b off len=>GU s hi (true,len) fun h=>bif l.1 && h.1 && decide (0<=l.2) && decide (l.2 < len) && decide (l.2<=h.2) && decide (h.2<=len) then q (.ref b (off+l.2.toNat*m) (h.2 - l.2).toNat) else False
  | .sl n es=>GU s hi (false,es.length) fun h=>bif Nat.beq n m && Nat.blt 0 m then 0<=l.2/\l.2<=h.2/\h.2<=es.length/\q (.sl n ((es.drop l.2.toNat).take (h.2 - l.2).toNat)) else False
  | .wref b=>aV s.st[b]? fun k=>(match k.k with
   | .arr=>bif k.live && Nat.beq k.size m && Nat.blt 0 m then la k.cs 0 fun len=>GU s hi (true,(len / m:Nat)) fun h =>
     (bif l.1 && h.1 && decide (0<=l.2) && decide (l.2 < (len / m:Nat)) && decide (l.2<=h.2) && decide (h.2<=(len / m:Nat)) then q (.ref b (l.2.toNat*m) (h.2 - l.2).toNat) else False) else False
   | .dyn=>bif k.live && Nat.beq k.size m && Nat.blt 0 m then GU s hi (false,k.cs.length) fun h=>∃ i j:Nat,l.2=i/\h.2=j/\i<=j/\j<=k.cs.length/\i < k.cs.length/\q (.ref b (i*m) (j - i)) else False
   | _=>False)
  | _=>False)
 | _,_=>False
def KD (st:List ak) (x:PV) (q:PV->Prop):Prop:=match x with
 | .nil=>q (.lit .i64 0)
 | .sl _ es=>es.length<=maxLen->q (.int .i64 es.length)
 | .ref _ _ len=>q (.lit .i64 len)
 | .wref l=>aV st[l]? fun b=>bif b.live then (match b.k with
  | .arr=>la b.cs 0 fun m=>b.Vn fun n=>q (.lit .i64 (m / n:Nat))
  | .dyn=>b.cs.length<=maxLen->q (.int .i64 b.cs.length)
  | _=>False) else False
 | _=>False
def oQ (f:Int->Int->Int) (x y:PV) (q:PV->Prop):Prop:=match x,y with
 | .lit k a,.lit _ b=>q (.lit k (f a b))
 | .lit k a,.int _ b=>q (.int k (f a b))
 | .int k a,.lit _ b=>q (.int k (f a b))
 | .int k a,.int _ b=>q (.int k (f a b))
 | _,_=>False
def nR (cx:Ev.Cx) (s:aO) (op:Op) (q:PV->Prop):Prop:=match op with
 | .move x|.assign x=>s.ev x q
 | .pick c a b=>s.ev c fun c=>(match c with
  | .tt=>s.ev a q
  | .ff=>s.ev b q
  | .bool p=>(p->s.ev a q)/\(¬ p->s.ev b q)
  | _=>False)
 | .binOp op t x y _=>s.ev x fun x=>s.ev y fun y=>KC cx s.st op t x y q
 | .unOp op _ x=>s.ev x fun x=>V5 op x q
 | .convert src dst x=>s.ev x fun x=>JE cx src dst x q
 | .nilCheck x=>s.ev x fun x=>(match x with
  | .ptr ..|.pti ..|.dpt ..|.ep ..|.gp ..|.gpi ..=>q x
  | _=>False)
 | .build t ps=>CU cx s t ps.toList q
 | .fieldAddr t x f=>s.ev x fun x=>pg cx t x f q
 | .field t x f=>aV (cx.kX t) fun d=>s.ev x fun x=>(match d,x with
  | .struct fs,.agg cs=>aV fs.toList[f]? fun fd=>part cx fd.type cs fd.offset q
  | _,_=>False)
 | .indexAddr t x i=>s.ev x fun x=>s.ev i fun i=>ph cx s.st t x i q
 | .index t x i=>s.ev x fun x=>s.ev i fun i=>CV cx t x i q
 | .extract x i=>s.ev x fun x=>(match x with
  | .tup l=>aV l[i]? q
  | _=>False)
 | .slice t x lo hi mx=>s.ev x fun x=>CW cx s t x lo hi mx q
 | .makeFunc (.func f) ⟨[]⟩ ⟨kF⟩=>lP s kF fun cs=>q (.clo f cs)
 | .call { callee:=.builtin .len,args:=⟨[x]⟩,argTypes:=⟨[t]⟩ }=>aV (cx.kX t) fun d=>s.ev x fun x=>(match d with
  | .slice _=>KD s.st x q
  | .array n _=>q (.lit .i64 n)
  | .string=>(match x with
   | .val (.string b)=>q (.lit .i64 b.size)
   | _=>False)
  | _=>False)
 | .call { callee:=.builtin .min,args:=⟨[x,y]⟩,argTypes:=_ }=>s.ev x fun x=>s.ev y fun y=>oQ min x y q
 | .call { callee:=.builtin .max,args:=⟨[x,y]⟩,argTypes:=_ }=>s.ev x fun x=>s.ev y fun y=>oQ max x y q
 | _=>False
where lP (s:aO):List Operand->(List PV->Prop)->Prop
 | [],q=>q []
 | o::os,q=>s.ev o fun x=>(match x with
  | .tup _|.agg _=>False
  | x=>lP s os fun xs=>q (x::xs))
def s7:List ak->Nat->ak->(List ak->Prop)->Prop
 | [],_,_,_=>False
 | _::l,0,b,q=>q (b::l)
 | a::l,n+1,b,q=>s7 l n b fun l=>q (a::l)
def xq:List ak->ak->(List ak->Prop)->Prop
 | [],b,q=>q [b]
 | a::l,b,q=>xq l b fun l=>q (a::l)
def ak.mem (b:ak):Bool:=b.live && (match b.k with
 | .dyn=>false
 | .mp=>false
 | _=>true)
def Rv (k8:List (Nat × List PV)) (g:Nat):Option (List PV):=Ev.Cm g k8
def rG (G:Gx) (st:List ak) (t:TypeId) (x:PV) (q:PV->Prop):Prop:=match x with
 | .ptr l off=>aV st[l]? fun b=>bif b.mem then part G.cx t b.cs off q else False
 | .pti l off i n=>aV st[l]? fun b=>bif b.mem then (∃ m:Nat,i=m/\part G.cx t b.cs (off+m*n) q)\/(Ev.eL G.cx t=some false/\0<=i/\off+i.toNat*n < b.cs.length/\∀ c,b.cs[off+i.toNat*n]?=some c->q c) else False
 | .dpt l i n off=>aV st[l]? fun b=>(match b.k with
  | .dyn=>bif b.live && Nat.beq b.size n then ∃ (α:Type) (l:List α) (enc:α->PV),b.cs=l.map enc/\i < l.length/\∀ x,l[i]?=some x->part G.cx t (enc x).cells off q else False
  | _=>False)
 | .ep cs off=>part G.cx t cs off q
 | .gp g off=>aV (Rv G.k8 g) fun cs=>part G.cx t cs off q
 | .gpi g off i n=>aV (Rv G.k8 g) fun cs=>(∃ m:Nat,i=m/\part G.cx t cs (off+m*n) q)\/(Ev.eL G.cx t=some false/\0<=i/\off+i.toNat*n < cs.length/\∀ c,cs[off+i.toNat*n]?=some c->q c)
 | _=>False
def PV.fp:PV->Option Nat
 | .ptr l _=>some l
 | .pti l _ _ _=>some l
 | .dpt l _ _ _=>some l
 | _=>none
def CX (cs new:List PV) (off:Nat):Option (List PV):=if Nat.ble (off+new.length) cs.length then some (cs.take off++new++cs.drop (off+new.length)) else none
def PV.rH:PV->Bool
 | .wref _|.mref _|.ref ..|.ptr ..|.pti ..|.dpt ..|.clo ..|.agg _|.tup _=>false
 | _=>true
def PV.elem:PV->Bool
 | .agg cs=>cs.all PV.rH
 | x=>x.rH
def mix (p:Prop) [Decidable p]:PV->PV->Option PV
 | .int k a,.int l b=>if decide (k=l) then some (.int k (if p then a else b)) else none
 | .int k a,.lit l b=>if decide (k=l) then some (.int k (if p then a else b)) else none
 | .lit k a,.int l b=>if decide (k=l) then some (.int k (if p then a else b)) else none
 | .lit k a,.lit l b=>if decide (k=l) then some (.int k (if p then a else b)) else none
 | _,_=>none
def lQ (i:Int) (v:PV) (off m k:Nat):Nat->List PV->Option (List PV)
 | _,[]=>some []
 | p,c::cs=>bif Nat.ble off p && Nat.blt p (off+k*m) && Nat.beq ((p - off) % m) 0 then (match mix (i=(((p - off) / m:Nat):Int)) v c,lQ i v off m k (p+1) cs with
   | some x,some l=>some (x::l)
   | _,_=>none) else (match lQ i v off m k (p+1) cs with
   | some l=>some (c::l)
   | none=>none)
def ak.eO (b:ak) (cs:List PV):ak:=match b with
 | ⟨k,ty,n,m,live,_⟩=>⟨k,ty,n,m,live,cs⟩
def ak.can (b:ak):Bool:=b.live && (match b.m with
 | .w=>true
 | _=>false)
def PV.norm (x:PV):PV:=match x with
 | .lit k n=>.int k n
 | x=>x
def CY (G:Gx) (st:List ak) (t:TypeId) (x v:PV) (q:List ak->Prop):Prop :=
 aV (Ev.cU G.cx t) fun n=>bif Nat.beq v.cells.length n && Nat.blt 0 n && v.cells.all PV.jL then (match v with
 | .tup _=>False
 | v=>(match x with
  | .ptr l off=>aV st[l]? fun b=>bif b.mem && b.can then aV (CX b.cs v.cells off) fun cs=>dx cs fun cs=>s7 st l (b.eO cs) q else False
  | .dpt l i m off=>aV st[l]? fun b=>(match b.k with
   | .dyn=>bif b.can && Nat.beq b.size n && Nat.beq m n && Nat.beq off 0 && v.elem then i < b.cs.length/\s7 st l (b.eO (b.cs.set i v.norm)) q else False
   | _=>False)
  | .pti l off i m=>aV st[l]? fun b=>bif b.mem && b.can && Nat.beq n 1 && Nat.blt 0 m then ∃ k:Nat,0<=i/\i < k/\aV (lQ i v off m k 0 b.cs) fun cs=>dx cs fun cs=>off+i.toNat*m < b.cs.length/\s7 st l (b.eO cs) q else False
  | _=>False)) else False
def KE (s:aO) (b:ak) (q:PV->aO->Prop):Prop:=la s.st 0 fun l=>xq s.st b fun st=>q (.ptr l 0) (s.store st)
def nS (s:aO) (b:ak) (q:PV->aO->Prop):Prop:=la s.st 0 fun l=>xq s.st b fun st=>q (.wref l) (s.store st)
def chunk (ag:Bool) (n:Nat):Nat->List PV->List PV
 | 0,_=>[]
 | k+1,cs=>(if ag then .agg (cs.take n) else (match cs with
  | c::_=>c
  | []=>.nil))::chunk ag n k (cs.drop n)
inductive Src where
 | stat (cs:List PV)|told (es:List PV)
def KF (cx:Ev.Cx) (st:List ak) (n:Nat) (x:PV) (q:Src->Prop):Prop:=match x with
 | .nil=>q (.told [])
 | .sl m es=>bif Nat.beq m n then q (.told es) else False
 | .ref l off len=>aV st[l]? fun b=>bif b.mem && Nat.ble (off+len*n) b.cs.length then dx ((b.cs.drop off).take (len*n)) fun cs=>q (.stat cs) else False
 | .wref l=>aV st[l]? fun b=>bif b.live && Nat.beq b.size n then (match b.k with
  | .arr=>q (.stat b.cs)
  | .dyn=>q (.told b.cs)
  | _=>False) else False
 | _=>False
def dZ (ag:Bool) (n:Nat):Src->Option (List PV)
 | .told es=>some es
 | .stat cs=>GR cs 0 fun m=>let l:=chunk ag n (m / n) (cs.map PV.norm)
  if l.all PV.elem then some l else none
def CZ (st:List ak) (l:Nat) (q:List ak->Prop):Prop:=aV st[l]? fun b=>match b with
 | ⟨k,ty,n,m,_,cs⟩=>s7 st l ⟨k,ty,n,m,false,cs⟩ q
def C0 (st:List ak) (elem:TypeId) (n:Nat) (x:PV) (q:Src->List ak->Prop):Prop:=match x with
 | .nil=>q (.stat []) st
 | .wref l=>aV st[l]? fun b=>bif b.can && Nat.beq b.size n && Nat.beq b.ty elem then (match b.k with
  | .arr=>CZ st l (q (.stat b.cs))
  | .dyn=>CZ st l (q (.told b.cs))
  | _=>False) else False
 | _=>False
def y4 (G:Gx) (s:aO) (t:TypeId) (d x:PV) (q:PV->aO->Prop):Prop :=
 aV (G.cx.kX t) fun td=>match td with
 | .slice elem=>aV (Ev.cU G.cx elem) fun n=>aV (Ev.eL G.cx elem) fun ag=>aV (Ev.Cm elem G.bt) fun bm=>mX G.cx elem fun z=>bif Nat.blt 0 n && Nat.beq z.length n && (ag || Nat.beq n 1) then
  KF G.cx s.st n x fun src=>C0 s.st elem n d fun dst st=>(match dst,src with
  | .stat cs,.stat ds=>la cs 0 fun lc=>la ds 0 fun ld=>bif Nat.blt 0 ld && Nat.beq (ld % n) 0 && Nat.ble ((lc+ld)*bm) 140737488355328 && Nat.ble (lc+ld) maxLen then dx (cs++ds) fun cs=>nS (s.store st) ⟨.arr,elem,n,.w,true,cs⟩ q else False
  | dst,src=>aV (dZ ag n dst) fun es=>aV (dZ ag n src) fun fs=>es.length+fs.length<=maxLen/\(es.length+fs.length)*bm<=140737488355328/\nS (s.store st) ⟨.dyn,elem,n,.w,true,es++fs⟩ q) else False
 | _=>False
def y6 (s:aO):List Operand->(List PV->Prop)->Prop
 | [],q=>q []
 | o::os,q=>s.ev o fun x=>y6 s os fun xs=>q (x::xs)
def PV.leads (rl:List Nat) (x:PV):Bool:=x.cr.any fun l=>rl.any (Nat.beq l)
def TM.clear (rl:List Nat):TM->TM
 | .nil=>.nil
 | .node v l r=>.node (match v with
  | some x=>if x.leads rl then none else some x
  | none=>none) (l.clear rl) (r.clear rl)
def xr (rl:List Nat) (t:TM) (q:TM->Prop):Prop:=match rl with
 | []=>q t
 | rl=>q (t.clear rl)
def C1 (G:Gx) (s:aO) (f:FuncId) (args:List PV) (q:PV->aO->Prop):Prop :=
 match s with
 | ⟨n,t,st,b,V6⟩=>∃ rl:List Nat,(∀ l∈rl,(b<=l\/l∈V6)/\∀ b,st[l]?=some b->b.m≠.p)/\Spec G f args st rl fun r S=>xr rl t fun t=>q r ⟨n,t,S,b,V6⟩
def pop (G:Gx) (s:aO) (o:Oper) (q:PV->aO->Prop):Prop:=match o.op with
 | .load t a=>s.ev a fun a=>rG G s.st t a fun v=>q v s
 | .store t a x=>s.ev a fun a=>s.ev x fun x=>CY G s.st t a x fun st=>q (.tup []) (s.store st)
 | .alloc t=>mX G.cx t fun z=>dx z fun z=>bif z.all PV.jL then KE s ⟨.loc,t,1,.w,true,z⟩ q else False
 | .box t x=>s.ev x fun x=>(match x with
  | .tup _=>False
  | x=>bif x.cells.all PV.jL then dx x.cells fun cs=>KE s ⟨.loc,t,1,.w,true,cs⟩ q else False)
 | .buildSlice t len ps=>aV (G.cx.kX t) fun d=>(match d with
  | .slice elem=>aV (Ev.cU G.cx elem) fun n=>mX G.cx elem fun z=>pf s ps.toList fun l =>
   bif Nat.beq z.length n && Nat.ble (len*n) 16777216 && Nat.blt 0 n then rF (fun i=>some (i*n,n)) ((List.replicate len z).flatten) l fun cs=>dx cs fun cs=>bif cs.all PV.jL && Nat.beq cs.length (len*n) && Nat.ble len maxLen then nS s ⟨.arr,elem,n,.w,true,cs⟩ q else False else False
  | _=>False)
 | .call { callee:=.value x,args:=⟨QK⟩,argTypes:=_ }=>s.ev x fun x=>(match x with
  | .clo f kF=>bif G.ext.any (Nat.beq f) then pe G s o q else y6 s QK fun l=>C1 G s f (l++kF) q
  | _=>False)
 | .call { callee:=.builtin .append,args:=⟨[d,x]⟩,argTypes:=⟨[t,t']⟩ }=>bif Nat.beq t t' then s.ev d fun d=>s.ev x fun x=>y4 G s t d x q else False
 | .makeSlice _ _ _=>pe G s o q
 | .makeMap _ _=>pe G s o q
 | .mapUpdate _ _ _ _=>pe G s o q
 | .lookup _ _ _ _=>pe G s o q
 | .call { callee:=.builtin .copy,args:=_,argTypes:=_ }=>pe G s o q
 | .call { callee:=.builtin .clear,args:=_,argTypes:=_ }=>pe G s o q
 | .convert src dst x=>bif Nat.beq dst 9 then pe G s o q else nR G.cx s (.convert src dst x) fun v=>q v s
 | op=>nR G.cx s op fun v=>q v s
def mY (ops:List Oper) (s:aO) (o:Oper) (run skip:aO->Prop):Prop:=match o.guard with
 | none=>run s
 | some (j,want)=>aV ((ops[j]?).bind (·.dst)) fun t=>aV (s.t.get t) fun x=>(match x with
  | .tt=>bif want then run s else skip s
  | .ff=>bif want then skip s else run s
  | .bool p=>(p->s.put (some t) .tt (bif want then run else skip))/\(¬ p->s.put (some t) .ff (bif want then skip else run))
  | .tup []=>skip s
  | _=>False)
def GV (G:Gx) (ops:List Oper) (Q:X->aO->Prop):List Oper->aO->Prop
 | [],s=>Q .nO s
 | o::rest,s=>mY ops s o (fun s=>pop G s o fun v s=>s.put o.dst v (GV G ops Q rest)) (fun s=>s.put o.dst (.tup []) (GV G ops Q rest))
end Go.Proofs.YtnbhdacpogplgaaGreatDoor.Pw

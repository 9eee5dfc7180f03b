/- What this claim is proved with: no condition. -/
import Derived.Test.YtbnoodjnpooocaaGreatDoorNw1
import Derived.Deep.AppendLies
import Derived.Test.YtbnoodjnpooocaaGreatDoorChecked
import Derived.Maps.Own
set_option linter.unusedVariables false
set_option linter.unusedSimpArgs false
namespace Go.Proofs.YtbnoodjnpooocaaGreatDoor.Pw
open Go Go.RowKit
inductive PV where
 | lit (k:IntKind) (n:Int)|int (k:IntKind) (n:Int)
 | tt|ff|bool (p:Prop)
 | val (v:Value)
 | clo (f:FuncId) (cs:List PV)
 | mth (f:FuncId) (cs:List PV)
 | nil|sl (n:Nat) (es:List PV)
 | wref (l:Nat)|ref (l off len:Nat)
 | mref (l:Nat)
 | ptr (l off:Nat)|pti (l off:Nat) (i:Int) (size:Nat)|dpt (l i size off:Nat)
 | ep (cs:List PV) (off:Nat)|gp (g off:Nat)|gpi (g off:Nat) (i:Int) (size:Nat)
 | agg (cs:List PV)|tup (vs:List PV)
 deriving Inhabited
def PV.cells:PV->List PV
 | .agg cs=>cs
 | v=>[v]
inductive BK where
 | loc|arr|dyn|mp|mx
 deriving DecidableEq
inductive Md where
 | w|p|r
 deriving DecidableEq
def BK.vp:BK->Bool
 | .loc|.arr|.mx=>true
 | _=>false
structure aj where
 k:BK
 ty:TypeId
 size:Nat
 m:Md
 live:Bool
 cs:List PV
structure na where
 a:Option (Nat × Nat)
 len:Nat
 cap:Nat
def na.whole (p:na):Value:=match p.a with
 | none=>.slice none 0 0
 | some (g,o)=>.slice (some ⟨g,o,none⟩) p.len p.cap
abbrev an:=Nat->Option na
open Classical in
noncomputable def pb (p:Prop):Bool:=decide p
theorem cv {p:Prop} (h:p):pb p=true:=@decide_eq_true p (Classical.propDecidable p) h
theorem bT {p:Prop} (h:¬ p):pb p=false:=@decide_eq_false p (Classical.propDecidable p) h
theorem HB {p:Prop} [Decidable p]:pb p=decide p:=by
 by_cases h:p
 ·rw[cv h,decide_eq_true h]
 ·rw[bT h,decide_eq_false h]
section
variable (w:World) (I:Nat->Prop)
mutual
def PV.Is:PV->an->Value->Prop
 | .lit k n,_,v=>v = .int k n
 | .int k n,_,v=>v = .int k n
 | .tt,_,v=>v = .bool true
 | .ff,_,v=>v = .bool false
 | .bool p,_,v=>v = .bool (pb p)
 | .val x,_,v=>v=x/\Ev.flat x=true
 | .clo f cs,β,v=>∃ eB:Array Value,v = .func (.func f) #[] eB/\bg cs β eB.toList
 | .mth f cs,β,v=>∃ eB:Array Value,v = .func (.func f) eB #[]/\bg cs β eB.toList
 | .nil,_,v=>v = .slice none 0 0
 | .sl n es,_,v=>∃ a cap,v = .slice a es.length cap/\es.length<=cap/\es.length<=maxLen/\(∀ g o,a=some ⟨g,o,none⟩->ca es n g o)/\(es.length≠0->∃ g o,a=some ⟨g,o,none⟩/\I g/\0 < n)
 | .wref l,β,v=>∃ p,β l=some p/\v=p.whole
 | .ref l off len,β,v=>∃ p g o cap,β l=some p/\p.a=some (g,o)/\v = .slice (some ⟨g,o+off,none⟩) len cap/\len<=cap
 | .mref l,β,v=>∃ p g,β l=some p/\p.a=some (g,0)/\v = .map (some g)
 | .ptr l off,β,v=>∃ p g o,β l=some p/\p.a=some (g,o)/\v = .pointer (some ⟨g,o+off,none⟩)
 | .pti l off i n,β,v=>∃ p g o,β l=some p/\p.a=some (g,o)/\v = .pointer (some ⟨g,o+(off+i.toNat*n),none⟩)
 | .dpt l i n off,β,v=>∃ p g o,β l=some p/\p.a=some (g,o)/\v = .pointer (some ⟨g,o+(i*n+off),none⟩)
 | .ep cs off,_,v=>∃ g o,v = .pointer (some ⟨g,o+off,none⟩)/\I g/\cL cs g o
 | .gp g off,_,v=>v = .pointer (some ⟨g,off,none⟩)
 | .gpi g off i n,_,v=>v = .pointer (some ⟨g,off+i.toNat*n,none⟩)
 | .agg cs,β,v=>∃ vs:Array Value,v = .agg vs/\bg cs β vs.toList
 | .tup cs,β,v=>∃ vs:Array Value,v = .tuple vs/\bg cs β vs.toList
def bg:List PV->an->List Value->Prop
 | [],_,[]=>True
 | c::cs,β,v::vs=>c.Is β v/\bg cs β vs
 | _,_,_=>False
def cL:List PV->Nat->Nat->Prop
 | [],_,_=>True
 | c::cs,g,o=>(∃ v,w.cell? ⟨g,o,none⟩=some v/\c.Is (fun _=>none) v/\v.oneCell'=true)/\cL cs g (o+1)
def ca:List PV->Nat->Nat->Nat->Prop
 | [],_,_,_=>True
 | .agg cs::es,n,g,o=>(cs.length=n/\cL cs g o)/\ca es n g (o+n)
 | e::es,n,g,o=>(n=1/\∃ v,w.cell? ⟨g,o,none⟩=some v/\e.Is (fun _=>none) v/\v.oneCell'=true)/\ca es n g (o+n)
end
end
inductive TM where
 | nil|node (v:Option PV) (l r:TM)
 deriving Inhabited
def TM.get:TM->Nat->Option PV
 | .nil,_=>none
 | .node v l r,n=>bif Nat.beq n 0 then v else bif Nat.beq (n % 2) 1 then l.get ((n - 1) / 2) else r.get ((n - 1) / 2)
def TM.nc (v:Option PV):Nat->TM->Nat->(TM->Prop)->Prop
 | 0,_,_,_=>False
 | f+1,.nil,n,k=>bif Nat.beq n 0 then k (.node v .nil .nil) else bif Nat.beq (n % 2) 1 then TM.nc v f .nil ((n - 1) / 2) (fun t=>k (.node none t .nil)) else TM.nc v f .nil ((n - 1) / 2) (fun t=>k (.node none .nil t))
 | f+1,.node u l r,n,k=>bif Nat.beq n 0 then k (.node v l r) else bif Nat.beq (n % 2) 1 then TM.nc v f l ((n - 1) / 2) (fun t=>k (.node u t r)) else TM.nc v f r ((n - 1) / 2) (fun t=>k (.node u l t))
structure aD where
 n:Nat
 t:TM
 st:List aj
 base:Nat
 rl:List Nat
structure Gx where
 cx:Ev.Cx
 jl:List (Nat × List PV)
 bt:List (Nat × Nat)
 ext:List Nat:=[]
 Bn:List Deferred:=[]
def Own (I:Nat->Prop) (β:an) (st:List aj) (l g:Nat) (fr:Nat × Nat) (b:aj):Prop :=
 (b.m≠.r->fr=(0,0)/\¬ I g/\∀ l' b',l'≠l->st[l']?=some b'->b'.live=true->∀ p g' o',β l'=some p->p.a=some (g',o')->g'≠g)/\(b.m = .r->I g)
def bj (w:World) (I:Nat->Prop) (β:an) (cs:List PV) (arr:Array Value) (o:Nat):Prop:=∀ i c,cs[i]?=some c->∃ v,arr[o+i]?=some v/\c.Is w I β v/\v.oneCell'=true
def kvD:PV->Lit × DataW Unit
 | .agg [.int _ k,.int _ v]=>(.int .i64 k,.lit (.int .i64 v))
 | _=>(.int .i64 0,.lit (.int .i64 0))
def mapD (cs:List PV):DataW Unit:=cs.foldl (fun D e=>D.put (kvD e).1 (kvD e).2) (.map [])
def C5 (w:World) (g:Nat) (cs:List PV):Prop:=w.ownsMap Tryz.prog 3 (plainElem Tryz.prog 3) g cs.length (mapD cs)
def mxL (es:Array MapEntry):List Value:=es.toList.flatMap fun e=>[e.key,e.val]
def fF (I:Nat->Prop) (β:an) (st:List aj) (w:World) (l:Nat) (b:aj):Prop :=
 ∃ p,β l=some p/\match b.k with
 | .loc=>∃ g o arr ty fr,p.a=some (g,o)/\w.heap[g]?=some (.cells arr ty fr)/\bj w I β b.cs arr o/\Own I β st l g fr b
 | .arr=>∃ g arr fr,p.a=some (g,0)/\w.heap[g]?=some (.cells arr b.ty fr)/\bj w I β b.cs arr 0/\Own I β st l g fr b/\b.cs.length=p.len*b.size/\p.len<=p.cap/\p.cap<=maxLen/\arr.size=p.cap*b.size/\0 < b.size
 | .dyn=>(0 < b.size/\b.cs.length=p.len/\p.len<=p.cap/\p.cap<=maxLen)/\((p.a=none/\p.cap=0)\/∃ g arr fr,p.a=some (g,0)/\w.heap[g]?=some (.cells arr b.ty fr)/\ca w I b.cs b.size g 0/\Own I β st l g fr b/\arr.size=p.cap*b.size)
 | .mp=>∃ g,p.a=some (g,0)/\C5 w g b.cs/\Own I β st l g (0,0) b
 | .mx=>∃ g es clock,p.a=some (g,0)/\w.heap[g]?=some (.map es clock)/\bj w I β b.cs (mxL es).toArray 0/\Own I β st l g (0,0) b/\b.cs.length=(mxL es).length
structure aC (I:Nat->Prop) (β:an) (st:List aj) (w:World):Prop where
 p8:∀ l,st.length<=l->β l=none
 dX:∀ l b,st[l]?=some b->b.live=true->fF I β st w l b
structure cE (G:Gx) (I:Nat->Prop) (w:World):Prop where
 au:∀ g,I g->g < w.heap.size
 lV:∀ g cs,(g,cs)∈G.jl->I g/\cL w I cs g 0
 row:∀ g cs,(g,cs)∈G.jl->∃ arr ty fr,w.heap[g]?=some (.cells arr ty fr)/\arr.size=cs.length
structure Rel (G:Gx) (I:Nat->Prop) (β:an) (s:aD) (a:Act) (w:World):Prop where
 small:s.n<=16777215
 defers:a.defers=G.Bn
 size:a.tmps.size=s.n
 base:s.base<=s.st.length
 get:∀ t x,s.t.get t=some x->∃ v,a.tmps[t]?=some v/\x.Is w I β v
 heap:aC I β s.st w
 au:cE G I w
def Wr (β:an) (st:List aj) (g:Nat):Prop:=∃ l b p o,st[l]?=some b/\b.live=true/\b.m = .w/\β l=some p/\p.a=some (g,o)
structure Ext (I:Nat->Prop) (β:an) (st:List aj) (w:World) (I':Nat->Prop) (ay:an) (dY:List aj) (w':World):Prop where
 os:w'.os=w.os
 tape:w'.tape=w.tape
 output:w'.output=w.output
 size:w.heap.size<=w'.heap.size
 block:∀ g,g < w.heap.size->¬ Wr β st g->w'.heap[g]?=w.heap[g]?
 wr:∀ g,g < w.heap.size->Wr ay dY g->Wr β st g
 au:∀ g,I g->I' g
 new:∀ g,g < w.heap.size->I' g->I g\/Wr β st g
inductive X where
 | cA|exit (id:Nat)|ret
def X.e:X->Exit
 | .cA=>.normal
 | .exit id=>.exit id
 | .ret=>.ret
@[irreducible] def Spec (G:Gx) (f:FuncId) (args:List PV) (S:List aj) (rl:List Nat) (K:PV->List aj->Prop):Prop :=
 Ev.gz G.cx.P f/\∀ I β w vals,aC I β S w->cE G I w->bg w I args β vals ->
  Calls G.cx.P f vals.toArray w fun e w'=>∃ v r S' I' ay,e = .returned v/\K r S'/\r.Is w' I' ay v/\aC I' ay S' w'/\cE G I' w'/\Ext I β S w I' ay S' w'/\S.length<=S'.length/\∀ l,l < S.length->l ∉ rl->ay l=β l
def bA (G:Gx) (s:aD) (I:Nat->Prop) (β:an) (w:World) (Q:X->aD->Prop) (e:Exit) (a':Act) (w':World):Prop :=
 ∃ x s' I' ay,e=X.e x/\Q x s'/\Rel G I' ay s' a' w'/\Ext I β s.st w I' ay s'.st w'/\s'.base=s.base/\s'.rl=s.rl/\s'.n=s.n/\∀ l,l < s.base->l ∉ s.rl->ay l=β l
@[irreducible] def SW (G:Gx) (c:Code) (Q:X->aD->Prop) (s:aD):Prop :=
 ∀ I β a w,Rel G I β s a w->c.wp G.cx.P (bA G s I β w Q) a w
def bF (G:Gx) (s:aD) (I:Nat->Prop) (β:an) (w:World) (a:Act) (q:PV->aD->Prop) (v:Value) (w':World):Prop :=
 ∃ x s' I' ay,q x s'/\Rel G I' ay s' a w'/\x.Is w' I' ay v/\Ext I β s.st w I' ay s'.st w'/\s'.base=s.base/\s'.rl=s.rl/\s'.n=s.n/\(∀ l,l < s.base->l ∉ s.rl->ay l=β l)/\∀ l b,s.st[l]?=some b->b.m = .p->ay l=β l
@[irreducible] def fO (G:Gx) (s:aD) (o:Oper) (q:PV->aD->Prop):Prop:=∀ I β a w,Rel G I β s a w->Ev.lU G.cx.P (bF G s I β w a q) ((execOp a.eval o).run G.cx.P w)
mutual
def PV.df:PV->List Nat
 | .wref l=>[l]|.mref l=>[l]|.ref l _ _=>[l]|.ptr l _=>[l]|.pti l _ _ _=>[l]|.dpt l _ _ _=>[l]
 | .clo _ cs=>dp cs|.mth _ cs=>dp cs|.agg cs=>dp cs|.tup cs=>dp cs
 | _=>[]
def dp:List PV->List Nat
 | []=>[]
 | c::cs=>c.df++dp cs
end
section
variable {w w':World} {I I':Nat->Prop} {β ay:an}
mutual
theorem PV.Is.mono (hI:∀ g,I g->I' g) (hw:∀ g,I g->w'.heap[g]?=w.heap[g]?):∀ (x:PV) (β ay:an) (v:Value),(∀ l p,l∈x.df->β l=some p->ay l=some p)->x.Is w I β v->x.Is w' I' ay v
 | .lit ..,_,_,_,_,h=>by simp only[PV.Is] at h ⊢; exact h
 | .int ..,_,_,_,_,h=>by simp only[PV.Is] at h ⊢; exact h
 | .tt,_,_,_,_,h=>by simp only[PV.Is] at h ⊢; exact h
 | .ff,_,_,_,_,h=>by simp only[PV.Is] at h ⊢; exact h
 | .bool _,_,_,_,_,h=>by simp only[PV.Is] at h ⊢; exact h
 | .val _,_,_,_,_,h=>by simp only[PV.Is] at h ⊢; exact h
 | .nil,_,_,_,_,h=>by simp only[PV.Is] at h ⊢; exact h
 | .gp ..,_,_,_,_,h=>by simp only[PV.Is] at h ⊢; exact h
 | .gpi ..,_,_,_,_,h=>by simp only[PV.Is] at h ⊢; exact h
 | .clo f cs,β,ay,v,hb,h=>by
  simp only[PV.Is] at h ⊢
  obtain⟨eB,rfl,h⟩:=h
  exact⟨eB,rfl,bg.mono hI hw cs β ay _ (fun l p hl=>hb l p (by simpa only [PV.df] using hl)) h⟩
 | .mth f cs,β,ay,v,hb,h=>by
  simp only[PV.Is] at h ⊢
  obtain⟨eB,rfl,h⟩:=h
  exact⟨eB,rfl,bg.mono hI hw cs β ay _ (fun l p hl=>hb l p (by simpa only [PV.df] using hl)) h⟩
 | .agg cs,β,ay,v,hb,h=>by
  simp only[PV.Is] at h ⊢
  obtain⟨eB,rfl,h⟩:=h
  exact⟨eB,rfl,bg.mono hI hw cs β ay _ (fun l p hl=>hb l p (by simpa only [PV.df] using hl)) h⟩
 | .tup cs,β,ay,v,hb,h=>by
  simp only[PV.Is] at h ⊢
  obtain⟨eB,rfl,h⟩:=h
  exact⟨eB,rfl,bg.mono hI hw cs β ay _ (fun l p hl=>hb l p (by simpa only [PV.df] using hl)) h⟩
 | .sl n es,_,_,v,_,h=>by
  simp only[PV.Is] at h ⊢
  obtain⟨a,cap,rfl,h1,h2,h3,h4⟩:=h
  refine⟨a,cap,rfl,h1,h2,fun g o ha=>?_,fun hn=>?_⟩
  ·by_cases hl:es.length=0
   ·have:es = []:=List.eq_nil_of_length_eq_zero hl
    subst this; simp only[ca]
   ·obtain⟨g',o',cJ,hg,_⟩:=h4 hl
    rw[ha] at cJ
    cases cJ
    exact ca.mono hI hw es n g o (hw g hg) (h3 g o ha)
  ·obtain⟨g,o,ha,hg,hn⟩:=h4 hn
   exact⟨g,o,ha,hI g hg,hn⟩
 | .wref l,β,ay,v,hb,h=>by
  simp only[PV.Is] at h ⊢
  obtain⟨p,hp,h⟩:=h
  exact⟨p,hb l p (by simp[PV.df]) hp,h⟩
 | .mref l,β,ay,v,hb,h=>by
  simp only[PV.Is] at h ⊢
  obtain⟨p,g,hp,h⟩:=h
  exact⟨p,g,hb l p (by simp[PV.df]) hp,h⟩
 | .ref l _ _,β,ay,v,hb,h=>by
  simp only[PV.Is] at h ⊢
  obtain⟨p,g,o,c,hp,h⟩:=h
  exact⟨p,g,o,c,hb l p (by simp[PV.df]) hp,h⟩
 | .ptr l _,β,ay,v,hb,h=>by
  simp only[PV.Is] at h ⊢
  obtain⟨p,g,o,hp,h⟩:=h
  exact⟨p,g,o,hb l p (by simp[PV.df]) hp,h⟩
 | .pti l _ _ _,β,ay,v,hb,h=>by
  simp only[PV.Is] at h ⊢
  obtain⟨p,g,o,hp,h⟩:=h
  exact⟨p,g,o,hb l p (by simp[PV.df]) hp,h⟩
 | .dpt l _ _ _,β,ay,v,hb,h=>by
  simp only[PV.Is] at h ⊢
  obtain⟨p,g,o,hp,h⟩:=h
  exact⟨p,g,o,hb l p (by simp[PV.df]) hp,h⟩
 | .ep cs _,_,_,v,_,h=>by
  simp only[PV.Is] at h ⊢
  obtain⟨g,o,rfl,hg,h⟩:=h
  exact⟨g,o,rfl,hI g hg,cL.mono hI hw cs g o (hw g hg) h⟩
theorem bg.mono (hI:∀ g,I g->I' g) (hw:∀ g,I g->w'.heap[g]?=w.heap[g]?):∀ (cs:List PV) (β ay:an) (vs:List Value),(∀ l p,l∈dp cs->β l=some p->ay l=some p)->bg w I cs β vs->bg w' I' cs ay vs
 | [],_,_,[],_,_=>by simp only[bg]
 | c::cs,β,ay,v::vs,hb,h=>by
  simp only[bg] at h ⊢
  exact⟨PV.Is.mono hI hw c β ay v (fun l p hl=>hb l p (by simp only[dp,List.mem_append]; exact .inl hl)) h.1,bg.mono hI hw cs β ay vs (fun l p hl=>hb l p (by simp only[dp,List.mem_append]; exact .inr hl)) h.2⟩
 | [],_,_,_::_,_,h=>by simp only[bg] at h
 | _::_,_,_,[],_,h=>by simp only[bg] at h
theorem cL.mono (hI:∀ g,I g->I' g) (hw:∀ g,I g->w'.heap[g]?=w.heap[g]?):∀ (cs:List PV) (g o:Nat),w'.heap[g]?=w.heap[g]?->cL w I cs g o->cL w' I' cs g o
 | [],_,_,_,_=>by simp only[cL]
 | c::cs,g,o,hg,h=>by
  simp only[cL] at h ⊢
  obtain⟨⟨v,h1,h2,h3⟩,h4⟩:=h
  exact⟨⟨v,(World.cell?_of_block (a:=⟨g,o,none⟩) hg).trans h1,PV.Is.mono hI hw c _ _ v (fun _ _ _ h=>h) h2,h3⟩,cL.mono hI hw cs g (o+1) hg h4⟩
theorem ca.mono (hI:∀ g,I g->I' g) (hw:∀ g,I g->w'.heap[g]?=w.heap[g]?):∀ (es:List PV) (n g o:Nat),w'.heap[g]?=w.heap[g]?->ca w I es n g o->ca w' I' es n g o
 | [],_,_,_,_,_=>by simp only[ca]
 | e::es,n,g,o,hg,h=>by
  have one:(n=1/\∃ v,w.cell? ⟨g,o,none⟩=some v/\e.Is w I (fun _=>none) v/\v.oneCell'=true)->(n=1/\∃ v,w'.cell? ⟨g,o,none⟩=some v/\e.Is w' I' (fun _=>none) v/\v.oneCell'=true):=by
   rintro⟨h0,v,h1,h2,h3⟩
   exact⟨h0,v,(World.cell?_of_block (a:=⟨g,o,none⟩) hg).trans h1,PV.Is.mono hI hw e _ _ v (fun _ _ _ h=>h) h2,h3⟩
  cases e with
  | agg cs =>
   simp only[ca] at h ⊢
   exact⟨⟨h.1.1,cL.mono hI hw cs g o hg h.1.2⟩,ca.mono hI hw es n g (o+n) hg h.2⟩
  | _=>simp only[ca] at h ⊢; exact⟨one h.1,ca.mono hI hw es n g (o+n) hg h.2⟩
end
end
def HC (w:World) (I:Nat->Prop) (n:Nat) (e:PV) (g o:Nat):Prop:=e.cells.length=n/\cL w I e.cells g o
section
variable {w w':World} {I I':Nat->Prop} {β ay:an} {G:Gx}
theorem ca.cons {e:PV} {es:List PV} {n g o:Nat}:ca w I (e::es) n g o↔HC w I n e g o/\ca w I es n g (o+n):=by
 cases e<;>simp only[ca,HC,PV.cells,cL,List.length_cons,List.length_nil,and_true,Nat.zero_add]<;>exact and_congr_left fun _=>and_congr_left fun _=>⟨fun h=>h.symm,fun h=>h.symm⟩
theorem ca.get:∀ {es:List PV} {n g o i:Nat} {e:PV},ca w I es n g o->es[i]?=some e->HC w I n e g (o+i*n)
 | [],_,_,_,_,_,_,h=>by simp at h
 | x::es,n,g,o,0,e,h,he=>by
  simp at he; subst he
  simpa using (ca.cons.1 h).1
 | x::es,n,g,o,i+1,e,h,he=>by
  have:=ca.get (i:=i) (ca.cons.1 h).2 (by simpa using he)
  rw[show o+(i+1)*n=o+n+i*n by rw[Nat.succ_mul]; omega]
  exact this
theorem ca.of:∀ {es:List PV} {n g o:Nat},(∀ i e,es[i]?=some e->HC w I n e g (o+i*n))->ca w I es n g o
 | [],_,_,_,_=>by simp only[ca]
 | x::es,n,g,o,h=>ca.cons.2 ⟨by simpa using h 0 x rfl,ca.of fun i e he=>by
  have:=h (i+1) e (by simpa using he)
  rw[show o+(i+1)*n=o+n+i*n by rw[Nat.succ_mul]; omega] at this
  exact this⟩
theorem ca.append {es fs:List PV} {n g o:Nat} (h:ca w I es n g o) (h':ca w I fs n g (o+es.length*n)):ca w I (es++fs) n g o:=by
 refine ca.of fun i e he=>?_
 by_cases hi:i < es.length
 ·rw[List.getElem?_append_left hi] at he; exact h.get he
 ·rw[List.getElem?_append_right (by omega)] at he
  have:=h'.get he
  rw[show o+es.length*n+(i - es.length)*n=o+i*n by rw[Nat.sub_mul]; have:es.length*n<=i*n:=Nat.mul_le_mul_right _ (by omega); omega] at this
  exact this
theorem cL.get:∀ {cs:List PV} {g o i:Nat} {c:PV},cL w I cs g o->cs[i]?=some c->∃ v,w.cell? ⟨g,o+i,none⟩=some v/\c.Is w I (fun _=>none) v/\v.oneCell'=true
 | [],_,_,_,_,_,h=>by simp at h
 | x::es,g,o,0,e,h,he=>by
  simp at he; subst he
  simp only[cL] at h
  exact h.1
 | x::es,g,o,i+1,e,h,he=>by
  simp only[cL] at h
  have:=cL.get (i:=i) h.2 (by simpa using he)
  rw[show o+(i+1)=o+1+i by omega]
  exact this
theorem cL.of:∀ {cs:List PV} {g o:Nat},(∀ i c,cs[i]?=some c->∃ v,w.cell? ⟨g,o+i,none⟩=some v/\c.Is w I (fun _=>none) v/\v.oneCell'=true)->cL w I cs g o
 | [],_,_,_=>by simp only[cL]
 | x::es,g,o,h=>by
  simp only[cL]
  refine⟨h 0 x rfl,cL.of fun i c hc=>?_⟩
  have:=h (i+1) c (by simpa using hc)
  rw[show o+(i+1)=o+1+i by omega] at this
  exact this
theorem bg.length:∀ {cs:List PV} {β:an} {vs:List Value},bg w I cs β vs->cs.length=vs.length
 | [],_,[],_=>rfl
 | _::cs,_,_::vs,h=>by simp only[bg] at h; simp only[List.length_cons,bg.length h.2]
 | [],_,_::_,h=>by simp only[bg] at h
 | _::_,_,[],h=>by simp only[bg] at h
theorem bg.get:∀ {cs:List PV} {β:an} {vs:List Value} {i:Nat} {c:PV},bg w I cs β vs->cs[i]?=some c->∃ v,vs[i]?=some v/\c.Is w I β v
 | [],_,_,_,_,_,h=>by simp at h
 | x::cs,_,v::vs,0,c,h,hc=>by simp at hc; subst hc; simp only[bg] at h; exact⟨v,rfl,h.1⟩
 | x::cs,_,v::vs,i+1,c,h,hc=>by simp only[bg] at h; simpa using bg.get (i:=i) h.2 (by simpa using hc)
 | _::_,_,[],_,_,h,_=>by simp only[bg] at h
theorem bg.of:∀ {cs:List PV} {β:an} {vs:List Value},cs.length=vs.length->(∀ (i:Nat) (c:PV),cs[i]?=some c->∃ v,vs[i]?=some v/\c.Is w I β v)->bg w I cs β vs
 | [],_,[],_,_=>by simp only[bg]
 | x::cs,_,v::vs,hl,h=>by
  simp only[bg]
  refine⟨?_,bg.of (by simpa using hl) fun i c hc=>by simpa using h (i+1) c (by simpa using hc)⟩
  obtain⟨u,hu,hi⟩:=h 0 x rfl
  simp at hu; subst hu; exact hi
 | [],_,_::_,h,_=>by simp at h
 | _::_,_,[],h,_=>by simp at h
theorem bg.append {cs ds:List PV} {vs us:List Value} (h:bg w I cs β vs) (h':bg w I ds β us):bg w I (cs++ds) β (vs++us):=by
 refine bg.of (by simp[h.length,h'.length]) fun i c hc=>?_
 have hl:=h.length
 by_cases hi:i < cs.length
 ·rw[List.getElem?_append_left hi] at hc
  rw[List.getElem?_append_left (by omega)]; exact h.get hc
 ·rw[List.getElem?_append_right (by omega)] at hc
  rw[List.getElem?_append_right (by omega),← hl]; exact h'.get hc
theorem bg.take {cs:List PV} {vs:List Value} (n:Nat) (h:bg w I cs β vs):bg w I (cs.take n) β (vs.take n):=by
 refine bg.of (by simp[h.length]) fun i c hc=>?_
 rw[List.getElem?_take] at hc ⊢
 split at hc
 ·rename_i hi; rw[if_pos hi]; exact h.get hc
 ·cases hc
theorem bg.drop {cs:List PV} {vs:List Value} (n:Nat) (h:bg w I cs β vs):bg w I (cs.drop n) β (vs.drop n):=by
 refine bg.of (by simp[h.length]) fun i c hc=>?_
 rw[List.getElem?_drop] at hc ⊢
 exact h.get hc
theorem bg.one {c:PV} {v:Value} (h:c.Is w I β v):bg w I [c] β [v]:=by simp only[bg,and_true]; exact h
def PV.iC:PV->Bool
 | .agg _|.tup _=>false
 | _=>true
theorem PV.Is.flat {x:PV} {v:Value} (hx:x.iC=true) (h:x.Is w I β v):Ev.flat v=true:=by
 cases x<;>simp only[PV.Is] at h
 case lit=>subst h; rfl
 case int=>subst h; rfl
 case tt=>subst h; rfl
 case ff=>subst h; rfl
 case bool=>subst h; rfl
 case val=>rw[h.1]; exact h.2
 case clo=>obtain⟨_,rfl,_⟩:=h; rfl
 case mth=>obtain⟨_,rfl,_⟩:=h; rfl
 case nil=>subst h; rfl
 case sl=>obtain⟨_,_,rfl,_⟩:=h; rfl
 case wref=>obtain⟨p,_,rfl⟩:=h; unfold na.whole; split<;>rfl
 case mref=>obtain⟨_,_,_,_,rfl⟩:=h; rfl
 case ref=>obtain⟨_,_,_,_,_,_,rfl,_⟩:=h; rfl
 case ptr=>obtain⟨_,_,_,_,_,rfl⟩:=h; rfl
 case pti=>obtain⟨_,_,_,_,_,rfl⟩:=h; rfl
 case dpt=>obtain⟨_,_,_,_,_,rfl⟩:=h; rfl
 case ep=>obtain⟨_,_,rfl,_⟩:=h; rfl
 case gp=>subst h; rfl
 case gpi=>subst h; rfl
 case agg=>cases hx
 case tup=>cases hx
theorem lW {v:Value} (h:Ev.flat v=true):v.oneCell'=true:=by cases v<;>simp_all [Ev.flat,Value.oneCell']
theorem PV.Is.lX {x:PV} {v:Value} (hx:∀ vs,x≠.tup vs) (h:x.Is w I β v):bg w I x.cells β v.cells.toList:=by
 cases x with
 | agg cs=>simp only[PV.Is] at h; obtain⟨vs,rfl,h⟩:=h; exact h
 | tup vs=>exact absurd rfl (hx vs)
 | _=>rw[Ev.sC (h.flat rfl)]; simp only[PV.cells]; exact bg.one h
theorem bj.mono {cs:List PV} {arr:Array Value} {o:Nat} (hI:∀ g,I g->I' g) (hw:∀ g,I g->w'.heap[g]?=w.heap[g]?) (hb:∀ l p,β l=some p->ay l=some p) (h:bj w I β cs arr o):bj w' I' ay cs arr o :=
 fun i c hc=>let ⟨v,h1,h2,h3⟩:=h i c hc; ⟨v,h1,PV.Is.mono hI hw c β ay v (fun l p _=>hb l p) h2,h3⟩
theorem aV {o:Obj} {b:Nat} (h:w.heap[b]?=some o):b < w.heap.size:=(Array.getElem?_eq_some_iff.1 h).1
theorem Ext.refl {st:List aj}:Ext I β st w I β st w:=⟨rfl,rfl,rfl,Nat.le_refl _,fun _ _ _=>rfl,fun _ _ h=>h,fun _ h=>h,fun _ _ h=>.inl h⟩
theorem Ext.trans {Y7:Nat->Prop} {HD:an} {st dY Y8:List aj} {m_:World} (h:Ext I β st w I' ay dY w') (k:Ext I' ay dY w' Y7 HD Y8 m_):Ext I β st w Y7 HD Y8 m_ where
 os:=k.os.trans h.os
 tape:=k.tape.trans h.tape
 output:=k.output.trans h.output
 size:=Nat.le_trans h.size k.size
 block:=fun g hg hn=>(k.block g (Nat.lt_of_lt_of_le hg h.size) fun hw=>hn (h.wr g hg hw)).trans (h.block g hg hn)
 wr:=fun g hg hw=>h.wr g hg (k.wr g (Nat.lt_of_lt_of_le hg h.size) hw)
 au:=fun g hg=>k.au g (h.au g hg)
 new:=fun g hg hi=>(k.new g (Nat.lt_of_lt_of_le hg h.size) hi).elim (fun h1=>h.new g hg h1) fun h1=>.inr (h.wr g hg h1)
theorem Own.mono {st dY:List aj} {l g:Nat} {fr:Nat × Nat} {b:aj} (hI:∀ g,I g->I' g) (hn:¬ I g->¬ I' g)
  (hs:∀ l' b',l'≠l->dY[l']?=some b'->b'.live=true->∀ p g' o',ay l'=some p->p.a=some (g',o')->g'≠g\/∃ lP,st[l']?=some lP/\lP.live=true/\β l'=some p) (h:Own I β st l g fr b):Own I' ay dY l g fr b :=
 ⟨fun hr=>let ⟨h1,h2,h3⟩:=h.1 hr; ⟨h1,hn h2,fun l' b' cN hb hl p g' o' hp ha=>(hs l' b' cN hb hl p g' o' hp ha).elim id fun ⟨lP,hb'',Bo,dM⟩=>h3 l' lP cN hb'' Bo p g' o' dM ha⟩,fun hr=>hI g (h.2 hr)⟩
theorem aC.lY {st:List aj} (h:aC I β st w) {g:Nat} (hg:Wr β st g):¬ I g:=by
 obtain⟨l,b,p,o,h1,h2,h3,h4,h5⟩:=hg
 obtain⟨q,hq,hk⟩:=h.dX l b h1 h2
 rw[h4] at hq
 cases hq
 split at hk
 ·obtain⟨g',o',arr,ty,fr,ha,_,_,ho,_⟩:=hk
  rw[h5] at ha; cases ha; exact (ho (by rw[h3]; decide)).2.1
 ·obtain⟨g',arr,fr,ha,_,_,ho,_⟩:=hk
  rw[h5] at ha; cases ha; exact (ho.1 (by rw[h3]; decide)).2.1
 ·obtain⟨_,hk⟩:=hk
  rcases hk with ⟨ha,_⟩|⟨g',arr,fr,ha,_,_,ho,_⟩
  ·rw[h5] at ha; cases ha
  ·rw[h5] at ha; cases ha; exact (ho.1 (by rw[h3]; decide)).2.1
 ·obtain⟨g',ha,_,ho⟩:=hk
  rw[h5] at ha; cases ha; exact (ho.1 (by rw[h3]; decide)).2.1
 ·obtain⟨g',_,_,ha,_,_,ho,_⟩:=hk
  rw[h5] at ha; cases ha; exact (ho.1 (by rw[h3]; decide)).2.1
theorem cE.ext {st dY:List aj} (h:cE G I w) (hk:aC I β st w) (he:Ext I β st w I' ay dY w') (bZ:∀ g,I' g->g < w'.heap.size):cE G I' w' where
 au:=bZ
 lV:=fun g cs hg=>by
  obtain⟨h1,h2⟩:=h.lV g cs hg
  have hw:∀ g,I g->w'.heap[g]?=w.heap[g]?:=fun g hg=>he.block g (h.au g hg) fun hw=>hk.lY hw hg
  exact⟨he.au g h1,cL.mono he.au hw cs g 0 (hw g h1) h2⟩
 row:=fun g cs hg=>by
  obtain⟨arr,ty,fr,h1,h2⟩:=h.row g cs hg
  have hI:=(h.lV g cs hg).1
  exact⟨arr,ty,fr,(he.block g (h.au g hI) fun hw=>hk.lY hw hI).trans h1,h2⟩
theorem Ext.keeps {st dY:List aj} (he:Ext I β st w I' ay dY w') (hk:aC I β st w) (hm:∀ g,I g->g < w.heap.size):∀ g,I g->w'.heap[g]?=w.heap[g]?:=fun g hg=>he.block g (hm g hg) fun hw=>hk.lY hw hg
end
open Go
def aU {α:Type} (o:Option α) (k:α->Prop):Prop:=match o with
 | some x=>k x
 | none=>False
def lH {α:Type}:List α->Nat->(Nat->Prop)->Prop
 | [],n,q=>q n
 | _::l,n,q=>lH l (n+1) q
def MZ {α β:Type}:List α->Nat->(Nat->Option β)->Option β
 | [],n,q=>q n
 | _::l,n,q=>MZ l (n+1) q
theorem C6 {α β:Type}:∀ (l:List α) (n:Nat) (q:Nat->Option β),MZ l n q=q (n+l.length)
 | [],_,_=>rfl
 | _::l,n,q=>by rw[MZ,C6 l,List.length_cons,show n+1+l.length=n+(l.length+1) by omega]
theorem gA {α:Type}:∀ (l:List α) (n:Nat) (q:Nat->Prop),lH l n q=q (n+l.length)
 | [],_,_=>rfl
 | _::l,n,q=>by rw[lH,gA l,List.length_cons,show n+1+l.length=n+(l.length+1) by omega]
def aj.szK {α:Sort _} (b:aj) (q:Nat->α):α:=match b with
 | ⟨_,_,n,_,_,_⟩=>q n
theorem aj.w8 {α:Sort _} (b:aj) (q:Nat->α):b.szK q=q b.size:=by cases b; rfl
def fc1 (x:PV) (q:PV->Prop):Prop:=match x with
 | .lit k n=>q (.lit k n)|.int k n=>q (.int k n)|.tt=>q .tt|.ff=>q .ff|.bool p=>q (.bool p)|.val v=>q (.val v)
 | .clo f cs=>q (.clo f cs)|.mth f cs=>q (.mth f cs)|.nil=>q .nil|.sl n es=>q (.sl n es)|.wref l=>q (.wref l)|.mref l=>q (.mref l)|.ref l o n=>q (.ref l o n)
 | .ptr l o=>q (.ptr l o)|.pti l o i n=>q (.pti l o i n)|.dpt l i n o=>q (.dpt l i n o)|.ep cs o=>q (.ep cs o)
 | .gp g o=>q (.gp g o)|.gpi g o i n=>q (.gpi g o i n)|.agg cs=>q (.agg cs)|.tup vs=>q (.tup vs)
def dv:List PV->(List PV->Prop)->Prop
 | [],q=>q []
 | c::cs,q=>fc1 c fun c=>dv cs fun cs=>q (c::cs)
def Y9 (x:PV) (q:PV->Prop):Prop:=match x with
 | .agg cs=>dv cs fun cs=>q (.agg cs)
 | .clo f cs=>dv cs fun cs=>q (.clo f cs)
 | x=>fc1 x q
def sE:List PV->(List PV->Prop)->Prop
 | [],q=>q []
 | c::cs,q=>Y9 c fun c=>sE cs fun cs=>q (c::cs)
def fc (x:PV) (q:PV->Prop):Prop:=match x with
 | .tup cs=>sE cs fun cs=>q (.tup cs)
 | x=>Y9 x q
def aD.put (s:aD) (dst:Option Tmp) (x:PV) (k:aD->Prop):Prop:=match s with
 | ⟨n,t,st,b,rl⟩=>(match dst with
  | none=>k ⟨n,t,st,b,rl⟩
  | some d=>bif Nat.blt d n then fc x fun x=>t.nc (some x) 24 d fun t=>k ⟨n,t,st,b,rl⟩ else False)
def aD.store (s:aD) (st:List aj):aD:=match s with
 | ⟨n,t,_,b,rl⟩=>⟨n,t,st,b,rl⟩
def w9 (k:Value->(PV->Prop)->Prop):List Value->(List PV->Prop)->Prop
 | [],q=>q []
 | v::vs,q=>k v fun x=>w9 k vs fun xs=>q (x::xs)
def gu (v:Value) (q:PV->Prop):Prop:=match v with
 | .int k n=>q (.lit k n)
 | .bool true=>q .tt
 | .bool false=>q .ff
 | .slice none 0 0=>q .nil
 | .func (.func f) ⟨[]⟩ ⟨[]⟩=>q (.clo f [])
 | v=>bif Ev.flat v then q (.val v) else False
def ns (v:Value) (q:PV->Prop):Prop:=match v with
 | .agg ⟨cs⟩=>w9 gu cs fun cs=>q (.agg cs)
 | v=>gu v q
def aD.ev (s:aD) (o:Operand) (q:PV->Prop):Prop:=match o with
 | .tmp t=>aU (s.t.get t) q
 | .const v=>ns v q
 | .global g=>q (.gp g 0)
 | .func f=>q (.clo f [])
def PV.num:PV->Option (Bool × IntKind × Int)
 | .lit k n=>some (true,k,n)
 | .int k n=>some (false,k,n)
 | _=>none
def PV.bl:PV->Option Prop
 | .tt=>some True
 | .ff=>some False
 | .bool p=>some p
 | _=>none
def uP (k:IntKind) (z:Int):Prop:=Ev.lG k<=z/\z<=Ev.kP k
def y1 (k:IntKind) (z:Int) (q:PV->Prop):Prop:=(uP k z/\q (.int k z))\/q (.int k (k.wrap z))
def Rw (op:BinOp) (k:IntKind) (a b:Int) (q:PV->Prop):Prop:=match op with
 | .add=>y1 k (a+b) q
 | .sub=>y1 k (a - b) q
 | .mul=>y1 k (a*b) q
 | .quo=>b≠0/\((0<=a/\a<=Ev.kP k/\0 < b/\q (.int k (a / b)))\/q (.int k (k.wrap (a.tdiv b))))
 | .rem=>b≠0/\((0<=a/\0 < b/\q (.int k (a % b)))\/q (.int k (a.tmod b)))
 | .and=>q (.int k (bits .and k a b))
 | .or=>q (.int k (bits .or k a b))
 | .xor=>q (.int k (bits .xor k a b))
 | .andNot=>q (.int k (bits .andNot k a b))
 | .eql=>q (.bool (a=b))
 | .neq=>q (.bool (¬ a=b))
 | .lss=>q (.bool (a < b))
 | .leq=>q (.bool (a<=b))
 | .gtr=>q (.bool (b < a))
 | .geq=>q (.bool (b<=a))
 | _=>False
def tf (b:Bool) (q:PV->Prop):Prop:=match b with
 | true=>q .tt
 | false=>q .ff
def HE (op:BinOp) (k:IntKind) (a b:Int) (q:PV->Prop):Prop:=match op with
 | .add=>q (.lit k (k.wrap (a+b)))
 | .sub=>q (.lit k (k.wrap (a - b)))
 | .mul=>q (.lit k (k.wrap (a*b)))
 | .quo=>bif decide (b=0) then False else q (.lit k (k.wrap (a.tdiv b)))
 | .rem=>bif decide (b=0) then False else q (.lit k (a.tmod b))
 | .and=>q (.lit k (bits .and k a b))
 | .or=>q (.lit k (bits .or k a b))
 | .xor=>q (.lit k (bits .xor k a b))
 | .andNot=>q (.lit k (bits .andNot k a b))
 | .eql=>tf (decide (a=b)) q
 | .neq=>tf (!decide (a=b)) q
 | .lss=>tf (decide (a < b)) q
 | .leq=>tf (decide (a<=b)) q
 | .gtr=>tf (decide (b < a)) q
 | .geq=>tf (decide (b<=a)) q
 | _=>False
def shift (op:BinOp) (st:Bool) (k:IntKind) (a b:Int) (q:PV->Prop):Prop:=match op,st with
 | .shl,true=>bif decide (0<=b) then q (.lit k (k.wrap (a*Ev.aQ k b))) else False
 | .shr,true=>bif decide (0<=b) then q (.lit k (a / Ev.aQ k b)) else False
 | .shl,false=>0<=b/\y1 k (a*Ev.aQ k b) q
 | .shr,false=>0<=b/\q (.int k (a / Ev.aQ k b))
 | _,_=>False
def HF (op:BinOp) (sx sy:Bool) (k k':IntKind) (a b:Int) (q:PV->Prop):Prop:=match op with
 | .shl=>shift .shl (sx && sy) k a b q
 | .shr=>shift .shr (sx && sy) k a b q
 | op=>bif decide (k=k') then (match sx && sy with
   | true=>HE op k a b q
   | false=>Rw op k a b q) else False
def Rx (op:BinOp) (p:Prop) (q:PV->Prop):Prop:=match op with
 | .eql=>q (.bool p)
 | .neq=>q (.bool (¬ p))
 | _=>False
def y2 (op:BinOp) (b:Bool) (q:PV->Prop):Prop:=match op with
 | .eql=>tf b q
 | .neq=>tf (!b) q
 | _=>False
def jO (cx:Ev.Cx) (t:TypeId) (cs:List PV) (off:Nat):Option PV :=
 match Ev.fI cx t,Ev.cC cx t with
 | some true,some n=>if Nat.ble (off+n) cs.length then some (.agg ((cs.drop off).take n)) else none
 | some false,_=>cs[off]?
 | _,_=>none
def part (cx:Ev.Cx) (t:TypeId) (cs:List PV) (off:Nat) (q:PV->Prop):Prop:=aU (jO cx t cs off) fun x=>Y9 x q
def uO (r:TypeId->PV->PV->Option Prop) (cx:Ev.Cx) (xs ys:List PV):List Field->Option Prop
 | []=>some True
 | f::fs=>match jO cx f.type xs f.offset,jO cx f.type ys f.offset with
  | some a,some b=>(match r f.type a b,uO r cx xs ys fs with
   | some e,some e'=>some (e/\e')
   | _,_=>none)
  | _,_=>none
def kQ (r:TypeId->PV->PV->Option Prop) (cx:Ev.Cx) (t:TypeId) (size:Nat) (xs ys:List PV):Nat->Nat->Option Prop
 | 0,_=>some True
 | n+1,off=>match jO cx t xs off,jO cx t ys off with
  | some a,some b=>(match r t a b,kQ r cx t size xs ys n (off+size) with
   | some e,some e'=>some (e/\e')
   | _,_=>none)
  | _,_=>none
def G4 (cx:Ev.Cx):Nat->TypeId->PV->PV->Option Prop
 | 0,_,_,_=>none
 | n+1,t,a,b=>match cx.fg t with
  | some (.int _)=>(match a.num,b.num with
   | some (_,k,x),some (_,l,y)=>if decide (k=l) then some (x=y) else none
   | _,_=>none)
  | some .bool=>(match a.bl,b.bl with
   | some p,some q=>some (p↔q)
   | _,_=>none)
  | some (.struct fs)=>(match a,b with
   | .agg xs,.agg ys=>if cx.eqs.any (Nat.beq t) then uO (G4 cx n) cx xs ys fs.toList else none
   | _,_=>none)
  | some (.array len elem)=>(match a,b with
   | .agg xs,.agg ys=>(match Ev.cC cx elem with
    | some c=>kQ (G4 cx n) cx elem c xs ys len 0
    | none=>none)
   | _,_=>none)
  | _=>none
def y3 (st:List aj) (op:BinOp) (x:PV) (q:PV->Prop):Prop:=match x with
 | .nil=>y2 op true q
 | .ref _ _ _=>y2 op false q
 | .wref l=>aU st[l]? fun b=>bif b.live then (match b.k with
  | .arr=>y2 op false q
  | .dyn=>(b.cs.length≠0/\y2 op false q)\/(y2 op true q/\y2 op false q)
  | _=>False) else False
 | .sl _ es=>(es.length≠0/\y2 op false q)\/(y2 op true q/\y2 op false q)
 | _=>False
def HG (cx:Ev.Cx) (st:List aj) (op:BinOp) (t:TypeId) (x y:PV) (q:PV->Prop):Prop :=
 match x.num with
 | some (sx,k,a)=>aU y.num fun z=>(match z with
  | (sy,k',b)=>HF op sx sy k k' a b q)
 | none=>aU (cx.fg t) fun d=>match d with
  | .bool=>aU x.bl fun p=>aU y.bl fun p'=>Rx op (p↔p') q
  | .string=>(match x,y with
   | .val (.string a),.val (.string b)=>y2 op (a.toList == b.toList) q
   | _,_=>False)
  | .slice _=>(match y with
   | .nil=>y3 st op x q
   | _=>False)
  | .pointer _=>(match x,y with
   | .val (.pointer none),.val (.pointer none)=>y2 op true q
   | .ptr _ _,.val (.pointer none)=>y2 op false q
   | _,_=>False)
  | .struct _=>(match x,y with
   | .agg xs,.agg ys=>bif cx.eqs.any (Nat.beq t) then aU (G4 cx 6 t (.agg xs) (.agg ys)) fun p=>Rx op p q else False
   | _,_=>False)
  | .array _ _=>(match x,y with
   | .agg xs,.agg ys=>bif cx.eqs.any (Nat.beq t) then aU (G4 cx 6 t (.agg xs) (.agg ys)) fun p=>Rx op p q else False
   | _,_=>False)
  | _=>False
def Y' (op:UnOp) (x:PV) (q:PV->Prop):Prop:=match op,x with
 | .neg,.lit k a=>q (.lit k (k.wrap (-a)))
 | .neg,.int k a=>y1 k (-a) q
 | .xor,.lit k a=>q (.lit k (bits .xor k (if k.signed then -1 else k.max) a))
 | .xor,.int k a=>q (.int k (bits .xor k (if k.signed then -1 else k.max) a))
 | .not,.tt=>q .ff
 | .not,.ff=>q .tt
 | .not,.bool p=>q (.bool (¬ p))
 | _,_=>False
def Qu (cx:Ev.Cx) (src dst:TypeId) (x:PV) (q:PV->Prop):Prop :=
 aU (cx.fg src) fun _=>aU (cx.fg dst) fun d=>match d,x with
 | .int k,.lit _ n=>q (.lit k (k.wrap n))
 | .int k,.int _ n=>y1 k n q
 | _,_=>False
def kR (cx:Ev.Cx) (t:TypeId) (q:List PV->Prop):Prop:=aU ((Ev.lO t cx.tt).bind Ev.TI.zero) fun v=>ns v fun x=>q x.cells
def vq (place:Nat->Option (Nat × Nat)):List PV->List (Nat × PV)->Option (List PV)
 | cells,[]=>some cells
 | cells,(i,v)::rest=>match place i with
  | none=>none
  | some (off,size)=>if Nat.beq v.cells.length size && Nat.ble (off+size) cells.length then vq place (cells.take off++v.cells++cells.drop (off+size)) rest else none
def ow (place:Nat->Option (Nat × Nat)):List PV->List (Nat × PV)->(List PV->Prop)->Prop
 | cells,[],q=>q cells
 | cells,(i,v)::rest,q=>match place i with
  | none=>False
  | some (off,size)=>bif Nat.beq v.cells.length size && Nat.ble (off+size) cells.length then dv (cells.take off++v.cells++cells.drop (off+size)) fun cells=>ow place cells rest q else False
def nL (s:aD):List (Nat × Operand)->(List (Nat × PV)->Prop)->Prop
 | [],q=>q []
 | (i,o)::r,q=>s.ev o fun x=>(match x with
  | .tup _=>False
  | x=>nL s r fun l=>q ((i,x)::l))
def lS (cx:Ev.Cx) (fs:List Field):Option (List (Nat × Nat)):=Ev.lS cx fs
def Bp (cx:Ev.Cx) (s:aD) (t:TypeId) (ps:List (Nat × Operand)) (q:PV->Prop):Prop :=
 kR cx t fun z=>nL s ps fun l=>aU (cx.fg t) fun d=>match d with
 | .struct fs=>aU (lS cx fs.toList) fun pl=>ow (pl[·]?) z l fun cs=>dv cs fun cs=>q (.agg cs)
 | .array _ elem=>aU (Ev.cC cx elem) fun n=>ow (fun i=>some (i*n,n)) z l fun cs=>dv cs fun cs=>q (.agg cs)
 | _=>False
def nM (cx:Ev.Cx) (t:TypeId) (x:PV) (f:Nat) (q:PV->Prop):Prop :=
 aU (cx.fg t) fun d=>match d with
 | .struct fs=>aU fs.toList[f]? fun fd=>aU (Ev.cC cx fd.type) fun n=>bif Nat.beq n 0 then False else (match x with
  | .ptr l off=>q (.ptr l (off+fd.offset))
  | .pti l off i n=>q (.pti l (off+fd.offset) i n)
  | .dpt l i n off=>q (.dpt l i n (off+fd.offset))
  | .ep cs off=>q (.ep cs (off+fd.offset))
  | .gp g off=>q (.gp g (off+fd.offset))
  | .gpi g off i n=>q (.gpi g (off+fd.offset) i n)
  | _=>False)
 | _=>False
def Qv (es:List PV) (i:Int) (q:PV->Prop):Prop :=
 ∃ (α:Type) (l:List α) (enc:α->PV),es=l.map enc/\0<=i/\i < l.length/\∀ x,l[i.toNat]?=some x->q (enc x)
def within (st:Bool) (i:Int) (len:Nat) (f:Nat->Prop) (g:Prop):Prop:=match st with
 | true=>bif decide (0<=i) && decide (i < len) then f i.toNat else False
 | false=>0<=i/\i < len/\g
def C7 (st:List aj) (l:Nat):Bool:=match st[l]? with
 | some b=>(match b.k with
  | .dyn=>true
  | _=>false)
 | none=>false
def nN (cx:Ev.Cx) (st:List aj) (t:TypeId) (x i:PV) (q:PV->Prop):Prop :=
 aU i.num fun z=>match z with
 | (MA,_,n0)=>aU (cx.fg t) fun d=>match d with
 | .array len elem=>aU (Ev.cC cx elem) fun n=>(match x with
  | .ptr l off=>within MA n0 len (fun j=>q (.ptr l (off+j*n))) (q (.pti l off n0 n))
  | .gp g off=>within MA n0 len (fun j=>q (.gp g (off+j*n))) (q (.gpi g off n0 n))
  | .ep cs off=>within MA n0 len (fun j=>q (.ep cs (off+j*n))) False
  | _=>False)
 | .slice elem=>aU (Ev.cC cx elem) fun n=>(match x with
  | .sl m es=>bif Nat.beq m n then Qv es n0 fun e=>dv e.cells fun cs=>q (.ep cs 0) else False
  | .ref l off len=>bif C7 st l then (bif Nat.beq n 1 then within MA n0 len (fun j=>q (.dpt l (off+j) n 0)) (q (.dpt l (off+n0.toNat) n 0)) else False) else within MA n0 len (fun j=>q (.ptr l (off+j*n))) (q (.pti l off n0 n))
  | .wref l=>aU st[l]? fun b=>bif b.live && Nat.beq b.size n && Nat.blt 0 n then (match b.k with
   | .arr=>lH b.cs 0 fun m=>within MA n0 (m / n) (fun j=>q (.ptr l (j*n))) (q (.pti l 0 n0 n))
   | .dyn=>0<=n0/\n0 < b.cs.length/\q (.dpt l n0.toNat n 0)
   | _=>False) else False
  | _=>False)
 | _=>False
def Bq (cx:Ev.Cx) (t:TypeId) (x i:PV) (q:PV->Prop):Prop :=
 aU i.num fun z=>match z with
 | (MA,_,n0)=>aU (cx.fg t) fun d=>match d,x with
 | .array len elem,.agg cs=>aU (Ev.cC cx elem) fun n=>within MA n0 len (fun j=>part cx elem cs (j*n) q)
   (aU (Ev.fI cx elem) fun ag=>bif !ag && Nat.beq n 1 && Nat.beq cs.length len then ∀ c,cs[n0.toNat]?=some c->q c else False)
 | .string,.val (.string s)=>0<=n0/\n0 < s.size/\q (.int .u8 (((s.data.toList.map fun b=>((b.toNat:Nat):Int))[n0.toNat]?).getD 0))
 | _,_=>False
def w_ (s:aD) (o:Option Operand) (d:Bool × Int) (q:Bool × Int->Prop):Prop:=match o with
 | none=>q d
 | some o=>s.ev o fun x=>aU x.num fun z=>(match z with
  | (MA,_,n)=>q (MA,n))
def Br (cx:Ev.Cx) (s:aD) (t:TypeId) (x:PV) (lo hi mx:Option Operand) (q:PV->Prop):Prop :=
 aU (cx.fg t) fun d=>match mx,d with
 | none,.array n elem=>aU (Ev.cC cx elem) fun m=>bif Nat.blt 0 m && Nat.blt 0 n then w_ s lo (true,0) fun l=>w_ s hi (true,n) fun h =>
  (match x with
  | .ptr b off=>bif l.1 && h.1 && decide (0<=l.2) && decide (l.2 < n) && decide (l.2<=h.2) && decide (h.2<=n) then q (.ref b (off+l.2.toNat*m) (h.2 - l.2).toNat) else False
  | _=>False) else False
 | none,.slice elem=>aU (Ev.cC cx elem) fun m=>w_ s lo (true,0) fun l =>
  (match x with
  | .nil=>w_ s hi (true,0) fun h=>l.2=0/\h.2=0/\q .nil
  | .ref b off len=>w_ s hi (true,len) fun h=>bif l.1 && h.1 && decide (0<=l.2) && decide (l.2 < len) && decide (l.2<=h.2) && decide (h.2<=len) then q (.ref b (off+l.2.toNat*m) (h.2 - l.2).toNat) else False
  | .sl n es=>w_ s hi (false,es.length) fun h=>bif Nat.beq n m && Nat.blt 0 m then 0<=l.2/\l.2<=h.2/\h.2<=es.length/\q (.sl n ((es.drop l.2.toNat).take (h.2 - l.2).toNat)) else False
  | .wref b=>aU s.st[b]? fun k=>(match k.k with
   | .arr=>bif k.live && Nat.beq k.size m && Nat.blt 0 m then lH k.cs 0 fun len=>w_ s hi (true,(len / m:Nat)) fun h =>
     (bif l.1 && h.1 && decide (0<=l.2) && decide (l.2 < (len / m:Nat)) && decide (l.2<=h.2) && decide (h.2<=(len / m:Nat)) then q (.ref b (l.2.toNat*m) (h.2 - l.2).toNat) else False) else False
   | .dyn=>bif k.live && Nat.beq k.size m && Nat.blt 0 m then w_ s hi (false,k.cs.length) fun h=>∃ i j:Nat,l.2=i/\h.2=j/\i<=j/\j<=k.cs.length/\i < k.cs.length/\q (.ref b (i*m) (j - i)) else False
   | _=>False)
  | _=>False)
 | _,_=>False
def HH (st:List aj) (x:PV) (q:PV->Prop):Prop:=match x with
 | .nil=>q (.lit .i64 0)
 | .sl _ es=>es.length<=maxLen->q (.int .i64 es.length)
 | .ref _ _ len=>q (.lit .i64 len)
 | .wref l=>aU st[l]? fun b=>bif b.live then (match b.k with
  | .arr=>lH b.cs 0 fun m=>b.szK fun n=>q (.lit .i64 (m / n:Nat))
  | .dyn=>b.cs.length<=maxLen->q (.int .i64 b.cs.length)
  | _=>False) else False
 | _=>False
def oz (f:Int->Int->Int) (x y:PV) (q:PV->Prop):Prop:=match x,y with
 | .lit k a,.lit _ b=>q (.lit k (f a b))
 | .lit k a,.int _ b=>q (.int k (f a b))
 | .int k a,.lit _ b=>q (.int k (f a b))
 | .int k a,.int _ b=>q (.int k (f a b))
 | _,_=>False
def nu (cx:Ev.Cx) (s:aD) (op:Op) (q:PV->Prop):Prop:=match op with
 | .move x|.assign x=>s.ev x q
 | .pick c a b=>s.ev c fun c=>(match c with
  | .tt=>s.ev a q
  | .ff=>s.ev b q
  | .bool p=>(p->s.ev a q)/\(¬ p->s.ev b q)
  | _=>False)
 | .binOp op t x y _=>s.ev x fun x=>s.ev y fun y=>HG cx s.st op t x y q
 | .unOp op _ x=>s.ev x fun x=>Y' op x q
 | .convert src dst x=>s.ev x fun x=>Qu cx src dst x q
 | .nilCheck x=>s.ev x fun x=>(match x with
  | .ptr ..|.pti ..|.dpt ..|.ep ..|.gp ..|.gpi ..=>q x
  | _=>False)
 | .build t ps=>Bp cx s t ps.toList q
 | .fieldAddr t x f=>s.ev x fun x=>nM cx t x f q
 | .field t x f=>aU (cx.fg t) fun d=>s.ev x fun x=>(match d,x with
  | .struct fs,.agg cs=>aU fs.toList[f]? fun fd=>part cx fd.type cs fd.offset q
  | _,_=>False)
 | .indexAddr t x i=>s.ev x fun x=>s.ev i fun i=>nN cx s.st t x i q
 | .index t x i=>s.ev x fun x=>s.ev i fun i=>Bq cx t x i q
 | .extract x i=>s.ev x fun x=>(match x with
  | .tup l=>aU l[i]? q
  | _=>False)
 | .slice t x lo hi mx=>s.ev x fun x=>Br cx s t x lo hi mx q
 | .makeFunc (.func f) ⟨[]⟩ ⟨eB⟩=>oA s eB fun cs=>q (.clo f cs)
 | .call { callee:=.builtin .len,args:=⟨[x]⟩,argTypes:=⟨[t]⟩ }=>aU (cx.fg t) fun d=>s.ev x fun x=>(match d with
  | .slice _=>HH s.st x q
  | .array n _=>q (.lit .i64 n)
  | .string=>(match x with
   | .val (.string b)=>q (.lit .i64 b.size)
   | _=>False)
  | _=>False)
 | .call { callee:=.builtin .min,args:=⟨[x,y]⟩,argTypes:=_ }=>s.ev x fun x=>s.ev y fun y=>oz min x y q
 | .call { callee:=.builtin .max,args:=⟨[x,y]⟩,argTypes:=_ }=>s.ev x fun x=>s.ev y fun y=>oz max x y q
 | _=>False
where oA (s:aD):List Operand->(List PV->Prop)->Prop
 | [],q=>q []
 | o::os,q=>s.ev o fun x=>(match x with
  | .tup _|.agg _=>False
  | x=>oA s os fun xs=>q (x::xs))
def oB:List aj->Nat->aj->(List aj->Prop)->Prop
 | [],_,_,_=>False
 | _::l,0,b,q=>q (b::l)
 | a::l,n+1,b,q=>oB l n b fun l=>q (a::l)
def sF:List aj->aj->(List aj->Prop)->Prop
 | [],b,q=>q [b]
 | a::l,b,q=>sF l b fun l=>q (a::l)
def aj.mem (b:aj):Bool:=b.live && (match b.k with
 | .dyn=>false
 | .mp=>false
 | .mx=>false
 | _=>true)
def M0 (jl:List (Nat × List PV)) (g:Nat):Option (List PV):=Ev.lO g jl
def nv (G:Gx) (st:List aj) (t:TypeId) (x:PV) (q:PV->Prop):Prop:=match x with
 | .ptr l off=>aU st[l]? fun b=>bif b.mem then part G.cx t b.cs off q else False
 | .pti l off i n=>aU st[l]? fun b=>bif b.mem then (∃ m:Nat,i=m/\part G.cx t b.cs (off+m*n) q)\/(Ev.fI G.cx t=some false/\0<=i/\off+i.toNat*n < b.cs.length/\∀ c,b.cs[off+i.toNat*n]?=some c->q c) else False
 | .dpt l i n off=>aU st[l]? fun b=>(match b.k with
  | .dyn=>bif b.live && Nat.beq b.size n then ∃ (α:Type) (l:List α) (enc:α->PV),b.cs=l.map enc/\i < l.length/\∀ x,l[i]?=some x->part G.cx t (enc x).cells off q else False
  | _=>False)
 | .ep cs off=>part G.cx t cs off q
 | .gp g off=>aU (M0 G.jl g) fun cs=>part G.cx t cs off q
 | .gpi g off i n=>aU (M0 G.jl g) fun cs=>(∃ m:Nat,i=m/\part G.cx t cs (off+m*n) q)\/(Ev.fI G.cx t=some false/\0<=i/\off+i.toNat*n < cs.length/\∀ c,cs[off+i.toNat*n]?=some c->q c)
 | _=>False
def PV.dX:PV->Option Nat
 | .ptr l _=>some l
 | .pti l _ _ _=>some l
 | .dpt l _ _ _=>some l
 | _=>none
def rE (cs new:List PV) (off:Nat):Option (List PV):=if Nat.ble (off+new.length) cs.length then some (cs.take off++new++cs.drop (off+new.length)) else none
def PV.qV:PV->Bool
 | .wref _|.mref _|.ref ..|.ptr ..|.pti ..|.dpt ..|.clo ..|.mth ..|.agg _|.tup _=>false
 | _=>true
def PV.elem:PV->Bool
 | .agg cs=>cs.all PV.qV
 | x=>x.qV
def mix (p:Prop) [Decidable p]:PV->PV->Option PV
 | .int k a,.int l b=>if decide (k=l) then some (.int k (if p then a else b)) else none
 | .int k a,.lit l b=>if decide (k=l) then some (.int k (if p then a else b)) else none
 | .lit k a,.int l b=>if decide (k=l) then some (.int k (if p then a else b)) else none
 | .lit k a,.lit l b=>if decide (k=l) then some (.int k (if p then a else b)) else none
 | _,_=>none
def nw (i:Int) (v:PV) (off m k:Nat):Nat->List PV->Option (List PV)
 | _,[]=>some []
 | p,c::cs=>bif Nat.ble off p && Nat.blt p (off+k*m) && Nat.beq ((p - off) % m) 0 then (match mix (i=(((p - off) / m:Nat):Int)) v c,nw i v off m k (p+1) cs with
   | some x,some l=>some (x::l)
   | _,_=>none) else (match nw i v off m k (p+1) cs with
   | some l=>some (c::l)
   | none=>none)
def aj.c8 (b:aj) (cs:List PV):aj:=match b with
 | ⟨k,ty,n,m,live,_⟩=>⟨k,ty,n,m,live,cs⟩
def aj.can (b:aj):Bool:=b.live && (match b.m with
 | .w=>true
 | _=>false)
def PV.norm (x:PV):PV:=match x with
 | .lit k n=>.int k n
 | x=>x
def xa (G:Gx) (st:List aj) (t:TypeId) (x v:PV) (q:List aj->Prop):Prop :=
 aU (Ev.cC G.cx t) fun n=>bif Nat.beq v.cells.length n && Nat.blt 0 n && v.cells.all PV.iC then (match v with
 | .tup _=>False
 | v=>(match x with
  | .ptr l off=>aU st[l]? fun b=>bif b.mem && b.can then aU (rE b.cs v.cells off) fun cs=>dv cs fun cs=>oB st l (b.c8 cs) q else False
  | .dpt l i m off=>aU st[l]? fun b=>(match b.k with
   | .dyn=>bif b.can && Nat.beq b.size n && Nat.beq m n && Nat.beq off 0 && v.elem then i < b.cs.length/\oB st l (b.c8 (b.cs.set i v.norm)) q else False
   | _=>False)
  | .pti l off i m=>aU st[l]? fun b=>bif b.mem && b.can && Nat.beq n 1 && Nat.blt 0 m then ∃ k:Nat,0<=i/\i < k/\aU (nw i v off m k 0 b.cs) fun cs=>dv cs fun cs=>off+i.toNat*m < b.cs.length/\oB st l (b.c8 cs) q else False
  | _=>False)) else False
def y4 (s:aD) (b:aj) (q:PV->aD->Prop):Prop:=lH s.st 0 fun l=>sF s.st b fun st=>q (.ptr l 0) (s.store st)
def kf (s:aD) (b:aj) (q:PV->aD->Prop):Prop:=lH s.st 0 fun l=>sF s.st b fun st=>q (.wref l) (s.store st)
def chunk (ag:Bool) (n:Nat):Nat->List PV->List PV
 | 0,_=>[]
 | k+1,cs=>(if ag then .agg (cs.take n) else (match cs with
  | c::_=>c
  | []=>.nil))::chunk ag n k (cs.drop n)
inductive Src where
 | stat (cs:List PV)|told (es:List PV)
def ES (cx:Ev.Cx) (st:List aj) (n:Nat) (x:PV) (q:Src->Prop):Prop:=match x with
 | .nil=>q (.told [])
 | .sl m es=>bif Nat.beq m n then q (.told es) else False
 | .ref l off len=>aU st[l]? fun b=>bif b.mem && Nat.ble (off+len*n) b.cs.length then dv ((b.cs.drop off).take (len*n)) fun cs=>q (.stat cs) else False
 | .wref l=>aU st[l]? fun b=>bif b.live && Nat.beq b.size n then (match b.k with
  | .arr=>q (.stat b.cs)
  | .dyn=>q (.told b.cs)
  | _=>False) else False
 | _=>False
def fW (ag:Bool) (n:Nat):Src->Option (List PV)
 | .told es=>some es
 | .stat cs=>MZ cs 0 fun m=>let l:=chunk ag n (m / n) (cs.map PV.norm)
  if l.all PV.elem then some l else none
def HI (st:List aj) (l:Nat) (q:List aj->Prop):Prop:=aU st[l]? fun b=>match b with
 | ⟨k,ty,n,m,_,cs⟩=>oB st l ⟨k,ty,n,m,false,cs⟩ q
def y6 (st:List aj) (elem:TypeId) (n:Nat) (x:PV) (q:Src->List aj->Prop):Prop:=match x with
 | .nil=>q (.stat []) st
 | .wref l=>aU st[l]? fun b=>bif b.can && Nat.beq b.size n && Nat.beq b.ty elem then (match b.k with
  | .arr=>HI st l (q (.stat b.cs))
  | .dyn=>HI st l (q (.told b.cs))
  | _=>False) else False
 | _=>False
def C8 (G:Gx) (s:aD) (t:TypeId) (d x:PV) (q:PV->aD->Prop):Prop :=
 aU (G.cx.fg t) fun td=>match td with
 | .slice elem=>aU (Ev.cC G.cx elem) fun n=>aU (Ev.fI G.cx elem) fun ag=>aU (Ev.lO elem G.bt) fun bE=>kR G.cx elem fun z=>bif Nat.blt 0 n && Nat.beq z.length n && (ag || Nat.beq n 1) then
  ES G.cx s.st n x fun src=>y6 s.st elem n d fun dst st=>(match dst,src with
  | .stat cs,.stat ds=>lH cs 0 fun lc=>lH ds 0 fun ld=>bif Nat.blt 0 ld && Nat.beq (ld % n) 0 && Nat.ble ((lc+ld)*bE) 140737488355328 && Nat.ble (lc+ld) maxLen then dv (cs++ds) fun cs=>kf (s.store st) ⟨.arr,elem,n,.w,true,cs⟩ q else False
  | dst,src=>aU (fW ag n dst) fun es=>aU (fW ag n src) fun fs=>es.length+fs.length<=maxLen/\(es.length+fs.length)*bE<=140737488355328/\kf (s.store st) ⟨.dyn,elem,n,.w,true,es++fs⟩ q) else False
 | _=>False
def y7 (s:aD):List Operand->(List PV->Prop)->Prop
 | [],q=>q []
 | o::os,q=>s.ev o fun x=>y7 s os fun xs=>q (x::xs)
def PV.leads (rl:List Nat) (x:PV):Bool:=x.df.any fun l=>rl.any (Nat.beq l)
def TM.clear (rl:List Nat):TM->TM
 | .nil=>.nil
 | .node v l r=>.node (match v with
  | some x=>if x.leads rl then none else some x
  | none=>none) (l.clear rl) (r.clear rl)
def Bs (rl:List Nat) (t:TM) (q:TM->Prop):Prop:=match rl with
 | []=>q t
 | rl=>q (t.clear rl)
def C9 (G:Gx) (s:aD) (f:FuncId) (args:List PV) (q:PV->aD->Prop):Prop :=
 match s with
 | ⟨n,t,st,b,rl0⟩=>∃ rl:List Nat,(∀ l∈rl,(b<=l\/l∈rl0)/\∀ b,st[l]?=some b->b.m≠.p)/\Spec G f args st rl fun r S=>Bs rl t fun t=>q r ⟨n,t,S,b,rl0⟩
def pop (G:Gx) (s:aD) (o:Oper) (q:PV->aD->Prop):Prop:=match o.op with
 | .load t a=>s.ev a fun a=>nv G s.st t a fun v=>q v s
 | .store t a x=>s.ev a fun a=>s.ev x fun x=>xa G s.st t a x fun st=>q (.tup []) (s.store st)
 | .alloc t=>kR G.cx t fun z=>dv z fun z=>bif z.all PV.iC then y4 s ⟨.loc,t,1,.w,true,z⟩ q else False
 | .box t x=>s.ev x fun x=>(match x with
  | .tup _=>False
  | x=>bif x.cells.all PV.iC then dv x.cells fun cs=>y4 s ⟨.loc,t,1,.w,true,cs⟩ q else False)
 | .buildSlice t len ps=>aU (G.cx.fg t) fun d=>(match d with
  | .slice elem=>aU (Ev.cC G.cx elem) fun n=>kR G.cx elem fun z=>nL s ps.toList fun l =>
   bif Nat.beq z.length n && Nat.ble (len*n) 16777216 && Nat.blt 0 n then ow (fun i=>some (i*n,n)) ((List.replicate len z).flatten) l fun cs=>dv cs fun cs=>bif cs.all PV.iC && Nat.beq cs.length (len*n) && Nat.ble len maxLen then kf s ⟨.arr,elem,n,.w,true,cs⟩ q else False else False
  | _=>False)
 | .call { callee:=.value x,args:=⟨sG⟩,argTypes:=_ }=>s.ev x fun x=>(match x with
  | .clo f eB=>bif G.ext.any (Nat.beq f) then fO G s o q else y7 s sG fun l=>C9 G s f (l++eB) q
  | _=>False)
 | .call { callee:=.builtin .append,args:=⟨[d,x]⟩,argTypes:=⟨[t,t']⟩ }=>bif Nat.beq t t' then s.ev d fun d=>s.ev x fun x=>C8 G s t d x q else False
 | .makeSlice _ _ _=>fO G s o q
 | .makeMap _ _=>fO G s o q
 | .mapUpdate _ _ _ _=>fO G s o q
 | .lookup _ _ _ _=>fO G s o q
 | .call { callee:=.builtin .copy,args:=_,argTypes:=_ }=>fO G s o q
 | .call { callee:=.builtin .clear,args:=_,argTypes:=_ }=>fO G s o q
 | .convert src dst x=>bif Nat.beq dst 9 then fO G s o q else nu G.cx s (.convert src dst x) fun v=>q v s
 | op=>nu G.cx s op fun v=>q v s
def gB (ops:List Oper) (s:aD) (o:Oper) (run skip:aD->Prop):Prop:=match o.guard with
 | none=>run s
 | some (j,want)=>aU ((ops[j]?).bind (·.dst)) fun t=>aU (s.t.get t) fun x=>(match x with
  | .tt=>bif want then run s else skip s
  | .ff=>bif want then skip s else run s
  | .bool p=>(p->s.put (some t) .tt (bif want then run else skip))/\(¬ p->s.put (some t) .ff (bif want then skip else run))
  | .tup []=>skip s
  | _=>False)
def xb (G:Gx) (ops:List Oper) (Q:X->aD->Prop):List Oper->aD->Prop
 | [],s=>Q .cA s
 | o::rest,s=>gB ops s o (fun s=>pop G s o fun v s=>s.put o.dst v (xb G ops Q rest)) (fun s=>s.put o.dst (.tup []) (xb G ops Q rest))
theorem ao {α:Type} {o:Option α} {k:α->Prop} (h:aU o k):∃ x,o=some x/\k x:=by
 cases o with
 | none=>exact h.elim
 | some x=>exact⟨x,rfl,h⟩
theorem ba {b:Bool} {p:Prop} (h:bif b then p else False):b=true/\p:=by
 cases b with
 | true=>exact⟨rfl,h⟩
 | false=>exact h.elim
theorem M1 {b:Bool} {p:Prop} (h:bif b then False else p):b=false/\p:=by
 cases b with
 | true=>exact h.elim
 | false=>exact⟨rfl,h⟩
theorem Ry {x:PV} {q:PV->Prop} (h:fc1 x q):q x:=by cases x<;>exact h
theorem cW:∀ {cs:List PV} {q:List PV->Prop},dv cs q->q cs
 | [],_,h=>h
 | c::cs,q,h=>by
  have:=cW (Ry h)
  exact this
theorem Bt {x:PV} {q:PV->Prop} (h:Y9 x q):q x:=by
 cases x<;>first|exact h|exact cW h
theorem vr:∀ {cs:List PV} {q:List PV->Prop},sE cs q->q cs
 | [],_,h=>h
 | c::cs,q,h=>by
  have:=vr (Bt h)
  exact this
theorem HJ {x:PV} {q:PV->Prop} (h:fc x q):q x:=by
 cases x<;>first|exact h|exact cW h|exact vr h
section
variable {w:World} {I:Nat->Prop} {β:an} {cx:Ev.Cx} {G:Gx} {P:Program}
theorem Is.int {k:IntKind} {n:Int}:(PV.int k n).Is w I β (.int k n):=by simp only[PV.Is]
theorem Is.lit {k:IntKind} {n:Int}:(PV.lit k n).Is w I β (.int k n):=by simp only[PV.Is]
theorem Is.tt:PV.tt.Is w I β (.bool true):=by simp only[PV.Is]
theorem Is.ff:PV.ff.Is w I β (.bool false):=by simp only[PV.Is]
theorem Is.bool {p:Prop}:(PV.bool p).Is w I β (.bool (pb p)):=by simp only[PV.Is]
theorem vt {v:Value} {q:PV->Prop} (h:gu v q):∃ x,q x/\x.Is w I β v/\x.iC=true:=by
 unfold gu at h
 split at h
 ·exact⟨_,h,by simp only[PV.Is],rfl⟩
 ·exact⟨_,h,by simp only[PV.Is],rfl⟩
 ·exact⟨_,h,by simp only[PV.Is],rfl⟩
 ·exact⟨_,h,by simp only[PV.Is],rfl⟩
 ·exact⟨_,h,by simp only[PV.Is]; exact⟨#[],rfl,by simp only[bg]⟩,rfl⟩
 ·obtain⟨hf,h⟩:=ba h
  exact⟨_,h,by simp only[PV.Is]; exact⟨trivial,hf⟩,rfl⟩
theorem vu:∀ {vs:List Value} {q:List PV->Prop},w9 gu vs q->∃ xs,q xs/\bg w I xs β vs
 | [],q,h=>⟨[],h,by simp only[bg]⟩
 | v::vs,q,h=>by
  obtain⟨x,h,hx,_⟩:=vt (w:=w) (I:=I) (β:=β) h
  obtain⟨xs,h,qW⟩:=vu h
  exact⟨x::xs,h,by simp only[bg]; exact⟨hx,qW⟩⟩
theorem sH {v:Value} {q:PV->Prop} (h:ns v q):∃ x,q x/\x.Is w I β v/\∀ vs,x≠.tup vs:=by
 unfold ns at h
 split at h
 ·rename_i cs
  obtain⟨xs,h,qW⟩:=vu (w:=w) (I:=I) (β:=β) h
  exact⟨_,h,by simp only[PV.Is]; exact⟨⟨cs⟩,rfl,qW⟩,fun _ e=>by cases e⟩
 ·obtain⟨x,h,hx,h1⟩:=vt (w:=w) (I:=I) (β:=β) h
  exact⟨x,h,hx,fun vs e=>by subst e; cases h1⟩
theorem PV.nO {x:PV} {b:Bool} {k:IntKind} {n:Int} {v:Value} (h:x.num=some (b,k,n)) (hx:x.Is w I β v):v = .int k n:=by
 cases x<;>simp only[PV.num] at h<;>cases h<;>simpa only [PV.Is] using hx
theorem PV.C' {x:PV} {p:Prop} {v:Value} (h:x.bl=some p) (hx:x.Is w I β v):v = .bool (pb p):=by
 cases x<;>simp only[PV.bl] at h<;>cases h<;>simp only[PV.Is] at hx
 ·rw[hx,cv trivial]
 ·rw[hx,bT id]
 ·exact hx
theorem rY {k:IntKind} {z:Int} {q:PV->Prop} (h:y1 k z q):∃ x,q x/\x.Is w I β (.int k (k.wrap z)):=by
 rcases h with ⟨⟨h1,h2⟩,h⟩|h
 ·exact⟨_,h,by rw[Ev.wX k z h1 h2]; exact Is.int⟩
 ·exact⟨_,h,Is.int⟩
theorem HK {b:Bool} {q:PV->Prop} (h:tf b q):∃ x,q x/\x.Is w I β (.bool b):=by
 cases b with
 | true=>exact⟨_,h,Is.tt⟩
 | false=>exact⟨_,h,Is.ff⟩
theorem Y_ {p:Prop} [Decidable p] {q:PV->Prop} (h:q (.bool p)):∃ x,q x/\x.Is w I β (.bool (decide p)):=⟨_,h,by rw[← HB]; exact Is.bool⟩
theorem y8 {op:BinOp} {t:TypeId} {k:IntKind} {a b:Int} (w:World) :
  (binOp .eql t (.int k a) (.int k b)).run P w = .ok (.bool (decide (a=b))) w/\(binOp .neq t (.int k a) (.int k b)).run P w = .ok (.bool (!decide (a=b))) w/\(binOp .lss t (.int k a) (.int k b)).run P w = .ok (.bool (decide (a < b))) w /\
  (binOp .leq t (.int k a) (.int k b)).run P w = .ok (.bool (decide (a<=b))) w/\(binOp .gtr t (.int k a) (.int k b)).run P w = .ok (.bool (decide (b < a))) w/\(binOp .geq t (.int k a) (.int k b)).run P w = .ok (.bool (decide (b<=a))) w:=by
 refine⟨by simp only[binOp_eql]; rfl,?_,by simp only[binOp_lss]; rfl,by simp only[binOp_leq]; rfl,by simp only[binOp_gtr]; rfl,by simp only[binOp_geq]; rfl⟩
 simp only[binOp_neq]
 show Result.ok (Value.bool (a != b)) w=_
 congr 2
theorem xd {op:BinOp} {t:TypeId} {k:IntKind} {a b:Int} {q:PV->Prop} (h:Rw op k a b q):∃ x v,q x/\x.Is w I β v/\∀ w,(binOp op t (.int k a) (.int k b)).run P w = .ok v w:=by
 have cmp:=fun w=>y8 (P:=P) (op:=op) (t:=t) (k:=k) (a:=a) (b:=b) w
 have out:∀ {z},y1 k z q->(∀ w,(binOp op t (.int k a) (.int k b)).run P w = .ok (.int k (k.wrap z)) w)->∃ x v,q x/\x.Is w I β v/\∀ w,(binOp op t (.int k a) (.int k b)).run P w = .ok v w:=fun h hr=>by
  obtain⟨x,h,hx⟩:=rY (w:=w) (I:=I) (β:=β) h
  exact⟨x,_,h,hx,hr⟩
 have bl:∀ {p:Prop} [Decidable p],q (.bool p)->(∀ w,(binOp op t (.int k a) (.int k b)).run P w = .ok (.bool (decide p)) w)->∃ x v,q x/\x.Is w I β v/\∀ w,(binOp op t (.int k a) (.int k b)).run P w = .ok v w:=fun h hr=>by
  obtain⟨x,h,hx⟩:=Y_ (w:=w) (I:=I) (β:=β) h
  exact⟨x,_,h,hx,hr⟩
 cases op<;>simp only[Rw] at h
 case add=>exact out h fun w=>by rw[binOp_add]; rfl
 case sub=>exact out h fun w=>by rw[binOp_sub]; rfl
 case mul=>exact out h fun w=>by rw[binOp_mul]; rfl
 case quo =>
  obtain⟨h0,h⟩:=h
  have hr:∀ w,(binOp .quo t (.int k a) (.int k b)).run P w = .ok (.int k (k.wrap (a.tdiv b))) w:=fun w=>by rw[binOp_quo]; simp[Op.intDiv,h0]
  rcases h with ⟨ha,hk,hb,h⟩|h
  ·refine⟨_,_,h,?_,hr⟩
   have e:a.tdiv b=a / b:=Int.tdiv_eq_ediv_of_nonneg ha
   have h1:0<=a / b:=Int.ediv_nonneg ha (by omega)
   have h2:a / b<=a:=Int.ediv_le_self b ha
   rw[e,Ev.wX k _ (by (have:Ev.lG k<=0:=by cases k<;>simp[Ev.lG,IntKind.signed,IntKind.bits]); omega) (by omega)]
   exact Is.int
  ·exact⟨_,_,h,Is.int,hr⟩
 case rem =>
  obtain⟨h0,h⟩:=h
  have hr:∀ w,(binOp .rem t (.int k a) (.int k b)).run P w = .ok (.int k (a.tmod b)) w:=fun w=>by rw[binOp_rem]; simp[Op.intDiv,h0]
  rcases h with ⟨ha,hb,h⟩|h
  ·refine⟨_,_,h,?_,hr⟩
   rw[Int.tmod_eq_emod_of_nonneg ha]
   exact Is.int
  ·exact⟨_,_,h,Is.int,hr⟩
 case and=>exact⟨_,_,h,Is.int,fun w=>by rw[binOp_and,intBits_and]; rfl⟩
 case or=>exact⟨_,_,h,Is.int,fun w=>by rw[binOp_or,intBits_or]; rfl⟩
 case xor=>exact⟨_,_,h,Is.int,fun w=>by rw[binOp_xor,intBits_xor]; rfl⟩
 case andNot=>exact⟨_,_,h,Is.int,fun w=>by rw[binOp_andNot,intBits_andNot]; rfl⟩
 case eql=>exact bl h fun w=>(cmp w).1
 case neq=>exact bl h fun w=>by rw[(cmp w).2.1]; congr 2; by_cases hh:a=b<;>simp[hh]
 case lss=>exact bl h fun w=>(cmp w).2.2.1
 case leq=>exact bl h fun w=>(cmp w).2.2.2.1
 case gtr=>exact bl h fun w=>(cmp w).2.2.2.2.1
 case geq=>exact bl h fun w=>(cmp w).2.2.2.2.2
theorem M3 {op:BinOp} {t:TypeId} {k:IntKind} {a b:Int} {q:PV->Prop} (h:HE op k a b q):∃ x v,q x/\x.Is w I β v/\∀ w,(binOp op t (.int k a) (.int k b)).run P w = .ok v w:=by
 have cmp:=fun w=>y8 (P:=P) (op:=op) (t:=t) (k:=k) (a:=a) (b:=b) w
 have bl:∀ {b':Bool},tf b' q->(∀ w,(binOp op t (.int k a) (.int k b)).run P w = .ok (.bool b') w)->∃ x v,q x/\x.Is w I β v/\∀ w,(binOp op t (.int k a) (.int k b)).run P w = .ok v w:=fun h hr=>by
  obtain⟨x,h,hx⟩:=HK (w:=w) (I:=I) (β:=β) h
  exact⟨x,_,h,hx,hr⟩
 cases op<;>simp only[HE] at h
 case add=>exact⟨_,_,h,Is.lit,fun w=>by rw[binOp_add]; rfl⟩
 case sub=>exact⟨_,_,h,Is.lit,fun w=>by rw[binOp_sub]; rfl⟩
 case mul=>exact⟨_,_,h,Is.lit,fun w=>by rw[binOp_mul]; rfl⟩
 case quo =>
  cases h0:decide (b=0)<;>rw[h0] at h
  ·exact⟨_,_,h,Is.lit,fun w=>by rw[binOp_quo]; simp[Op.intDiv,of_decide_eq_false h0]⟩
  ·exact h.elim
 case rem =>
  cases h0:decide (b=0)<;>rw[h0] at h
  ·exact⟨_,_,h,Is.lit,fun w=>by rw[binOp_rem]; simp[Op.intDiv,of_decide_eq_false h0]⟩
  ·exact h.elim
 case and=>exact⟨_,_,h,Is.lit,fun w=>by rw[binOp_and,intBits_and]; rfl⟩
 case or=>exact⟨_,_,h,Is.lit,fun w=>by rw[binOp_or,intBits_or]; rfl⟩
 case xor=>exact⟨_,_,h,Is.lit,fun w=>by rw[binOp_xor,intBits_xor]; rfl⟩
 case andNot=>exact⟨_,_,h,Is.lit,fun w=>by rw[binOp_andNot,intBits_andNot]; rfl⟩
 case eql=>exact bl h fun w=>(cmp w).1
 case neq=>exact bl h fun w=>(cmp w).2.1
 case lss=>exact bl h fun w=>(cmp w).2.2.1
 case leq=>exact bl h fun w=>(cmp w).2.2.2.1
 case gtr=>exact bl h fun w=>(cmp w).2.2.2.2.1
 case geq=>exact bl h fun w=>(cmp w).2.2.2.2.2
theorem y9 {op:BinOp} {st:Bool} {t:TypeId} {k k':IntKind} {a b:Int} {q:PV->Prop} (h:shift op st k a b q):∃ x v,q x/\x.Is w I β v/\∀ w,(binOp op t (.int k a) (.int k' b)).run P w = .ok v w:=by
 have hl:0<=b->∀ w,(binOp .shl t (.int k a) (.int k' b)).run P w = .ok (.int k (k.wrap (a*Ev.aQ k b))) w:=fun h0 w=>by
  rw[binOp_shl]
  simp only[Op.shift,if_neg (by omega:¬ b < 0),Ev.aQ]
  simp
 have hr:0<=b->∀ w,(binOp .shr t (.int k a) (.int k' b)).run P w = .ok (.int k (a / Ev.aQ k b)) w:=fun h0 w=>by
  rw[binOp_shr]
  simp only[Op.shift,if_neg (by omega:¬ b < 0),Ev.aQ,Ev.fdiv_pow]
  rfl
 unfold shift at h
 split at h
 ·obtain⟨h0,h⟩:=ba h
  exact⟨_,_,h,Is.lit,hl (of_decide_eq_true h0)⟩
 ·obtain⟨h0,h⟩:=ba h
  exact⟨_,_,h,Is.lit,hr (of_decide_eq_true h0)⟩
 ·obtain⟨h0,h⟩:=h
  obtain⟨x,h,hx⟩:=rY (w:=w) (I:=I) (β:=β) h
  exact⟨x,_,h,hx,hl h0⟩
 ·obtain⟨h0,h⟩:=h
  exact⟨_,_,h,Is.int,hr h0⟩
 ·exact h.elim
theorem M4 {op:BinOp} {sx sy:Bool} {t:TypeId} {k k':IntKind} {a b:Int} {q:PV->Prop} (h:HF op sx sy k k' a b q):∃ x v,q x/\x.Is w I β v/\∀ w,(binOp op t (.int k a) (.int k' b)).run P w = .ok v w:=by
 unfold HF at h
 split at h
 ·exact y9 h
 ·exact y9 h
 ·obtain⟨hk,h'⟩:=ba h
  have cm:=of_decide_eq_true hk
  subst cm
  clear h hk
  cases sx<;>cases sy
  ·exact xd h'
  ·exact xd h'
  ·exact xd h'
  ·exact M3 h'
theorem Bu {op:BinOp} {t:TypeId} {p:Prop} {q:PV->Prop} {u v:Value} (h:Rx op p q) (he:op = .eql->∀ w,(binOp .eql t u v).run P w = .ok (.bool (pb p)) w) (hn:op = .neq->∀ w,(binOp .neq t u v).run P w = .ok (.bool (!pb p)) w) :
  ∃ x r,q x/\x.Is w I β r/\∀ w,(binOp op t u v).run P w = .ok r w:=by
 cases op<;>simp only[Rx] at h
 case eql=>exact⟨_,_,h,Is.bool,he rfl⟩
 case neq =>
  refine⟨_,_,h,Is.bool,fun w=>?_⟩
  rw[hn rfl w]
  congr 2
  by_cases hp:p
  ·rw[cv hp,bT (fun h=>h hp)]; rfl
  ·rw[bT hp,cv hp]; rfl
theorem xe {op:BinOp} {t:TypeId} {b:Bool} {q:PV->Prop} {u v:Value} (h:y2 op b q) (he:op = .eql->∀ w,(binOp .eql t u v).run P w = .ok (.bool b) w) (hn:op = .neq->∀ w,(binOp .neq t u v).run P w = .ok (.bool (!b)) w) :
  ∃ x r,q x/\x.Is w I β r/\∀ w,(binOp op t u v).run P w = .ok r w:=by
 cases op<;>simp only[y2] at h
 case eql =>
  obtain⟨x,h,hx⟩:=HK (w:=w) (I:=I) (β:=β) h
  exact⟨x,_,h,hx,he rfl⟩
 case neq =>
  obtain⟨x,h,hx⟩:=HK (w:=w) (I:=I) (β:=β) h
  exact⟨x,_,h,hx,hn rfl⟩
theorem lZ (hO:Ev.fR cx) {t:TypeId} {cs:List PV} {off:Nat} {x:PV} {vs:Array Value} (h:jO cx t cs off=some x) (hc:bg w I cs β vs.toList) :
  ∃ v,x.Is w I β v/\∀ w',(Go.part t vs off).run cx.P w' = .ok v w':=by
 unfold jO at h
 split at h
 ·rename_i n ha hn
  split at h
  ·cases h
   refine⟨.agg (vs.extract off (off+n)),?_,fun w'=>?_⟩
   ·simp only[PV.Is]
    refine⟨_,rfl,?_⟩
    have:=(hc.drop off).take n
    rw[show (vs.extract off (off+n)).toList=(vs.toList.drop off).take n by simp]
    exact this
   ·simp[Go.part,Ev.jh hO ha,Ev.di hO hn]
  ·cases h
 ·rename_i ha
  obtain⟨v,hv,hi⟩:=hc.get h
  refine⟨v,hi,fun w'=>?_⟩
  have hv':vs[off]?=some v:=by simpa using hv
  simp[Go.part,Ev.jh hO ha,hv']
 ·cases h
end
end Go.Proofs.YtbnoodjnpooocaaGreatDoor.Pw

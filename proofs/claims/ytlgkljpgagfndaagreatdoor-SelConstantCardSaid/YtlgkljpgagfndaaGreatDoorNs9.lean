/- What this claim is proved with: no condition. -/
import Derived.Test.YtlgkljpgagfndaaGreatDoorNs8
import Derived.Deep.Slices
import Derived.Below
import Derived.OpenShut
import Derived.LaidLaws
import Derived.ChangeArms
import Derived.MakeChecks
import Derived.Stop.Joined
import Derived.Test.YtlgkljpgagfndaaGreatDoorNs7
set_option linter.unusedVariables false
set_option linter.unusedSimpArgs false
namespace Go.Proofs.YtlgkljpgagfndaaGreatDoor.Pw
open Go Go.RowKit
section
variable {w w':World} {I I':Nat->Prop} {β aV:aB} {G:Gx} {s:ba} {a:Act} {st dM:List ak}
theorem aN.Ce (hH:aN I β [] w) (w':World) (I':Nat->Prop):aN I' β [] w':=⟨hH.pM,fun l b hl=>by simp at hl⟩
theorem dj.below (hM:dj G I w) (hB:Below w.heap.size w w'):dj G I w' :=
 ⟨fun g hg=>Nat.lt_of_lt_of_le (hM.az g hg) hB.size,fun g cs h=>⟨(hM.oh g cs h).1,cX.mono (fun _ h=>h) (fun g hg=>hB.block g (hM.az g hg)) _ _ _ (hB.block g (hM.az g (hM.oh g cs h).1)) (hM.oh g cs h).2⟩,fun g cs h=>by
  obtain⟨arr,ty,fr,h1,h2⟩:=hM.row g cs h
  exact⟨arr,ty,fr,(hB.block g (hM.az g (hM.oh g cs h).1)).trans h1,h2⟩⟩
theorem ai.tH {f:FuncId} {args:List PV} {r:PV} (he:Ev.g_ G.cx.P f) (vs:List Value) (v:Value) (ha:∀ w I β bw,bB w I args β bw->bw=vs) (hr:∀ w I β,r.Is w I β v)
  (h:∀ w,Calls G.cx.P f vs.toArray w fun e w'=>e = .returned v/\Below w.heap.size w w'):ai G f args r:=by
 refine Spec.intro he fun I β w bw hH hM hA=>?_
 rw[ha _ _ _ _ hA]
 refine (h w).mono fun e w' ⟨he,hB⟩=>⟨v,r,[],I,β,he,rfl,hr _ _ _,hH.Ce _ _,hM.below hB,⟨hB.os,hB.tape,hB.output,hB.size,fun g hg _=>hB.block g hg,fun g _ h=>h,fun _ h=>h,fun _ _ h=>.inl h⟩,Nat.le_refl _,fun _ _ _=>rfl⟩
theorem ai.of_same {f:FuncId} {args:List PV} {r:PV} (he:Ev.g_ G.cx.P f) (vs:List Value) (v:Value) (ha:∀ w I β bw,bB w I args β bw->bw=vs) (hr:∀ w I β,r.Is w I β v)
  (h:∀ w,Calls G.cx.P f vs.toArray w fun e w'=>e = .returned v/\w'=w):ai G f args r :=
 ai.tH he vs v ha hr fun w=>(h w).mono fun e w' ⟨h1,h2⟩=>⟨h1,h2 ▸ Below.refl _ _⟩
theorem ai.calls {f:FuncId} {args:List PV} {r:PV} {bw:List Value} (h:ai G f args r) (hM:dj G I w) (hA:bB w I args (fun _=>none) bw) (v:Value) (hr:∀ w' I' aV v',r.Is w' I' aV v'->v'=v) :
  Calls G.cx.P f bw.toArray w fun e w'=>e = .returned v/\Below w.heap.size w w':=by
 have h0:aN I (fun _=>none) ([]:List ak) w:=⟨fun _ _=>rfl,fun l b hl=>by simp at hl⟩
 refine (h.run.2 I (fun _=>none) w bw h0 hM hA).mono fun e w' ⟨v',r',S',I',aV,he,sS,hi,_,j9,hE,_,_⟩=>?_
 subst sS
 rw[hr _ _ _ _ hi] at he
 exact⟨he,hE.os,hE.tape,hE.output,hE.size,fun g hg=>hE.block g hg fun ⟨l,b,p,o,h1,_⟩=>by simp at h1⟩
theorem F4 (w':World) (I':Nat->Prop) (aV:aB) (v':Value) (h:PV.tt.Is w' I' aV v'):v' = .bool true:=by simpa [PV.Is] using h
end
def In (w:World) (g:Nat):Prop:=g < w.heap.size
abbrev no:aB:=fun _=>none
def Op (P:Program) (t:TypeId) (S:PV->Prop):Prop:=∀ {H:Type} (e:TypeId × Value->H) (w:World) (base:Nat) (held:Bool) (fuel:Nat) (cs:List Value) (x:DataW H × List MemPlace),
 DataW.trod e P w base (fun _=>true) held fuel t cs=some x->(∀ n∈x.1.weights P t,n<=reachBytes)->∃ y,S y/\(∀ vs,y≠.tup vs)/\bB w (In w) y.cells no cs/\cs.length=P.cellsOf t/\∀ c∈cs,c.oneCell'=true
def SInt (k:IntKind) (x:PV):Prop:=∃ z,sR k z/\x = .int k z
def oW:List (PV->Prop)->List PV->Prop
 | [],[]=>True
 | S::Ss,x::xs=>S x/\oW Ss xs
 | _,_=>False
def lR (Ss:List (PV->Prop)) (x:PV):Prop:=∃ xs,oW Ss xs/\x = .agg (xs.flatMap PV.cells)
theorem cB {S:PV->Prop} {Ss:List (PV->Prop)} {xs:List PV} (h:oW (S::Ss) xs):∃ x r,xs=x::r/\S x/\oW Ss r:=by
 cases xs with
 | nil=>exact h.elim
 | cons x r=>exact⟨x,r,rfl,h⟩
theorem lS {xs:List PV} (h:oW [] xs):xs = []:=by
 cases xs with
 | nil=>rfl
 | cons x r=>exact h.elim
section
variable {P:Program} {t e:TypeId}
theorem KK {k:IntKind} {z:Int} (h:(Lit.int k z).wf=true):sR k z:=by
 unfold sR
 cases k<;>simp_all [Lit.wf,Ev.jl,Ev.jc,IntKind.min,IntKind.max,IntKind.signed,IntKind.bits]<;>omega
theorem tI {k:IntKind} (ht:P.underlying t=some (.int k)) (hc:P.cellsOf t=1):Op P t (SInt k):=fun e w base held fuel cs x h xE=>by
 obtain⟨n,rfl,_,hw⟩:=DataW.trod_int ht h
 exact⟨.int k n,⟨n,KK hw,rfl⟩,nofun,bB.one (by simp only[PV.Is]),by rw[hc]; rfl,fun c hc=>by simp only[List.mem_singleton] at hc; subst hc; rfl⟩
theorem nn {α:Type _} {p:Nat->α->Prop}:∀ n:Nat,(∀ i,i < n->∃ y,p i y)->∃ l:List α,l.length=n/\∀ i y,l[i]?=some y->p i y
 | 0,_=>⟨[],rfl,fun i y h=>by simp at h⟩
 | n+1,h=>by
  obtain⟨l,hl,hp⟩:=nn (p:=p) n fun i hi=>h i (by omega)
  obtain⟨y,hy⟩:=h n (by omega)
  refine⟨l++[y],by simp[hl],fun i z hz=>?_⟩
  rw[List.getElem?_append] at hz
  split at hz
  ·exact hp i z hz
  ·rename_i Jq
   have h0:i - l.length=0:=by
    have:=(List.getElem?_eq_some_iff.1 hz).1
    simp at this; omega
   rw[h0] at hz
   simp only[List.getElem?_cons_zero,Option.some.injEq] at hz
   subst hz
   have:i=n:=by omega
   subst this; exact hy
theorem jx {H:Type} {n:Nat}:∀ {l:List (DataW H)} {d:DataW H},d∈l->n∈d.weights P e->n∈DataW.weightsAll P e l
 | [],_,h,_=>by cases h
 | a::l,d,h,hn=>by
  simp only[DataW.weightsAll,List.mem_append]
  rcases List.mem_cons.1 h with rfl|h
  ·exact .inl hn
  ·exact .inr (jx h hn)
theorem iP {H:Type} {n:Nat}:∀ {ts:List TypeId} {l:List (DataW H)} {i:Nat} {t:TypeId} {d:DataW H},ts[i]?=some t->l[i]?=some d->n∈d.weights P t->n∈DataW.weightsEach P ts l
 | [],_,_,_,_,h,_,_=>by simp at h
 | _::_,[],_,_,_,_,h,_=>by simp at h
 | u::ts,a::l,0,t,d,h,h',hn=>by
  simp only[List.getElem?_cons_zero,Option.some.injEq] at h h'
  subst h; subst h'
  simp only[DataW.weightsEach,List.mem_append]
  exact .inl hn
 | u::ts,a::l,i+1,t,d,h,h',hn=>by
  simp only[DataW.weightsEach,List.mem_append]
  exact .inr (iP (by simpa using h) (by simpa using h') hn)
def F5 (P:Program) (total:Nat):Nat->List Field->List (PV->Prop)->Prop
 | off,[],[]=>off=total
 | off,f::fs,S::Ss=>f.offset=off/\Op P f.type S/\F5 P total (off+P.cellsOf f.type) fs Ss
 | _,_,_=>False
theorem JE {fs:Array Field} {Ss:List (PV->Prop)} (ht:P.underlying t=some (.struct fs)) (hf:F5 P (P.cellsOf t) 0 fs.toList Ss):Op P t (lR Ss):=fun {H} ec w base held fuel cs x h xE=>by
 obtain⟨xs,n,_,rfl,hl,oE,hx⟩:=DataW.trod_struct ht h
 have key:∀ (l:List Field) (Ss:List (PV->Prop)) (off:Nat),F5 P (P.cellsOf t) off l Ss->(∀ f∈l,∃ y,DataW.trod ec P w base (fun _=>true) held n f.type ((cs.drop f.offset).take (P.cellsOf f.type))=some y/\∀ n∈y.1.weights P f.type,n<=reachBytes)->off<=cs.length ->
   ∃ ys,oW Ss ys/\bB w (In w) (ys.flatMap PV.cells) no (cs.drop off)/\∀ c∈cs.drop off,c.oneCell'=true:=by
  intro l
  induction l with
  | nil =>
   intro Ss off h _ _
   cases Ss with
   | nil =>
    simp only[F5] at h
    refine⟨[],trivial,?_,?_⟩
    ·rw[List.drop_eq_nil_of_le (by omega)]; simp only[List.flatMap_nil,bB]
    ·rw[List.drop_eq_nil_of_le (by omega)]; intro c hc; cases hc
   | cons=>exact h.elim
  | cons f l ih =>
   intro Ss off h ht hle
   cases Ss with
   | nil=>exact h.elim
   | cons S Ss =>
    obtain⟨h1,h2,h3⟩:=h
    subst h1
    obtain⟨z,hz,hzw⟩:=ht f (List.mem_cons_self ..)
    obtain⟨y,hS,_,hy,Fa,vC⟩:=h2 ec w base held n _ z hz hzw
    have Cf:f.offset+P.cellsOf f.type<=cs.length:=by
     rw[List.length_take,List.length_drop] at Fa; omega
    obtain⟨ys,WY,hyL,hyO⟩:=ih Ss _ h3 (fun g hg=>ht g (List.mem_cons_of_mem _ hg)) Cf
    have hd:cs.drop f.offset=(cs.drop f.offset).take (P.cellsOf f.type)++cs.drop (f.offset+P.cellsOf f.type):=by
     rw[← List.drop_drop,List.take_append_drop]
    refine⟨y::ys,⟨hS,WY⟩,?_,?_⟩
    ·rw[hd,List.flatMap_cons]; exact hy.append hyL
    ·intro c hc
     rw[hd,List.mem_append] at hc
     exact hc.elim (vC c) (hyO c)
 obtain⟨ys,h1,h2,h3⟩:=key fs.toList Ss 0 hf (fun f hf=>by
  obtain⟨i,hi⟩:=List.getElem?_of_mem hf
  have QI:i < fs.size:=by simpa using (List.getElem?_eq_some_iff.1 hi).1
  have:=hx i f (by simpa using hi)
  rw[this]
  have cz:i < xs.length:=by omega
  refine⟨_,List.getElem?_eq_getElem cz,fun n hn=>xE n ?_⟩
  simp only[DataW.weights,ht]
  exact iP (i:=i) (by rw[List.getElem?_map,hi]; rfl) (by rw[List.getElem?_map,List.getElem?_eq_getElem cz]; rfl) hn) (Nat.zero_le _)
 rw[List.drop_zero] at h2 h3
 exact⟨.agg (ys.flatMap PV.cells),⟨ys,h1,rfl⟩,nofun,h2,hl,h3⟩
theorem Op.F6 {S S':PV->Prop} (h:Op P t S) (hS:∀ x,S x->S' x):Op P t S':=fun e w base held fuel cs x hx xE=>by
 obtain⟨y,h1,h2⟩:=h e w base held fuel cs x hx xE
 exact⟨y,hS y h1,h2⟩
theorem decode {α:Type} {S:PV->Prop} {enc:α->PV} {ok:α->Prop} (h:∀ x,S x->∃ z,ok z/\x=enc z):∀ (es:List PV),(∀ e∈es,S e)->∃ l:List α,(∀ z∈l,ok z)/\es=l.map enc
 | [],_=>⟨[],fun _ h=>by simp at h,rfl⟩
 | e::es,hS=>by
  obtain⟨z,hz,rfl⟩:=h e (hS e (List.mem_cons_self ..))
  obtain⟨l,hl,rfl⟩:=decode h es fun e he=>hS e (List.mem_cons_of_mem _ he)
  refine⟨z::l,fun y hy=>?_,rfl⟩
  rcases List.mem_cons.1 hy with rfl|hy
  ·exact hz
  ·exact hl y hy
theorem rQ {H:Type} {ts:List TypeId} {l:List (DataW H)} (h:(DataW.weightsEach P ts l).all (·<=reachBytes)=true) {i:Nat} {d:DataW H} (ht:ts[i]?=some t) (hd:l[i]?=some d):∀ n∈d.weights P t,n<=reachBytes:=fun n hn=>by
 have:=List.all_eq_true.1 h n (iP ht hd hn)
 simpa using this
theorem Op.arg1 {S:PV->Prop} (h:Op P t S) (h1:∀ y,S y->y.cells = [y]) {H:Type} {ec:TypeId × Value->H} {w:World} {base:Nat} {held:Bool} {v:Value} {d:DataW H} {p:List MemPlace} (hv:v.cells = #[v]) (ht:DataW.Trod ec P w base (fun _=>true) held t v d p) (xE:∀ n∈d.weights P t,n<=reachBytes) :
  ∃ y,S y/\y.Is w (In w) no v:=by
 obtain⟨fuel,ht⟩:=ht
 obtain⟨y,hS,_,hy,_⟩:=h ec w base held fuel _ _ ht xE
 refine⟨y,hS,?_⟩
 rw[h1 y hS,hv] at hy
 simp only[bB,and_true] at hy
 exact hy
theorem Op.argA {Ss:List (PV->Prop)} (h:Op P t (lR Ss)) {H:Type} {ec:TypeId × Value->H} {w:World} {base:Nat} {held:Bool} {vs:Array Value} {d:DataW H} {p:List MemPlace} (ht:DataW.Trod ec P w base (fun _=>true) held t (.agg vs) d p) (xE:∀ n∈d.weights P t,n<=reachBytes) :
  ∃ y,lR Ss y/\y.Is w (In w) no (.agg vs):=by
 obtain⟨fuel,ht⟩:=ht
 obtain⟨y,hS,_,hy,_⟩:=h ec w base held fuel _ _ ht xE
 refine⟨y,hS,?_⟩
 obtain⟨xs,_,rfl⟩:=hS
 simp only[PV.Is]
 exact⟨vs,rfl,hy⟩
theorem SInt.cell {k:IntKind} (y:PV):SInt k y->y.cells = [y]:=fun ⟨_,_,h⟩=>by subst h; rfl
end
def np (P:Program) (total:Nat) (r:TypeId->DataW Unit->Option (List PV)):Nat->List (Nat × TypeId)->List (DataW Unit)->Option (List PV)
 | off,[],[]=>if off=total then some [] else none
 | off,(o,t)::ps,d::ds=>if o=off then (match r t d,np P total r (off+P.cellsOf t) ps ds with
   | some xs,some ys=>some (xs++ys)
   | _,_=>none) else none
 | _,_,_=>none
def tJ (P:Program):Nat->TypeId->DataW Unit->Option (List PV)
 | 0,_,_=>none
 | f+1,t,d=>match P.underlying t,d with
  | some (.int k),.lit (.int l n)=>if k=l then some [.lit k n] else none
  | some .bool,.lit (.bool b)=>some [if b then .tt else .ff]
  | some (.struct fs),.agg ds=>np P (P.cellsOf t) (tJ P f) 0 (fs.toList.map fun f=>(f.offset,f.type)) ds
  | some (.array n e),.agg ds=>np P (P.cellsOf t) (tJ P f) 0 ((List.range n).map fun i=>(i*P.cellsOf e,e)) ds
  | _,_=>none
section
variable {P:Program} {w:World} {I:Nat->Prop}
theorem xF {base:Nat} {sp:Nat->Bool} {held:Bool} {enc:TypeId × Value->Unit}:∀ (f:Nat) (t:TypeId) (d:DataW Unit) (xs:List PV) (fuel:Nat) (cs:List Value) (p:List MemPlace),tJ P f t d=some xs->DataW.trod enc P w base sp held fuel t cs=some (d,p)->bB w I xs no cs/\∀ c∈cs,c.oneCell'=true
 | 0,_,_,_,_,_,_,h,_=>by simp[tJ] at h
 | f+1,t,d,xs,fuel,cs,p,h,ht=>by
  have key:∀ (n:Nat) (ps:List (Nat × TypeId)) (ds:List (DataW Unit)) (off:Nat) (xs:List PV),np P (P.cellsOf t) (tJ P f) off ps ds=some xs->cs.length=P.cellsOf t ->
    (∀ (i:Nat) (o:Nat) (u:TypeId),ps[i]?=some (o,u)->∃ d p,ds[i]?=some d/\DataW.trod enc P w base sp held n u ((cs.drop o).take (P.cellsOf u))=some (d,p))->bB w I xs no (cs.drop off)/\∀ c∈cs.drop off,c.oneCell'=true:=by
   intro n ps
   induction ps with
   | nil =>
    intro ds off xs h hl _
    cases ds with
    | cons=>simp[np] at h
    | nil =>
     simp only[np] at h
     split at h
     ·cases h
      rw[List.drop_eq_nil_of_le (by omega)]
      exact⟨by simp only[bB],fun c hc=>by cases hc⟩
     ·cases h
   | cons q ps ih =>
    obtain⟨o,u⟩:=q
    intro ds off xs h hl ha
    cases ds with
    | nil=>simp[np] at h
    | cons d ds =>
     simp only[np] at h
     split at h
     ·rename_i ho
      subst ho
      split at h
      ·rename_i xs1 ys h1 h2
       cases h
       obtain⟨d',p',hd,ht⟩:=ha 0 o u rfl
       simp only[List.getElem?_cons_zero,Option.some.injEq] at hd
       subst hd
       have i1:=xF f u _ _ n _ _ h1 ht
       have i2:=ih ds _ _ h2 hl fun i o' u' hi=>by
        obtain⟨d',p',hd,ht⟩:=ha (i+1) o' u' (by simpa using hi)
        exact⟨d',p',by simpa using hd,ht⟩
       have hd:cs.drop o=(cs.drop o).take (P.cellsOf u)++cs.drop (o+P.cellsOf u):=by
        rw[← List.drop_drop,List.take_append_drop]
       rw[hd]
       refine⟨i1.1.append i2.1,fun c hc=>?_⟩
       rw[List.mem_append] at hc
       exact hc.elim (i1.2 c) (i2.2 c)
      ·cases h
     ·cases h
  unfold tJ at h
  split at h
  ·rename_i hu
   obtain⟨z,rfl,hz,_⟩:=DataW.trod_int hu ht
   simp only[Prod.mk.injEq,DataW.lit.injEq,Lit.int.injEq] at hz
   obtain⟨⟨rfl,rfl⟩,_⟩:=hz
   simp only[if_true,Option.some.injEq] at h
   subst h
   exact⟨bB.one (by simp only[PV.Is]),fun c hc=>by simp only[List.mem_singleton] at hc; subst hc; rfl⟩
  ·rename_i hu
   obtain⟨b,rfl,hz⟩:=DataW.trod_bool hu ht
   simp only[Prod.mk.injEq,DataW.lit.injEq,Lit.bool.injEq] at hz
   obtain⟨rfl,_⟩:=hz
   simp only[Option.some.injEq] at h
   subst h
   refine⟨bB.one ?_,fun c hc=>by simp only[List.mem_singleton] at hc; subst hc; rfl⟩
   split<;>simp only[PV.Is]<;>simp_all
  ·rename_i hu
   obtain⟨ys,n,_,hz,hl,Fa,hy⟩:=DataW.trod_struct hu ht
   simp only[Prod.mk.injEq,DataW.agg.injEq] at hz
   obtain⟨rfl,_⟩:=hz
   have:=key n _ _ 0 xs h hl fun i o u hi=>by
    simp only[List.getElem?_map,Option.map_eq_some_iff,Prod.mk.injEq] at hi
    obtain⟨f',hf,rfl,rfl⟩:=hi
    have hy:=hy i f' (by simpa using hf)
    have cz:i < ys.length:=by rw[Fa]; simpa using (List.getElem?_eq_some_iff.1 hf).1
    exact⟨ys[i].1,ys[i].2,by simp[cz],by rw[hy]; simp[cz]⟩
   simpa using this
  ·rename_i hu
   obtain⟨ys,n,_,hz,hl,Fa,hy⟩:=DataW.trod_array hu ht
   simp only[Prod.mk.injEq,DataW.agg.injEq] at hz
   obtain⟨rfl,_⟩:=hz
   have:=key n _ _ 0 xs h hl fun i o u hi=>by
    simp only[List.getElem?_map,Option.map_eq_some_iff,Prod.mk.injEq] at hi
    obtain⟨j,hj,rfl,rfl⟩:=hi
    obtain⟨Zj,rfl⟩:=List.getElem?_eq_some_iff.1 hj
    simp only[List.length_range] at Zj
    rw[List.getElem_range]
    have hy:=hy i Zj
    have cz:i < ys.length:=by omega
    exact⟨ys[i].1,ys[i].2,by simp[cz],by rw[hy]; simp[cz]⟩
   simpa using this
  ·cases h
theorem xG {laid:List (String × DataW Unit)}:∀ {l:List (String × DataW Unit)} {ps:List MemPlace},DataW.LaidVars P w l ps->∀ {name:String} {d:DataW Unit},(name,d)∈l->∀ {g:Nat} {t:TypeId} {xs:List PV} (f:Nat),P.globalNamed name=some g->(P.globals[g]?).map (·.type)=some t->tJ P f t d=some xs->xs≠[]->(g < w.heap.size/\cX w I xs g 0)/\∃ arr ty fr,w.heap[g]?=some (.cells arr ty fr)/\arr.size=xs.length
 | [],_,_,_,_,hm,_,_,_,_,_,_,_,_=>by cases hm
 | (n,d)::r,ps,h,name,d',hm,g,t,xs,f,hg,ht,hx,cZ=>by
  obtain⟨g',t',cs,fuel,p,q,B2,xo,yW,hd,hr,_⟩:=h
  rcases List.mem_cons.1 hm with he|hm
  ·cases he
   obtain rfl:=Option.some.inj (hg.symm.trans B2)
   obtain rfl:=Option.some.inj (ht.symm.trans xo)
   obtain⟨h1,h2⟩:=xF (I:=I) f t _ _ fuel _ _ hx hd
   have Vs:cX w I xs g 0:=cX.of fun i c hc=>by
    obtain⟨v,hv,hi⟩:=h1.get hc
    exact⟨v,by rw[Nat.zero_add,World.var?_cell hg yW]; simpa using hv,hi,h2 v (List.mem_of_getElem? hv)⟩
   refine⟨⟨?_,Vs⟩,?_⟩
   rotate_left 1
   ·have hl:=h1.length
    unfold World.var? at yW
    rw[hg,Option.bind_some] at yW
    split at yW
    ·rename_i arr ty fr hh
     cases yW
     exact⟨_,ty,fr,hh,by simpa using hl.symm⟩
    ·cases yW
   cases xs with
   | nil=>exact absurd rfl cZ
   | cons c xs =>
    obtain⟨v,hv,_⟩:=Vs.get (i:=0) rfl
    exact World.block_lt_of_cell? w _ hv
  ·exact xG (laid:=laid) hr hm f hg ht hx cZ
theorem vT {G:Gx} {laid:List (String × DataW Unit)} (ov:(laid.all fun x=>x.2.handleName?.isNone)=true) (h:laidMetH P laid w)
  (dE:∀ x∈G.kH,∃ name d t,(name,d)∈laid/\P.globalNamed name=some x.1/\(P.globals[x.1]?).map (·.type)=some t/\tJ P 8 t d=some x.2/\x.2≠[]):dj G (In w) w:=by
 rw[MakeChecks.laidMetH_plain _ _ _ ov] at h
 obtain⟨ps,h,_⟩:=h
 have key:∀ (g:Nat) (cs:List PV),(g,cs)∈G.kH->(g < w.heap.size/\cX w (In w) cs g 0)/\∃ arr ty fr,w.heap[g]?=some (.cells arr ty fr)/\arr.size=cs.length:=fun g cs hg=>by
  obtain⟨name,d,t,h1,h2,h3,h4,h5⟩:=dE _ hg
  exact xG (I:=In w) (laid:=laid) h h1 8 h2 h3 h4 h5
 exact⟨fun g hg=>hg,fun g cs hg=>(key g cs hg).1,fun g cs hg=>(key g cs hg).2⟩
end
section
variable {w w':World} {I I':Nat->Prop} {β aV:aB} {G:Gx} {s:ba} {a:Act} {st dM:List ak}
def RJ (I:Nat->Prop) (w w':World) (g:Nat):Prop:=I g\/(w.heap.size<=g/\g < w'.heap.size)
theorem ai.WZ {f:FuncId} {args:List PV} {r:PV} (he:Ev.g_ G.cx.P f)
  (h:∀ I β w bw,dj G I w->bB w I args β bw->Calls G.cx.P f bw.toArray w fun e w'=>∃ v,e = .returned v/\Below w.heap.size w w'/\r.Is w' (RJ I w w') no v) (hu:r.cR = []):ai G f args r:=by
 refine Spec.intro he fun I β w bw hH hM hA=>?_
 refine (h I β w bw hM hA).mono fun e w' ⟨v,he,hB,hr⟩=>⟨v,r,[],RJ I w w',β,he,rfl,j8 hu hr,hH.Ce _ _,?_,⟨hB.os,hB.tape,hB.output,hB.size,fun g hg _=>hB.block g hg,fun g _ ⟨l,b,p,o,h1,_⟩=>by simp at h1,fun _ h=>.inl h,fun g hg h=>?_⟩,Nat.le_refl _,fun _ _ _=>rfl⟩
 ·have j9:=hM.below hB
  exact⟨fun g hg=>hg.elim (fun h=>j9.az g h) (fun h=>h.2),fun g cs hg=>⟨.inl (j9.oh g cs hg).1,cX.mono (fun _ h=>.inl h) (fun _ _=>rfl) _ _ _ rfl (j9.oh g cs hg).2⟩,j9.row⟩
 ·rcases h with h|h
  ·exact .inl h
  ·omega
end
open Go
def P3:List (Nat × aS):=[(8,.pure 0 <| .pure 3 <| .load 1 [13,12,11,10,9,8,7,6,5,2] <| .load 4 [13,12,11,10,9,8,7,6,5] <| .bP 2 (.bP 5 (.pure 6 <| .pure 7 <| .pure 8 <| .load 9 [13,12,11,10] <| .bP 10 (.pure 11 <| .pure 12 <| .pure 13 <| .done) (.nil)) (.nil)) (.nil))]
def P6:List (Nat × aS):=[]
def Zk:List (Nat × aS):=[]
def Vt:List (Nat × aS):=[]
def P8:List (Nat × aS):=[(6,.load 0 [11,10,9,8,7,5,3,1] <| .load 2 [11,10,9,8,7,5,3] <| .load 4 [11,10,9,8,7,5] <| .load 6 [11,10,9,8,7] <| .bP 1 (.bP 3 (.bP 5 (.bP 7 (.bP 8 (.bP 9 (.pure 10 <| .pure 11 <| .done) (.nil)) (.nil)) (.nil)) (.nil)) (.nil)) (.nil))]
def P25:List (Nat × aS):=[(2,.pure 0 <| .load 1 [38,37,36,35,34,33,32,31,30,29,28,27,26,25,24,23,22,21,20,19,18,17,16,15,14,13,12,11,10,9,8,7,6,5,4,3,2] <| .bP 2 (.pure 3 <| .pure 4 <| .pure 5 <| .pure 6 <| .load 7 [38,37,36,35,34,33,32,31,30,29,28,27,26,25,24,23,22,21,20,19,18,17,16,15,14,13,12,11,10,9,8] <| .bP 8 (.pure 9 <| .pure 10 <| .pure 11 <| .pure 12 <| .pure 13 <| .load 14 [38,37,36,35,34,33,32,31,30,29,28,27,26,25,24,23,22,21,20,19,18,17,16,15] <| .bP 15 (.pure 16 <| .pure 17 <| .pure 18 <| .load 19 [38,37,36,35,34,33,32,31,30,29,28,27,26,25,24,23,22,21,20] <| .pure 20 <| .pure 21 <| .pure 22 <| .pure 23 <| .pure 25 <| .pure 26 <| .load 24 [38,37,36,35,34,33,32,31,30,29,28] <| .load 27 [38,37,36,35,34,33,32,31,30,29,28] <| .pure 28 <| .pure 29 <| .pure 30 <| .pure 31 <| .pure 32 <| .pure 34 <| .load 33 [38,37,36] <| .load 35 [38,37,36] <| .bP 36 (.pure 37 <| .pure 38 <| .done) (.nil)) (.nil)) (.nil)) (.nil))]
def ku:List (Nat × aS):=[]
def P54:List (Nat × aS):=[]
def Vu:List (Nat × aS):=[]
def P56:List (Nat × aS):=[]
def Zl:List (Nat × aS):=[(1,.pure 6 <| .load 0 [5,4,3,1] <| .load 2 [5,4,3] <| .bP 1 (.bP 3 (.bP 4 (.pure 5 <| .done) (.nil)) (.nil)) (.nil))]
def Zm:List (Nat × aS):=[]
def JF:List (Nat × aS):=[]
def P58:List (Nat × aS):=[]
def P60:List (Nat × aS):=[]
def P61:List (Nat × aS):=[]
def Zn:List (Nat × aS):=[]
def P59:List (Nat × aS):=[]
def Zo:List (Nat × aS):=[]
def P27:List (Nat × aS):=[]
def Zp:List (Nat × aS):=[]
def P30:List (Nat × aS):=[]
def P31:List (Nat × aS):=[(1,.pure 0 <| .pure 1 <| .pure 3 <| .pure 4 <| .load 2 [7,6] <| .pure 6 <| .load 5 [7] <| .pure 7 <| .done),(2,.pure 0 <| .pure 1 <| .pure 3 <| .pure 4 <| .pure 6 <| .pure 7 <| .pure 9 <| .pure 10 <| .load 2 [15,14,13,12] <| .pure 12 <| .load 5 [15,14,13] <| .pure 13 <| .load 8 [15,14] <| .pure 14 <| .load 11 [15] <| .pure 15 <| .done)]
def P63:List (Nat × aS):=[]
def P64:List (Nat × aS):=[]
def P32:List (Nat × aS):=[(1,.pure 0 <| .pure 1 <| .pure 3 <| .pure 4 <| .pure 6 <| .load 2 [11,10,9] <| .pure 9 <| .load 5 [11,10] <| .pure 10 <| .load 7 [11,8] <| .pure 8 <| .pure 11 <| .done)]
def P65:List (Nat × aS):=[]
def P33:List (Nat × aS):=[(1,.pure 0 <| .pure 1 <| .pure 3 <| .pure 4 <| .pure 6 <| .pure 7 <| .load 2 [11,10,9] <| .pure 9 <| .load 5 [11,10] <| .pure 10 <| .load 8 [11] <| .pure 11 <| .done)]
def W0:List (Nat × aS):=[]
def P7:List (Nat × aS):=[]
def W1:List (Nat × aS):=[]
def kv:List (Nat × aS):=[(5,.pure 0 <| .pure 1 <| .pure 3 <| .pure 4 <| .load 2 [7,6] <| .pure 6 <| .load 5 [7] <| .pure 7 <| .done)]
def P52:List (Nat × aS):=[]
def P9:List (Nat × aS):=[]
def Zq:List (Nat × aS):=[]
def P35:List (Nat × aS):=[]
def P67:List (Nat × aS):=[]
def P86:List (Nat × aS):=[]
def W2:List (Nat × aS):=[]
def W3:List (Nat × aS):=[]
def W4:List (Nat × aS):=[]
def W5:List (Nat × aS):=[]
def W6:List (Nat × aS):=[]
def W7:List (Nat × aS):=[]
def W8:List (Nat × aS):=[]
def W9:List (Nat × aS):=[]
def W_:List (Nat × aS):=[]
def Xa:List (Nat × aS):=[]
def Xb:List (Nat × aS):=[]
def Xc:List (Nat × aS):=[(2,.pure 0 <| .load 1 [6,5,4,2] <| .load 3 [6,5,4] <| .bP 2 (.bP 4 (.pure 5 <| .pure 6 <| .done) (.nil)) (.nil)),(3,.pure 0 <| .load 1 [6,5,4,2] <| .load 3 [6,5,4] <| .bP 2 (.bP 4 (.pure 5 <| .pure 6 <| .done) (.nil)) (.nil))]
def P68:List (Nat × aS):=[]
def Xd:List (Nat × aS):=[]
def Xe:List (Nat × aS):=[]
def jd:List (Nat × aS):=[(1,.pure 0 <| .pure 3 <| .load 1 [7,6,2] <| .pure 2 <| .pure 6 <| .load 4 [7,5] <| .pure 5 <| .pure 7 <| .done),(12,.pure 2 <| .pure 6 <| .pure 10 <| .load 0 [15,14,9,8,7,5,4,3,1] <| .load 11 [15,14,13,12] <| .pure 12 <| .pure 13 <| .bP 1 (.bP 3 (.pure 4 <| .pure 5 <| .bP 7 (.pure 8 <| .pure 9 <| .pure 14 <| .pure 15 <| .done) (.nil)) (.nil)) (.nil))]
def Xf:List (Nat × aS):=[]
def Xg:List (Nat × aS):=[]
def Xh:List (Nat × aS):=[(1,.pure 0 <| .pure 1 <| .pure 2 <| .pure 3 <| .pure 4 <| .pure 5 <| .pure 6 <| .pure 7 <| .pure 8 <| .pure 9 <| .pure 10 <| .done)]
def Xi:List (Nat × aS):=[]
def Xj:List (Nat × aS):=[]
def Xk:List (Nat × aS):=[]
def ko:List (Nat × aS):=[(1,.pure 0 <| .pure 3 <| .pure 6 <| .load 1 [11,10,9,2] <| .pure 2 <| .pure 9 <| .load 4 [11,10,5] <| .pure 5 <| .pure 10 <| .load 7 [11,8] <| .pure 8 <| .pure 11 <| .done),(24,.pure 0 <| .pure 5 <| .load 1 [10,9,8,4,3,2] <| .pure 2 <| .load 6 [10,9,8,7] <| .pure 7 <| .bP 3 (.pure 4 <| .bP 8 (.pure 9 <| .pure 10 <| .done) (.nil)) (.nil)),(26,.pure 0 <| .pure 5 <| .load 1 [10,9,8,4,3,2] <| .pure 2 <| .load 6 [10,9,8,7] <| .pure 7 <| .bP 3 (.pure 4 <| .bP 8 (.pure 9 <| .pure 10 <| .done) (.nil)) (.nil)),(30,.pure 0 <| .pure 4 <| .load 1 [7,6,3,2] <| .pure 2 <| .pure 3 <| .bP 5 (.pure 6 <| .pure 7 <| .done) (.nil))]
def Xl:List (Nat × aS):=[]
def P36:List (Nat × aS):=[(3,.pure 0 <| .bP 1 (.bP 2 (.pure 3 <| .bP 4 (.pure 5 <| .pure 6 <| .done) (.nil)) (.nil)) (.cons 2 (.bP 1 (.pure 3 <| .bP 4 (.pure 5 <| .pure 6 <| .done) (.nil)) (.nil)) (.nil)))]
def P69:List (Nat × aS):=[]
def P37:List (Nat × aS):=[]
def P14:List (Nat × aS):=[]
def P17:List (Nat × aS):=[(7,.pure 0 <| .pure 2 <| .pure 3 <| .pure 4 <| .pure 6 <| .load 1 [9,8,7] <| .load 5 [9,8,7] <| .pure 7 <| .bP 8 (.pure 9 <| .done) (.nil)),(8,.pure 0 <| .pure 1 <| .pure 6 <| .pure 7 <| .pure 8 <| .load 2 [10,9,5,4,3] <| .bP 3 (.pure 4 <| .pure 5 <| .pure 9 <| .bP 10 (.done) (.nil)) (.nil)),(12,.pure 1 <| .pure 2 <| .pure 3 <| .pure 5 <| .pure 6 <| .pure 7 <| .pure 9 <| .pure 10 <| .pure 11 <| .load 0 [18,17,16,15,14,13] <| .load 4 [18,17,16,15,14,13] <| .load 8 [18,17,16,15,14,13] <| .load 12 [18,17,16,15,14,13] <| .bP 13 (.pure 14 <| .pure 15 <| .pure 16 <| .pure 17 <| .pure 18 <| .done) (.nil)),(13,.pure 0 <| .pure 1 <| .pure 2 <| .pure 4 <| .load 3 [13,12,10,9,8,7] <| .load 5 [13,12,10,9,8,7,6] <| .bP 6 (.bP 7 (.pure 8 <| .pure 9 <| .pure 10 <| .bP 11 (.bP 12 (.pure 13 <| .done) (.nil)) (.nil)) (.cons 11 (.bP 7 (.pure 8 <| .pure 9 <| .pure 10 <| .bP 12 (.pure 13 <| .done) (.nil)) (.nil)) (.nil))) (.cons 11 (.bP 6 (.bP 7 (.pure 8 <| .pure 9 <| .pure 10 <| .bP 12 (.pure 13 <| .done) (.nil)) (.nil)) (.nil)) (.nil))),(14,.pure 0 <| .pure 1 <| .pure 2 <| .pure 3 <| .pure 4 <| .pure 5 <| .pure 8 <| .pure 9 <| .pure 10 <| .load 6 [20,19,18,17,16,15,14,13,12] <| .load 7 [20,19,18,17,16,15] <| .load 11 [20,19,18,17,16,15,14,13,12] <| .pure 12 <| .pure 13 <| .bP 14 (.pure 15 <| .pure 16 <| .bP 17 (.pure 18 <| .pure 19 <| .bP 20 (.done) (.nil)) (.nil)) (.nil)),(15,.pure 0 <| .pure 1 <| .pure 2 <| .pure 4 <| .pure 5 <| .pure 6 <| .pure 7 <| .pure 8 <| .load 3 [15,14,13,12] <| .load 9 [15,14,13,12,11,10] <| .pure 10 <| .pure 11 <| .pure 12 <| .pure 13 <| .pure 14 <| .bP 15 (.done) (.nil)),(16,.pure 0 <| .pure 1 <| .pure 2 <| .pure 3 <| .pure 5 <| .pure 6 <| .pure 7 <| .pure 9 <| .pure 10 <| .load 4 [13,12,11] <| .load 8 [13,12,11] <| .pure 11 <| .bP 12 (.pure 13 <| .done) (.nil))]
def P43:List (Nat × aS):=[]
def P72:List (Nat × aS):=[(6,.pure 0 <| .pure 1 <| .pure 4 <| .pure 5 <| .load 2 [11,10,9,3] <| .pure 3 <| .load 6 [11,10,9,8,7] <| .pure 7 <| .pure 8 <| .pure 9 <| .pure 10 <| .pure 11 <| .done)]
def Vv:List (Nat × aS):=[]
def P73:List (Nat × aS):=[]
def Zr:List (Nat × aS):=[]
def jy:List (Nat × aS):=[]
def Xm:List (Nat × aS):=[]
def Xn:List (Nat × aS):=[]
def Xo:List (Nat × aS):=[]
def Xp:List (Nat × aS):=[]
def je:List (Nat × aS):=[(5,.pure 0 <| .pure 2 <| .load 1 [7,6,5,4] <| .pure 4 <| .bP 3 (.bP 5 (.pure 6 <| .bP 7 (.done) (.nil)) (.nil)) (.nil)),(16,.pure 0 <| .pure 2 <| .pure 4 <| .load 1 [11,10,9,8,7,6] <| .pure 6 <| .bP 3 (.bP 5 (.bP 7 (.pure 8 <| .bP 9 (.pure 10 <| .bP 11 (.done) (.nil)) (.nil)) (.nil)) (.nil)) (.nil)),(18,.pure 0 <| .pure 2 <| .pure 4 <| .pure 6 <| .load 1 [15,14,13,12,11,10,9,8] <| .pure 8 <| .load 7 [15,14] <| .bP 3 (.bP 5 (.bP 9 (.pure 10 <| .bP 11 (.pure 12 <| .bP 13 (.pure 14 <| .bP 15 (.done) (.nil)) (.nil)) (.nil)) (.nil)) (.nil)) (.nil)),(22,.pure 0 <| .pure 2 <| .pure 4 <| .load 1 [11,10,9,8,7,6] <| .pure 6 <| .load 3 [11,10,9,8] <| .load 5 [11,10] <| .bP 7 (.pure 8 <| .bP 9 (.pure 10 <| .bP 11 (.done) (.nil)) (.nil)) (.nil)),(25,.pure 0 <| .pure 2 <| .pure 4 <| .pure 6 <| .load 1 [15,14,13,12,11,10,9,8] <| .pure 8 <| .load 3 [15,14,13,12,11,10] <| .load 5 [15,14,13,12] <| .bP 7 (.bP 9 (.pure 10 <| .bP 11 (.pure 12 <| .bP 13 (.pure 14 <| .bP 15 (.done) (.nil)) (.nil)) (.nil)) (.nil)) (.nil)),(27,.pure 0 <| .pure 2 <| .pure 4 <| .pure 6 <| .load 1 [15,14,13,12,11,10,9,8] <| .pure 8 <| .load 5 [15,14,13,12] <| .load 7 [15,14] <| .bP 3 (.bP 9 (.pure 10 <| .bP 11 (.pure 12 <| .bP 13 (.pure 14 <| .bP 15 (.done) (.nil)) (.nil)) (.nil)) (.nil)) (.nil)),(29,.pure 0 <| .pure 2 <| .load 1 [7,6,5,4] <| .pure 4 <| .load 3 [7,6] <| .bP 5 (.pure 6 <| .bP 7 (.done) (.nil)) (.nil))]
def Xq:List (Nat × aS):=[]
def RK:List (Nat × aS):=[]
def F7:List (Nat × aS):=[(5,.pure 0 <| .pure 2 <| .pure 4 <| .load 1 [11,10,9,8,7,6] <| .pure 6 <| .load 3 [11,10,9,8] <| .load 5 [11,10] <| .bP 7 (.pure 8 <| .bP 9 (.pure 10 <| .bP 11 (.done) (.nil)) (.nil)) (.nil)),(7,.pure 0 <| .pure 2 <| .load 1 [7,6,5,4] <| .pure 4 <| .load 3 [7,6] <| .bP 5 (.pure 6 <| .bP 7 (.done) (.nil)) (.nil)),(11,.pure 0 <| .pure 2 <| .load 1 [7,6,5,4] <| .pure 4 <| .load 3 [7,6] <| .bP 5 (.pure 6 <| .bP 7 (.done) (.nil)) (.nil))]
def KL:List (Nat × aS):=[(3,.pure 0 <| .pure 1 <| .pure 3 <| .pure 4 <| .pure 5 <| .pure 8 <| .load 2 [14,12] <| .bP 6 (.pure 7 <| .bP 9 (.pure 10 <| .bP 11 (.pure 12 <| .bP 13 (.bP 14 (.done) (.nil)) (.nil)) (.cons 13 (.bP 11 (.pure 12 <| .bP 14 (.done) (.nil)) (.nil)) (.nil))) (.cons 13 (.bP 9 (.pure 10 <| .bP 11 (.pure 12 <| .bP 14 (.done) (.nil)) (.nil)) (.nil)) (.nil))) (.cons 13 (.bP 6 (.pure 7 <| .bP 9 (.pure 10 <| .bP 11 (.pure 12 <| .bP 14 (.done) (.nil)) (.nil)) (.nil)) (.nil)) (.nil))),(5,.pure 0 <| .pure 2 <| .load 1 [7,6,5,4] <| .pure 4 <| .load 3 [7,6] <| .bP 5 (.pure 6 <| .bP 7 (.done) (.nil)) (.nil))]
def Xr:List (Nat × aS):=[]
def Xs:List (Nat × aS):=[]
def P44:List (Nat × aS):=[]
def P45:List (Nat × aS):=[]
def P75:List (Nat × aS):=[]
def P46:List (Nat × aS):=[]
def P76:List (Nat × aS):=[(8,.pure 0 <| .pure 1 <| .pure 4 <| .pure 5 <| .load 2 [10,9,8,7,3] <| .load 6 [10,9,8,7] <| .bP 3 (.bP 7 (.pure 8 <| .pure 9 <| .pure 10 <| .done) (.nil)) (.nil)),(19,.pure 0 <| .pure 1 <| .pure 4 <| .pure 5 <| .pure 8 <| .load 2 [13,12,11,10,7,3] <| .load 6 [13,12,11,10,7] <| .load 9 [13,12,11,10] <| .bP 3 (.bP 7 (.pure 10 <| .pure 11 <| .pure 12 <| .pure 13 <| .done) (.nil)) (.nil))]
def Xt:List (Nat × aS):=[]
def P77:List (Nat × aS):=[(8,.pure 0 <| .pure 1 <| .pure 2 <| .pure 7 <| .pure 8 <| .pure 9 <| .pure 10 <| .pure 11 <| .pure 12 <| .load 3 [16,15,6,5,4] <| .pure 4 <| .pure 5 <| .load 6 [16,15] <| .load 13 [16,15,14] <| .bP 14 (.bP 15 (.pure 16 <| .done) (.nil)) (.nil))]
def Zs:List (Nat × aS):=[]
def Xu:List (Nat × aS):=[]
def Vw:List (Nat × aS):=[]
def Xv:List (Nat × aS):=[]
def Zt:List (Nat × aS):=[(2,.pure 0 <| .pure 1 <| .pure 3 <| .pure 4 <| .pure 5 <| .load 6 [12,11,10,9,8,7] <| .pure 7 <| .pure 8 <| .bP 2 (.pure 9 <| .pure 10 <| .pure 11 <| .bP 12 (.done) (.nil)) (.nil)),(8,.pure 0 <| .pure 1 <| .pure 2 <| .pure 7 <| .pure 8 <| .pure 9 <| .load 3 [12,11,6,5,4] <| .pure 4 <| .pure 5 <| .load 6 [12,11] <| .bP 10 (.bP 11 (.pure 12 <| .done) (.nil)) (.nil))]
def Zu:List (Nat × aS):=[]
def Xw:List (Nat × aS):=[]
def P80:List (Nat × aS):=[]
def Xx:List (Nat × aS):=[]
def Xy:List (Nat × aS):=[(5,.pure 0 <| .pure 1 <| .pure 2 <| .pure 3 <| .pure 6 <| .pure 7 <| .pure 8 <| .pure 9 <| .load 4 [12,11,5] <| .pure 5 <| .pure 11 <| .load 10 [12] <| .pure 12 <| .done),(10,.pure 0 <| .pure 1 <| .pure 2 <| .pure 3 <| .pure 5 <| .pure 6 <| .pure 7 <| .pure 8 <| .load 4 [15,14,13,12,11,10] <| .load 9 [15,14,13,12,11,10] <| .bP 10 (.pure 11 <| .pure 12 <| .pure 13 <| .pure 14 <| .pure 15 <| .done) (.nil)),(15,.pure 0 <| .pure 1 <| .pure 2 <| .pure 3 <| .pure 5 <| .pure 6 <| .pure 7 <| .pure 8 <| .pure 9 <| .pure 12 <| .pure 13 <| .pure 14 <| .pure 15 <| .pure 17 <| .pure 18 <| .pure 19 <| .pure 20 <| .load 4 [29,28,27,26,25,24,23,22] <| .load 10 [29,28,27,26,25,24,23,22,11] <| .load 16 [29,28,27,26,25,24,23,22] <| .load 21 [29,28,27,26,25,24,23,22] <| .bP 11 (.bP 22 (.pure 23 <| .pure 24 <| .pure 25 <| .pure 26 <| .pure 27 <| .pure 28 <| .pure 29 <| .done) (.nil)) (.nil)),(17,.pure 0 <| .pure 1 <| .pure 2 <| .pure 3 <| .pure 4 <| .pure 7 <| .pure 8 <| .pure 9 <| .pure 10 <| .load 5 [13,12,6] <| .load 11 [13] <| .bP 6 (.pure 12 <| .pure 13 <| .done) (.nil))]
def Xz:List (Nat × aS):=[]
def XA:List (Nat × aS):=[]
def XB:List (Nat × aS):=[]
def P81:List (Nat × aS):=[]
def XC:List (Nat × aS):=[]
def P82:List (Nat × aS):=[(8,.pure 0 <| .pure 1 <| .pure 4 <| .pure 5 <| .pure 8 <| .load 2 [10,3] <| .pure 3 <| .load 6 [10,7] <| .load 9 [10] <| .bP 7 (.bP 10 (.done) (.nil)) (.nil)),(12,.pure 0 <| .pure 1 <| .pure 4 <| .pure 5 <| .pure 8 <| .load 2 [9,3] <| .pure 3 <| .load 6 [9,7] <| .bP 7 (.bP 9 (.done) (.nil)) (.nil)),(19,.pure 0 <| .pure 1 <| .pure 4 <| .pure 5 <| .pure 8 <| .load 2 [9,3] <| .pure 3 <| .load 6 [9,7] <| .bP 7 (.bP 9 (.done) (.nil)) (.nil))]
def XD:List (Nat × aS):=[]
def P83:List (Nat × aS):=[(2,.pure 0 <| .pure 1 <| .pure 4 <| .pure 5 <| .load 2 [9,8,7,3] <| .load 6 [9,8,7] <| .bP 3 (.bP 7 (.pure 8 <| .pure 9 <| .done) (.nil)) (.nil)),(13,.pure 0 <| .pure 1 <| .pure 3 <| .pure 4 <| .pure 5 <| .load 2 [9] <| .load 6 [9,8,7] <| .bP 7 (.pure 8 <| .bP 9 (.done) (.nil)) (.nil)),(15,.pure 0 <| .pure 1 <| .pure 3 <| .pure 4 <| .pure 7 <| .load 2 [9] <| .load 5 [9,8,6] <| .bP 6 (.pure 8 <| .bP 9 (.done) (.nil)) (.nil)),(24,.pure 0 <| .pure 1 <| .pure 3 <| .pure 4 <| .pure 5 <| .pure 6 <| .pure 7 <| .pure 8 <| .pure 9 <| .load 2 [10] <| .bP 10 (.done) (.nil)),(26,.pure 0 <| .pure 1 <| .pure 3 <| .load 2 [6] <| .bP 4 (.pure 5 <| .bP 6 (.done) (.nil)) (.nil))]
def XE:List (Nat × aS):=[]
def P84:List (Nat × aS):=[(6,.pure 0 <| .pure 1 <| .pure 3 <| .pure 5 <| .pure 6 <| .pure 9 <| .pure 10 <| .load 2 [15] <| .load 4 [15,14] <| .load 7 [15,14,13,12,8] <| .load 11 [15,14,13,12] <| .bP 8 (.bP 12 (.pure 13 <| .bP 14 (.bP 15 (.done) (.nil)) (.nil)) (.nil)) (.nil)),(8,.pure 0 <| .pure 1 <| .pure 3 <| .pure 5 <| .pure 6 <| .load 2 [10] <| .load 4 [10,9] <| .load 7 [10,9,8] <| .bP 8 (.bP 9 (.bP 10 (.done) (.nil)) (.nil)) (.nil)),(12,.pure 0 <| .pure 1 <| .pure 3 <| .pure 4 <| .pure 8 <| .pure 9 <| .load 2 [11] <| .load 5 [11,10,7,6] <| .bP 6 (.pure 7 <| .pure 10 <| .bP 11 (.done) (.nil)) (.nil)),(14,.pure 0 <| .pure 1 <| .pure 3 <| .pure 4 <| .pure 7 <| .load 2 [9] <| .load 5 [9,8,6] <| .bP 6 (.pure 8 <| .bP 9 (.done) (.nil)) (.nil)),(16,.pure 0 <| .pure 1 <| .pure 3 <| .pure 4 <| .pure 7 <| .load 2 [9] <| .load 5 [9,8,6] <| .bP 6 (.pure 8 <| .bP 9 (.done) (.nil)) (.nil)),(18,.pure 0 <| .pure 1 <| .pure 3 <| .pure 5 <| .load 2 [7] <| .bP 4 (.pure 6 <| .bP 7 (.done) (.nil)) (.nil))]
def XF:List (Nat × aS):=[]
def P85:List (Nat × aS):=[(6,.pure 0 <| .pure 1 <| .pure 2 <| .pure 3 <| .pure 5 <| .load 4 [10,9,8,7] <| .load 6 [10,9,8,7] <| .bP 7 (.pure 8 <| .pure 9 <| .bP 10 (.done) (.nil)) (.nil)),(9,.pure 0 <| .pure 1 <| .pure 3 <| .load 4 [7,6,5] <| .pure 5 <| .bP 2 (.pure 6 <| .bP 7 (.done) (.nil)) (.nil)),(12,.pure 0 <| .pure 1 <| .pure 3 <| .load 4 [7,6,5] <| .pure 5 <| .bP 2 (.pure 6 <| .bP 7 (.done) (.nil)) (.nil))]
def kR:List (Nat × aS):=[]
def P47:List (Nat × aS):=[]
def P87:List (Nat × aS):=[]
def P88:List (Nat × aS):=[]
def P48:List (Nat × aS):=[(3,.pure 1 <| .load 0 [8,7,6,5,4,3] <| .bP 2 (.bP 3 (.pure 4 <| .pure 5 <| .pure 6 <| .bP 7 (.pure 8 <| .done) (.nil)) (.nil)) (.nil)),(6,.pure 1 <| .pure 2 <| .load 0 [9,8,7,6,5,4] <| .bP 3 (.bP 4 (.pure 5 <| .pure 6 <| .pure 7 <| .bP 8 (.pure 9 <| .done) (.nil)) (.nil)) (.nil))]
def P89:List (Nat × aS):=[]
def P91:List (Nat × aS):=[]
def P90:List (Nat × aS):=[]
def P34:List (Nat × aS):=[]
def Vx (b:ak) (n:Nat) (es:List PV):Prop:=match b with
 | ⟨k,_,m,md,live,cs⟩=>bif live && yU md && Nat.beq m n then (match k with
  | .dyn=>cs=es
  | .arr=>fj true m (.stat cs)=some es\/(m=1/\fj false m (.stat cs)=some es)
  | _=>False) else False
def F8 (S:List ak) (fz:List Nat) (x y:PV):Prop:=match x,y with
 | .wref l,.sl n es=>bif iL l fz then bq S[l]? fun b=>Vx b n es else False
 | x,y=>vi x y
def RL (S:List ak) (fz:List Nat) (x y:PV):Prop:=match x,y with
 | .wref l,.sl n es=>bif iL l fz then bq S[l]? fun b=>Vx b n es else False
 | .agg cs,.agg ds=>lN (F8 S fz) cs ds
 | x,y=>jj x y
def QJ (S:List ak) (fz:List Nat):Bool:=fz.all fun l=>match S[l]? with
 | some b=>b.live && yU b.m
 | none=>false
def jz (b:Bool) (m:Md):Md:=bif b then .r else m
def iQ (fz:List Nat) (S:List ak):List ak:=mapM jz fz 0 S
def PV.Cg:PV->Bool
 | .lit ..|.int ..|.tt|.ff|.bool _|.val _|.nil=>true
 | _=>false
def PV.xH:PV->Bool
 | .agg cs=>cs.all PV.Cg
 | x=>x.Cg
def PV.Ch:PV->Bool
 | .tup cs=>cs.all PV.xH
 | x=>x.xH
section
variable {w w':World} {I I':Nat->Prop} {β aV:aB} {G:Gx} {S:List ak}
theorem tK {x:PV} {v:Value} (hf:x.Cg=true) (h:x.Is w I β v):x.Is w' I' aV v:=by
 cases x<;>first|(cases hf; done)|(simp only[PV.Is] at h ⊢; exact h)
theorem oX {r:PV->Bool} (hr:∀ x v,r x=true->x.Is w I β v->x.Is w' I' aV v):∀ {cs:List PV} {vs:List Value},cs.all r=true->bB w I cs β vs->bB w' I' cs aV vs
 | [],[],_,_=>by simp only[bB]
 | c::cs,v::vs,hf,h=>by
  simp only[List.all_cons,Bool.and_eq_true] at hf
  simp only[bB] at h ⊢
  exact⟨hr c v hf.1 h.1,oX hr hf.2 h.2⟩
 | [],_::_,_,h=>by simp only[bB] at h
 | _::_,[],_,h=>by simp only[bB] at h
theorem tL {x:PV} {v:Value} (hf:x.xH=true) (h:x.Is w I β v):x.Is w' I' aV v:=by
 unfold PV.xH at hf
 split at hf
 ·simp only[PV.Is] at h ⊢
  obtain⟨vs,rfl,h⟩:=h
  exact⟨vs,rfl,oX (fun x v=>tK) hf h⟩
 ·exact tK hf h
theorem Ci {x:PV} {v:Value} (hf:x.Ch=true) (h:x.Is w I β v):x.Is w' I' aV v:=by
 unfold PV.Ch at hf
 split at hf
 ·simp only[PV.Is] at h ⊢
  obtain⟨vs,rfl,h⟩:=h
  exact⟨vs,rfl,oX (fun x v=>tL) hf h⟩
 ·exact tL hf h
def e9 (I:Nat->Prop) (β:aB) (S:List ak) (fz:List Nat) (g:Nat):Prop:=I g\/∃ l b p o,l∈fz/\S[l]?=some b/\b.live=true/\yU b.m=true/\β l=some p/\p.a=some (g,o)
theorem vU {fz:List Nat} (h:QJ S fz=true) {l:Nat} (hl:l∈fz):∃ b,S[l]?=some b/\b.live=true/\yU b.m=true:=by
 have:=List.all_eq_true.1 h l hl
 split at this
 ·rename_i b hb
  simp only[Bool.and_eq_true] at this
  exact⟨b,hb,this⟩
 ·cases this
theorem rR {fz:List Nat} (hH:aN I β S w) {l:Nat} {b:ak} {n:Nat} {es:List PV} (hl:l∈fz) (hb:S[l]?=some b) (h:Vx b n es) {v:Value} (hx:(PV.wref l).Is w I β v):(PV.sl n es).Is w (e9 I β S fz) no v:=by
 obtain⟨k,ty,m,md,live,cs⟩:=b
 unfold Vx at h
 replace h:=bf h
 obtain⟨hc,h⟩:=h
 simp only[Bool.and_eq_true] at hc
 obtain⟨⟨aL,hm⟩,hn⟩:=hc
 obtain rfl:=Nat.eq_of_beq_eq_true hn
 simp only[PV.Is] at hx ⊢
 obtain⟨p,hp,rfl⟩:=hx
 have hI:∀ g,I g->e9 I β S fz g:=fun g h=>.inl h
 have sT:∀ {g o:Nat},p.a=some (g,o)->e9 I β S fz g:=fun {g o} ha=>.inr ⟨l,_,p,o,hl,hb,aL,hm,hp,ha⟩
 cases k with
 | dyn =>
  obtain⟨iH,hlen,hle,pP,lE⟩:=df hH hb aL rfl hp
  subst h
  rcases lE with ⟨ha,vf,hw⟩|⟨g,arr,fr,ha,hw,gO,ow,eK,has⟩
  ·have h0:cs = []:=List.eq_nil_of_length_eq_zero (by simp only at hlen; omega)
   subst h0
   exact⟨none,0,by rw[hw]; rfl,Nat.le_refl _,Nat.zero_le _,(fun _ _ e=>by cases e),fun hn=>absurd rfl hn⟩
  ·simp only at hlen
   exact⟨some ⟨g,0,none⟩,p.cap,by rw[hw,hlen],by omega,by omega,(fun g' o' e=>by cases e; exact cl.mono hI (fun _ _=>rfl) _ _ _ _ rfl ow),fun _=>⟨g,0,rfl,sT ha,iH⟩⟩
 | arr =>
  obtain⟨g,arr,fr,ha,hw,gO,nT,eK,hlen,hle,pP,has,iH⟩:=e8 hH hb aL rfl hp
  simp only at hlen has iH nT
  have fe:p.len*m<=arr.size:=by rw[has]; exact Nat.mul_le_mul_right _ hle
  have oE:(arr.toList.take (p.len*m)).length=p.len*m:=by rw[List.length_take,Array.length_toList]; omega
  have oG:nh w I β m (.stat cs) (arr.toList.take (p.len*m)):=by
   refine⟨by rw[oE,hlen],fun j c hj=>?_⟩
   obtain⟨u,hu,hi,h1⟩:=nT j c hj
   have yP:j < p.len*m:=by rw[← hlen]; exact (List.getElem?_eq_some_iff.1 hj).1
   exact⟨u,by rw[List.getElem?_take,if_pos yP]; simpa using hu,hi,h1⟩
  have key:es.length=p.len/\eg w I es m (arr.toList.take (p.len*m)):=by
   rcases h with h|⟨h1,h⟩
   ·exact fE iH (.inl rfl) h oG oE
   ·exact fE iH (.inr h1) h oG oE
  obtain⟨e1,e2⟩:=key
  have B':cl w I es m g 0:=e2.at (fun j v hj=>by
   have:=lI gO 0 (p.len*m) j v (by simpa using hj)
   simpa using this) (fun _ h=>h) (fun _ _=>rfl)
  exact⟨some ⟨g,0,none⟩,p.cap,by rw[hw,e1],by omega,by omega,fun g' o' e=>by cases e; exact cl.mono hI (fun _ _=>rfl) _ _ _ _ rfl B',fun _=>⟨g,0,rfl,sT ha,iH⟩⟩
 | loc=>exact h.elim
 | mp=>exact h.elim
theorem KM {fz:List Nat} (hH:aN I β S w) {x y:PV} {v:Value} (h1:F8 S fz x y) (hu:y.cR = []) (hx:x.Is w I β v):y.Is w (e9 I β S fz) no v:=by
 unfold F8 at h1
 split at h1
 ·replace h1:=bf h1
  obtain⟨hl,h1⟩:=h1
  replace h1:=ay h1
  obtain⟨b,hb,h1⟩:=h1
  exact rR hH (dn.1 hl) hb h1 hx
 ·exact PV.Is.mono (fun _ h=>.inl h) (fun _ _=>rfl) y β no v (fun l p hl=>by rw[hu] at hl; cases hl) (oN h1 w I β v hx)
theorem xI {fz:List Nat} (hH:aN I β S w):∀ {args bx:List PV} {bw:List Value},lN (F8 S fz) args bx->dB bx = []->bB w I args β bw->bB w (e9 I β S fz) bx no bw
 | [],[],[],_,_,_=>by simp only[bB]
 | x::xs,y::ys,v::vs,h,hu,hx=>by
  simp only[bB] at hx ⊢
  have A4:y.cR = []/\dB ys = []:=by simpa [dB] using hu
  exact⟨KM hH h.1 A4.1 hx.1,xI hH h.2 A4.2 hx.2⟩
 | [],_::_,_,h,_,_=>h.elim
 | _::_,[],_,h,_,_=>h.elim
 | [],[],_::_,_,_,hx=>by simp only[bB] at hx
 | _::_,_::_,[],_,_,hx=>by simp only[bB] at hx
theorem j' {fz:List Nat} (hH:aN I β S w):∀ {args bx:List PV} {bw:List Value},lN (RL S fz) args bx->dB bx = []->bB w I args β bw->bB w (e9 I β S fz) bx no bw
 | [],[],[],_,_,_=>by simp only[bB]
 | x::xs,y::ys,v::vs,h,hu,hx=>by
  simp only[bB] at hx ⊢
  have A4:y.cR = []/\dB ys = []:=by simpa [dB] using hu
  refine⟨?_,j' hH h.2 A4.2 hx.2⟩
  have h1:=h.1
  unfold RL at h1
  split at h1
  ·obtain⟨hl,h1⟩:=bf h1
   obtain⟨b,hb,h1⟩:=ay h1
   exact rR hH (dn.1 hl) hb h1 hx.1
  ·have dF:=hx.1
   simp only[PV.Is] at dF ⊢
   obtain⟨vs',rfl,dF⟩:=dF
   exact⟨vs',rfl,xI hH h1 (by simpa [PV.cR] using A4.1) dF⟩
  ·exact PV.Is.mono (fun _ h=>.inl h) (fun _ _=>rfl) y β no v (fun l p hl=>by rw[A4.1] at hl; cases hl) (eH h1 w I β v hx.1)
 | [],_::_,_,h,_,_=>h.elim
 | _::_,[],_,h,_,_=>h.elim
 | [],[],_::_,_,_,hx=>by simp only[bB] at hx
 | _::_,_::_,[],_,_,hx=>by simp only[bB] at hx
theorem F9 {fz:List Nat} (hH:aN I β S w) (hM:dj G I w) {g:Nat} (h:e9 I β S fz g):g < w.heap.size:=by
 rcases h with h|⟨l,b,p,o,_,hb,aL,_,hp,ha⟩
 ·exact hM.az g h
 ·exact hH.dk ⟨l,b,p,o,hb,aL,hp,ha⟩
theorem lT {fz:List Nat} (hH:aN I β S w) (hM:dj G I w):dj G (e9 I β S fz) w :=
 ⟨fun g hg=>F9 hH hM hg,fun g cs hg=>⟨.inl (hM.oh g cs hg).1,cX.mono (fun _ h=>.inl h) (fun _ _=>rfl) _ _ _ rfl (hM.oh g cs hg).2⟩,hM.row⟩
theorem Cj (g:Nat):¬ Wr no ([]:List ak) g:=fun ⟨l,b,p,o,h1,_⟩=>by simp at h1
theorem ai.KN {f:FuncId} {args bx:List PV} {r:PV} {K:PV->List ak->Prop} (h:ai G f bx r) (fz:List Nat) (hz:QJ S fz=true) (hle:lN (RL S fz) args bx) (hu:dB bx = []) (hr:r.cR = []) (hK:Jv (iQ fz S) (K r)):Spec G f args S [] K:=by
 refine Spec.intro h.run.1 fun I β w bw hH hM hA=>?_
 have h0:aN (e9 I β S fz) no ([]:List ak) w:=⟨fun _ _=>rfl,fun l b hl=>by simp at hl⟩
 refine (h.run.2 _ no w bw h0 (lT hH hM) (j' hH hle hu hA)).mono fun e w' ⟨v,r',S',I',aV,he,sS,hi,_,j9,hE,_,_⟩=>?_
 subst sS
 have hold:∀ g,g < w.heap.size->w'.heap[g]?=w.heap[g]?:=fun g hg=>hE.block g hg (Cj g)
 have Cc:∀ g,g < w.heap.size->I' g->e9 I β S fz g:=fun g hg h=>(hE.new g hg h).elim id fun h=>absurd h (Cj g)
 have qo:∀ g,I g->I' g:=fun g h=>hE.az g (.inl h)
 have vS:∀ (l:Nat) (b:ak),(iQ fz S)[l]?=some b->∃ b0,S[l]?=some b0/\b = { b0 with m:=jz (iL l fz) b0.m }:=fun l b hb=>by
  unfold iQ at hb
  rw[eM,Option.map_eq_some_iff] at hb
  obtain⟨b0,h1,h2⟩:=hb
  rw[Nat.zero_add] at h2
  exact⟨b0,h1,h2.symm⟩
 refine⟨v,r',iQ fz S,I',β,he,rJ hK,j8 hr hi,⟨fun l hl=>hH.pM l (by unfold iQ at hl; rw[fm] at hl; exact hl),fun l b hb aL=>?_⟩,j9,⟨hE.os,hE.tape,hE.output,hE.size,fun g hg _=>hold g hg,fun g _ h=>?_,qo,fun g hg h=>?_⟩,by unfold iQ; rw[fm]; exact Nat.le_refl _,fun _ _ _=>rfl⟩
 ·obtain⟨b0,fw,rfl⟩:=vS l b hb
  obtain⟨p,hp,hk⟩:=hH.fR l b0 fw aL
  have own:∀ {g o:Nat} {fr:Nat × Nat},p.a=some (g,o)->g < w.heap.size->Own I β S l g fr b0->Own I' β (iQ fz S) l g fr { b0 with m:=jz (iL l fz) b0.m }:=fun {g o fr} ha hg ho=>by
   refine⟨fun hm=>?_,fun hm=>?_⟩
   ·have lG:iL l fz=false/\b0.m≠.r:=by
     cases hc:iL l fz with
     | true=>simp only[hc,jz,cond_true,ne_eq,not_true_eq_false] at hm
     | false=>exact⟨rfl,by simpa only [hc,jz,cond_false] using hm⟩
    obtain⟨h1,h2,h3⟩:=ho.1 lG.2
    refine⟨h1,fun hI=>?_,fun l2 b2 cZ fv bN p2 g2 o2 f_ fY=>?_⟩
    ·rcases Cc g hg hI with hI|⟨l2,b2,p2,o2,fv,dD,bN,_,f_,fY⟩
     ·exact h2 hI
     ·refine h3 l2 b2 (fun e=>?_) dD bN p2 g o2 f_ fY rfl
      subst e
      rw[dn.2 fv] at lG
      cases lG.1
    ·obtain⟨b3,jk,rfl⟩:=vS l2 b2 fv
     exact h3 l2 b3 cZ jk bN p2 g2 o2 f_ fY
   ·cases hc:iL l fz with
    | true =>
     obtain⟨b1,QK,k1,k2⟩:=vU hz (dn.1 hc)
     rw[fw] at QK; cases QK
     exact hE.az g (.inr ⟨l,b0,p,o,dn.1 hc,fw,k1,k2,hp,ha⟩)
    | false=>exact qo g (ho.2 (by simpa only [hc,jz,cond_false] using hm))
  have A_:∀ g,I g->w'.heap[g]?=w.heap[g]?:=fun g hg=>hold g (hM.az g hg)
  refine⟨p,hp,?_⟩
  split at hk
  ·rename_i cI
   obtain⟨g,o,arr,ty,fr,h1,h2,h3,ho⟩:=hk
   have hg:=cY h2
   simp only[cI]
   exact⟨g,o,arr,ty,fr,h1,(hold g hg).trans h2,bp.mono qo A_ (fun _ _ h=>h) h3,own h1 hg ho⟩
  ·rename_i cI
   obtain⟨g,arr,fr,h1,h2,h3,ho,h4⟩:=hk
   have hg:=cY h2
   simp only[cI]
   exact⟨g,arr,fr,h1,(hold g hg).trans h2,bp.mono qo A_ (fun _ _ h=>h) h3,own h1 hg ho,h4⟩
  ·rename_i cI
   obtain⟨h1,hk⟩:=hk
   simp only[cI]
   refine⟨h1,?_⟩
   rcases hk with h|⟨g,arr,fr,h2,h3,h4,ho,h5⟩
   ·exact .inl h
   ·have hg:=cY h3
    exact .inr ⟨g,arr,fr,h2,(hold g hg).trans h3,cl.mono qo A_ _ _ _ _ (hold g hg) h4,own h2 hg ho,h5⟩
  ·rename_i cI
   obtain⟨g,h1,h2,ho⟩:=hk
   have hg:g < w.heap.size:=by obtain⟨es,clock,hb,_⟩:=h2; exact cY hb
   simp only[cI]
   exact⟨g,h1,h2.rB (hold g hg),own h1 hg ho⟩
 ·obtain⟨l,b,p,o,h1,h2,h3,h4,h5⟩:=h
  obtain⟨b0,fw,rfl⟩:=vS l b h1
  refine⟨l,b0,p,o,fw,h2,?_,h4,h5⟩
  cases hc:iL l fz with
  | true=>simp only[hc,jz,cond_true] at h3; cases h3
  | false=>simpa only [hc,jz,cond_false] using h3
 ·rcases Cc g hg h with h|⟨l,b,p,o,hl,hb,aL,hm,hp,ha⟩
  ·exact .inl h
  ·cases vV:b.m with
   | w=>exact .inr ⟨l,b,p,o,hb,aL,vV,hp,ha⟩
   | p=>rw[vV] at hm; cases hm
   | r =>
    obtain⟨arr,ty,fr,_,ho⟩:=(hH.fR l b hb aL).place hp ha
    exact .inl (ho.2 vV)
theorem ai.useB {f:FuncId} {args bx:List PV} {r:PV} {K:PV->List ak->Prop} (h:ai G f bx r) (fz:List Nat) (hle:lN (RL S fz) args bx) (hu:dB bx = []) (hr:r.Ch=true) (hK:K r S):Spec G f args S [] K:=by
 refine Spec.intro h.run.1 fun I β w bw hH hM hA=>?_
 have h0:aN (e9 I β S fz) no ([]:List ak) w:=⟨fun _ _=>rfl,fun l b hl=>by simp at hl⟩
 refine (h.run.2 _ no w bw h0 (lT hH hM) (j' hH hle hu hA)).mono fun e w' ⟨v,r',S',I',aV,he,sS,hi,_,j9,hE,_,_⟩=>?_
 subst sS
 have hold:∀ g,g < w.heap.size->w'.heap[g]?=w.heap[g]?:=fun g hg=>hE.block g hg (Cj g)
 have A_:∀ g,I g->w'.heap[g]?=w.heap[g]?:=fun g hg=>hold g (hM.az g hg)
 refine⟨v,r',S,I,β,he,hK,Ci hr hi,⟨hH.pM,fun l b hb aL=>(hH.fR l b hb aL).mono (fun _ h=>h) A_ (fun _ _ h=>h) fun p g o hp ha=>?_⟩,⟨fun g hg=>Nat.lt_of_lt_of_le (hM.az g hg) hE.size,fun g cs hg=>⟨(hM.oh g cs hg).1,cX.mono (fun _ h=>h) A_ _ _ _ (A_ g (hM.oh g cs hg).1) (hM.oh g cs hg).2⟩,fun g cs hg=>by
   obtain⟨arr,ty,fr,h1,h2⟩:=hM.row g cs hg
   exact⟨arr,ty,fr,(A_ g (hM.oh g cs hg).1).trans h1,h2⟩⟩,
  ⟨hE.os,hE.tape,hE.output,hE.size,fun g hg _=>hold g hg,fun g _ h=>h,fun _ h=>h,fun _ _ h=>.inl h⟩,Nat.le_refl _,fun _ _ _=>rfl⟩
 obtain⟨arr,ty,fr,hh,ho⟩:=(hH.fR l b hb aL).place hp ha
 exact⟨hold g (cY hh),fun hr=>⟨(ho.1 hr).2.1,(ho.1 hr).2.2⟩⟩
end
def TM.tM:TM->TM
 | .nil=>.nil
 | .node v l r=>.node (match v with
  | some (.tup _)=>none
  | v=>v) l.tM r.tM
def ba.tN (s:ba) (c:Code) (vs:List (Nat × PV)):ba:=match s with
 | ⟨n,t,st,b,rl⟩=>⟨n,(tE vs (oT (oS c) t)).tM,st,b,rl⟩
theorem SW.xJ {G:Gx} {s:ba} (hG:nS G) (R:List (Nat × aS)) {α:Type} {c:Code} {Q:X->ba->Prop} (hc:cL R c=true) (vs:α->List (Nat × PV)) (μ:α->Nat) (x0:α) (N:Nat) (h0:gg G.cx (KF 0 s.st) s (s.tN c (vs x0)))
  (h:∀ x,QH (s.tN c (vs x)) (pw G R N c (oM (fun s'=>∃ y,μ y < μ x/\gg G.cx (KF 0 s.st) s' (s.tN c (vs y))) Q))):SW G (.loop c) Q s :=
 SW.inv hG (fun x=>s.tN c (vs x)) μ (N:=N) hc x0 (eR hG.ok h0) (fun x s'=>∃ y,μ y < μ x/\gg G.cx (KF 0 s.st) s' (s.tN c (vs y))) (fun x s' ⟨y,hy,hs⟩=>⟨y,hy,eR hG.ok hs⟩) fun x=>oR (h x)
def ba.headD (s:ba) (c:Code) (vs:List (Nat × PV)) (ex:List ak):ba:=match s with
 | ⟨n,t,st,b,rl⟩=>⟨n,(tE vs (oT (oS c) t)).tM,st++ex,b,rl⟩
theorem SW.Zv {G:Gx} {s:ba} (hG:nS G) (R:List (Nat × aS)) {α:Type} {c:Code} {Q:X->ba->Prop} (hc:cL R c=true) (vs:α->List (Nat × PV)) (ex:α->List ak) (μ:α->Nat) (x0:α) (N:Nat) (JA:fH) (h0:gg G.cx (KF 0 s.st++JA) s (s.headD c (vs x0) (ex x0)))
  (h:∀ x,QH (s.headD c (vs x) (ex x)) (pw G R N c (oM (fun s'=>∃ y π,μ y < μ x/\gg G.cx (KF 0 s.st++π) s' (s.headD c (vs y) (ex y))) Q))):SW G (.loop c) Q s :=
 SW.inv hG (fun x=>s.headD c (vs x) (ex x)) μ (N:=N) hc x0 (eR hG.ok h0) (fun x s'=>∃ y π,μ y < μ x/\gg G.cx (KF 0 s.st++π) s' (s.headD c (vs y) (ex y))) (fun x s' ⟨y,_,hy,hs⟩=>⟨y,hy,eR hG.ok hs⟩) fun x=>oR (h x)
end Go.Proofs.YtlgkljpgagfndaaGreatDoor.Pw

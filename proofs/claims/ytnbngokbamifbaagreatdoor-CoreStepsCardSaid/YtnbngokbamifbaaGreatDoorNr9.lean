/- What this claim is proved with: no condition. -/
import Derived.Test.YtnbngokbamifbaaGreatDoorNr8
import Derived.Deep.Slices
import Derived.Below
import Derived.OpenShut
import Derived.LaidLaws
import Derived.ChangeArms
import Derived.MakeChecks
import Derived.Stop.Joined
import Derived.Test.YtnbngokbamifbaaGreatDoorNr7
set_option linter.unusedVariables false
set_option linter.unusedSimpArgs false
namespace Go.Proofs.YtnbngokbamifbaaGreatDoor.Pw
open Go Go.RowKit
section
variable {w w':World} {I I':Nat->Prop} {β aN:ay} {G:Gx} {s:aV} {a:Act} {st dY:List au}
theorem aE.G5 (hH:aE I β [] w) (w':World) (I':Nat->Prop):aE I' β [] w':=⟨hH.qS,fun l b hl=>by simp at hl⟩
theorem dd.below (hM:dd G I w) (hB:Below w.heap.size w w'):dd G I w' :=
 ⟨fun g hg=>Nat.lt_of_lt_of_le (hM.av g hg) hB.size,fun g cs h=>⟨(hM.nY g cs h).1,dc.mono (fun _ h=>h) (fun g hg=>hB.block g (hM.av g hg)) _ _ _ (hB.block g (hM.av g (hM.nY g cs h).1)) (hM.nY g cs h).2⟩,fun g cs h=>by
  obtain⟨arr,ty,fr,h1,h2⟩:=hM.row g cs h
  exact⟨arr,ty,fr,(hB.block g (hM.av g (hM.nY g cs h).1)).trans h1,h2⟩⟩
theorem ah.yi {f:FuncId} {args:List PV} {r:PV} (he:Ev.ia G.cx.P f) (vs:List Value) (v:Value) (ha:∀ w I β vals,bJ w I args β vals->vals=vs) (hr:∀ w I β,r.Is w I β v)
  (h:∀ w,Calls G.cx.P f vs.toArray w fun e w'=>e = .returned v/\Below w.heap.size w w'):ah G f args r:=by
 refine Spec.intro he fun I β w vals hH hM hA=>?_
 rw[ha _ _ _ _ hA]
 refine (h w).mono fun e w' ⟨he,hB⟩=>⟨v,r,[],I,β,he,rfl,hr _ _ _,hH.G5 _ _,hM.below hB,⟨hB.os,hB.tape,hB.output,hB.size,fun g hg _=>hB.block g hg,fun g _ h=>h,fun _ h=>h,fun _ _ h=>.inl h⟩,Nat.le_refl _,fun _ _ _=>rfl⟩
theorem ah.of_same {f:FuncId} {args:List PV} {r:PV} (he:Ev.ia G.cx.P f) (vs:List Value) (v:Value) (ha:∀ w I β vals,bJ w I args β vals->vals=vs) (hr:∀ w I β,r.Is w I β v)
  (h:∀ w,Calls G.cx.P f vs.toArray w fun e w'=>e = .returned v/\w'=w):ah G f args r :=
 ah.yi he vs v ha hr fun w=>(h w).mono fun e w' ⟨h1,h2⟩=>⟨h1,h2 ▸ Below.refl _ _⟩
theorem ah.calls {f:FuncId} {args:List PV} {r:PV} {vals:List Value} (h:ah G f args r) (hM:dd G I w) (hA:bJ w I args (fun _=>none) vals) (v:Value) (hr:∀ w' I' aN v',r.Is w' I' aN v'->v'=v) :
  Calls G.cx.P f vals.toArray w fun e w'=>e = .returned v/\Below w.heap.size w w':=by
 have h0:aE I (fun _=>none) ([]:List au) w:=⟨fun _ _=>rfl,fun l b hl=>by simp at hl⟩
 refine (h.run.2 I (fun _=>none) w vals h0 hM hA).mono fun e w' ⟨v',r',S',I',aN,he,p6,hi,_,mw,hE,_,_⟩=>?_
 subst p6
 rw[hr _ _ _ _ hi] at he
 exact⟨he,hE.os,hE.tape,hE.output,hE.size,fun g hg=>hE.block g hg fun ⟨l,b,p,o,h1,_⟩=>by simp at h1⟩
theorem Cc (w':World) (I':Nat->Prop) (aN:ay) (v':Value) (h:PV.tt.Is w' I' aN v'):v' = .bool true:=by simpa [PV.Is] using h
end
def In (w:World) (g:Nat):Prop:=g < w.heap.size
abbrev no:ay:=fun _=>none
def Op (P:Program) (t:TypeId) (S:PV->Prop):Prop:=∀ {H:Type} (e:TypeId × Value->H) (w:World) (base:Nat) (held:Bool) (fuel:Nat) (cs:List Value) (x:DataW H × List MemPlace),
 DataW.trod e P w base (fun _=>true) held fuel t cs=some x->(∀ n∈x.1.weights P t,n<=reachBytes)->∃ y,S y/\(∀ vs,y≠.tup vs)/\bJ w (In w) y.cells no cs/\cs.length=P.cellsOf t/\∀ c∈cs,c.oneCell'=true
def SInt (k:IntKind) (x:PV):Prop:=∃ z,tS k z/\x = .int k z
def SSl (n b:Nat) (S:PV->Prop) (x:PV):Prop:=∃ es:List PV,(es.length<=maxLen/\es.length*b<=reachBytes)/\(∀ e∈es,S e)/\x = .sl n es
def uE:List (PV->Prop)->List PV->Prop
 | [],[]=>True
 | S::Ss,x::xs=>S x/\uE Ss xs
 | _,_=>False
def AI (Ss:List (PV->Prop)) (x:PV):Prop:=∃ xs,uE Ss xs/\x = .agg (xs.flatMap PV.cells)
theorem cQ {S:PV->Prop} {Ss:List (PV->Prop)} {xs:List PV} (h:uE (S::Ss) xs):∃ x r,xs=x::r/\S x/\uE Ss r:=by
 cases xs with
 | nil=>exact h.elim
 | cons x r=>exact⟨x,r,rfl,h⟩
theorem yj {xs:List PV} (h:uE [] xs):xs = []:=by
 cases xs with
 | nil=>rfl
 | cons x r=>exact h.elim
section
variable {P:Program} {t e:TypeId}
theorem Ql {k:IntKind} {z:Int} (h:(Lit.int k z).wf=true):tS k z:=by
 unfold tS
 cases k<;>simp_all [Lit.wf,Ev.kZ,Ev.kj,IntKind.min,IntKind.max,IntKind.signed,IntKind.bits]<;>omega
theorem Cd {k:IntKind} (ht:P.underlying t=some (.int k)) (hc:P.cellsOf t=1):Op P t (SInt k):=fun e w base held fuel cs x h AJ=>by
 obtain⟨n,rfl,_,hw⟩:=DataW.trod_int ht h
 exact⟨.int k n,⟨n,Ql hw,rfl⟩,nofun,bJ.one (by simp only[PV.Is]),by rw[hc]; rfl,fun c hc=>by simp only[List.mem_singleton] at hc; subst hc; rfl⟩
theorem lK {α:Type _} {p:Nat->α->Prop}:∀ n:Nat,(∀ i,i < n->∃ y,p i y)->∃ l:List α,l.length=n/\∀ i y,l[i]?=some y->p i y
 | 0,_=>⟨[],rfl,fun i y h=>by simp at h⟩
 | n+1,h=>by
  obtain⟨l,hl,hp⟩:=lK (p:=p) n fun i hi=>h i (by omega)
  obtain⟨y,hy⟩:=h n (by omega)
  refine⟨l++[y],by simp[hl],fun i z hz=>?_⟩
  rw[List.getElem?_append] at hz
  split at hz
  ·exact hp i z hz
  ·rename_i Xb
   have h0:i - l.length=0:=by
    have:=(List.getElem?_eq_some_iff.1 hz).1
    simp at this; omega
   rw[h0] at hz
   simp only[List.getElem?_cons_zero,Option.some.injEq] at hz
   subst hz
   have:i=n:=by omega
   subst this; exact hy
theorem lL {H:Type} {n:Nat}:∀ {l:List (DataW H)} {d:DataW H},d∈l->n∈d.weights P e->n∈DataW.weightsAll P e l
 | [],_,h,_=>by cases h
 | a::l,d,h,hn=>by
  simp only[DataW.weightsAll,List.mem_append]
  rcases List.mem_cons.1 h with rfl|h
  ·exact .inl hn
  ·exact .inr (lL h hn)
theorem kz {H:Type} {n:Nat}:∀ {ts:List TypeId} {l:List (DataW H)} {i:Nat} {t:TypeId} {d:DataW H},ts[i]?=some t->l[i]?=some d->n∈d.weights P t->n∈DataW.weightsEach P ts l
 | [],_,_,_,_,h,_,_=>by simp at h
 | _::_,[],_,_,_,_,h,_=>by simp at h
 | u::ts,a::l,0,t,d,h,h',hn=>by
  simp only[List.getElem?_cons_zero,Option.some.injEq] at h h'
  subst h; subst h'
  simp only[DataW.weightsEach,List.mem_append]
  exact .inl hn
 | u::ts,a::l,i+1,t,d,h,h',hn=>by
  simp only[DataW.weightsEach,List.mem_append]
  exact .inr (kz (by simpa using h) (by simpa using h') hn)
theorem v7 {S:PV->Prop} (he:Op P e S) (n b:Nat) (hbb:P.bytesOf e=b) (ht:P.underlying t=some (.slice e)) (hn:P.cellsOf e=n) (h0:0 < n) (hc:P.cellsOf t=1):Op P t (SSl n b S):=fun {H} ec w base held fuel cs x h AJ=>by
 subst hn
 subst hbb
 rcases Deep.open_slice ht h with ⟨rfl,_⟩|⟨a,len,cap,m,k,D,Pl,rfl,hb,hl,hm,xE,rfl,hx⟩
 ·exact⟨.sl _ [],⟨[],⟨by simp,by simp⟩,fun _ h=>by simp at h,rfl⟩,nofun,bJ.one (by simp only[PV.Is]; exact⟨none,0,rfl,Nat.le_refl _,by simp,fun _ _ h=>by simp at h,fun h=>absurd rfl h⟩),by rw[hc]; rfl,fun c hc=>by simp only[List.mem_singleton] at hc; subst hc; rfl⟩
 ·simp only[if_true] at xE
  subst xE
  have hwl:len*P.bytesOf e<=reachBytes:=by
   have:=AJ ((len+(m - len))*P.bytesOf e) (by simp only[DataW.weights,ht,List.length_map,List.length_range]; exact List.mem_cons_self)
   exact Nat.le_trans (Nat.mul_le_mul_right _ (Nat.le_add_right _ _)) this
  have hwe:∀ i,i < len->∀ n∈(D i).weights P e,n<=reachBytes:=fun i hi n hn=>AJ n (by
   simp only[DataW.weights,ht]
   exact List.mem_cons_of_mem _ (List.mem_append.2 (.inl (lL (List.mem_map.2 ⟨i,List.mem_range.2 hi,rfl⟩) hn))))
  have V7:0 < len->a.spot=none:=fun hp=>by
   obtain⟨OG,h1,h2⟩:=hx 0 (by omega)
   obtain⟨y,_,_,hy,hlen,_⟩:=he ec w base held k OG _ h2 (hwe 0 hp)
   obtain⟨_,_,m_⟩:=World.cells?_some h1
   have qW:=m_ 0 h0
   rw[List.getElem?_eq_getElem (by omega),Nat.zero_mul] at qW
   exact World.cell?_spot qW
  have each:∀ i,i < len->∃ y,S y/\a.spot=none/\a.block < w.heap.size/\Gh w (In w) (P.cellsOf e) y a.block (a.off+i*P.cellsOf e):=fun i hi=>by
   obtain⟨OG,h1,h2⟩:=hx i (by omega)
   obtain⟨y,hS,_,hy,hlen,h1c⟩:=he ec w base held k OG _ h2 (hwe i hi)
   obtain⟨_,_,m_⟩:=World.cells?_some h1
   have qW:=m_ 0 h0
   rw[List.getElem?_eq_getElem (by omega)] at qW
   have hs:a.spot=none:=V7 (by omega)
   obtain⟨b,off,sp⟩:=a
   dsimp only at hs
   subst hs
   have ea:∀ b off k,(⟨b,off,none⟩:Addr).add k=⟨b,off+k,none⟩:=fun b off k=>by unfold Addr.add; split<;>simp_all
   refine⟨y,hS,rfl,?_,?_,dc.of fun j c hj=>?_⟩
   ·have:=World.block_lt_of_cell? w _ qW
    rw[ea,ea] at this; exact this
   ·rw[hy.length,hlen]
   ·obtain⟨v,hv,OF⟩:=hy.get hj
    have vP:j < P.cellsOf e:=by rw[← hlen]; exact (List.getElem?_eq_some_iff.1 hv).1
    have:=m_ j vP
    rw[ea,ea,hv] at this
    exact⟨v,by simpa only [Nat.add_assoc] using this,OF,h1c v (List.mem_of_getElem? hv)⟩
  obtain⟨es,p9,hp⟩:=lK len each
  refine⟨.sl _ es,⟨es,⟨by omega,by rw[p9]; exact hwl⟩,fun y hy=>?_,rfl⟩,nofun,bJ.one ?_,by rw[hc]; rfl,fun c hc=>by simp only[List.mem_singleton] at hc; subst hc; rfl⟩
  ·obtain⟨i,hi⟩:=List.getElem?_of_mem hy
   exact (hp i y hi).1
  ·simp only[PV.Is]
   refine⟨some a,m,by rw[p9],by omega,by omega,fun g o V4=>?_,fun dt=>?_⟩
   ·cases V4
    exact cr.of fun i y hy=>(hp i y hy).2.2.2
   ·have h1:0 < es.length:=by omega
    obtain⟨_,h2,h3,_⟩:=hp 0 es[0] (List.getElem?_eq_getElem h1)
    obtain⟨b,off,sp⟩:=a
    dsimp only at h2
    subst h2
    exact⟨b,off,rfl,h3,h0⟩
def KT (P:Program) (total:Nat):Nat->List Field->List (PV->Prop)->Prop
 | off,[],[]=>off=total
 | off,f::fs,S::Ss=>f.offset=off/\Op P f.type S/\KT P total (off+P.cellsOf f.type) fs Ss
 | _,_,_=>False
theorem OH {fs:Array Field} {Ss:List (PV->Prop)} (ht:P.underlying t=some (.struct fs)) (hf:KT P (P.cellsOf t) 0 fs.toList Ss):Op P t (AI Ss):=fun {H} ec w base held fuel cs x h AJ=>by
 obtain⟨xs,n,_,rfl,hl,tO,hx⟩:=DataW.trod_struct ht h
 have key:∀ (l:List Field) (Ss:List (PV->Prop)) (off:Nat),KT P (P.cellsOf t) off l Ss->(∀ f∈l,∃ y,DataW.trod ec P w base (fun _=>true) held n f.type ((cs.drop f.offset).take (P.cellsOf f.type))=some y/\∀ n∈y.1.weights P f.type,n<=reachBytes)->off<=cs.length ->
   ∃ ys,uE Ss ys/\bJ w (In w) (ys.flatMap PV.cells) no (cs.drop off)/\∀ c∈cs.drop off,c.oneCell'=true:=by
  intro l
  induction l with
  | nil =>
   intro Ss off h _ _
   cases Ss with
   | nil =>
    simp only[KT] at h
    refine⟨[],trivial,?_,?_⟩
    ·rw[List.drop_eq_nil_of_le (by omega)]; simp only[List.flatMap_nil,bJ]
    ·rw[List.drop_eq_nil_of_le (by omega)]; intro c hc; cases hc
   | cons=>exact h.elim
  | cons f l ih =>
   intro Ss off h ht hle
   cases Ss with
   | nil=>exact h.elim
   | cons S Ss =>
    obtain⟨h1,h2,h3⟩:=h
    subst h1
    obtain⟨z,hz,hzw⟩:=ht f (List.mem_cons_self ..)
    obtain⟨y,hS,_,hy,KH,At⟩:=h2 ec w base held n _ z hz hzw
    have G6:f.offset+P.cellsOf f.type<=cs.length:=by
     rw[List.length_take,List.length_drop] at KH; omega
    obtain⟨ys,hys,hyL,hyO⟩:=ih Ss _ h3 (fun g hg=>ht g (List.mem_cons_of_mem _ hg)) G6
    have hd:cs.drop f.offset=(cs.drop f.offset).take (P.cellsOf f.type)++cs.drop (f.offset+P.cellsOf f.type):=by
     rw[← List.drop_drop,List.take_append_drop]
    refine⟨y::ys,⟨hS,hys⟩,?_,?_⟩
    ·rw[hd,List.flatMap_cons]; exact hy.append hyL
    ·intro c hc
     rw[hd,List.mem_append] at hc
     exact hc.elim (At c) (hyO c)
 obtain⟨ys,h1,h2,h3⟩:=key fs.toList Ss 0 hf (fun f hf=>by
  obtain⟨i,hi⟩:=List.getElem?_of_mem hf
  have OF:i < fs.size:=by simpa using (List.getElem?_eq_some_iff.1 hi).1
  have:=hx i f (by simpa using hi)
  rw[this]
  have cI:i < xs.length:=by omega
  refine⟨_,List.getElem?_eq_getElem cI,fun n hn=>AJ n ?_⟩
  simp only[DataW.weights,ht]
  exact kz (i:=i) (by rw[List.getElem?_map,hi]; rfl) (by rw[List.getElem?_map,List.getElem?_eq_getElem cI]; rfl) hn) (Nat.zero_le _)
 rw[List.drop_zero] at h2 h3
 exact⟨.agg (ys.flatMap PV.cells),⟨ys,h1,rfl⟩,nofun,h2,hl,h3⟩
theorem Op.AK {S S':PV->Prop} (h:Op P t S) (hS:∀ x,S x->S' x):Op P t S':=fun e w base held fuel cs x hx AJ=>by
 obtain⟨y,h1,h2⟩:=h e w base held fuel cs x hx AJ
 exact⟨y,hS y h1,h2⟩
theorem decode {α:Type} {S:PV->Prop} {enc:α->PV} {ok:α->Prop} (h:∀ x,S x->∃ z,ok z/\x=enc z):∀ (es:List PV),(∀ e∈es,S e)->∃ l:List α,(∀ z∈l,ok z)/\es=l.map enc
 | [],_=>⟨[],fun _ h=>by simp at h,rfl⟩
 | e::es,hS=>by
  obtain⟨z,hz,rfl⟩:=h e (hS e (List.mem_cons_self ..))
  obtain⟨l,hl,rfl⟩:=decode h es fun e he=>hS e (List.mem_cons_of_mem _ he)
  refine⟨z::l,fun y hy=>?_,rfl⟩
  rcases List.mem_cons.1 hy with rfl|hy
  ·exact hz
  ·exact hl y hy
def FX {α:Type} (n b:Nat) (enc:α->PV) (ok:α->Prop) (x:PV):Prop:=∃ l:List α,(l.length<=maxLen/\l.length*b<=reachBytes)/\(∀ z∈l,ok z)/\x = .sl n (l.map enc)
theorem AL {α:Type} {S:PV->Prop} {n b:Nat} {enc:α->PV} {ok:α->Prop} (h:Op P t (SSl n b S)) (hd:∀ x,S x->∃ z,ok z/\x=enc z):Op P t (FX n b enc ok):=h.AK fun x ⟨es,h1,h2,h3⟩=>by
 obtain⟨l,hl,rfl⟩:=decode hd es h2
 exact⟨l,by simpa using h1,hl,h3⟩
theorem jk {H:Type} {ts:List TypeId} {l:List (DataW H)} (h:(DataW.weightsEach P ts l).all (·<=reachBytes)=true) {i:Nat} {d:DataW H} (ht:ts[i]?=some t) (hd:l[i]?=some d):∀ n∈d.weights P t,n<=reachBytes:=fun n hn=>by
 have:=List.all_eq_true.1 h n (kz ht hd hn)
 simpa using this
theorem Op.G7 {S:PV->Prop} (h:Op P t S) (h1:∀ y,S y->y.cells = [y]) {H:Type} {ec:TypeId × Value->H} {w:World} {base:Nat} {held:Bool} {v:Value} {d:DataW H} {p:List MemPlace} (hv:v.cells = #[v]) (ht:DataW.Trod ec P w base (fun _=>true) held t v d p) (AJ:∀ n∈d.weights P t,n<=reachBytes) :
  ∃ y,S y/\y.Is w (In w) no v:=by
 obtain⟨fuel,ht⟩:=ht
 obtain⟨y,hS,_,hy,_⟩:=h ec w base held fuel _ _ ht AJ
 refine⟨y,hS,?_⟩
 rw[h1 y hS,hv] at hy
 simp only[bJ,and_true] at hy
 exact hy
theorem Op.argA {Ss:List (PV->Prop)} (h:Op P t (AI Ss)) {H:Type} {ec:TypeId × Value->H} {w:World} {base:Nat} {held:Bool} {vs:Array Value} {d:DataW H} {p:List MemPlace} (ht:DataW.Trod ec P w base (fun _=>true) held t (.agg vs) d p) (AJ:∀ n∈d.weights P t,n<=reachBytes) :
  ∃ y,AI Ss y/\y.Is w (In w) no (.agg vs):=by
 obtain⟨fuel,ht⟩:=ht
 obtain⟨y,hS,_,hy,_⟩:=h ec w base held fuel _ _ ht AJ
 refine⟨y,hS,?_⟩
 obtain⟨xs,_,rfl⟩:=hS
 simp only[PV.Is]
 exact⟨vs,rfl,hy⟩
theorem SSl.cell {n b:Nat} {S:PV->Prop} (y:PV):SSl n b S y->y.cells = [y]:=fun ⟨_,_,_,h⟩=>by subst h; rfl
theorem FX.cell {α:Type} {n b:Nat} {enc:α->PV} {ok:α->Prop} (y:PV):FX n b enc ok y->y.cells = [y]:=fun ⟨_,_,_,h⟩=>by subst h; rfl
theorem SInt.cell {k:IntKind} (y:PV):SInt k y->y.cells = [y]:=fun ⟨_,_,h⟩=>by subst h; rfl
end
def qe (P:Program) (total:Nat) (r:TypeId->DataW Unit->Option (List PV)):Nat->List (Nat × TypeId)->List (DataW Unit)->Option (List PV)
 | off,[],[]=>if off=total then some [] else none
 | off,(o,t)::ps,d::ds=>if o=off then (match r t d,qe P total r (off+P.cellsOf t) ps ds with
   | some xs,some ys=>some (xs++ys)
   | _,_=>none) else none
 | _,_,_=>none
def yk (P:Program):Nat->TypeId->DataW Unit->Option (List PV)
 | 0,_,_=>none
 | f+1,t,d=>match P.underlying t,d with
  | some (.int k),.lit (.int l n)=>if k=l then some [.lit k n] else none
  | some .bool,.lit (.bool b)=>some [if b then .tt else .ff]
  | some (.struct fs),.agg ds=>qe P (P.cellsOf t) (yk P f) 0 (fs.toList.map fun f=>(f.offset,f.type)) ds
  | some (.array n e),.agg ds=>qe P (P.cellsOf t) (yk P f) 0 ((List.range n).map fun i=>(i*P.cellsOf e,e)) ds
  | _,_=>none
section
variable {P:Program} {w:World} {I:Nat->Prop}
theorem Ce {base:Nat} {sp:Nat->Bool} {held:Bool} {enc:TypeId × Value->Unit}:∀ (f:Nat) (t:TypeId) (d:DataW Unit) (xs:List PV) (fuel:Nat) (cs:List Value) (p:List MemPlace),yk P f t d=some xs->DataW.trod enc P w base sp held fuel t cs=some (d,p)->bJ w I xs no cs/\∀ c∈cs,c.oneCell'=true
 | 0,_,_,_,_,_,_,h,_=>by simp[yk] at h
 | f+1,t,d,xs,fuel,cs,p,h,ht=>by
  have key:∀ (n:Nat) (ps:List (Nat × TypeId)) (ds:List (DataW Unit)) (off:Nat) (xs:List PV),qe P (P.cellsOf t) (yk P f) off ps ds=some xs->cs.length=P.cellsOf t ->
    (∀ (i:Nat) (o:Nat) (u:TypeId),ps[i]?=some (o,u)->∃ d p,ds[i]?=some d/\DataW.trod enc P w base sp held n u ((cs.drop o).take (P.cellsOf u))=some (d,p))->bJ w I xs no (cs.drop off)/\∀ c∈cs.drop off,c.oneCell'=true:=by
   intro n ps
   induction ps with
   | nil =>
    intro ds off xs h hl _
    cases ds with
    | cons=>simp[qe] at h
    | nil =>
     simp only[qe] at h
     split at h
     ·cases h
      rw[List.drop_eq_nil_of_le (by omega)]
      exact⟨by simp only[bJ],fun c hc=>by cases hc⟩
     ·cases h
   | cons q ps ih =>
    obtain⟨o,u⟩:=q
    intro ds off xs h hl ha
    cases ds with
    | nil=>simp[qe] at h
    | cons d ds =>
     simp only[qe] at h
     split at h
     ·rename_i ho
      subst ho
      split at h
      ·rename_i xs1 ys h1 h2
       cases h
       obtain⟨d',p',hd,ht⟩:=ha 0 o u rfl
       simp only[List.getElem?_cons_zero,Option.some.injEq] at hd
       subst hd
       have i1:=Ce f u _ _ n _ _ h1 ht
       have i2:=ih ds _ _ h2 hl fun i o' u' hi=>by
        obtain⟨d',p',hd,ht⟩:=ha (i+1) o' u' (by simpa using hi)
        exact⟨d',p',by simpa using hd,ht⟩
       have hd:cs.drop o=(cs.drop o).take (P.cellsOf u)++cs.drop (o+P.cellsOf u):=by
        rw[← List.drop_drop,List.take_append_drop]
       rw[hd]
       refine⟨i1.1.append i2.1,fun c hc=>?_⟩
       rw[List.mem_append] at hc
       exact hc.elim (i1.2 c) (i2.2 c)
      ·cases h
     ·cases h
  unfold yk at h
  split at h
  ·rename_i hu
   obtain⟨z,rfl,hz,_⟩:=DataW.trod_int hu ht
   simp only[Prod.mk.injEq,DataW.lit.injEq,Lit.int.injEq] at hz
   obtain⟨⟨rfl,rfl⟩,_⟩:=hz
   simp only[if_true,Option.some.injEq] at h
   subst h
   exact⟨bJ.one (by simp only[PV.Is]),fun c hc=>by simp only[List.mem_singleton] at hc; subst hc; rfl⟩
  ·rename_i hu
   obtain⟨b,rfl,hz⟩:=DataW.trod_bool hu ht
   simp only[Prod.mk.injEq,DataW.lit.injEq,Lit.bool.injEq] at hz
   obtain⟨rfl,_⟩:=hz
   simp only[Option.some.injEq] at h
   subst h
   refine⟨bJ.one ?_,fun c hc=>by simp only[List.mem_singleton] at hc; subst hc; rfl⟩
   split<;>simp only[PV.Is]<;>simp_all
  ·rename_i hu
   obtain⟨ys,n,_,hz,hl,KH,hy⟩:=DataW.trod_struct hu ht
   simp only[Prod.mk.injEq,DataW.agg.injEq] at hz
   obtain⟨rfl,_⟩:=hz
   have:=key n _ _ 0 xs h hl fun i o u hi=>by
    simp only[List.getElem?_map,Option.map_eq_some_iff,Prod.mk.injEq] at hi
    obtain⟨f',hf,rfl,rfl⟩:=hi
    have hy:=hy i f' (by simpa using hf)
    have cI:i < ys.length:=by rw[KH]; simpa using (List.getElem?_eq_some_iff.1 hf).1
    exact⟨ys[i].1,ys[i].2,by simp[cI],by rw[hy]; simp[cI]⟩
   simpa using this
  ·rename_i hu
   obtain⟨ys,n,_,hz,hl,KH,hy⟩:=DataW.trod_array hu ht
   simp only[Prod.mk.injEq,DataW.agg.injEq] at hz
   obtain⟨rfl,_⟩:=hz
   have:=key n _ _ 0 xs h hl fun i o u hi=>by
    simp only[List.getElem?_map,Option.map_eq_some_iff,Prod.mk.injEq] at hi
    obtain⟨j,hj,rfl,rfl⟩:=hi
    obtain⟨Xr,rfl⟩:=List.getElem?_eq_some_iff.1 hj
    simp only[List.length_range] at Xr
    rw[List.getElem_range]
    have hy:=hy i Xr
    have cI:i < ys.length:=by omega
    exact⟨ys[i].1,ys[i].2,by simp[cI],by rw[hy]; simp[cI]⟩
   simpa using this
  ·cases h
theorem Cf {laid:List (String × DataW Unit)}:∀ {l:List (String × DataW Unit)} {ps:List MemPlace},DataW.LaidVars P w l ps->∀ {name:String} {d:DataW Unit},(name,d)∈l->∀ {g:Nat} {t:TypeId} {xs:List PV} (f:Nat),P.globalNamed name=some g->(P.globals[g]?).map (·.type)=some t->yk P f t d=some xs->xs≠[]->(g < w.heap.size/\dc w I xs g 0)/\∃ arr ty fr,w.heap[g]?=some (.cells arr ty fr)/\arr.size=xs.length
 | [],_,_,_,_,hm,_,_,_,_,_,_,_,_=>by cases hm
 | (n,d)::r,ps,h,name,d',hm,g,t,xs,f,hg,ht,hx,dt=>by
  obtain⟨g',t',cs,fuel,p,q,xD,B4,DZ,hd,hr,_⟩:=h
  rcases List.mem_cons.1 hm with he|hm
  ·cases he
   obtain rfl:=Option.some.inj (hg.symm.trans xD)
   obtain rfl:=Option.some.inj (ht.symm.trans B4)
   obtain⟨h1,h2⟩:=Ce (I:=I) f t _ _ fuel _ _ hx hd
   have hat:dc w I xs g 0:=dc.of fun i c hc=>by
    obtain⟨v,hv,hi⟩:=h1.get hc
    exact⟨v,by rw[Nat.zero_add,World.var?_cell hg DZ]; simpa using hv,hi,h2 v (List.mem_of_getElem? hv)⟩
   refine⟨⟨?_,hat⟩,?_⟩
   rotate_left 1
   ·have hl:=h1.length
    unfold World.var? at DZ
    rw[hg,Option.bind_some] at DZ
    split at DZ
    ·rename_i arr ty fr hh
     cases DZ
     exact⟨_,ty,fr,hh,by simpa using hl.symm⟩
    ·cases DZ
   cases xs with
   | nil=>exact absurd rfl dt
   | cons c xs =>
    obtain⟨v,hv,_⟩:=hat.get (i:=0) rfl
    exact World.block_lt_of_cell? w _ hv
  ·exact Cf (laid:=laid) hr hm f hg ht hx dt
theorem AM {G:Gx} {laid:List (String × DataW Unit)} (o_:(laid.all fun x=>x.2.handleName?.isNone)=true) (h:laidMetH P laid w)
  (du:∀ x∈G.nt,∃ name d t,(name,d)∈laid/\P.globalNamed name=some x.1/\(P.globals[x.1]?).map (·.type)=some t/\yk P 8 t d=some x.2/\x.2≠[]):dd G (In w) w:=by
 rw[MakeChecks.laidMetH_plain _ _ _ o_] at h
 obtain⟨ps,h,_⟩:=h
 have key:∀ (g:Nat) (cs:List PV),(g,cs)∈G.nt->(g < w.heap.size/\dc w (In w) cs g 0)/\∃ arr ty fr,w.heap[g]?=some (.cells arr ty fr)/\arr.size=cs.length:=fun g cs hg=>by
  obtain⟨name,d,t,h1,h2,h3,h4,h5⟩:=du _ hg
  exact Cf (I:=In w) (laid:=laid) h h1 8 h2 h3 h4 h5
 exact⟨fun g hg=>hg,fun g cs hg=>(key g cs hg).1,fun g cs hg=>(key g cs hg).2⟩
end
section
variable {w w':World} {I I':Nat->Prop} {β aN:ay} {G:Gx} {s:aV} {a:Act} {st dY:List au}
def Xs (I:Nat->Prop) (w w':World) (g:Nat):Prop:=I g\/(w.heap.size<=g/\g < w'.heap.size)
theorem ah.of_new {f:FuncId} {args:List PV} {r:PV} (he:Ev.ia G.cx.P f)
  (h:∀ I β w vals,dd G I w->bJ w I args β vals->Calls G.cx.P f vals.toArray w fun e w'=>∃ v,e = .returned v/\Below w.heap.size w w'/\r.Is w' (Xs I w w') no v) (hu:r.dx = []):ah G f args r:=by
 refine Spec.intro he fun I β w vals hH hM hA=>?_
 refine (h I β w vals hM hA).mono fun e w' ⟨v,he,hB,hr⟩=>⟨v,r,[],Xs I w w',β,he,rfl,mv hu hr,hH.G5 _ _,?_,⟨hB.os,hB.tape,hB.output,hB.size,fun g hg _=>hB.block g hg,fun g _ ⟨l,b,p,o,h1,_⟩=>by simp at h1,fun _ h=>.inl h,fun g hg h=>?_⟩,Nat.le_refl _,fun _ _ _=>rfl⟩
 ·have mw:=hM.below hB
  exact⟨fun g hg=>hg.elim (fun h=>mw.av g h) (fun h=>h.2),fun g cs hg=>⟨.inl (mw.nY g cs hg).1,dc.mono (fun _ h=>.inl h) (fun _ _=>rfl) _ _ _ rfl (mw.nY g cs hg).2⟩,mw.row⟩
 ·rcases h with h|h
  ·exact .inl h
  ·omega
end
open Go
def P99:List (Nat × aG):=[]
def P131:List (Nat × aG):=[]
def P149:List (Nat × aG):=[]
def P148:List (Nat × aG):=[]
def P188:List (Nat × aG):=[]
def P150:List (Nat × aG):=[]
def P189:List (Nat × aG):=[]
def P151:List (Nat × aG):=[]
def P152:List (Nat × aG):=[]
def P153:List (Nat × aG):=[]
def P154:List (Nat × aG):=[]
def P190:List (Nat × aG):=[]
def P155:List (Nat × aG):=[]
def P54:List (Nat × aG):=[]
def P88:List (Nat × aG):=[]
def P85:List (Nat × aG):=[]
def P48:List (Nat × aG):=[]
def P84:List (Nat × aG):=[]
def P123:List (Nat × aG):=[(2,.pure 0 <| .load 1 [6,5,4,2] <| .load 3 [6,5,4] <| .bA 2 (.bA 4 (.pure 5 <| .pure 6 <| .done) (.nil)) (.nil)),(3,.pure 0 <| .load 1 [6,5,4,2] <| .load 3 [6,5,4] <| .bA 2 (.bA 4 (.pure 5 <| .pure 6 <| .done) (.nil)) (.nil))]
def P120:List (Nat × aG):=[]
def P166:List (Nat × aG):=[]
def k_:List (Nat × aG):=[(1,.pure 0 <| .pure 3 <| .load 1 [7,6,2] <| .pure 2 <| .pure 6 <| .load 4 [7,5] <| .pure 5 <| .pure 7 <| .done),(12,.pure 2 <| .pure 6 <| .pure 10 <| .load 0 [15,14,9,8,7,5,4,3,1] <| .load 11 [15,14,13,12] <| .pure 12 <| .pure 13 <| .bA 1 (.bA 3 (.pure 4 <| .pure 5 <| .bA 7 (.pure 8 <| .pure 9 <| .pure 14 <| .pure 15 <| .done) (.nil)) (.nil)) (.nil))]
def P197:List (Nat × aG):=[]
def P198:List (Nat × aG):=[]
def P195:List (Nat × aG):=[(1,.pure 0 <| .pure 1 <| .pure 2 <| .pure 3 <| .pure 4 <| .pure 5 <| .pure 6 <| .pure 7 <| .pure 8 <| .pure 9 <| .pure 10 <| .done)]
def P199:List (Nat × aG):=[]
def P200:List (Nat × aG):=[]
def P196:List (Nat × aG):=[]
def m1:List (Nat × aG):=[(1,.pure 0 <| .pure 3 <| .pure 6 <| .load 1 [11,10,9,2] <| .pure 2 <| .pure 9 <| .load 4 [11,10,5] <| .pure 5 <| .pure 10 <| .load 7 [11,8] <| .pure 8 <| .pure 11 <| .done),(24,.pure 0 <| .pure 5 <| .load 1 [10,9,8,4,3,2] <| .pure 2 <| .load 6 [10,9,8,7] <| .pure 7 <| .bA 3 (.pure 4 <| .bA 8 (.pure 9 <| .pure 10 <| .done) (.nil)) (.nil)),(26,.pure 0 <| .pure 5 <| .load 1 [10,9,8,4,3,2] <| .pure 2 <| .load 6 [10,9,8,7] <| .pure 7 <| .bA 3 (.pure 4 <| .bA 8 (.pure 9 <| .pure 10 <| .done) (.nil)) (.nil)),(30,.pure 0 <| .pure 4 <| .load 1 [7,6,3,2] <| .pure 2 <| .pure 3 <| .bA 5 (.pure 6 <| .pure 7 <| .done) (.nil))]
def P201:List (Nat × aG):=[]
def P68:List (Nat × aG):=[]
def P69:List (Nat × aG):=[]
def lM:List (Nat × aG):=[]
def P167:List (Nat × aG):=[]
def P168:List (Nat × aG):=[]
def P169:List (Nat × aG):=[]
def P170:List (Nat × aG):=[]
def lf:List (Nat × aG):=[(5,.pure 0 <| .pure 2 <| .load 1 [7,6,5,4] <| .pure 4 <| .bA 3 (.bA 5 (.pure 6 <| .bA 7 (.done) (.nil)) (.nil)) (.nil)),(16,.pure 0 <| .pure 2 <| .pure 4 <| .load 1 [11,10,9,8,7,6] <| .pure 6 <| .bA 3 (.bA 5 (.bA 7 (.pure 8 <| .bA 9 (.pure 10 <| .bA 11 (.done) (.nil)) (.nil)) (.nil)) (.nil)) (.nil)),(18,.pure 0 <| .pure 2 <| .pure 4 <| .pure 6 <| .load 1 [15,14,13,12,11,10,9,8] <| .pure 8 <| .load 7 [15,14] <| .bA 3 (.bA 5 (.bA 9 (.pure 10 <| .bA 11 (.pure 12 <| .bA 13 (.pure 14 <| .bA 15 (.done) (.nil)) (.nil)) (.nil)) (.nil)) (.nil)) (.nil)),(22,.pure 0 <| .pure 2 <| .pure 4 <| .load 1 [11,10,9,8,7,6] <| .pure 6 <| .load 3 [11,10,9,8] <| .load 5 [11,10] <| .bA 7 (.pure 8 <| .bA 9 (.pure 10 <| .bA 11 (.done) (.nil)) (.nil)) (.nil)),(25,.pure 0 <| .pure 2 <| .pure 4 <| .pure 6 <| .load 1 [15,14,13,12,11,10,9,8] <| .pure 8 <| .load 3 [15,14,13,12,11,10] <| .load 5 [15,14,13,12] <| .bA 7 (.bA 9 (.pure 10 <| .bA 11 (.pure 12 <| .bA 13 (.pure 14 <| .bA 15 (.done) (.nil)) (.nil)) (.nil)) (.nil)) (.nil)),(27,.pure 0 <| .pure 2 <| .pure 4 <| .pure 6 <| .load 1 [15,14,13,12,11,10,9,8] <| .pure 8 <| .load 5 [15,14,13,12] <| .load 7 [15,14] <| .bA 3 (.bA 9 (.pure 10 <| .bA 11 (.pure 12 <| .bA 13 (.pure 14 <| .bA 15 (.done) (.nil)) (.nil)) (.nil)) (.nil)) (.nil)),(29,.pure 0 <| .pure 2 <| .load 1 [7,6,5,4] <| .pure 4 <| .load 3 [7,6] <| .bA 5 (.pure 6 <| .bA 7 (.done) (.nil)) (.nil))]
def P171:List (Nat × aG):=[]
def Xt:List (Nat × aG):=[]
def KU:List (Nat × aG):=[(5,.pure 0 <| .pure 2 <| .pure 4 <| .load 1 [11,10,9,8,7,6] <| .pure 6 <| .load 3 [11,10,9,8] <| .load 5 [11,10] <| .bA 7 (.pure 8 <| .bA 9 (.pure 10 <| .bA 11 (.done) (.nil)) (.nil)) (.nil)),(7,.pure 0 <| .pure 2 <| .load 1 [7,6,5,4] <| .pure 4 <| .load 3 [7,6] <| .bA 5 (.pure 6 <| .bA 7 (.done) (.nil)) (.nil)),(11,.pure 0 <| .pure 2 <| .load 1 [7,6,5,4] <| .pure 4 <| .load 3 [7,6] <| .bA 5 (.pure 6 <| .bA 7 (.done) (.nil)) (.nil))]
def Qm:List (Nat × aG):=[(3,.pure 0 <| .pure 1 <| .pure 3 <| .pure 4 <| .pure 5 <| .pure 8 <| .load 2 [14,12] <| .bA 6 (.pure 7 <| .bA 9 (.pure 10 <| .bA 11 (.pure 12 <| .bA 13 (.bA 14 (.done) (.nil)) (.nil)) (.cons 13 (.bA 11 (.pure 12 <| .bA 14 (.done) (.nil)) (.nil)) (.nil))) (.cons 13 (.bA 9 (.pure 10 <| .bA 11 (.pure 12 <| .bA 14 (.done) (.nil)) (.nil)) (.nil)) (.nil))) (.cons 13 (.bA 6 (.pure 7 <| .bA 9 (.pure 10 <| .bA 11 (.pure 12 <| .bA 14 (.done) (.nil)) (.nil)) (.nil)) (.nil)) (.nil))),(5,.pure 0 <| .pure 2 <| .load 1 [7,6,5,4] <| .pure 4 <| .load 3 [7,6] <| .bA 5 (.pure 6 <| .bA 7 (.done) (.nil)) (.nil))]
def P175:List (Nat × aG):=[]
def P176:List (Nat × aG):=[]
def P129:List (Nat × aG):=[]
def P59:List (Nat × aG):=[]
def Xu:List (Nat × aG):=[]
def P202:List (Nat × aG):=[]
def Xv:List (Nat × aG):=[]
def P204:List (Nat × aG):=[]
def Xw:List (Nat × aG):=[]
def P205:List (Nat × aG):=[]
def P206:List (Nat × aG):=[]
def P207:List (Nat × aG):=[]
def P208:List (Nat × aG):=[]
def Xx:List (Nat × aG):=[(10,.pure 1 <| .pure 2 <| .pure 3 <| .pure 4 <| .pure 7 <| .pure 8 <| .pure 9 <| .pure 10 <| .pure 12 <| .pure 13 <| .pure 14 <| .pure 15 <| .load 0 [18,17,6] <| .load 5 [18,17,6] <| .load 11 [18,17] <| .load 16 [18,17] <| .bA 6 (.bA 17 (.pure 18 <| .done) (.nil)) (.nil)),(11,.pure 0 <| .pure 1 <| .pure 2 <| .pure 3 <| .pure 4 <| .pure 6 <| .pure 7 <| .pure 8 <| .pure 9 <| .load 5 [12,11] <| .load 10 [12,11] <| .bA 11 (.pure 12 <| .done) (.nil))]
def P78:List (Nat × aG):=[(3,.pure 0 <| .pure 1 <| .pure 4 <| .bA 2 (.pure 3 <| .bA 5 (.pure 6 <| .pure 7 <| .done) (.nil)) (.nil))]
def P83:List (Nat × aG):=[]
def P79:List (Nat × aG):=[]
def P80:List (Nat × aG):=[]
def P81:List (Nat × aG):=[]
def Ka:List (Nat × aG):=[]
def P13:List (Nat × aG):=[]
def P16:List (Nat × aG):=[]
def P49:List (Nat × aG):=[(3,.pure 0 <| .bA 1 (.bA 2 (.pure 3 <| .bA 4 (.pure 5 <| .pure 6 <| .done) (.nil)) (.nil)) (.cons 2 (.bA 1 (.pure 3 <| .bA 4 (.pure 5 <| .pure 6 <| .done) (.nil)) (.nil)) (.nil)))]
def P86:List (Nat × aG):=[]
def P50:List (Nat × aG):=[]
def P51:List (Nat × aG):=[]
def P17:List (Nat × aG):=[]
def P18:List (Nat × aG):=[]
def P20:List (Nat × aG):=[(7,.pure 0 <| .pure 2 <| .pure 3 <| .pure 4 <| .pure 6 <| .load 1 [9,8,7] <| .load 5 [9,8,7] <| .pure 7 <| .bA 8 (.pure 9 <| .done) (.nil)),(8,.pure 0 <| .pure 1 <| .pure 6 <| .pure 7 <| .pure 8 <| .load 2 [10,9,5,4,3] <| .bA 3 (.pure 4 <| .pure 5 <| .pure 9 <| .bA 10 (.done) (.nil)) (.nil)),(12,.pure 1 <| .pure 2 <| .pure 3 <| .pure 5 <| .pure 6 <| .pure 7 <| .pure 9 <| .pure 10 <| .pure 11 <| .load 0 [18,17,16,15,14,13] <| .load 4 [18,17,16,15,14,13] <| .load 8 [18,17,16,15,14,13] <| .load 12 [18,17,16,15,14,13] <| .bA 13 (.pure 14 <| .pure 15 <| .pure 16 <| .pure 17 <| .pure 18 <| .done) (.nil)),(13,.pure 0 <| .pure 1 <| .pure 2 <| .pure 4 <| .load 3 [13,12,10,9,8,7] <| .load 5 [13,12,10,9,8,7,6] <| .bA 6 (.bA 7 (.pure 8 <| .pure 9 <| .pure 10 <| .bA 11 (.bA 12 (.pure 13 <| .done) (.nil)) (.nil)) (.cons 11 (.bA 7 (.pure 8 <| .pure 9 <| .pure 10 <| .bA 12 (.pure 13 <| .done) (.nil)) (.nil)) (.nil))) (.cons 11 (.bA 6 (.bA 7 (.pure 8 <| .pure 9 <| .pure 10 <| .bA 12 (.pure 13 <| .done) (.nil)) (.nil)) (.nil)) (.nil))),(14,.pure 0 <| .pure 1 <| .pure 2 <| .pure 3 <| .pure 4 <| .pure 5 <| .pure 8 <| .pure 9 <| .pure 10 <| .load 6 [20,19,18,17,16,15,14,13,12] <| .load 7 [20,19,18,17,16,15] <| .load 11 [20,19,18,17,16,15,14,13,12] <| .pure 12 <| .pure 13 <| .bA 14 (.pure 15 <| .pure 16 <| .bA 17 (.pure 18 <| .pure 19 <| .bA 20 (.done) (.nil)) (.nil)) (.nil)),(15,.pure 0 <| .pure 1 <| .pure 2 <| .pure 4 <| .pure 5 <| .pure 6 <| .pure 7 <| .pure 8 <| .load 3 [15,14,13,12] <| .load 9 [15,14,13,12,11,10] <| .pure 10 <| .pure 11 <| .pure 12 <| .pure 13 <| .pure 14 <| .bA 15 (.done) (.nil)),(16,.pure 0 <| .pure 1 <| .pure 2 <| .pure 3 <| .pure 5 <| .pure 6 <| .pure 7 <| .pure 9 <| .pure 10 <| .load 4 [13,12,11] <| .load 8 [13,12,11] <| .pure 11 <| .bA 12 (.pure 13 <| .done) (.nil))]
def P52:List (Nat × aG):=[]
def P87:List (Nat × aG):=[(6,.pure 0 <| .pure 1 <| .pure 4 <| .pure 5 <| .load 2 [11,10,9,3] <| .pure 3 <| .load 6 [11,10,9,8,7] <| .pure 7 <| .pure 8 <| .pure 9 <| .pure 10 <| .pure 11 <| .done)]
def P65:List (Nat × aG):=[]
def P53:List (Nat × aG):=[]
def P55:List (Nat × aG):=[]
def P89:List (Nat × aG):=[(8,.pure 0 <| .pure 1 <| .pure 4 <| .pure 5 <| .load 2 [10,9,8,7,3] <| .load 6 [10,9,8,7] <| .bA 3 (.bA 7 (.pure 8 <| .pure 9 <| .pure 10 <| .done) (.nil)) (.nil)),(19,.pure 0 <| .pure 1 <| .pure 4 <| .pure 5 <| .pure 8 <| .load 2 [13,12,11,10,7,3] <| .load 6 [13,12,11,10,7] <| .load 9 [13,12,11,10] <| .bA 3 (.bA 7 (.pure 10 <| .pure 11 <| .pure 12 <| .pure 13 <| .done) (.nil)) (.nil))]
def P132:List (Nat × aG):=[]
def P90:List (Nat × aG):=[(8,.pure 0 <| .pure 1 <| .pure 2 <| .pure 7 <| .pure 8 <| .pure 9 <| .pure 10 <| .pure 11 <| .pure 12 <| .load 3 [16,15,6,5,4] <| .pure 4 <| .pure 5 <| .load 6 [16,15] <| .load 13 [16,15,14] <| .bA 14 (.bA 15 (.pure 16 <| .done) (.nil)) (.nil))]
def P30:List (Nat × aG):=[]
def P133:List (Nat × aG):=[]
def D0:List (Nat × aG):=[]
def P134:List (Nat × aG):=[]
def P91:List (Nat × aG):=[(2,.pure 0 <| .pure 1 <| .pure 3 <| .pure 4 <| .pure 5 <| .load 6 [12,11,10,9,8,7] <| .pure 7 <| .pure 8 <| .bA 2 (.pure 9 <| .pure 10 <| .pure 11 <| .bA 12 (.done) (.nil)) (.nil)),(8,.pure 0 <| .pure 1 <| .pure 2 <| .pure 7 <| .pure 8 <| .pure 9 <| .load 3 [12,11,6,5,4] <| .pure 4 <| .pure 5 <| .load 6 [12,11] <| .bA 10 (.bA 11 (.pure 12 <| .done) (.nil)) (.nil))]
def P92:List (Nat × aG):=[]
def P136:List (Nat × aG):=[]
def P93:List (Nat × aG):=[]
def P137:List (Nat × aG):=[]
def P138:List (Nat × aG):=[(5,.pure 0 <| .pure 1 <| .pure 2 <| .pure 3 <| .pure 6 <| .pure 7 <| .pure 8 <| .pure 9 <| .load 4 [12,11,5] <| .pure 5 <| .pure 11 <| .load 10 [12] <| .pure 12 <| .done),(10,.pure 0 <| .pure 1 <| .pure 2 <| .pure 3 <| .pure 5 <| .pure 6 <| .pure 7 <| .pure 8 <| .load 4 [15,14,13,12,11,10] <| .load 9 [15,14,13,12,11,10] <| .bA 10 (.pure 11 <| .pure 12 <| .pure 13 <| .pure 14 <| .pure 15 <| .done) (.nil)),(15,.pure 0 <| .pure 1 <| .pure 2 <| .pure 3 <| .pure 5 <| .pure 6 <| .pure 7 <| .pure 8 <| .pure 9 <| .pure 12 <| .pure 13 <| .pure 14 <| .pure 15 <| .pure 17 <| .pure 18 <| .pure 19 <| .pure 20 <| .load 4 [29,28,27,26,25,24,23,22] <| .load 10 [29,28,27,26,25,24,23,22,11] <| .load 16 [29,28,27,26,25,24,23,22] <| .load 21 [29,28,27,26,25,24,23,22] <| .bA 11 (.bA 22 (.pure 23 <| .pure 24 <| .pure 25 <| .pure 26 <| .pure 27 <| .pure 28 <| .pure 29 <| .done) (.nil)) (.nil)),(17,.pure 0 <| .pure 1 <| .pure 2 <| .pure 3 <| .pure 4 <| .pure 7 <| .pure 8 <| .pure 9 <| .pure 10 <| .load 5 [13,12,6] <| .load 11 [13] <| .bA 6 (.pure 12 <| .pure 13 <| .done) (.nil))]
def P139:List (Nat × aG):=[]
def P184:List (Nat × aG):=[]
def P143:List (Nat × aG):=[]
def P94:List (Nat × aG):=[]
def P140:List (Nat × aG):=[]
def P95:List (Nat × aG):=[(8,.pure 0 <| .pure 1 <| .pure 4 <| .pure 5 <| .pure 8 <| .load 2 [10,3] <| .pure 3 <| .load 6 [10,7] <| .load 9 [10] <| .bA 7 (.bA 10 (.done) (.nil)) (.nil)),(12,.pure 0 <| .pure 1 <| .pure 4 <| .pure 5 <| .pure 8 <| .load 2 [9,3] <| .pure 3 <| .load 6 [9,7] <| .bA 7 (.bA 9 (.done) (.nil)) (.nil)),(19,.pure 0 <| .pure 1 <| .pure 4 <| .pure 5 <| .pure 8 <| .load 2 [9,3] <| .pure 3 <| .load 6 [9,7] <| .bA 7 (.bA 9 (.done) (.nil)) (.nil))]
def P141:List (Nat × aG):=[]
def P96:List (Nat × aG):=[(2,.pure 0 <| .pure 1 <| .pure 4 <| .pure 5 <| .load 2 [9,8,7,3] <| .load 6 [9,8,7] <| .bA 3 (.bA 7 (.pure 8 <| .pure 9 <| .done) (.nil)) (.nil)),(13,.pure 0 <| .pure 1 <| .pure 3 <| .pure 4 <| .pure 5 <| .load 2 [9] <| .load 6 [9,8,7] <| .bA 7 (.pure 8 <| .bA 9 (.done) (.nil)) (.nil)),(15,.pure 0 <| .pure 1 <| .pure 3 <| .pure 4 <| .pure 7 <| .load 2 [9] <| .load 5 [9,8,6] <| .bA 6 (.pure 8 <| .bA 9 (.done) (.nil)) (.nil)),(24,.pure 0 <| .pure 1 <| .pure 3 <| .pure 4 <| .pure 5 <| .pure 6 <| .pure 7 <| .pure 8 <| .pure 9 <| .load 2 [10] <| .bA 10 (.done) (.nil)),(26,.pure 0 <| .pure 1 <| .pure 3 <| .load 2 [6] <| .bA 4 (.pure 5 <| .bA 6 (.done) (.nil)) (.nil))]
def P144:List (Nat × aG):=[]
def P97:List (Nat × aG):=[(6,.pure 0 <| .pure 1 <| .pure 3 <| .pure 5 <| .pure 6 <| .pure 9 <| .pure 10 <| .load 2 [15] <| .load 4 [15,14] <| .load 7 [15,14,13,12,8] <| .load 11 [15,14,13,12] <| .bA 8 (.bA 12 (.pure 13 <| .bA 14 (.bA 15 (.done) (.nil)) (.nil)) (.nil)) (.nil)),(8,.pure 0 <| .pure 1 <| .pure 3 <| .pure 5 <| .pure 6 <| .load 2 [10] <| .load 4 [10,9] <| .load 7 [10,9,8] <| .bA 8 (.bA 9 (.bA 10 (.done) (.nil)) (.nil)) (.nil)),(12,.pure 0 <| .pure 1 <| .pure 3 <| .pure 4 <| .pure 8 <| .pure 9 <| .load 2 [11] <| .load 5 [11,10,7,6] <| .bA 6 (.pure 7 <| .pure 10 <| .bA 11 (.done) (.nil)) (.nil)),(14,.pure 0 <| .pure 1 <| .pure 3 <| .pure 4 <| .pure 7 <| .load 2 [9] <| .load 5 [9,8,6] <| .bA 6 (.pure 8 <| .bA 9 (.done) (.nil)) (.nil)),(16,.pure 0 <| .pure 1 <| .pure 3 <| .pure 4 <| .pure 7 <| .load 2 [9] <| .load 5 [9,8,6] <| .bA 6 (.pure 8 <| .bA 9 (.done) (.nil)) (.nil)),(18,.pure 0 <| .pure 1 <| .pure 3 <| .pure 5 <| .load 2 [7] <| .bA 4 (.pure 6 <| .bA 7 (.done) (.nil)) (.nil))]
def P147:List (Nat × aG):=[]
def P98:List (Nat × aG):=[(6,.pure 0 <| .pure 1 <| .pure 2 <| .pure 3 <| .pure 5 <| .load 4 [10,9,8,7] <| .load 6 [10,9,8,7] <| .bA 7 (.pure 8 <| .pure 9 <| .bA 10 (.done) (.nil)) (.nil)),(9,.pure 0 <| .pure 1 <| .pure 3 <| .load 4 [7,6,5] <| .pure 5 <| .bA 2 (.pure 6 <| .bA 7 (.done) (.nil)) (.nil)),(12,.pure 0 <| .pure 1 <| .pure 3 <| .load 4 [7,6,5] <| .pure 5 <| .bA 2 (.pure 6 <| .bA 7 (.done) (.nil)) (.nil))]
def AN:List (Nat × aG):=[]
def P56:List (Nat × aG):=[]
def P100:List (Nat × aG):=[]
def P101:List (Nat × aG):=[]
def P57:List (Nat × aG):=[(3,.pure 1 <| .load 0 [8,7,6,5,4,3] <| .bA 2 (.bA 3 (.pure 4 <| .pure 5 <| .pure 6 <| .bA 7 (.pure 8 <| .done) (.nil)) (.nil)) (.nil)),(6,.pure 1 <| .pure 2 <| .load 0 [9,8,7,6,5,4] <| .bA 3 (.bA 4 (.pure 5 <| .pure 6 <| .pure 7 <| .bA 8 (.pure 9 <| .done) (.nil)) (.nil)) (.nil))]
def P102:List (Nat × aG):=[]
def P104:List (Nat × aG):=[]
def P103:List (Nat × aG):=[]
def P47:List (Nat × aG):=[]
def P22:List (Nat × aG):=[]
def P21:List (Nat × aG):=[]
def P23:List (Nat × aG):=[]
def P15:List (Nat × aG):=[]
def P6:List (Nat × aG):=[]
def P25:List (Nat × aG):=[]
def P26:List (Nat × aG):=[(9,.pure 1 <| .pure 4 <| .pure 5 <| .pure 7 <| .load 0 [11,9] <| .load 2 [11,9,3] <| .load 6 [11,9] <| .load 8 [11,9] <| .bA 3 (.pure 9 <| .bA 10 (.bA 11 (.done) (.nil)) (.nil)) (.cons 10 (.bA 3 (.pure 9 <| .bA 11 (.done) (.nil)) (.nil)) (.nil))),(24,.pure 1 <| .pure 2 <| .pure 4 <| .pure 6 <| .pure 7 <| .load 0 [11,10,9] <| .load 3 [11,10,8] <| .load 5 [11,10,8] <| .pure 8 <| .bA 9 (.bA 10 (.pure 11 <| .done) (.nil)) (.nil))]
def P58:List (Nat × aG):=[]
def P105:List (Nat × aG):=[]
def Xy:List (Nat × aG):=[]
def KV:List (Nat × aG):=[]
def cA:List (Nat × aG):=[(7,.pure 0 <| .pure 1 <| .pure 2 <| .pure 3 <| .pure 5 <| .pure 6 <| .pure 7 <| .pure 8 <| .pure 12 <| .pure 13 <| .pure 14 <| .pure 15 <| .pure 16 <| .pure 18 <| .pure 19 <| .pure 20 <| .pure 21 <| .pure 24 <| .pure 25 <| .pure 26 <| .pure 27 <| .load 4 [33,32] <| .load 9 [33,32,31,11,10] <| .pure 10 <| .load 11 [33,32,31] <| .load 17 [33,32,31,30,29,23] <| .load 22 [33,32,31,30,29,23] <| .load 28 [33,32,31,30,29] <| .bA 23 (.bA 29 (.pure 30 <| .pure 31 <| .pure 32 <| .bA 33 (.done) (.nil)) (.nil)) (.nil))]
def P191:List (Nat × aG):=[]
def P60:List (Nat × aG):=[(7,.pure 1 <| .pure 2 <| .load 0 [7,6,5] <| .load 3 [7,6,5,4] <| .bA 4 (.bA 5 (.bA 6 (.pure 7 <| .done) (.nil)) (.nil)) (.nil))]
def P107:List (Nat × aG):=[(6,.pure 1 <| .pure 2 <| .pure 6 <| .pure 7 <| .load 0 [12,11,10,9,4] <| .load 3 [12,11,10,9,4] <| .load 5 [12,11,10,9] <| .load 8 [12,11,10,9] <| .bA 4 (.bA 9 (.pure 10 <| .pure 11 <| .pure 12 <| .done) (.nil)) (.nil)),(13,.pure 1 <| .pure 2 <| .pure 6 <| .pure 7 <| .pure 10 <| .pure 11 <| .load 0 [18,17,16,15,9,4] <| .load 3 [18,17,16,15,9,4] <| .load 5 [18,17,16,15,9] <| .load 8 [18,17,16,15,9] <| .load 12 [18,17,16,15,14,13] <| .pure 13 <| .load 14 [18,17,16,15] <| .bA 4 (.bA 9 (.pure 15 <| .pure 16 <| .pure 17 <| .pure 18 <| .done) (.nil)) (.nil))]
def P158:List (Nat × aG):=[]
def P108:List (Nat × aG):=[(6,.pure 0 <| .pure 2 <| .pure 4 <| .pure 5 <| .load 1 [14,13,12,11,10,9,8] <| .load 3 [14,13,12,11,10,9,8,7] <| .load 6 [14,13,12,11,10,9,8,7] <| .bA 7 (.bA 8 (.pure 9 <| .pure 10 <| .pure 11 <| .pure 12 <| .bA 13 (.pure 14 <| .done) (.nil)) (.nil)) (.nil))]
def P31:List (Nat × aG):=[]
def P66:List (Nat × aG):=[]
def P64:List (Nat × aG):=[]
def D1:List (Nat × aG):=[(18,.pure 0 <| .pure 2 <| .pure 4 <| .load 1 [12,11,10,9,8,7,6] <| .load 3 [12,11,10,9,8,7,6,5] <| .bA 5 (.bA 6 (.pure 7 <| .pure 8 <| .pure 9 <| .pure 10 <| .bA 11 (.pure 12 <| .done) (.nil)) (.nil)) (.nil))]
def P159:List (Nat × aG):=[]
def P110:List (Nat × aG):=[]
def P111:List (Nat × aG):=[(9,.pure 1 <| .pure 2 <| .load 0 [5,4] <| .load 3 [5,4] <| .bA 4 (.bA 5 (.done) (.nil)) (.nil)),(12,.pure 0 <| .pure 1 <| .pure 3 <| .pure 4 <| .pure 6 <| .pure 7 <| .load 2 [9,8] <| .load 5 [9,8] <| .pure 8 <| .bA 9 (.done) (.nil))]
def P160:List (Nat × aG):=[(2,.pure 0 <| .pure 1 <| .pure 4 <| .pure 5 <| .load 2 [8,7,3] <| .pure 3 <| .pure 7 <| .load 6 [8] <| .pure 8 <| .done),(6,.pure 0 <| .pure 1 <| .pure 2 <| .pure 4 <| .load 3 [5] <| .pure 5 <| .done),(9,.pure 0 <| .pure 1 <| .pure 4 <| .pure 5 <| .pure 8 <| .pure 9 <| .pure 11 <| .pure 12 <| .load 2 [18,17,16,15,14] <| .load 3 [18,17,16,15,14,7] <| .load 6 [18,17,16,15,14,7] <| .load 10 [18,17,16,15,14] <| .load 13 [18,17,16,15,14] <| .bA 7 (.bA 14 (.pure 15 <| .pure 16 <| .pure 17 <| .pure 18 <| .done) (.nil)) (.nil)),(10,.pure 1 <| .pure 2 <| .pure 5 <| .pure 6 <| .load 0 [9,8,4] <| .load 3 [9,8,4] <| .load 7 [9] <| .bA 4 (.pure 8 <| .pure 9 <| .done) (.nil))]
def P161:List (Nat × aG):=[]
def P194:List (Nat × aG):=[]
def P162:List (Nat × aG):=[]
def P163:List (Nat × aG):=[]
def P112:List (Nat × aG):=[(4,.pure 1 <| .pure 2 <| .pure 4 <| .pure 5 <| .pure 8 <| .pure 9 <| .load 0 [13,12,11] <| .load 3 [13,12,11,7] <| .load 6 [13,12,11,7] <| .load 10 [13,12,11] <| .bA 7 (.bA 11 (.bA 12 (.pure 13 <| .done) (.nil)) (.nil)) (.nil)),(6,.pure 1 <| .pure 2 <| .pure 4 <| .pure 5 <| .pure 8 <| .load 0 [11,10,9] <| .load 3 [11,10,9,7] <| .load 6 [11,10,9,7] <| .bA 7 (.bA 9 (.bA 10 (.pure 11 <| .done) (.nil)) (.nil)) (.nil)),(8,.pure 2 <| .pure 3 <| .pure 6 <| .load 0 [9,8,7] <| .load 1 [9,8,7,5] <| .load 4 [9,8,7,5] <| .bA 5 (.bA 7 (.bA 8 (.pure 9 <| .done) (.nil)) (.nil)) (.nil)),(10,.pure 1 <| .pure 2 <| .pure 4 <| .pure 5 <| .pure 8 <| .load 0 [11,10,9] <| .load 3 [11,10,9,7] <| .load 6 [11,10,9,7] <| .bA 7 (.bA 9 (.bA 10 (.pure 11 <| .done) (.nil)) (.nil)) (.nil))]
def P164:List (Nat × aG):=[]
def P113:List (Nat × aG):=[(11,.pure 0 <| .pure 1 <| .pure 3 <| .pure 4 <| .pure 5 <| .pure 7 <| .pure 8 <| .pure 12 <| .pure 13 <| .load 2 [15,14] <| .load 6 [15,14,11,10] <| .load 9 [15,14,11,10] <| .bA 10 (.pure 11 <| .pure 14 <| .bA 15 (.done) (.nil)) (.nil)),(13,.pure 0 <| .pure 1 <| .pure 4 <| .pure 5 <| .pure 8 <| .pure 9 <| .pure 10 <| .pure 12 <| .pure 13 <| .load 2 [15,14] <| .load 3 [15,14,11,7] <| .load 6 [15,14,11,7] <| .bA 7 (.pure 11 <| .pure 14 <| .bA 15 (.done) (.nil)) (.nil)),(15,.pure 0 <| .pure 2 <| .pure 3 <| .pure 10 <| .pure 11 <| .load 1 [16,15,14,13,8,7,6,5] <| .load 4 [16,15,14,13,8,7,6,5] <| .load 9 [16,15,14,13] <| .load 12 [16,15,14,13] <| .bA 5 (.pure 6 <| .pure 7 <| .pure 8 <| .bA 13 (.pure 14 <| .pure 15 <| .pure 16 <| .done) (.nil)) (.nil)),(24,.pure 0 <| .pure 1 <| .pure 3 <| .pure 4 <| .pure 5 <| .pure 6 <| .pure 7 <| .load 2 [9,8] <| .pure 8 <| .bA 9 (.done) (.nil)),(26,.pure 0 <| .pure 1 <| .pure 3 <| .pure 7 <| .pure 8 <| .load 2 [10,9] <| .bA 4 (.pure 5 <| .pure 6 <| .pure 9 <| .bA 10 (.done) (.nil)) (.nil))]
def P114:List (Nat × aG):=[(5,.pure 0 <| .pure 2 <| .pure 5 <| .pure 6 <| .pure 10 <| .pure 11 <| .load 1 [13,12,9,8,3] <| .load 4 [13,12,9,8] <| .load 7 [13,12,9,8] <| .bA 3 (.bA 8 (.pure 9 <| .pure 12 <| .bA 13 (.done) (.nil)) (.nil)) (.nil))]
def P115:List (Nat × aG):=[(5,.pure 2 <| .pure 3 <| .pure 7 <| .pure 8 <| .load 0 [10,9,6,1] <| .load 4 [10,9,6,5] <| .pure 5 <| .bA 1 (.pure 6 <| .pure 9 <| .bA 10 (.done) (.nil)) (.nil)),(7,.pure 2 <| .pure 3 <| .load 0 [7,6] <| .load 1 [7,6,5] <| .load 4 [7,6,5] <| .bA 5 (.bA 6 (.bA 7 (.done) (.nil)) (.nil)) (.nil))]
def P61:List (Nat × aG):=[]
def P116:List (Nat × aG):=[]
def P62:List (Nat × aG):=[]
def P27:List (Nat × aG):=[(2,.pure 0 <| .pure 2 <| .load 3 [26,25,24,23,22,21,20,19,18,17,16,15,14,13,12,11,10,9,8,7,6,5,4] <| .bA 1 (.pure 4 <| .pure 5 <| .pure 6 <| .pure 8 <| .load 9 [26,25,24,23,22,21,20,19,18,17,16,15,14,13,12,11,10] <| .bA 7 (.pure 10 <| .pure 11 <| .pure 12 <| .pure 13 <| .pure 15 <| .load 14 [26,25,24,23,22,21,20,19,18,17] <| .load 16 [26,25,24,23,22,21,20,19,18,17] <| .pure 17 <| .pure 18 <| .pure 19 <| .pure 20 <| .pure 22 <| .load 21 [26,25,24] <| .load 23 [26,25,24] <| .pure 24 <| .pure 25 <| .pure 26 <| .done) (.nil)) (.nil))]
def Xz:List (Nat × aG):=[]
def P29:List (Nat × aG):=[]
def P63:List (Nat × aG):=[]
def P7:List (Nat × aG):=[]
end Go.Proofs.YtnbngokbamifbaaGreatDoor.Pw

/- What this claim is proved with: no condition. -/
import Derived.Test.YtnbhdacpogplgaaGreatDoorPd8
import Derived.Test.YtnbhdacpogplgaaGreatDoorPd2
import Derived.Deep.Slices
import Derived.Below
import Derived.OpenShut
import Derived.LaidLaws
import Derived.ChangeArms
import Derived.MakeChecks
import Derived.Stop.Joined
import Derived.Test.YtnbhdacpogplgaaGreatDoorPd7
set_option linter.unusedVariables false
set_option linter.unusedSimpArgs false
namespace Go.Proofs.YtnbhdacpogplgaaGreatDoor.Pw
open Go Go.RowKit
section
variable {w w':World} {I I':Nat->Prop} {β aI:ax} {G:Gx} {s:aO} {a:Act} {st dc:List ak}
def ai (G:Gx) (f:FuncId) (args:List PV) (r:PV):Prop:=Spec G f args [] [] fun r' _=>r'=r
theorem kr {x:PV} {v:Value} (h:x.cr = []) (hx:x.Is w I β v):x.Is w I aI v:=PV.Is.mono (fun _ h=>h) (fun _ _=>rfl) x β aI v (fun l p hl=>by rw[h] at hl; cases hl) hx
theorem ji {xs:List PV} {vs:List Value} (h:c8 xs = []) (hx:a_ w I xs β vs):a_ w I xs aI vs:=a_.mono (fun _ h=>h) (fun _ _=>rfl) xs β aI vs (fun l p hl=>by rw[h] at hl; cases hl) hx
theorem ai.use {f:FuncId} {args aX:List PV} {r:PV} {S:List ak} {K:PV->List ak->Prop} (h:ai G f aX r) (hle:kp mT args aX) (hu:c8 aX = []) (hr:r.cr = []) (hK:K r S):Spec G f args S [] K:=by
 refine Spec.intro h.run.1 fun I β w aZ hH hM hA=>?_
 have h0:aD I (fun _=>none) ([]:List ak) w:=⟨fun _ _=>rfl,fun l b hl=>by simp at hl⟩
 refine (h.run.2 I (fun _=>none) w aZ h0 hM (ji hu (gu (fun _ _=>dK) hle hA))).mono fun e w' ⟨v,r',S',I',aI,he,uu,hi,_,ks,hE,_,_⟩=>?_
 subst uu
 have Cv:∀ g,¬ Wr (fun _=>none) ([]:List ak) g:=fun g ⟨l,b,p,o,h1,_⟩=>by simp at h1
 have hold:∀ g,g < w.heap.size->w'.heap[g]?=w.heap[g]?:=fun g hg=>hE.block g hg (Cv g)
 have DI:∀ g,g < w.heap.size->I' g->I g:=fun g hg h=>(hE.new g hg h).elim id fun h=>absurd h (Cv g)
 refine⟨v,r',S,I',β,he,hK,kr hr hi,⟨hH.jI,fun l b hl az=>?_⟩,ks,⟨hE.os,hE.tape,hE.output,hE.size,fun g hg _=>hold g hg,fun g _ h=>h,hE.aw,fun g hg h=>.inl (DI g hg h)⟩,Nat.le_refl _,fun _ _ _=>rfl⟩
 have hb:=hH.fp l b hl az
 refine hb.mono hE.aw (fun g hg=>hold g (hM.aw g hg)) (fun _ _ h=>h) fun p g o hp ha=>?_
 obtain⟨arr,ty,fr,hh,ho⟩:=hb.place hp ha
 have bG:=cw hh
 exact⟨hold g bG,fun hr=>⟨fun hI=>(ho.1 hr).2.1 (DI g bG hI),(ho.1 hr).2.2⟩⟩
theorem ai.u {P:Nat->Prop} {f:FuncId} {args aX:List PV} {r:PV} {S:List ak} {K:List Nat->PV->List ak->Prop} (h:ai G f aX r) (hK:K [] r S) (hle:kp mT args aX:=by repeat' first|exact trivial|exact rfl|exact Iff.rfl|exact Or.inl rfl|refine And.intro ?_ ?_) (hu:c8 aX = []:=by rfl) (hr:r.cr = []:=by rfl):∃ rl:List Nat,(∀ l,l∈rl->P l)/\Spec G f args S rl (K rl):=⟨[],fun _ hl=>(by cases hl),h.use hle hu hr hK⟩
theorem Spec.args {f:FuncId} {args aX:List PV} {S:List ak} {rl:List Nat} {K:PV->List ak->Prop} (h:Spec G f aX S rl K) (hle:kp mT args aX):Spec G f args S rl K :=
 Spec.intro h.run.1 fun I β w aZ hH hM hA=>h.run.2 I β w aZ hH hM (gu (fun _ _=>dK) hle hA)
theorem aj {r r0:PV} (h:mT r r0):∃ r',pJ r r'/\r'=r0:=⟨r0,dK h,rfl⟩
theorem rA {r r0:PV} (h:mT r r0:=by repeat' first|exact trivial|exact rfl|exact Iff.rfl|exact Or.inl rfl|refine And.intro ?_ ?_):∃ r',pJ r r'/\r'=r0:=aj h
theorem ay {z:Int} (h:-9223372036854775808<=z/\z<=9223372036854775807):rD .i64 z:=by unfold rD Ev.jE Ev.jb; simp only[IntKind.signed,IntKind.bits]; simpa using h
theorem ah {z:Int} (h:0<=z/\z<=4294967295):rD .u32 z:=by unfold rD Ev.jE Ev.jb; simp only[IntKind.signed,IntKind.bits]; simpa using h
theorem c_ {z:Int} (h:0<=z/\z<=18446744073709551615):rD .u64 z:=by unfold rD Ev.jE Ev.jb; simp only[IntKind.signed,IntKind.bits]; simpa using h
theorem ey {z:Int} (h:0<=z/\z<=255):rD .u8 z:=by unfold rD Ev.jE Ev.jb; simp only[IntKind.signed,IntKind.bits]; simpa using h
theorem li {z:Int} {P Q:Prop} (hP:P) (h:-9223372036854775808<=z/\z<=9223372036854775807:=by omega):(rD .i64 z/\P)\/Q:=.inl ⟨ay h,hP⟩
theorem lu {z:Int} {P Q:Prop} (hP:P) (h:0<=z/\z<=4294967295:=by omega):(rD .u32 z/\P)\/Q:=.inl ⟨ah h,hP⟩
end
open Go
noncomputable def bt:List (Nat × Nat):=[(3,Tryz.t3.bytes),(42,Tryz.t42.bytes),(30,Tryz.t30.bytes),(37,Tryz.t37.bytes),(27,Tryz.t27.bytes),(110,Tryz.t110.bytes),(108,Tryz.t108.bytes),(24,Tryz.t24.bytes),(40,Tryz.t40.bytes),(28,Tryz.t28.bytes),(70,Tryz.t70.bytes),(31,Tryz.t31.bytes),(39,Tryz.t39.bytes),(35,Tryz.t35.bytes),(61,Tryz.t61.bytes),(56,Tryz.t56.bytes),(25,Tryz.t25.bytes),(4,Tryz.t4.bytes),(34,Tryz.t34.bytes),(106,Tryz.t106.bytes),(95,Tryz.t95.bytes),(87,Tryz.t87.bytes),(22,Tryz.t22.bytes),(91,Tryz.t91.bytes),(148,Tryz.t148.bytes),(128,Tryz.t128.bytes),(63,Tryz.t63.bytes),(58,Tryz.t58.bytes),(5,Tryz.t5.bytes),(104,Tryz.t104.bytes),(59,Tryz.t59.bytes),(9,Tryz.t9.bytes),(159,Tryz.t159.bytes),(82,Tryz.t82.bytes),(138,Tryz.t138.bytes),(165,Tryz.t165.bytes),(129,Tryz.t129.bytes),(76,Tryz.t76.bytes)]
theorem R1:∀ p∈bt,∃ i,Tryz.prog.info? p.1=some i/\i.bytes=p.2 :=
 Ev.all_cons ⟨Tryz.t3,by kernel_rfl,rfl⟩ <|
 Ev.all_cons ⟨Tryz.t42,by kernel_rfl,rfl⟩ <|
 Ev.all_cons ⟨Tryz.t30,by kernel_rfl,rfl⟩ <|
 Ev.all_cons ⟨Tryz.t37,by kernel_rfl,rfl⟩ <|
 Ev.all_cons ⟨Tryz.t27,by kernel_rfl,rfl⟩ <|
 Ev.all_cons ⟨Tryz.t110,by kernel_rfl,rfl⟩ <|
 Ev.all_cons ⟨Tryz.t108,by kernel_rfl,rfl⟩ <|
 Ev.all_cons ⟨Tryz.t24,by kernel_rfl,rfl⟩ <|
 Ev.all_cons ⟨Tryz.t40,by kernel_rfl,rfl⟩ <|
 Ev.all_cons ⟨Tryz.t28,by kernel_rfl,rfl⟩ <|
 Ev.all_cons ⟨Tryz.t70,by kernel_rfl,rfl⟩ <|
 Ev.all_cons ⟨Tryz.t31,by kernel_rfl,rfl⟩ <|
 Ev.all_cons ⟨Tryz.t39,by kernel_rfl,rfl⟩ <|
 Ev.all_cons ⟨Tryz.t35,by kernel_rfl,rfl⟩ <|
 Ev.all_cons ⟨Tryz.t61,by kernel_rfl,rfl⟩ <|
 Ev.all_cons ⟨Tryz.t56,by kernel_rfl,rfl⟩ <|
 Ev.all_cons ⟨Tryz.t25,by kernel_rfl,rfl⟩ <|
 Ev.all_cons ⟨Tryz.t4,by kernel_rfl,rfl⟩ <|
 Ev.all_cons ⟨Tryz.t34,by kernel_rfl,rfl⟩ <|
 Ev.all_cons ⟨Tryz.t106,by kernel_rfl,rfl⟩ <|
 Ev.all_cons ⟨Tryz.t95,by kernel_rfl,rfl⟩ <|
 Ev.all_cons ⟨Tryz.t87,by kernel_rfl,rfl⟩ <|
 Ev.all_cons ⟨Tryz.t22,by kernel_rfl,rfl⟩ <|
 Ev.all_cons ⟨Tryz.t91,by kernel_rfl,rfl⟩ <|
 Ev.all_cons ⟨Tryz.t148,by kernel_rfl,rfl⟩ <|
 Ev.all_cons ⟨Tryz.t128,by kernel_rfl,rfl⟩ <|
 Ev.all_cons ⟨Tryz.t63,by kernel_rfl,rfl⟩ <|
 Ev.all_cons ⟨Tryz.t58,by kernel_rfl,rfl⟩ <|
 Ev.all_cons ⟨Tryz.t5,by kernel_rfl,rfl⟩ <|
 Ev.all_cons ⟨Tryz.t104,by kernel_rfl,rfl⟩ <|
 Ev.all_cons ⟨Tryz.t59,by kernel_rfl,rfl⟩ <|
 Ev.all_cons ⟨Tryz.t9,by kernel_rfl,rfl⟩ <|
 Ev.all_cons ⟨Tryz.t159,by kernel_rfl,rfl⟩ <|
 Ev.all_cons ⟨Tryz.t82,by kernel_rfl,rfl⟩ <|
 Ev.all_cons ⟨Tryz.t138,by kernel_rfl,rfl⟩ <|
 Ev.all_cons ⟨Tryz.t165,by kernel_rfl,rfl⟩ <|
 Ev.all_cons ⟨Tryz.t129,by kernel_rfl,rfl⟩ <|
 Ev.all_cons ⟨Tryz.t76,by kernel_rfl,rfl⟩ <| Ev.all_nil
noncomputable def R2 (k8:List (Nat × List PV)):Gx:={ cx:=Ev.Rr [] [],k8:=k8,bt:=bt }
theorem R3 (k8:List (Nat × List PV)):oS (R2 k8):=⟨Ev.V0 [] [],R1⟩
def Lc:List PV:=[.lit .u32 1,.lit .u32 65537,.lit .u32 16777472,.lit .u32 16843009]
def ZB:List PV:=[0,1,1,1,2,2,3,3,4,4,4,4,5,5,5,5,5,5,5,5,5,5,5,5,5,5,5,5,6,6,6,7,8,2,2,9,9,8,8,8,10,10,11,12,13,14,15,16,17,17,18,18,18,18,18,18,18,18,18,18,19,19,20,20,20,20,21,21,21,21,21,21,21,21,21,21,22,22,23,23,23,23,24,24,25,25,26,26,27,27,27,27,28,29,30,31,31,28,32,33,34].map (.lit .i64)
def pT (a b c d e:Bool) (m n:Int):List PV:=[bif a then .tt else .ff,bif b then .tt else .ff,bif c then .tt else .ff,bif d then .tt else .ff,bif e then .tt else .ff,.lit .i64 m,.lit .i64 n]
def DJ:List PV:=pT false false false false false 0 0++pT false false false false true 0 0++pT false false false false false 0 2147483647++pT true false false false false 2 2++pT true true true false false 1 1++pT true false false true false 1 1++pT true true false false false 0 0
noncomputable def gT:Gx:={ R2 [(2,Lc),(1,ZB),(0,DJ)] with ext:=[114] }
theorem al:oS gT:=⟨(R3 []).ok,(R3 []).bm⟩
section
variable {w w':World} {I I':Nat->Prop} {β aI:ax} {G:Gx} {s:aO} {a:Act} {st dc:List ak}
theorem aD.DK (hH:aD I β [] w) (w':World) (I':Nat->Prop):aD I' β [] w':=⟨hH.jI,fun l b hl=>by simp at hl⟩
theorem cL.below (hM:cL G I w) (hB:Below w.heap.size w w'):cL G I w' :=
 ⟨fun g hg=>Nat.lt_of_lt_of_le (hM.aw g hg) hB.size,fun g cs h=>⟨(hM.pd g cs h).1,cd.mono (fun _ h=>h) (fun g hg=>hB.block g (hM.aw g hg)) _ _ _ (hB.block g (hM.aw g (hM.pd g cs h).1)) (hM.pd g cs h).2⟩,fun g cs h=>by
  obtain⟨arr,ty,fr,h1,h2⟩:=hM.row g cs h
  exact⟨arr,ty,fr,(hB.block g (hM.aw g (hM.pd g cs h).1)).trans h1,h2⟩⟩
theorem ai.vj {f:FuncId} {args:List PV} {r:PV} (he:Ev.ij G.cx.P f) (vs:List Value) (v:Value) (ha:∀ w I β aZ,a_ w I args β aZ->aZ=vs) (hr:∀ w I β,r.Is w I β v)
  (h:∀ w,Calls G.cx.P f vs.toArray w fun e w'=>e = .returned v/\Below w.heap.size w w'):ai G f args r:=by
 refine Spec.intro he fun I β w aZ hH hM hA=>?_
 rw[ha _ _ _ _ hA]
 refine (h w).mono fun e w' ⟨he,hB⟩=>⟨v,r,[],I,β,he,rfl,hr _ _ _,hH.DK _ _,hM.below hB,⟨hB.os,hB.tape,hB.output,hB.size,fun g hg _=>hB.block g hg,fun g _ h=>h,fun _ h=>h,fun _ _ h=>.inl h⟩,Nat.le_refl _,fun _ _ _=>rfl⟩
theorem ai.of_same {f:FuncId} {args:List PV} {r:PV} (he:Ev.ij G.cx.P f) (vs:List Value) (v:Value) (ha:∀ w I β aZ,a_ w I args β aZ->aZ=vs) (hr:∀ w I β,r.Is w I β v)
  (h:∀ w,Calls G.cx.P f vs.toArray w fun e w'=>e = .returned v/\w'=w):ai G f args r :=
 ai.vj he vs v ha hr fun w=>(h w).mono fun e w' ⟨h1,h2⟩=>⟨h1,h2 ▸ Below.refl _ _⟩
theorem ai.calls {f:FuncId} {args:List PV} {r:PV} {aZ:List Value} (h:ai G f args r) (hM:cL G I w) (hA:a_ w I args (fun _=>none) aZ) (v:Value) (hr:∀ w' I' aI v',r.Is w' I' aI v'->v'=v) :
  Calls G.cx.P f aZ.toArray w fun e w'=>e = .returned v/\Below w.heap.size w w':=by
 have h0:aD I (fun _=>none) ([]:List ak) w:=⟨fun _ _=>rfl,fun l b hl=>by simp at hl⟩
 refine (h.run.2 I (fun _=>none) w aZ h0 hM hA).mono fun e w' ⟨v',r',S',I',aI,he,uu,hi,_,ks,hE,_,_⟩=>?_
 subst uu
 rw[hr _ _ _ _ hi] at he
 exact⟨he,hE.os,hE.tape,hE.output,hE.size,fun g hg=>hE.block g hg fun ⟨l,b,p,o,h1,_⟩=>by simp at h1⟩
theorem Hp (w':World) (I':Nat->Prop) (aI:ax) (v':Value) (h:PV.tt.Is w' I' aI v'):v' = .bool true:=by simpa [PV.Is] using h
end
def In (w:World) (g:Nat):Prop:=g < w.heap.size
abbrev no:ax:=fun _=>none
def Op (P:Program) (t:TypeId) (S:PV->Prop):Prop:=∀ {H:Type} (e:TypeId × Value->H) (w:World) (base:Nat) (held:Bool) (fuel:Nat) (cs:List Value) (x:DataW H × List MemPlace),
 DataW.trod e P w base (fun _=>true) held fuel t cs=some x->(∀ n∈x.1.weights P t,n<=reachBytes)->∃ y,S y/\(∀ vs,y≠.tup vs)/\a_ w (In w) y.cells no cs/\cs.length=P.cellsOf t/\∀ c∈cs,c.oneCell'=true
def SInt (k:IntKind) (x:PV):Prop:=∃ z,rD k z/\x = .int k z
def QX (n b:Nat) (S:PV->Prop) (x:PV):Prop:=∃ es:List PV,(es.length<=maxLen/\es.length*b<=reachBytes)/\(∀ e∈es,S e)/\x = .sl n es
def pU:List (PV->Prop)->List PV->Prop
 | [],[]=>True
 | S::Ss,x::xs=>S x/\pU Ss xs
 | _,_=>False
def AJ (Ss:List (PV->Prop)) (x:PV):Prop:=∃ xs,pU Ss xs/\x = .agg (xs.flatMap PV.cells)
theorem bC {S:PV->Prop} {Ss:List (PV->Prop)} {xs:List PV} (h:pU (S::Ss) xs):∃ x r,xs=x::r/\S x/\pU Ss r:=by
 cases xs with
 | nil=>exact h.elim
 | cons x r=>exact⟨x,r,rfl,h⟩
theorem pV {xs:List PV} (h:pU [] xs):xs = []:=by
 cases xs with
 | nil=>rfl
 | cons x r=>exact h.elim
section
variable {P:Program} {t e:TypeId}
theorem Ld {k:IntKind} {z:Int} (h:(Lit.int k z).wf=true):rD k z:=by
 unfold rD
 cases k<;>simp_all [Lit.wf,Ev.jE,Ev.jb,IntKind.min,IntKind.max,IntKind.signed,IntKind.bits]<;>omega
theorem DL {k:IntKind} (ht:P.underlying t=some (.int k)) (hc:P.cellsOf t=1):Op P t (SInt k):=fun e w base held fuel cs x h rQ=>by
 obtain⟨n,rfl,_,hw⟩:=DataW.trod_int ht h
 exact⟨.int k n,⟨n,Ld hw,rfl⟩,nofun,a_.one (by simp only[PV.Is]),by rw[hc]; rfl,fun c hc=>by simp only[List.mem_singleton] at hc; subst hc; rfl⟩
theorem jW {α:Type _} {p:Nat->α->Prop}:∀ n:Nat,(∀ i,i < n->∃ y,p i y)->∃ l:List α,l.length=n/\∀ i y,l[i]?=some y->p i y
 | 0,_=>⟨[],rfl,fun i y h=>by simp at h⟩
 | n+1,h=>by
  obtain⟨l,hl,hp⟩:=jW (p:=p) n fun i hi=>h i (by omega)
  obtain⟨y,hy⟩:=h n (by omega)
  refine⟨l++[y],by simp[hl],fun i z hz=>?_⟩
  rw[List.getElem?_append] at hz
  split at hz
  ·exact hp i z hz
  ·rename_i RJ
   have h0:i - l.length=0:=by
    have:=(List.getElem?_eq_some_iff.1 hz).1
    simp at this; omega
   rw[h0] at hz
   simp only[List.getElem?_cons_zero,Option.some.injEq] at hz
   subst hz
   have:i=n:=by omega
   subst this; exact hy
theorem jX {H:Type} {n:Nat}:∀ {l:List (DataW H)} {d:DataW H},d∈l->n∈d.weights P e->n∈DataW.weightsAll P e l
 | [],_,h,_=>by cases h
 | a::l,d,h,hn=>by
  simp only[DataW.weightsAll,List.mem_append]
  rcases List.mem_cons.1 h with rfl|h
  ·exact .inl hn
  ·exact .inr (jX h hn)
theorem fV {H:Type} {n:Nat}:∀ {ts:List TypeId} {l:List (DataW H)} {i:Nat} {t:TypeId} {d:DataW H},ts[i]?=some t->l[i]?=some d->n∈d.weights P t->n∈DataW.weightsEach P ts l
 | [],_,_,_,_,h,_,_=>by simp at h
 | _::_,[],_,_,_,_,h,_=>by simp at h
 | u::ts,a::l,0,t,d,h,h',hn=>by
  simp only[List.getElem?_cons_zero,Option.some.injEq] at h h'
  subst h; subst h'
  simp only[DataW.weightsEach,List.mem_append]
  exact .inl hn
 | u::ts,a::l,i+1,t,d,h,h',hn=>by
  simp only[DataW.weightsEach,List.mem_append]
  exact .inr (fV (by simpa using h) (by simpa using h') hn)
theorem tx {S:PV->Prop} (he:Op P e S) (n b:Nat) (W3:P.bytesOf e=b) (ht:P.underlying t=some (.slice e)) (hn:P.cellsOf e=n) (h0:0 < n) (hc:P.cellsOf t=1):Op P t (QX n b S):=fun {H} ec w base held fuel cs x h rQ=>by
 subst hn
 subst W3
 rcases Deep.open_slice ht h with ⟨rfl,_⟩|⟨a,len,cap,m,k,D,Pl,rfl,hb,hl,hm,oD,rfl,hx⟩
 ·exact⟨.sl _ [],⟨[],⟨by simp,by simp⟩,fun _ h=>by simp at h,rfl⟩,nofun,a_.one (by simp only[PV.Is]; exact⟨none,0,rfl,Nat.le_refl _,by simp,fun _ _ h=>by simp at h,fun h=>absurd rfl h⟩),by rw[hc]; rfl,fun c hc=>by simp only[List.mem_singleton] at hc; subst hc; rfl⟩
 ·simp only[if_true] at oD
  subst oD
  have W4:len*P.bytesOf e<=reachBytes:=by
   have:=rQ ((len+(m - len))*P.bytesOf e) (by simp only[DataW.weights,ht,List.length_map,List.length_range]; exact List.mem_cons_self)
   exact Nat.le_trans (Nat.mul_le_mul_right _ (Nat.le_add_right _ _)) this
  have R4:∀ i,i < len->∀ n∈(D i).weights P e,n<=reachBytes:=fun i hi n hn=>rQ n (by
   simp only[DataW.weights,ht]
   exact List.mem_cons_of_mem _ (List.mem_append.2 (.inl (jX (List.mem_map.2 ⟨i,List.mem_range.2 hi,rfl⟩) hn))))
  have R0:0 < len->a.spot=none:=fun hp=>by
   obtain⟨rR,h1,h2⟩:=hx 0 (by omega)
   obtain⟨y,_,_,hy,hlen,_⟩:=he ec w base held k rR _ h2 (R4 0 hp)
   obtain⟨_,_,gl⟩:=World.cells?_some h1
   have pk:=gl 0 h0
   rw[List.getElem?_eq_getElem (by omega),Nat.zero_mul] at pk
   exact World.cell?_spot pk
  have each:∀ i,i < len->∃ y,S y/\a.spot=none/\a.block < w.heap.size/\As w (In w) (P.cellsOf e) y a.block (a.off+i*P.cellsOf e):=fun i hi=>by
   obtain⟨rR,h1,h2⟩:=hx i (by omega)
   obtain⟨y,hS,_,hy,hlen,W5⟩:=he ec w base held k rR _ h2 (R4 i hi)
   obtain⟨_,_,gl⟩:=World.cells?_some h1
   have pk:=gl 0 h0
   rw[List.getElem?_eq_getElem (by omega)] at pk
   have hs:a.spot=none:=R0 (by omega)
   obtain⟨b,off,sp⟩:=a
   dsimp only at hs
   subst hs
   have ea:∀ b off k,(⟨b,off,none⟩:Addr).add k=⟨b,off+k,none⟩:=fun b off k=>by unfold Addr.add; split<;>simp_all
   refine⟨y,hS,rfl,?_,?_,cd.of fun j c hj=>?_⟩
   ·have:=World.block_lt_of_cell? w _ pk
    rw[ea,ea] at this; exact this
   ·rw[hy.length,hlen]
   ·obtain⟨v,hv,DF⟩:=hy.get hj
    have uN:j < P.cellsOf e:=by rw[← hlen]; exact (List.getElem?_eq_some_iff.1 hv).1
    have:=gl j uN
    rw[ea,ea,hv] at this
    exact⟨v,by simpa only [Nat.add_assoc] using this,DF,W5 v (List.mem_of_getElem? hv)⟩
  obtain⟨es,kN,hp⟩:=jW len each
  refine⟨.sl _ es,⟨es,⟨by omega,by rw[kN]; exact W4⟩,fun y hy=>?_,rfl⟩,nofun,a_.one ?_,by rw[hc]; rfl,fun c hc=>by simp only[List.mem_singleton] at hc; subst hc; rfl⟩
  ·obtain⟨i,hi⟩:=List.getElem?_of_mem hy
   exact (hp i y hi).1
  ·simp only[PV.Is]
   refine⟨some a,m,by rw[kN],by omega,by omega,fun g o JT=>?_,fun bZ=>?_⟩
   ·cases JT
    exact bE.of fun i y hy=>(hp i y hy).2.2.2
   ·have h1:0 < es.length:=by omega
    obtain⟨_,h2,h3,_⟩:=hp 0 es[0] (List.getElem?_eq_getElem h1)
    obtain⟨b,off,sp⟩:=a
    dsimp only at h2
    subst h2
    exact⟨b,off,rfl,h3,h0⟩
def Hq (P:Program) (total:Nat):Nat->List Field->List (PV->Prop)->Prop
 | off,[],[]=>off=total
 | off,f::fs,S::Ss=>f.offset=off/\Op P f.type S/\Hq P total (off+P.cellsOf f.type) fs Ss
 | _,_,_=>False
theorem R5 {fs:Array Field} {Ss:List (PV->Prop)} (ht:P.underlying t=some (.struct fs)) (hf:Hq P (P.cellsOf t) 0 fs.toList Ss):Op P t (AJ Ss):=fun {H} ec w base held fuel cs x h rQ=>by
 obtain⟨xs,n,_,rfl,hl,px,hx⟩:=DataW.trod_struct ht h
 have key:∀ (l:List Field) (Ss:List (PV->Prop)) (off:Nat),Hq P (P.cellsOf t) off l Ss->(∀ f∈l,∃ y,DataW.trod ec P w base (fun _=>true) held n f.type ((cs.drop f.offset).take (P.cellsOf f.type))=some y/\∀ n∈y.1.weights P f.type,n<=reachBytes)->off<=cs.length ->
   ∃ ys,pU Ss ys/\a_ w (In w) (ys.flatMap PV.cells) no (cs.drop off)/\∀ c∈cs.drop off,c.oneCell'=true:=by
  intro l
  induction l with
  | nil =>
   intro Ss off h _ _
   cases Ss with
   | nil =>
    simp only[Hq] at h
    refine⟨[],trivial,?_,?_⟩
    ·rw[List.drop_eq_nil_of_le (by omega)]; simp only[List.flatMap_nil,a_]
    ·rw[List.drop_eq_nil_of_le (by omega)]; intro c hc; cases hc
   | cons=>exact h.elim
  | cons f l ih =>
   intro Ss off h ht hle
   cases Ss with
   | nil=>exact h.elim
   | cons S Ss =>
    obtain⟨h1,h2,h3⟩:=h
    subst h1
    obtain⟨z,hz,W6⟩:=ht f (List.mem_cons_self ..)
    obtain⟨y,hS,_,hy,Gs,JL⟩:=h2 ec w base held n _ z hz W6
    have lp:f.offset+P.cellsOf f.type<=cs.length:=by
     rw[List.length_take,List.length_drop] at Gs; omega
    obtain⟨ys,W7,W8,W9⟩:=ih Ss _ h3 (fun g hg=>ht g (List.mem_cons_of_mem _ hg)) lp
    have hd:cs.drop f.offset=(cs.drop f.offset).take (P.cellsOf f.type)++cs.drop (f.offset+P.cellsOf f.type):=by
     rw[← List.drop_drop,List.take_append_drop]
    refine⟨y::ys,⟨hS,W7⟩,?_,?_⟩
    ·rw[hd,List.flatMap_cons]; exact hy.append W8
    ·intro c hc
     rw[hd,List.mem_append] at hc
     exact hc.elim (JL c) (W9 c)
 obtain⟨ys,h1,h2,h3⟩:=key fs.toList Ss 0 hf (fun f hf=>by
  obtain⟨i,hi⟩:=List.getElem?_of_mem hf
  have DF:i < fs.size:=by simpa using (List.getElem?_eq_some_iff.1 hi).1
  have:=hx i f (by simpa using hi)
  rw[this]
  have bG:i < xs.length:=by omega
  refine⟨_,List.getElem?_eq_getElem bG,fun n hn=>rQ n ?_⟩
  simp only[DataW.weights,ht]
  exact fV (i:=i) (by rw[List.getElem?_map,hi]; rfl) (by rw[List.getElem?_map,List.getElem?_eq_getElem bG]; rfl) hn) (Nat.zero_le _)
 rw[List.drop_zero] at h2 h3
 exact⟨.agg (ys.flatMap PV.cells),⟨ys,h1,rfl⟩,nofun,h2,hl,h3⟩
theorem Op.vk {S S':PV->Prop} (h:Op P t S) (hS:∀ x,S x->S' x):Op P t S':=fun e w base held fuel cs x hx rQ=>by
 obtain⟨y,h1,h2⟩:=h e w base held fuel cs x hx rQ
 exact⟨y,hS y h1,h2⟩
theorem decode {α:Type} {S:PV->Prop} {enc:α->PV} {ok:α->Prop} (h:∀ x,S x->∃ z,ok z/\x=enc z):∀ (es:List PV),(∀ e∈es,S e)->∃ l:List α,(∀ z∈l,ok z)/\es=l.map enc
 | [],_=>⟨[],fun _ h=>by simp at h,rfl⟩
 | e::es,hS=>by
  obtain⟨z,hz,rfl⟩:=h e (hS e (List.mem_cons_self ..))
  obtain⟨l,hl,rfl⟩:=decode h es fun e he=>hS e (List.mem_cons_of_mem _ he)
  refine⟨z::l,fun y hy=>?_,rfl⟩
  rcases List.mem_cons.1 hy with rfl|hy
  ·exact hz
  ·exact hl y hy
def mh {α:Type} (n b:Nat) (enc:α->PV) (ok:α->Prop) (x:PV):Prop:=∃ l:List α,(l.length<=maxLen/\l.length*b<=reachBytes)/\(∀ z∈l,ok z)/\x = .sl n (l.map enc)
theorem xT {α:Type} {S:PV->Prop} {n b:Nat} {enc:α->PV} {ok:α->Prop} (h:Op P t (QX n b S)) (hd:∀ x,S x->∃ z,ok z/\x=enc z):Op P t (mh n b enc ok):=h.vk fun x ⟨es,h1,h2,h3⟩=>by
 obtain⟨l,hl,rfl⟩:=decode hd es h2
 exact⟨l,by simpa using h1,hl,h3⟩
theorem tz {H:Type} {ts:List TypeId} {l:List (DataW H)} (h:(DataW.weightsEach P ts l).all (·<=reachBytes)=true) {i:Nat} {d:DataW H} (ht:ts[i]?=some t) (hd:l[i]?=some d):∀ n∈d.weights P t,n<=reachBytes:=fun n hn=>by
 have:=List.all_eq_true.1 h n (fV ht hd hn)
 simpa using this
theorem Op.Le {S:PV->Prop} (h:Op P t S) (h1:∀ y,S y->y.cells = [y]) {H:Type} {ec:TypeId × Value->H} {w:World} {base:Nat} {held:Bool} {v:Value} {d:DataW H} {p:List MemPlace} (hv:v.cells = #[v]) (ht:DataW.Trod ec P w base (fun _=>true) held t v d p) (rQ:∀ n∈d.weights P t,n<=reachBytes) :
  ∃ y,S y/\y.Is w (In w) no v:=by
 obtain⟨fuel,ht⟩:=ht
 obtain⟨y,hS,_,hy,_⟩:=h ec w base held fuel _ _ ht rQ
 refine⟨y,hS,?_⟩
 rw[h1 y hS,hv] at hy
 simp only[a_,and_true] at hy
 exact hy
theorem Op.argA {Ss:List (PV->Prop)} (h:Op P t (AJ Ss)) {H:Type} {ec:TypeId × Value->H} {w:World} {base:Nat} {held:Bool} {vs:Array Value} {d:DataW H} {p:List MemPlace} (ht:DataW.Trod ec P w base (fun _=>true) held t (.agg vs) d p) (rQ:∀ n∈d.weights P t,n<=reachBytes) :
  ∃ y,AJ Ss y/\y.Is w (In w) no (.agg vs):=by
 obtain⟨fuel,ht⟩:=ht
 obtain⟨y,hS,_,hy,_⟩:=h ec w base held fuel _ _ ht rQ
 refine⟨y,hS,?_⟩
 obtain⟨xs,_,rfl⟩:=hS
 simp only[PV.Is]
 exact⟨vs,rfl,hy⟩
theorem QX.cell {n b:Nat} {S:PV->Prop} (y:PV):QX n b S y->y.cells = [y]:=fun ⟨_,_,_,h⟩=>by subst h; rfl
theorem mh.cell {α:Type} {n b:Nat} {enc:α->PV} {ok:α->Prop} (y:PV):mh n b enc ok y->y.cells = [y]:=fun ⟨_,_,_,h⟩=>by subst h; rfl
theorem SInt.cell {k:IntKind} (y:PV):SInt k y->y.cells = [y]:=fun ⟨_,_,h⟩=>by subst h; rfl
end
def nZ (P:Program) (total:Nat) (r:TypeId->DataW Unit->Option (List PV)):Nat->List (Nat × TypeId)->List (DataW Unit)->Option (List PV)
 | off,[],[]=>if off=total then some [] else none
 | off,(o,t)::ps,d::ds=>if o=off then (match r t d,nZ P total r (off+P.cellsOf t) ps ds with
   | some xs,some ys=>some (xs++ys)
   | _,_=>none) else none
 | _,_,_=>none
def vl (P:Program):Nat->TypeId->DataW Unit->Option (List PV)
 | 0,_,_=>none
 | f+1,t,d=>match P.underlying t,d with
  | some (.int k),.lit (.int l n)=>if k=l then some [.lit k n] else none
  | some .bool,.lit (.bool b)=>some [if b then .tt else .ff]
  | some (.struct fs),.agg ds=>nZ P (P.cellsOf t) (vl P f) 0 (fs.toList.map fun f=>(f.offset,f.type)) ds
  | some (.array n e),.agg ds=>nZ P (P.cellsOf t) (vl P f) 0 ((List.range n).map fun i=>(i*P.cellsOf e,e)) ds
  | _,_=>none
section
variable {P:Program} {w:World} {I:Nat->Prop}
theorem zn {base:Nat} {sp:Nat->Bool} {held:Bool} {enc:TypeId × Value->Unit}:∀ (f:Nat) (t:TypeId) (d:DataW Unit) (xs:List PV) (fuel:Nat) (cs:List Value) (p:List MemPlace),vl P f t d=some xs->DataW.trod enc P w base sp held fuel t cs=some (d,p)->a_ w I xs no cs/\∀ c∈cs,c.oneCell'=true
 | 0,_,_,_,_,_,_,h,_=>by simp[vl] at h
 | f+1,t,d,xs,fuel,cs,p,h,ht=>by
  have key:∀ (n:Nat) (ps:List (Nat × TypeId)) (ds:List (DataW Unit)) (off:Nat) (xs:List PV),nZ P (P.cellsOf t) (vl P f) off ps ds=some xs->cs.length=P.cellsOf t ->
    (∀ (i:Nat) (o:Nat) (u:TypeId),ps[i]?=some (o,u)->∃ d p,ds[i]?=some d/\DataW.trod enc P w base sp held n u ((cs.drop o).take (P.cellsOf u))=some (d,p))->a_ w I xs no (cs.drop off)/\∀ c∈cs.drop off,c.oneCell'=true:=by
   intro n ps
   induction ps with
   | nil =>
    intro ds off xs h hl _
    cases ds with
    | cons=>simp[nZ] at h
    | nil =>
     simp only[nZ] at h
     split at h
     ·cases h
      rw[List.drop_eq_nil_of_le (by omega)]
      exact⟨by simp only[a_],fun c hc=>by cases hc⟩
     ·cases h
   | cons q ps ih =>
    obtain⟨o,u⟩:=q
    intro ds off xs h hl ha
    cases ds with
    | nil=>simp[nZ] at h
    | cons d ds =>
     simp only[nZ] at h
     split at h
     ·rename_i ho
      subst ho
      split at h
      ·rename_i xs1 ys h1 h2
       cases h
       obtain⟨d',p',hd,ht⟩:=ha 0 o u rfl
       simp only[List.getElem?_cons_zero,Option.some.injEq] at hd
       subst hd
       have i1:=zn f u _ _ n _ _ h1 ht
       have i2:=ih ds _ _ h2 hl fun i o' u' hi=>by
        obtain⟨d',p',hd,ht⟩:=ha (i+1) o' u' (by simpa using hi)
        exact⟨d',p',by simpa using hd,ht⟩
       have hd:cs.drop o=(cs.drop o).take (P.cellsOf u)++cs.drop (o+P.cellsOf u):=by
        rw[← List.drop_drop,List.take_append_drop]
       rw[hd]
       refine⟨i1.1.append i2.1,fun c hc=>?_⟩
       rw[List.mem_append] at hc
       exact hc.elim (i1.2 c) (i2.2 c)
      ·cases h
     ·cases h
  unfold vl at h
  split at h
  ·rename_i hu
   obtain⟨z,rfl,hz,_⟩:=DataW.trod_int hu ht
   simp only[Prod.mk.injEq,DataW.lit.injEq,Lit.int.injEq] at hz
   obtain⟨⟨rfl,rfl⟩,_⟩:=hz
   simp only[if_true,Option.some.injEq] at h
   subst h
   exact⟨a_.one (by simp only[PV.Is]),fun c hc=>by simp only[List.mem_singleton] at hc; subst hc; rfl⟩
  ·rename_i hu
   obtain⟨b,rfl,hz⟩:=DataW.trod_bool hu ht
   simp only[Prod.mk.injEq,DataW.lit.injEq,Lit.bool.injEq] at hz
   obtain⟨rfl,_⟩:=hz
   simp only[Option.some.injEq] at h
   subst h
   refine⟨a_.one ?_,fun c hc=>by simp only[List.mem_singleton] at hc; subst hc; rfl⟩
   split<;>simp only[PV.Is]<;>simp_all
  ·rename_i hu
   obtain⟨ys,n,_,hz,hl,Gs,hy⟩:=DataW.trod_struct hu ht
   simp only[Prod.mk.injEq,DataW.agg.injEq] at hz
   obtain⟨rfl,_⟩:=hz
   have:=key n _ _ 0 xs h hl fun i o u hi=>by
    simp only[List.getElem?_map,Option.map_eq_some_iff,Prod.mk.injEq] at hi
    obtain⟨f',hf,rfl,rfl⟩:=hi
    have hy:=hy i f' (by simpa using hf)
    have bG:i < ys.length:=by rw[Gs]; simpa using (List.getElem?_eq_some_iff.1 hf).1
    exact⟨ys[i].1,ys[i].2,by simp[bG],by rw[hy]; simp[bG]⟩
   simpa using this
  ·rename_i hu
   obtain⟨ys,n,_,hz,hl,Gs,hy⟩:=DataW.trod_array hu ht
   simp only[Prod.mk.injEq,DataW.agg.injEq] at hz
   obtain⟨rfl,_⟩:=hz
   have:=key n _ _ 0 xs h hl fun i o u hi=>by
    simp only[List.getElem?_map,Option.map_eq_some_iff,Prod.mk.injEq] at hi
    obtain⟨j,hj,rfl,rfl⟩:=hi
    obtain⟨Gy,rfl⟩:=List.getElem?_eq_some_iff.1 hj
    simp only[List.length_range] at Gy
    rw[List.getElem_range]
    have hy:=hy i Gy
    have bG:i < ys.length:=by omega
    exact⟨ys[i].1,ys[i].2,by simp[bG],by rw[hy]; simp[bG]⟩
   simpa using this
  ·cases h
theorem zo {laid:List (String × DataW Unit)}:∀ {l:List (String × DataW Unit)} {ps:List MemPlace},DataW.LaidVars P w l ps->∀ {name:String} {d:DataW Unit},(name,d)∈l->∀ {g:Nat} {t:TypeId} {xs:List PV} (f:Nat),P.globalNamed name=some g->(P.globals[g]?).map (·.type)=some t->vl P f t d=some xs->xs≠[]->(g < w.heap.size/\cd w I xs g 0)/\∃ arr ty fr,w.heap[g]?=some (.cells arr ty fr)/\arr.size=xs.length
 | [],_,_,_,_,hm,_,_,_,_,_,_,_,_=>by cases hm
 | (n,d)::r,ps,h,name,d',hm,g,t,xs,f,hg,ht,hx,bZ=>by
  obtain⟨g',t',cs,fuel,p,q,AD,y_,AK,hd,hr,_⟩:=h
  rcases List.mem_cons.1 hm with he|hm
  ·cases he
   obtain rfl:=Option.some.inj (hg.symm.trans AD)
   obtain rfl:=Option.some.inj (ht.symm.trans y_)
   obtain⟨h1,h2⟩:=zn (I:=I) f t _ _ fuel _ _ hx hd
   have AL:cd w I xs g 0:=cd.of fun i c hc=>by
    obtain⟨v,hv,hi⟩:=h1.get hc
    exact⟨v,by rw[Nat.zero_add,World.var?_cell hg AK]; simpa using hv,hi,h2 v (List.mem_of_getElem? hv)⟩
   refine⟨⟨?_,AL⟩,?_⟩
   rotate_left 1
   ·have hl:=h1.length
    unfold World.var? at AK
    rw[hg,Option.bind_some] at AK
    split at AK
    ·rename_i arr ty fr hh
     cases AK
     exact⟨_,ty,fr,hh,by simpa using hl.symm⟩
    ·cases AK
   cases xs with
   | nil=>exact absurd rfl bZ
   | cons c xs =>
    obtain⟨v,hv,_⟩:=AL.get (i:=0) rfl
    exact World.block_lt_of_cell? w _ hv
  ·exact zo (laid:=laid) hr hm f hg ht hx bZ
theorem xU {G:Gx} {laid:List (String × DataW Unit)} (ow:(laid.all fun x=>x.2.handleName?.isNone)=true) (h:laidMetH P laid w)
  (cZ:∀ x∈G.k8,∃ name d t,(name,d)∈laid/\P.globalNamed name=some x.1/\(P.globals[x.1]?).map (·.type)=some t/\vl P 8 t d=some x.2/\x.2≠[]):cL G (In w) w:=by
 rw[MakeChecks.laidMetH_plain _ _ _ ow] at h
 obtain⟨ps,h,_⟩:=h
 have key:∀ (g:Nat) (cs:List PV),(g,cs)∈G.k8->(g < w.heap.size/\cd w (In w) cs g 0)/\∃ arr ty fr,w.heap[g]?=some (.cells arr ty fr)/\arr.size=cs.length:=fun g cs hg=>by
  obtain⟨name,d,t,h1,h2,h3,h4,h5⟩:=cZ _ hg
  exact zo (I:=In w) (laid:=laid) h h1 8 h2 h3 h4 h5
 exact⟨fun g hg=>hg,fun g cs hg=>(key g cs hg).1,fun g cs hg=>(key g cs hg).2⟩
end
section
variable {w w':World} {I I':Nat->Prop} {β aI:ax} {G:Gx} {s:aO} {a:Act} {st dc:List ak}
def R6 (I:Nat->Prop) (w w':World) (g:Nat):Prop:=I g\/(w.heap.size<=g/\g < w'.heap.size)
theorem ai.W_ {f:FuncId} {args:List PV} {r:PV} (he:Ev.ij G.cx.P f)
  (h:∀ I β w aZ,cL G I w->a_ w I args β aZ->Calls G.cx.P f aZ.toArray w fun e w'=>∃ v,e = .returned v/\Below w.heap.size w w'/\r.Is w' (R6 I w w') no v) (hu:r.cr = []):ai G f args r:=by
 refine Spec.intro he fun I β w aZ hH hM hA=>?_
 refine (h I β w aZ hM hA).mono fun e w' ⟨v,he,hB,hr⟩=>⟨v,r,[],R6 I w w',β,he,rfl,kr hu hr,hH.DK _ _,?_,⟨hB.os,hB.tape,hB.output,hB.size,fun g hg _=>hB.block g hg,fun g _ ⟨l,b,p,o,h1,_⟩=>by simp at h1,fun _ h=>.inl h,fun g hg h=>?_⟩,Nat.le_refl _,fun _ _ _=>rfl⟩
 ·have ks:=hM.below hB
  exact⟨fun g hg=>hg.elim (fun h=>ks.aw g h) (fun h=>h.2),fun g cs hg=>⟨.inl (ks.pd g cs hg).1,cd.mono (fun _ h=>.inl h) (fun _ _=>rfl) _ _ _ rfl (ks.pd g cs hg).2⟩,ks.row⟩
 ·rcases h with h|h
  ·exact .inl h
  ·omega
end
def P6:List (Nat × aF):=[(3,.pure 0 <| .pure 1 <| .pure 2 <| .pure 3 <| .pure 4 <| .pure 5 <| .pure 6 <| .load 7 [11,10,9] <| .aR 8 (.aR 9 (.pure 10 <| .pure 11 <| .done) (.nil)) (.nil))]
def P7:List (Nat × aF):=[(5,.pure 0 <| .pure 1 <| .pure 2 <| .pure 3 <| .load 4 [7] <| .aR 5 (.pure 6 <| .pure 7 <| .done) (.nil)),(8,.pure 1 <| .pure 2 <| .pure 3 <| .load 0 [7,6,5] <| .load 4 [7,6] <| .aR 5 (.pure 6 <| .pure 7 <| .done) (.nil))]
def VA:List (Nat × aF):=[]
def P44:List (Nat × aF):=[(1,.pure 0 <| .pure 1 <| .pure 3 <| .pure 4 <| .pure 5 <| .load 2 [26,25,24,23,22,21,20,19,18,17,16,15,14,13,12,11,10,9,8,7] <| .load 6 [26,25,24,23,22,21,20,19,18,17,16,15,14,13,12,11,10,9,8,7] <| .pure 7 <| .pure 8 <| .pure 9 <| .pure 11 <| .load 10 [26,25,24,23,22,21,20,19,18,17,16,15,14,13] <| .load 12 [26,25,24,23,22,21,20,19,18,17,16,15,14,13] <| .pure 13 <| .pure 14 <| .pure 15 <| .pure 16 <| .pure 17 <| .pure 18 <| .load 19 [26,25,24,23,22,21,20] <| .pure 20 <| .pure 21 <| .pure 22 <| .load 23 [26,25,24] <| .aR 24 (.pure 25 <| .aR 26 (.done) (.nil)) (.nil)),(15,.pure 0 <| .pure 1 <| .pure 2 <| .pure 3 <| .pure 5 <| .load 4 [8,7] <| .load 6 [8,7] <| .pure 7 <| .aR 8 (.done) (.nil))]
def ZC:List (Nat × aF):=[]
def R7:List (Nat × aF):=[]
def R8:List (Nat × aF):=[]
def R9:List (Nat × aF):=[]
def Hr:List (Nat × aF):=[]
def Xa:List (Nat × aF):=[]
def Xb:List (Nat × aF):=[]
def Lf:List (Nat × aF):=[]
def qU:List (Nat × aF):=[]
def Lg:List (Nat × aF):=[(1,.pure 0 <| .load 1 [36,35,34,33,32,31,30,29,28,27,26,25,24,23,22,21,20,19,18,17,16,15,14,13,12,11,10,9,8,7,6,5,4,3,2] <| .pure 2 <| .pure 3 <| .pure 4 <| .load 5 [36,35,34,33,32,31,30,29,28,27,26,25,24,23,22,21,20,19,18,17,16,15,14,13,12,11,10,9,8,7,6] <| .pure 6 <| .pure 7 <| .pure 8 <| .pure 9 <| .pure 12 <| .load 10 [36,35,34,33,32,31,30,29,28,27,26,25,24,23,22,21,20,19,18,17,16,15,11] <| .pure 11 <| .load 13 [36,35,34,33,32,31,30,29,28,27,26,25,24,23,22,21,20,19,18,17,16,15,14] <| .aR 14 (.pure 15 <| .pure 16 <| .pure 17 <| .pure 18 <| .load 19 [36,35,34,33,32,31,30,29,28,27,26,25,24,23,22,21,20] <| .pure 20 <| .pure 21 <| .pure 22 <| .load 23 [36,35,34,33,32,31,30,29,28,27,26,25,24] <| .pure 24 <| .pure 25 <| .pure 26 <| .pure 27 <| .pure 28 <| .load 29 [36,35,34,33,32,31,30] <| .pure 30 <| .pure 31 <| .pure 32 <| .load 33 [36,35,34] <| .pure 34 <| .pure 35 <| .pure 36 <| .done) (.nil))]
def R':List (Nat × aF):=[]
def Hs:List (Nat × aF):=[]
def oE:List (Nat × aF):=[]
def Lh:List (Nat × aF):=[]
def Xc:List (Nat × aF):=[]
def Xd:List (Nat × aF):=[]
def Xe:List (Nat × aF):=[]
def Xf:List (Nat × aF):=[]
def R_:List (Nat × aF):=[]
def Xg:List (Nat × aF):=[]
def Xh:List (Nat × aF):=[]
def Xi:List (Nat × aF):=[]
def ZD:List (Nat × aF):=[(3,.pure 0 <| .pure 1 <| .pure 2 <| .pure 4 <| .load 3 [13,12,11,10,9,8,7,6] <| .load 5 [13,12,11,10,9,8,7,6] <| .pure 6 <| .pure 7 <| .pure 8 <| .pure 9 <| .pure 10 <| .load 11 [13,12] <| .pure 12 <| .pure 13 <| .done),(14,.pure 0 <| .pure 1 <| .pure 2 <| .pure 3 <| .pure 5 <| .pure 6 <| .pure 7 <| .load 4 [12,11,10,9] <| .load 8 [12,11,10,9] <| .pure 9 <| .aR 10 (.aR 11 (.pure 12 <| .done) (.nil)) (.nil))]
def Xj:List (Nat × aF):=[(6,.pure 0 <| .pure 1 <| .pure 2 <| .pure 3 <| .load 4 [8,7] <| .load 5 [8,7,6] <| .aR 6 (.aR 7 (.pure 8 <| .done) (.nil)) (.nil)),(8,.pure 0 <| .pure 1 <| .pure 2 <| .load 3 [9,8,7,6] <| .load 4 [9,8,7,6,5] <| .aR 5 (.pure 6 <| .pure 7 <| .pure 8 <| .aR 9 (.done) (.nil)) (.nil))]
def Xk:List (Nat × aF):=[]
def P8:List (Nat × aF):=[]
def P24:List (Nat × aF):=[(1,.pure 0 <| .pure 1 <| .pure 2 <| .pure 5 <| .pure 6 <| .pure 7 <| .pure 8 <| .load 3 [13,12,4] <| .pure 4 <| .load 9 [13,12,11,10] <| .pure 10 <| .pure 11 <| .pure 12 <| .pure 13 <| .done)]
def P25:List (Nat × aF):=[]
def ZE:List (Nat × aF):=[]
def P49:List (Nat × aF):=[]
def P54:List (Nat × aF):=[]
def P50:List (Nat × aF):=[]
def P92:List (Nat × aF):=[]
def vm:List (Nat × aF):=[]
def P56:List (Nat × aF):=[]
def P93:List (Nat × aF):=[]
def Xl:List (Nat × aF):=[(1,.pure 0 <| .pure 1 <| .pure 2 <| .pure 3 <| .pure 4 <| .pure 5 <| .pure 6 <| .pure 7 <| .pure 8 <| .pure 9 <| .pure 10 <| .done)]
def P94:List (Nat × aF):=[]
def P95:List (Nat × aF):=[]
def P96:List (Nat × aF):=[]
def ux:List (Nat × aF):=[(5,.pure 0 <| .pure 2 <| .load 1 [7,6,5,4] <| .pure 4 <| .aR 3 (.aR 5 (.pure 6 <| .aR 7 (.done) (.nil)) (.nil)) (.nil)),(16,.pure 0 <| .pure 2 <| .pure 4 <| .load 1 [11,10,9,8,7,6] <| .pure 6 <| .aR 3 (.aR 5 (.aR 7 (.pure 8 <| .aR 9 (.pure 10 <| .aR 11 (.done) (.nil)) (.nil)) (.nil)) (.nil)) (.nil)),(18,.pure 0 <| .pure 2 <| .pure 4 <| .pure 6 <| .load 1 [15,14,13,12,11,10,9,8] <| .pure 8 <| .load 7 [15,14] <| .aR 3 (.aR 5 (.aR 9 (.pure 10 <| .aR 11 (.pure 12 <| .aR 13 (.pure 14 <| .aR 15 (.done) (.nil)) (.nil)) (.nil)) (.nil)) (.nil)) (.nil)),(22,.pure 0 <| .pure 2 <| .pure 4 <| .load 1 [11,10,9,8,7,6] <| .pure 6 <| .load 3 [11,10,9,8] <| .load 5 [11,10] <| .aR 7 (.pure 8 <| .aR 9 (.pure 10 <| .aR 11 (.done) (.nil)) (.nil)) (.nil)),(25,.pure 0 <| .pure 2 <| .pure 4 <| .pure 6 <| .load 1 [15,14,13,12,11,10,9,8] <| .pure 8 <| .load 3 [15,14,13,12,11,10] <| .load 5 [15,14,13,12] <| .aR 7 (.aR 9 (.pure 10 <| .aR 11 (.pure 12 <| .aR 13 (.pure 14 <| .aR 15 (.done) (.nil)) (.nil)) (.nil)) (.nil)) (.nil)),(27,.pure 0 <| .pure 2 <| .pure 4 <| .pure 6 <| .load 1 [15,14,13,12,11,10,9,8] <| .pure 8 <| .load 5 [15,14,13,12] <| .load 7 [15,14] <| .aR 3 (.aR 9 (.pure 10 <| .aR 11 (.pure 12 <| .aR 13 (.pure 14 <| .aR 15 (.done) (.nil)) (.nil)) (.nil)) (.nil)) (.nil)),(29,.pure 0 <| .pure 2 <| .load 1 [7,6,5,4] <| .pure 4 <| .load 3 [7,6] <| .aR 5 (.pure 6 <| .aR 7 (.done) (.nil)) (.nil))]
def P97:List (Nat × aF):=[]
def ZF:List (Nat × aF):=[]
def VB:List (Nat × aF):=[(5,.pure 0 <| .pure 2 <| .pure 4 <| .load 1 [11,10,9,8,7,6] <| .pure 6 <| .load 3 [11,10,9,8] <| .load 5 [11,10] <| .aR 7 (.pure 8 <| .aR 9 (.pure 10 <| .aR 11 (.done) (.nil)) (.nil)) (.nil)),(7,.pure 0 <| .pure 2 <| .load 1 [7,6,5,4] <| .pure 4 <| .load 3 [7,6] <| .aR 5 (.pure 6 <| .aR 7 (.done) (.nil)) (.nil)),(11,.pure 0 <| .pure 2 <| .load 1 [7,6,5,4] <| .pure 4 <| .load 3 [7,6] <| .aR 5 (.pure 6 <| .aR 7 (.done) (.nil)) (.nil))]
def Li:List (Nat × aF):=[(3,.pure 0 <| .pure 1 <| .pure 3 <| .pure 4 <| .pure 5 <| .pure 8 <| .load 2 [14,12] <| .aR 6 (.pure 7 <| .aR 9 (.pure 10 <| .aR 11 (.pure 12 <| .aR 13 (.aR 14 (.done) (.nil)) (.nil)) (.cons 13 (.aR 11 (.pure 12 <| .aR 14 (.done) (.nil)) (.nil)) (.nil))) (.cons 13 (.aR 9 (.pure 10 <| .aR 11 (.pure 12 <| .aR 14 (.done) (.nil)) (.nil)) (.nil)) (.nil))) (.cons 13 (.aR 6 (.pure 7 <| .aR 9 (.pure 10 <| .aR 11 (.pure 12 <| .aR 14 (.done) (.nil)) (.nil)) (.nil)) (.nil)) (.nil))),(5,.pure 0 <| .pure 2 <| .load 1 [7,6,5,4] <| .pure 4 <| .load 3 [7,6] <| .aR 5 (.pure 6 <| .aR 7 (.done) (.nil)) (.nil))]
def Xm:List (Nat × aF):=[]
def Xn:List (Nat × aF):=[]
def Xo:List (Nat × aF):=[]
def P27:List (Nat × aF):=[]
def P55:List (Nat × aF):=[]
def Xp:List (Nat × aF):=[]
def P57:List (Nat × aF):=[]
def Xq:List (Nat × aF):=[]
def P58:List (Nat × aF):=[]
def P59:List (Nat × aF):=[]
def P60:List (Nat × aF):=[]
def P61:List (Nat × aF):=[]
def Xr:List (Nat × aF):=[]
def P62:List (Nat × aF):=[]
def P53:List (Nat × aF):=[(2,.pure 0 <| .load 1 [6,5,4,2] <| .load 3 [6,5,4] <| .aR 2 (.aR 4 (.pure 5 <| .pure 6 <| .done) (.nil)) (.nil)),(3,.pure 0 <| .load 1 [6,5,4,2] <| .load 3 [6,5,4] <| .aR 2 (.aR 4 (.pure 5 <| .pure 6 <| .done) (.nil)) (.nil))]
def jG:List (Nat × aF):=[(1,.pure 0 <| .pure 3 <| .load 1 [7,6,2] <| .pure 2 <| .pure 6 <| .load 4 [7,5] <| .pure 5 <| .pure 7 <| .done),(12,.pure 2 <| .pure 6 <| .pure 10 <| .load 0 [15,14,9,8,7,5,4,3,1] <| .load 11 [15,14,13,12] <| .pure 12 <| .pure 13 <| .aR 1 (.aR 3 (.pure 4 <| .pure 5 <| .aR 7 (.pure 8 <| .pure 9 <| .pure 14 <| .pure 15 <| .done) (.nil)) (.nil)) (.nil))]
def Xs:List (Nat × aF):=[]
def Xt:List (Nat × aF):=[]
def Xu:List (Nat × aF):=[]
def Xv:List (Nat × aF):=[]
def kJ:List (Nat × aF):=[(1,.pure 0 <| .pure 3 <| .pure 6 <| .load 1 [11,10,9,2] <| .pure 2 <| .pure 9 <| .load 4 [11,10,5] <| .pure 5 <| .pure 10 <| .load 7 [11,8] <| .pure 8 <| .pure 11 <| .done),(24,.pure 0 <| .pure 5 <| .load 1 [10,9,8,4,3,2] <| .pure 2 <| .load 6 [10,9,8,7] <| .pure 7 <| .aR 3 (.pure 4 <| .aR 8 (.pure 9 <| .pure 10 <| .done) (.nil)) (.nil)),(26,.pure 0 <| .pure 5 <| .load 1 [10,9,8,4,3,2] <| .pure 2 <| .load 6 [10,9,8,7] <| .pure 7 <| .aR 3 (.pure 4 <| .aR 8 (.pure 9 <| .pure 10 <| .done) (.nil)) (.nil)),(30,.pure 0 <| .pure 4 <| .load 1 [7,6,3,2] <| .pure 2 <| .pure 3 <| .aR 5 (.pure 6 <| .pure 7 <| .done) (.nil))]
def Xw:List (Nat × aF):=[]
def P12:List (Nat × aF):=[]
def P33:List (Nat × aF):=[]
def Xx:List (Nat × aF):=[]
def P11:List (Nat × aF):=[(3,.pure 1 <| .load 0 [8,7,6,5,4,3] <| .aR 2 (.aR 3 (.pure 4 <| .pure 5 <| .pure 6 <| .aR 7 (.pure 8 <| .done) (.nil)) (.nil)) (.nil)),(6,.pure 1 <| .pure 2 <| .load 0 [9,8,7,6,5,4] <| .aR 3 (.aR 4 (.pure 5 <| .pure 6 <| .pure 7 <| .aR 8 (.pure 9 <| .done) (.nil)) (.nil)) (.nil))]
def P30:List (Nat × aF):=[]
def P32:List (Nat × aF):=[]
def P31:List (Nat × aF):=[]
def P9:List (Nat × aF):=[]
def P68:List (Nat × aF):=[]
def ZG:List (Nat × aF):=[]
def P28:List (Nat × aF):=[]
def P29:List (Nat × aF):=[]
def P14:List (Nat × aF):=[]
def ZH:List (Nat × aF):=[(7,.pure 0 <| .pure 1 <| .pure 2 <| .pure 3 <| .pure 4 <| .pure 5 <| .pure 6 <| .pure 7 <| .pure 9 <| .pure 12 <| .pure 13 <| .pure 14 <| .pure 15 <| .pure 16 <| .pure 18 <| .load 8 [23,22,21,11] <| .load 10 [23,22,21,11] <| .pure 11 <| .load 17 [23,22,21,20] <| .load 19 [23,22,21,20] <| .pure 20 <| .aR 21 (.pure 22 <| .aR 23 (.done) (.nil)) (.nil))]
def ZI:List (Nat × aF):=[]
def ZJ:List (Nat × aF):=[]
def Ht:List (Nat × aF):=[]
def P86:List (Nat × aF):=[]
def Xy:List (Nat × aF):=[]
def Xz:List (Nat × aF):=[]
def XA:List (Nat × aF):=[(7,.pure 0 <| .pure 1 <| .pure 2 <| .pure 3 <| .load 4 [8,7] <| .load 5 [8,7,6] <| .aR 6 (.aR 7 (.pure 8 <| .done) (.nil)) (.nil))]
def ZK:List (Nat × aF):=[]
def VC:List (Nat × aF):=[(1,.pure 0 <| .pure 4 <| .load 1 [8,7,6,3,2] <| .load 5 [8,7,6] <| .aR 2 (.pure 3 <| .aR 6 (.pure 7 <| .pure 8 <| .done) (.nil)) (.nil))]
def ZL:List (Nat × aF):=[]
def ZM:List (Nat × aF):=[]
def ZN:List (Nat × aF):=[]
def XB:List (Nat × aF):=[]
def XC:List (Nat × aF):=[]
def XD:List (Nat × aF):=[]
def P90:List (Nat × aF):=[]
def ZO:List (Nat × aF):=[]
def P13:List (Nat × aF):=[]
def P34:List (Nat × aF):=[]
def ZP:List (Nat × aF):=[]
def ZQ:List (Nat × aF):=[]
def P4:List (Nat × aF):=[]
def ZR:List (Nat × aF):=[(5,.pure 0 <| .pure 1 <| .pure 5 <| .pure 9 <| .load 2 [14,13,12,11,8,7,4,3] <| .load 6 [14,13,12,11,8,7] <| .load 10 [14,13,12,11] <| .aR 3 (.pure 4 <| .aR 7 (.pure 8 <| .aR 11 (.pure 12 <| .pure 13 <| .pure 14 <| .done) (.nil)) (.nil)) (.nil))]
def ZS:List (Nat × aF):=[]
def P36:List (Nat × aF):=[(4,.pure 0 <| .pure 1 <| .pure 4 <| .pure 5 <| .pure 6 <| .load 2 [9,3] <| .load 7 [9,8] <| .pure 8 <| .aR 3 (.aR 9 (.done) (.nil)) (.nil)),(6,.pure 0 <| .pure 1 <| .pure 3 <| .pure 4 <| .pure 5 <| .load 2 [8] <| .load 6 [8,7] <| .pure 7 <| .aR 8 (.done) (.nil)),(10,.pure 0 <| .pure 1 <| .load 2 [7,6,4,3] <| .load 5 [7,6] <| .aR 3 (.pure 4 <| .aR 6 (.aR 7 (.done) (.nil)) (.nil)) (.nil))]
def P67:List (Nat × aF):=[]
def Sa (b:ak) (n:Nat) (es:List PV):Prop:=match b with
 | ⟨k,_,m,md,live,cs⟩=>bif live && AG md && Nat.beq m n then (match k with
  | .dyn=>cs=es
  | .arr=>dZ true m (.stat cs)=some es\/(m=1/\dZ false m (.stat cs)=some es)
  | _=>False) else False
def Hu (S:List ak) (fz:List Nat) (x y:PV):Prop:=match x,y with
 | .wref l,.sl n es=>bif iI l fz then aV S[l]? fun b=>Sa b n es else False
 | x,y=>pI x y
def Sb (S:List ak) (fz:List Nat) (x y:PV):Prop:=match x,y with
 | .wref l,.sl n es=>bif iI l fz then aV S[l]? fun b=>Sa b n es else False
 | .agg cs,.agg ds=>kp (Hu S fz) cs ds
 | x,y=>mT x y
def Lj (S:List ak) (fz:List Nat):Bool:=fz.all fun l=>match S[l]? with
 | some b=>b.live && AG b.m
 | none=>false
def jj (b:Bool) (m:Md):Md:=bif b then .r else m
def eK (fz:List Nat) (S:List ak):List ak:=mapM jj fz 0 S
def PV.DM:PV->Bool
 | .lit ..|.int ..|.tt|.ff|.bool _|.val _|.nil=>true
 | _=>false
def PV.zp:PV->Bool
 | .agg cs=>cs.all PV.DM
 | x=>x.DM
def PV.DN:PV->Bool
 | .tup cs=>cs.all PV.zp
 | x=>x.zp
section
variable {w w':World} {I I':Nat->Prop} {β aI:ax} {G:Gx} {S:List ak}
theorem vn {x:PV} {v:Value} (hf:x.DM=true) (h:x.Is w I β v):x.Is w' I' aI v:=by
 cases x<;>first|(cases hf; done)|(simp only[PV.Is] at h ⊢; exact h)
theorem pW {r:PV->Bool} (hr:∀ x v,r x=true->x.Is w I β v->x.Is w' I' aI v):∀ {cs:List PV} {vs:List Value},cs.all r=true->a_ w I cs β vs->a_ w' I' cs aI vs
 | [],[],_,_=>by simp only[a_]
 | c::cs,v::vs,hf,h=>by
  simp only[List.all_cons,Bool.and_eq_true] at hf
  simp only[a_] at h ⊢
  exact⟨hr c v hf.1 h.1,pW hr hf.2 h.2⟩
 | [],_::_,_,h=>by simp only[a_] at h
 | _::_,[],_,h=>by simp only[a_] at h
theorem vo {x:PV} {v:Value} (hf:x.zp=true) (h:x.Is w I β v):x.Is w' I' aI v:=by
 unfold PV.zp at hf
 split at hf
 ·simp only[PV.Is] at h ⊢
  obtain⟨vs,rfl,h⟩:=h
  exact⟨vs,rfl,pW (fun x v=>vn) hf h⟩
 ·exact vn hf h
theorem DO {x:PV} {v:Value} (hf:x.DN=true) (h:x.Is w I β v):x.Is w' I' aI v:=by
 unfold PV.DN at hf
 split at hf
 ·simp only[PV.Is] at h ⊢
  obtain⟨vs,rfl,h⟩:=h
  exact⟨vs,rfl,pW (fun x v=>vo) hf h⟩
 ·exact vo hf h
def dQ (I:Nat->Prop) (β:ax) (S:List ak) (fz:List Nat) (g:Nat):Prop:=I g\/∃ l b p o,l∈fz/\S[l]?=some b/\b.live=true/\AG b.m=true/\β l=some p/\p.a=some (g,o)
theorem xW {fz:List Nat} (h:Lj S fz=true) {l:Nat} (hl:l∈fz):∃ b,S[l]?=some b/\b.live=true/\AG b.m=true:=by
 have:=List.all_eq_true.1 h l hl
 split at this
 ·rename_i b hb
  simp only[Bool.and_eq_true] at this
  exact⟨b,hb,this⟩
 ·cases this
theorem oW {fz:List Nat} (hH:aD I β S w) {l:Nat} {b:ak} {n:Nat} {es:List PV} (hl:l∈fz) (hb:S[l]?=some b) (h:Sa b n es) {v:Value} (hx:(PV.wref l).Is w I β v):(PV.sl n es).Is w (dQ I β S fz) no v:=by
 obtain⟨k,ty,m,md,live,cs⟩:=b
 unfold Sa at h
 replace h:=aQ h
 obtain⟨hc,h⟩:=h
 simp only[Bool.and_eq_true] at hc
 obtain⟨⟨az,hm⟩,hn⟩:=hc
 obtain rfl:=Nat.eq_of_beq_eq_true hn
 simp only[PV.Is] at hx ⊢
 obtain⟨p,hp,rfl⟩:=hx
 have hI:∀ g,I g->dQ I β S fz g:=fun g h=>.inl h
 have uw:∀ {g o:Nat},p.a=some (g,o)->dQ I β S fz g:=fun {g o} ha=>.inr ⟨l,_,p,o,hl,hb,az,hm,hp,ha⟩
 cases k with
 | dyn =>
  obtain⟨jy,hlen,hle,pn,lf⟩:=ct hH hb az rfl hp
  subst h
  rcases lf with ⟨ha,pk,hw⟩|⟨g,arr,fr,ha,hw,fS,kN,dd,has⟩
  ·have h0:cs = []:=List.eq_nil_of_length_eq_zero (by simp only at hlen; omega)
   subst h0
   exact⟨none,0,by rw[hw]; rfl,Nat.le_refl _,Nat.zero_le _,(fun _ _ e=>by cases e),fun hn=>absurd rfl hn⟩
  ·simp only at hlen
   exact⟨some ⟨g,0,none⟩,p.cap,by rw[hw,hlen],by omega,by omega,(fun g' o' e=>by cases e; exact bE.mono hI (fun _ _=>rfl) _ _ _ _ rfl kN),fun _=>⟨g,0,rfl,uw ha,jy⟩⟩
 | arr =>
  obtain⟨g,arr,fr,ha,hw,fS,oT,dd,hlen,hle,pn,has,jy⟩:=eD hH hb az rfl hp
  simp only at hlen has jy oT
  have eI:p.len*m<=arr.size:=by rw[has]; exact Nat.mul_le_mul_right _ hle
  have px:(arr.toList.take (p.len*m)).length=p.len*m:=by rw[List.length_take,Array.length_toList]; omega
  have m9:lX w I β m (.stat cs) (arr.toList.take (p.len*m)):=by
   refine⟨by rw[px,hlen],fun j c hj=>?_⟩
   obtain⟨u,hu,hi,h1⟩:=oT j c hj
   have uN:j < p.len*m:=by rw[← hlen]; exact (List.getElem?_eq_some_iff.1 hj).1
   exact⟨u,by rw[List.getElem?_take,if_pos uN]; simpa using hu,hi,h1⟩
  have key:es.length=p.len/\df w I es m (arr.toList.take (p.len*m)):=by
   rcases h with h|⟨h1,h⟩
   ·exact ew jy (.inl rfl) h m9 px
   ·exact ew jy (.inr h1) h m9 px
  obtain⟨e1,e2⟩:=key
  have Ho:bE w I es m g 0:=e2.at (fun j v hj=>by
   have:=lY fS 0 (p.len*m) j v (by simpa using hj)
   simpa using this) (fun _ h=>h) (fun _ _=>rfl)
  exact⟨some ⟨g,0,none⟩,p.cap,by rw[hw,e1],by omega,by omega,fun g' o' e=>by cases e; exact bE.mono hI (fun _ _=>rfl) _ _ _ _ rfl Ho,fun _=>⟨g,0,rfl,uw ha,jy⟩⟩
 | loc=>exact h.elim
 | mp=>exact h.elim
theorem Lk {fz:List Nat} (hH:aD I β S w) {x y:PV} {v:Value} (h1:Hu S fz x y) (hu:y.cr = []) (hx:x.Is w I β v):y.Is w (dQ I β S fz) no v:=by
 unfold Hu at h1
 split at h1
 ·replace h1:=aQ h1
  obtain⟨hl,h1⟩:=h1
  replace h1:=aq h1
  obtain⟨b,hb,h1⟩:=h1
  exact oW hH (cP.1 hl) hb h1 hx
 ·exact PV.Is.mono (fun _ h=>.inl h) (fun _ _=>rfl) y β no v (fun l p hl=>by rw[hu] at hl; cases hl) (ll h1 w I β v hx)
theorem zq {fz:List Nat} (hH:aD I β S w):∀ {args aX:List PV} {aZ:List Value},kp (Hu S fz) args aX->c8 aX = []->a_ w I args β aZ->a_ w (dQ I β S fz) aX no aZ
 | [],[],[],_,_,_=>by simp only[a_]
 | x::xs,y::ys,v::vs,h,hu,hx=>by
  simp only[a_] at hx ⊢
  have lR:y.cr = []/\c8 ys = []:=by simpa [c8] using hu
  exact⟨Lk hH h.1 lR.1 hx.1,zq hH h.2 lR.2 hx.2⟩
 | [],_::_,_,h,_,_=>h.elim
 | _::_,[],_,h,_,_=>h.elim
 | [],[],_::_,_,_,hx=>by simp only[a_] at hx
 | _::_,_::_,[],_,_,hx=>by simp only[a_] at hx
theorem kt {fz:List Nat} (hH:aD I β S w):∀ {args aX:List PV} {aZ:List Value},kp (Sb S fz) args aX->c8 aX = []->a_ w I args β aZ->a_ w (dQ I β S fz) aX no aZ
 | [],[],[],_,_,_=>by simp only[a_]
 | x::xs,y::ys,v::vs,h,hu,hx=>by
  simp only[a_] at hx ⊢
  have lR:y.cr = []/\c8 ys = []:=by simpa [c8] using hu
  refine⟨?_,kt hH h.2 lR.2 hx.2⟩
  have h1:=h.1
  unfold Sb at h1
  split at h1
  ·obtain⟨hl,h1⟩:=aQ h1
   obtain⟨b,hb,h1⟩:=aq h1
   exact oW hH (cP.1 hl) hb h1 hx.1
  ·have Ll:=hx.1
   simp only[PV.Is] at Ll ⊢
   obtain⟨vs',rfl,Ll⟩:=Ll
   exact⟨vs',rfl,zq hH h1 (by simpa [PV.cr] using lR.1) Ll⟩
  ·exact PV.Is.mono (fun _ h=>.inl h) (fun _ _=>rfl) y β no v (fun l p hl=>by rw[lR.1] at hl; cases hl) (dK h1 w I β v hx.1)
 | [],_::_,_,h,_,_=>h.elim
 | _::_,[],_,h,_,_=>h.elim
 | [],[],_::_,_,_,hx=>by simp only[a_] at hx
 | _::_,_::_,[],_,_,hx=>by simp only[a_] at hx
theorem Hv {fz:List Nat} (hH:aD I β S w) (hM:cL G I w) {g:Nat} (h:dQ I β S fz g):g < w.heap.size:=by
 rcases h with h|⟨l,b,p,o,_,hb,az,_,hp,ha⟩
 ·exact hM.aw g h
 ·exact hH.cM ⟨l,b,p,o,hb,az,hp,ha⟩
theorem jY {fz:List Nat} (hH:aD I β S w) (hM:cL G I w):cL G (dQ I β S fz) w :=
 ⟨fun g hg=>Hv hH hM hg,fun g cs hg=>⟨.inl (hM.pd g cs hg).1,cd.mono (fun _ h=>.inl h) (fun _ _=>rfl) _ _ _ rfl (hM.pd g cs hg).2⟩,hM.row⟩
theorem DP (g:Nat):¬ Wr no ([]:List ak) g:=fun ⟨l,b,p,o,h1,_⟩=>by simp at h1
theorem ai.eT {f:FuncId} {args aX:List PV} {r:PV} {K:PV->List ak->Prop} (h:ai G f aX r) (fz:List Nat) (hz:Lj S fz=true) (hle:kp (Sb S fz) args aX) (hu:c8 aX = []) (hr:r.cr = []) (hK:JR (eK fz S) (K r)):Spec G f args S [] K:=by
 refine Spec.intro h.run.1 fun I β w aZ hH hM hA=>?_
 have h0:aD (dQ I β S fz) no ([]:List ak) w:=⟨fun _ _=>rfl,fun l b hl=>by simp at hl⟩
 refine (h.run.2 _ no w aZ h0 (jY hH hM) (kt hH hle hu hA)).mono fun e w' ⟨v,r',S',I',aI,he,uu,hi,_,ks,hE,_,_⟩=>?_
 subst uu
 have hold:∀ g,g < w.heap.size->w'.heap[g]?=w.heap[g]?:=fun g hg=>hE.block g hg (DP g)
 have DI:∀ g,g < w.heap.size->I' g->dQ I β S fz g:=fun g hg h=>(hE.new g hg h).elim id fun h=>absurd h (DP g)
 have rM:∀ g,I g->I' g:=fun g h=>hE.aw g (.inl h)
 have xS:∀ (l:Nat) (b:ak),(eK fz S)[l]?=some b->∃ b0,S[l]?=some b0/\b = { b0 with m:=jj (iI l fz) b0.m }:=fun l b hb=>by
  unfold eK at hb
  rw[dO,Option.map_eq_some_iff] at hb
  obtain⟨b0,h1,h2⟩:=hb
  rw[Nat.zero_add] at h2
  exact⟨b0,h1,h2.symm⟩
 refine⟨v,r',eK fz S,I',β,he,tm hK,kr hr hi,⟨fun l hl=>hH.jI l (by unfold eK at hl; rw[dP] at hl; exact hl),fun l b hb az=>?_⟩,ks,⟨hE.os,hE.tape,hE.output,hE.size,fun g hg _=>hold g hg,fun g _ h=>?_,rM,fun g hg h=>?_⟩,by unfold eK; rw[dP]; exact Nat.le_refl _,fun _ _ _=>rfl⟩
 ·obtain⟨b0,fO,rfl⟩:=xS l b hb
  obtain⟨p,hp,hk⟩:=hH.fp l b0 fO az
  have own:∀ {g o:Nat} {fr:Nat × Nat},p.a=some (g,o)->g < w.heap.size->Own I β S l g fr b0->Own I' β (eK fz S) l g fr { b0 with m:=jj (iI l fz) b0.m }:=fun {g o fr} ha hg ho=>by
   refine⟨fun hm=>?_,fun hm=>?_⟩
   ·have oA:iI l fz=false/\b0.m≠.r:=by
     cases hc:iI l fz with
     | true=>simp only[hc,jj,cond_true,ne_eq,not_true_eq_false] at hm
     | false=>exact⟨rfl,by simpa only [hc,jj,cond_false] using hm⟩
    obtain⟨h1,h2,h3⟩:=ho.1 oA.2
    refine⟨h1,fun hI=>?_,fun l2 b2 bZ eJ bn p2 g2 o2 fQ fP=>?_⟩
    ·rcases DI g hg hI with hI|⟨l2,b2,p2,o2,eJ,cR,bn,_,fQ,fP⟩
     ·exact h2 hI
     ·refine h3 l2 b2 (fun e=>?_) cR bn p2 g o2 fQ fP rfl
      subst e
      rw[cP.2 eJ] at oA
      cases oA.1
    ·obtain⟨b3,jA,rfl⟩:=xS l2 b2 eJ
     exact h3 l2 b3 bZ jA bn p2 g2 o2 fQ fP
   ·cases hc:iI l fz with
    | true =>
     obtain⟨b1,AM,k1,k2⟩:=xW hz (cP.1 hc)
     rw[fO] at AM; cases AM
     exact hE.aw g (.inr ⟨l,b0,p,o,cP.1 hc,fO,k1,k2,hp,ha⟩)
    | false=>exact rM g (ho.2 (by simpa only [hc,jj,cond_false] using hm))
  have Cy:∀ g,I g->w'.heap[g]?=w.heap[g]?:=fun g hg=>hold g (hM.aw g hg)
  refine⟨p,hp,?_⟩
  split at hk
  ·rename_i bS
   obtain⟨g,o,arr,ty,fr,h1,h2,h3,ho⟩:=hk
   have hg:=cw h2
   simp only[bS]
   exact⟨g,o,arr,ty,fr,h1,(hold g hg).trans h2,aS.mono rM Cy (fun _ _ h=>h) h3,own h1 hg ho⟩
  ·rename_i bS
   obtain⟨g,arr,fr,h1,h2,h3,ho,h4⟩:=hk
   have hg:=cw h2
   simp only[bS]
   exact⟨g,arr,fr,h1,(hold g hg).trans h2,aS.mono rM Cy (fun _ _ h=>h) h3,own h1 hg ho,h4⟩
  ·rename_i bS
   obtain⟨h1,hk⟩:=hk
   simp only[bS]
   refine⟨h1,?_⟩
   rcases hk with h|⟨g,arr,fr,h2,h3,h4,ho,h5⟩
   ·exact .inl h
   ·have hg:=cw h3
    exact .inr ⟨g,arr,fr,h2,(hold g hg).trans h3,bE.mono rM Cy _ _ _ _ (hold g hg) h4,own h2 hg ho,h5⟩
  ·rename_i bS
   obtain⟨g,h1,h2,ho⟩:=hk
   have hg:g < w.heap.size:=by obtain⟨es,clock,hb,_⟩:=h2; exact cw hb
   simp only[bS]
   exact⟨g,h1,h2.m6 (hold g hg),own h1 hg ho⟩
 ·obtain⟨l,b,p,o,h1,h2,h3,h4,h5⟩:=h
  obtain⟨b0,fO,rfl⟩:=xS l b h1
  refine⟨l,b0,p,o,fO,h2,?_,h4,h5⟩
  cases hc:iI l fz with
  | true=>simp only[hc,jj,cond_true] at h3; cases h3
  | false=>simpa only [hc,jj,cond_false] using h3
 ·rcases DI g hg h with h|⟨l,b,p,o,hl,hb,az,hm,hp,ha⟩
  ·exact .inl h
  ·cases oD:b.m with
   | w=>exact .inr ⟨l,b,p,o,hb,az,oD,hp,ha⟩
   | p=>rw[oD] at hm; cases hm
   | r =>
    obtain⟨arr,ty,fr,_,ho⟩:=(hH.fp l b hb az).place hp ha
    exact .inl (ho.2 oD)
theorem ai.XE {f:FuncId} {args aX:List PV} {r:PV} {K:PV->List ak->Prop} (h:ai G f aX r) (fz:List Nat) (hle:kp (Sb S fz) args aX) (hu:c8 aX = []) (hr:r.DN=true) (hK:K r S):Spec G f args S [] K:=by
 refine Spec.intro h.run.1 fun I β w aZ hH hM hA=>?_
 have h0:aD (dQ I β S fz) no ([]:List ak) w:=⟨fun _ _=>rfl,fun l b hl=>by simp at hl⟩
 refine (h.run.2 _ no w aZ h0 (jY hH hM) (kt hH hle hu hA)).mono fun e w' ⟨v,r',S',I',aI,he,uu,hi,_,ks,hE,_,_⟩=>?_
 subst uu
 have hold:∀ g,g < w.heap.size->w'.heap[g]?=w.heap[g]?:=fun g hg=>hE.block g hg (DP g)
 have Cy:∀ g,I g->w'.heap[g]?=w.heap[g]?:=fun g hg=>hold g (hM.aw g hg)
 refine⟨v,r',S,I,β,he,hK,DO hr hi,⟨hH.jI,fun l b hb az=>(hH.fp l b hb az).mono (fun _ h=>h) Cy (fun _ _ h=>h) fun p g o hp ha=>?_⟩,⟨fun g hg=>Nat.lt_of_lt_of_le (hM.aw g hg) hE.size,fun g cs hg=>⟨(hM.pd g cs hg).1,cd.mono (fun _ h=>h) Cy _ _ _ (Cy g (hM.pd g cs hg).1) (hM.pd g cs hg).2⟩,fun g cs hg=>by
   obtain⟨arr,ty,fr,h1,h2⟩:=hM.row g cs hg
   exact⟨arr,ty,fr,(Cy g (hM.pd g cs hg).1).trans h1,h2⟩⟩,
  ⟨hE.os,hE.tape,hE.output,hE.size,fun g hg _=>hold g hg,fun g _ h=>h,fun _ h=>h,fun _ _ h=>.inl h⟩,Nat.le_refl _,fun _ _ _=>rfl⟩
 obtain⟨arr,ty,fr,hh,ho⟩:=(hH.fp l b hb az).place hp ha
 exact⟨hold g (cw hh),fun hr=>⟨(ho.1 hr).2.1,(ho.1 hr).2.2⟩⟩
end
end Go.Proofs.YtnbhdacpogplgaaGreatDoor.Pw

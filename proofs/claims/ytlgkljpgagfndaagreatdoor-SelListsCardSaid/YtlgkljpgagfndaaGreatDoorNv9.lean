/- What this claim is proved with: no condition. -/
import Derived.Test.YtlgkljpgagfndaaGreatDoorNv8
import Derived.Test.YtlgkljpgagfndaaGreatDoorNv2
import Derived.Deep.Slices
import Derived.Below
import Derived.OpenShut
import Derived.LaidLaws
import Derived.ChangeArms
import Derived.MakeChecks
import Derived.Stop.Joined
import Derived.Test.YtlgkljpgagfndaaGreatDoorNv7
set_option linter.unusedVariables false
set_option linter.unusedSimpArgs false
namespace Go.Proofs.YtlgkljpgagfndaaGreatDoor.Pw
open Go Go.RowKit
section
variable {w w':World} {I I':Nat->Prop} {β aU:aB} {G:Gx} {s:bb} {a:Act} {st eA:List ak}
def ai (G:Gx) (f:FuncId) (args:List PV) (r:PV):Prop:=Spec G f args [] [] fun r' _=>r'=r
theorem lE {x:PV} {v:Value} (h:x.dk = []) (hx:x.Is w I β v):x.Is w I aU v:=PV.Is.mono (fun _ h=>h) (fun _ _=>rfl) x β aU v (fun l p hl=>by rw[h] at hl; cases hl) hx
theorem jY {xs:List PV} {vs:List Value} (h:eC xs = []) (hx:bH w I xs β vs):bH w I xs aU vs:=bH.mono (fun _ h=>h) (fun _ _=>rfl) xs β aU vs (fun l p hl=>by rw[h] at hl; cases hl) hx
theorem ai.use {f:FuncId} {args bE:List PV} {r:PV} {S:List ak} {K:PV->List ak->Prop} (h:ai G f bE r) (hle:ny kt args bE) (hu:eC bE = []) (hr:r.dk = []) (hK:K r S):Spec G f args S [] K:=by
 refine Spec.intro h.run.1 fun I β w bs hH hM hA=>?_
 have h0:aO I (fun _=>none) ([]:List ak) w:=⟨fun _ _=>rfl,fun l b hl=>by simp at hl⟩
 refine (h.run.2 I (fun _=>none) w bs h0 hM (jY hu (jg (fun _ _=>fA) hle hA))).mono fun e w' ⟨v,r',S',I',aU,he,pn,hi,_,lF,hE,_,_⟩=>?_
 subst pn
 have Ee:∀ g,¬ Wr (fun _=>none) ([]:List ak) g:=fun g ⟨l,b,p,o,h1,_⟩=>by simp at h1
 have hold:∀ g,g < w.heap.size->w'.heap[g]?=w.heap[g]?:=fun g hg=>hE.block g hg (Ee g)
 have Fq:∀ g,g < w.heap.size->I' g->I g:=fun g hg h=>(hE.new g hg h).elim id fun h=>absurd h (Ee g)
 refine⟨v,r',S,I',β,he,hK,lE hr hi,⟨hH.qo,fun l b hl aN=>?_⟩,lF,⟨hE.os,hE.tape,hE.output,hE.size,fun g hg _=>hold g hg,fun g _ h=>h,hE.az,fun g hg h=>.inl (Fq g hg h)⟩,Nat.le_refl _,fun _ _ _=>rfl⟩
 have hb:=hH.gw l b hl aN
 refine hb.mono hE.az (fun g hg=>hold g (hM.az g hg)) (fun _ _ h=>h) fun p g o hp ha=>?_
 obtain⟨arr,ty,fr,hh,ho⟩:=hb.place hp ha
 have cJ:=bS hh
 exact⟨hold g cJ,fun hr=>⟨fun hI=>(ho.1 hr).2.1 (Fq g cJ hI),(ho.1 hr).2.2⟩⟩
theorem ai.u {P:Nat->Prop} {f:FuncId} {args bE:List PV} {r:PV} {S:List ak} {K:List Nat->PV->List ak->Prop} (h:ai G f bE r) (hK:K [] r S) (hle:ny kt args bE:=by repeat' first|exact trivial|exact rfl|exact Iff.rfl|exact Or.inl rfl|refine And.intro ?_ ?_) (hu:eC bE = []:=by rfl) (hr:r.dk = []:=by rfl):∃ rl:List Nat,(∀ l,l∈rl->P l)/\Spec G f args S rl (K rl):=⟨[],fun _ hl=>(by cases hl),h.use hle hu hr hK⟩
theorem Spec.args {f:FuncId} {args bE:List PV} {S:List ak} {rl:List Nat} {K:PV->List ak->Prop} (h:Spec G f bE S rl K) (hle:ny kt args bE):Spec G f args S rl K :=
 Spec.intro h.run.1 fun I β w bs hH hM hA=>h.run.2 I β w bs hH hM (jg (fun _ _=>fA) hle hA)
theorem aw {r r0:PV} (h:kt r r0):∃ r',Aw r r'/\r'=r0:=⟨r0,fA h,rfl⟩
theorem rA {r r0:PV} (h:kt r r0:=by repeat' first|exact trivial|exact rfl|exact Iff.rfl|exact Or.inl rfl|refine And.intro ?_ ?_):∃ r',Aw r r'/\r'=r0:=aw h
theorem ao {z:Int} (h:-9223372036854775808<=z/\z<=9223372036854775807):vO .i64 z:=by unfold vO Ev.kB Ev.ki; simp only[IntKind.signed,IntKind.bits]; simpa using h
theorem ah {z:Int} (h:0<=z/\z<=4294967295):vO .u32 z:=by unfold vO Ev.kB Ev.ki; simp only[IntKind.signed,IntKind.bits]; simpa using h
theorem aF {z:Int} (h:0<=z/\z<=18446744073709551615):vO .u64 z:=by unfold vO Ev.kB Ev.ki; simp only[IntKind.signed,IntKind.bits]; simpa using h
theorem ba {z:Int} (h:0<=z/\z<=255):vO .u8 z:=by unfold vO Ev.kB Ev.ki; simp only[IntKind.signed,IntKind.bits]; simpa using h
theorem li {z:Int} {P Q:Prop} (hP:P) (h:-9223372036854775808<=z/\z<=9223372036854775807:=by omega):(vO .i64 z/\P)\/Q:=.inl ⟨ao h,hP⟩
theorem lu {z:Int} {P Q:Prop} (hP:P) (h:0<=z/\z<=4294967295:=by omega):(vO .u32 z/\P)\/Q:=.inl ⟨ah h,hP⟩
end
open Go
noncomputable def bt:List (Nat × Nat):=[(3,Tryz.t3.bytes),(75,Tryz.t75.bytes),(24,Tryz.t24.bytes),(73,Tryz.t73.bytes),(186,Tryz.t186.bytes),(26,Tryz.t26.bytes),(184,Tryz.t184.bytes),(109,Tryz.t109.bytes),(29,Tryz.t29.bytes),(46,Tryz.t46.bytes),(32,Tryz.t32.bytes),(56,Tryz.t56.bytes),(41,Tryz.t41.bytes),(99,Tryz.t99.bytes),(44,Tryz.t44.bytes),(38,Tryz.t38.bytes),(23,Tryz.t23.bytes),(182,Tryz.t182.bytes),(87,Tryz.t87.bytes),(33,Tryz.t33.bytes),(91,Tryz.t91.bytes),(65,Tryz.t65.bytes),(72,Tryz.t72.bytes),(22,Tryz.t22.bytes),(42,Tryz.t42.bytes),(98,Tryz.t98.bytes),(27,Tryz.t27.bytes),(5,Tryz.t5.bytes),(4,Tryz.t4.bytes),(58,Tryz.t58.bytes),(47,Tryz.t47.bytes),(123,Tryz.t123.bytes),(89,Tryz.t89.bytes),(97,Tryz.t97.bytes),(153,Tryz.t153.bytes),(94,Tryz.t94.bytes),(39,Tryz.t39.bytes),(180,Tryz.t180.bytes),(68,Tryz.t68.bytes),(130,Tryz.t130.bytes),(9,Tryz.t9.bytes),(207,Tryz.t207.bytes),(142,Tryz.t142.bytes),(115,Tryz.t115.bytes),(190,Tryz.t190.bytes),(154,Tryz.t154.bytes),(137,Tryz.t137.bytes),(202,Tryz.t202.bytes)]
theorem V7:∀ p∈bt,∃ i,Tryz.prog.info? p.1=some i/\i.bytes=p.2 :=
 Ev.all_cons ⟨Tryz.t3,by kernel_rfl,rfl⟩ <|
 Ev.all_cons ⟨Tryz.t75,by kernel_rfl,rfl⟩ <|
 Ev.all_cons ⟨Tryz.t24,by kernel_rfl,rfl⟩ <|
 Ev.all_cons ⟨Tryz.t73,by kernel_rfl,rfl⟩ <|
 Ev.all_cons ⟨Tryz.t186,by kernel_rfl,rfl⟩ <|
 Ev.all_cons ⟨Tryz.t26,by kernel_rfl,rfl⟩ <|
 Ev.all_cons ⟨Tryz.t184,by kernel_rfl,rfl⟩ <|
 Ev.all_cons ⟨Tryz.t109,by kernel_rfl,rfl⟩ <|
 Ev.all_cons ⟨Tryz.t29,by kernel_rfl,rfl⟩ <|
 Ev.all_cons ⟨Tryz.t46,by kernel_rfl,rfl⟩ <|
 Ev.all_cons ⟨Tryz.t32,by kernel_rfl,rfl⟩ <|
 Ev.all_cons ⟨Tryz.t56,by kernel_rfl,rfl⟩ <|
 Ev.all_cons ⟨Tryz.t41,by kernel_rfl,rfl⟩ <|
 Ev.all_cons ⟨Tryz.t99,by kernel_rfl,rfl⟩ <|
 Ev.all_cons ⟨Tryz.t44,by kernel_rfl,rfl⟩ <|
 Ev.all_cons ⟨Tryz.t38,by kernel_rfl,rfl⟩ <|
 Ev.all_cons ⟨Tryz.t23,by kernel_rfl,rfl⟩ <|
 Ev.all_cons ⟨Tryz.t182,by kernel_rfl,rfl⟩ <|
 Ev.all_cons ⟨Tryz.t87,by kernel_rfl,rfl⟩ <|
 Ev.all_cons ⟨Tryz.t33,by kernel_rfl,rfl⟩ <|
 Ev.all_cons ⟨Tryz.t91,by kernel_rfl,rfl⟩ <|
 Ev.all_cons ⟨Tryz.t65,by kernel_rfl,rfl⟩ <|
 Ev.all_cons ⟨Tryz.t72,by kernel_rfl,rfl⟩ <|
 Ev.all_cons ⟨Tryz.t22,by kernel_rfl,rfl⟩ <|
 Ev.all_cons ⟨Tryz.t42,by kernel_rfl,rfl⟩ <|
 Ev.all_cons ⟨Tryz.t98,by kernel_rfl,rfl⟩ <|
 Ev.all_cons ⟨Tryz.t27,by kernel_rfl,rfl⟩ <|
 Ev.all_cons ⟨Tryz.t5,by kernel_rfl,rfl⟩ <|
 Ev.all_cons ⟨Tryz.t4,by kernel_rfl,rfl⟩ <|
 Ev.all_cons ⟨Tryz.t58,by kernel_rfl,rfl⟩ <|
 Ev.all_cons ⟨Tryz.t47,by kernel_rfl,rfl⟩ <|
 Ev.all_cons ⟨Tryz.t123,by kernel_rfl,rfl⟩ <|
 Ev.all_cons ⟨Tryz.t89,by kernel_rfl,rfl⟩ <|
 Ev.all_cons ⟨Tryz.t97,by kernel_rfl,rfl⟩ <|
 Ev.all_cons ⟨Tryz.t153,by kernel_rfl,rfl⟩ <|
 Ev.all_cons ⟨Tryz.t94,by kernel_rfl,rfl⟩ <|
 Ev.all_cons ⟨Tryz.t39,by kernel_rfl,rfl⟩ <|
 Ev.all_cons ⟨Tryz.t180,by kernel_rfl,rfl⟩ <|
 Ev.all_cons ⟨Tryz.t68,by kernel_rfl,rfl⟩ <|
 Ev.all_cons ⟨Tryz.t130,by kernel_rfl,rfl⟩ <|
 Ev.all_cons ⟨Tryz.t9,by kernel_rfl,rfl⟩ <|
 Ev.all_cons ⟨Tryz.t207,by kernel_rfl,rfl⟩ <|
 Ev.all_cons ⟨Tryz.t142,by kernel_rfl,rfl⟩ <|
 Ev.all_cons ⟨Tryz.t115,by kernel_rfl,rfl⟩ <|
 Ev.all_cons ⟨Tryz.t190,by kernel_rfl,rfl⟩ <|
 Ev.all_cons ⟨Tryz.t154,by kernel_rfl,rfl⟩ <|
 Ev.all_cons ⟨Tryz.t137,by kernel_rfl,rfl⟩ <|
 Ev.all_cons ⟨Tryz.t202,by kernel_rfl,rfl⟩ <| Ev.all_nil
noncomputable def V8 (mq:List (Nat × List PV)):Gx:={ cx:=Ev.Vu [] [],mq:=mq,bt:=bt }
theorem gxOk (mq:List (Nat × List PV)):ma (V8 mq):=⟨Ev.cxOk [] [],V7⟩
def OM:List PV:=[.lit .u32 1,.lit .u32 65537,.lit .u32 16777472,.lit .u32 16843009]
def shP:List PV:=[0,1,1,1,2,2,3,3,4,4,4,4,5,5,5,5,5,5,5,5,5,5,5,5,5,5,5,5,6,6,6,7,8,2,2,9,9,8,8,8,10,10,11,12,13,14,15,16,17,17,18,18,18,18,18,18,18,18,18,18,19,19,20,20,20,20,21,21,21,21,21,21,21,21,21,21,22,22,23,23,23,23,24,24,25,25,26,26,27,27,27,27,28,29,30,31,31,28,32,33,34].map (.lit .i64)
def Fs:List PV:=[0,0,1,0,1,0,0,1,1,0,1,2,0,3,1,2,1,2,1,2,1,2,1,2,1,2,1,2,1,2,1,2,1,1,1,1,1,1,1,1,1,1,1,2,1,2,2,4,2,4,1,4,2,2,1,1,1,2,1,3,0,1,0,1].map (.lit .i64)
noncomputable def gT:Gx:=V8 [(1,OM),(2,shP),(0,Fs)]
theorem al:ma gT:=gxOk _
section
variable {w w':World} {I I':Nat->Prop} {β aU:aB} {G:Gx} {s:bb} {a:Act} {st eA:List ak}
theorem aO.Ft (hH:aO I β [] w) (w':World) (I':Nat->Prop):aO I' β [] w':=⟨hH.qo,fun l b hl=>by simp at hl⟩
theorem db.below (hM:db G I w) (hB:Below w.heap.size w w'):db G I w' :=
 ⟨fun g hg=>Nat.lt_of_lt_of_le (hM.az g hg) hB.size,fun g cs h=>⟨(hM.m0 g cs h).1,dj.mono (fun _ h=>h) (fun g hg=>hB.block g (hM.az g hg)) _ _ _ (hB.block g (hM.az g (hM.m0 g cs h).1)) (hM.m0 g cs h).2⟩,fun g cs h=>by
  obtain⟨arr,ty,fr,h1,h2⟩:=hM.row g cs h
  exact⟨arr,ty,fr,(hB.block g (hM.az g (hM.m0 g cs h).1)).trans h1,h2⟩⟩
theorem ai.wK {f:FuncId} {args:List PV} {r:PV} (he:Ev.gX G.cx.P f) (vs:List Value) (v:Value) (ha:∀ w I β bs,bH w I args β bs->bs=vs) (hr:∀ w I β,r.Is w I β v)
  (h:∀ w,Calls G.cx.P f vs.toArray w fun e w'=>e = .returned v/\Below w.heap.size w w'):ai G f args r:=by
 refine Spec.intro he fun I β w bs hH hM hA=>?_
 rw[ha _ _ _ _ hA]
 refine (h w).mono fun e w' ⟨he,hB⟩=>⟨v,r,[],I,β,he,rfl,hr _ _ _,hH.Ft _ _,hM.below hB,⟨hB.os,hB.tape,hB.output,hB.size,fun g hg _=>hB.block g hg,fun g _ h=>h,fun _ h=>h,fun _ _ h=>.inl h⟩,Nat.le_refl _,fun _ _ _=>rfl⟩
theorem ai.of_same {f:FuncId} {args:List PV} {r:PV} (he:Ev.gX G.cx.P f) (vs:List Value) (v:Value) (ha:∀ w I β bs,bH w I args β bs->bs=vs) (hr:∀ w I β,r.Is w I β v)
  (h:∀ w,Calls G.cx.P f vs.toArray w fun e w'=>e = .returned v/\w'=w):ai G f args r :=
 ai.wK he vs v ha hr fun w=>(h w).mono fun e w' ⟨h1,h2⟩=>⟨h1,h2 ▸ Below.refl _ _⟩
theorem ai.calls {f:FuncId} {args:List PV} {r:PV} {bs:List Value} (h:ai G f args r) (hM:db G I w) (hA:bH w I args (fun _=>none) bs) (v:Value) (hr:∀ w' I' aU v',r.Is w' I' aU v'->v'=v) :
  Calls G.cx.P f bs.toArray w fun e w'=>e = .returned v/\Below w.heap.size w w':=by
 have h0:aO I (fun _=>none) ([]:List ak) w:=⟨fun _ _=>rfl,fun l b hl=>by simp at hl⟩
 refine (h.run.2 I (fun _=>none) w bs h0 hM hA).mono fun e w' ⟨v',r',S',I',aU,he,pn,hi,_,lF,hE,_,_⟩=>?_
 subst pn
 rw[hr _ _ _ _ hi] at he
 exact⟨he,hE.os,hE.tape,hE.output,hE.size,fun g hg=>hE.block g hg fun ⟨l,b,p,o,h1,_⟩=>by simp at h1⟩
theorem J3 (w':World) (I':Nat->Prop) (aU:aB) (v':Value) (h:PV.tt.Is w' I' aU v'):v' = .bool true:=by simpa [PV.Is] using h
end
def In (w:World) (g:Nat):Prop:=g < w.heap.size
abbrev no:aB:=fun _=>none
def Op (P:Program) (t:TypeId) (S:PV->Prop):Prop:=∀ {H:Type} (e:TypeId × Value->H) (w:World) (base:Nat) (held:Bool) (fuel:Nat) (cs:List Value) (x:DataW H × List MemPlace),
 DataW.trod e P w base (fun _=>true) held fuel t cs=some x->(∀ n∈x.1.weights P t,n<=reachBytes)->∃ y,S y/\(∀ vs,y≠.tup vs)/\bH w (In w) y.cells no cs/\cs.length=P.cellsOf t/\∀ c∈cs,c.oneCell'=true
def SInt (k:IntKind) (x:PV):Prop:=∃ z,vO k z/\x = .int k z
def SSl (n b:Nat) (S:PV->Prop) (x:PV):Prop:=∃ es:List PV,(es.length<=maxLen/\es.length*b<=reachBytes)/\(∀ e∈es,S e)/\x = .sl n es
def qX:List (PV->Prop)->List PV->Prop
 | [],[]=>True
 | S::Ss,x::xs=>S x/\qX Ss xs
 | _,_=>False
def pR (Ss:List (PV->Prop)) (x:PV):Prop:=∃ xs,qX Ss xs/\x = .agg (xs.flatMap PV.cells)
theorem eW {S:PV->Prop} {Ss:List (PV->Prop)} {xs:List PV} (h:qX (S::Ss) xs):∃ x r,xs=x::r/\S x/\qX Ss r:=by
 cases xs with
 | nil=>exact h.elim
 | cons x r=>exact⟨x,r,rfl,h⟩
theorem qY {xs:List PV} (h:qX [] xs):xs = []:=by
 cases xs with
 | nil=>rfl
 | cons x r=>exact h.elim
section
variable {P:Program} {t e:TypeId}
theorem ON {k:IntKind} {z:Int} (h:(Lit.int k z).wf=true):vO k z:=by
 unfold vO
 cases k<;>simp_all [Lit.wf,Ev.kB,Ev.ki,IntKind.min,IntKind.max,IntKind.signed,IntKind.bits]<;>omega
theorem wL {k:IntKind} (ht:P.underlying t=some (.int k)) (hc:P.cellsOf t=1):Op P t (SInt k):=fun e w base held fuel cs x h yY=>by
 obtain⟨n,rfl,_,hw⟩:=DataW.trod_int ht h
 exact⟨.int k n,⟨n,ON hw,rfl⟩,nofun,bH.one (by simp only[PV.Is]),by rw[hc]; rfl,fun c hc=>by simp only[List.mem_singleton] at hc; subst hc; rfl⟩
theorem pz {α:Type _} {p:Nat->α->Prop}:∀ n:Nat,(∀ i,i < n->∃ y,p i y)->∃ l:List α,l.length=n/\∀ i y,l[i]?=some y->p i y
 | 0,_=>⟨[],rfl,fun i y h=>by simp at h⟩
 | n+1,h=>by
  obtain⟨l,hl,hp⟩:=pz (p:=p) n fun i hi=>h i (by omega)
  obtain⟨y,hy⟩:=h n (by omega)
  refine⟨l++[y],by simp[hl],fun i z hz=>?_⟩
  rw[List.getElem?_append] at hz
  split at hz
  ·exact hp i z hz
  ·rename_i Nh
   have h0:i - l.length=0:=by
    have:=(List.getElem?_eq_some_iff.1 hz).1
    simp at this; omega
   rw[h0] at hz
   simp only[List.getElem?_cons_zero,Option.some.injEq] at hz
   subst hz
   have:i=n:=by omega
   subst this; exact hy
theorem kR {H:Type} {n:Nat}:∀ {l:List (DataW H)} {d:DataW H},d∈l->n∈d.weights P e->n∈DataW.weightsAll P e l
 | [],_,h,_=>by cases h
 | a::l,d,h,hn=>by
  simp only[DataW.weightsAll,List.mem_append]
  rcases List.mem_cons.1 h with rfl|h
  ·exact .inl hn
  ·exact .inr (kR h hn)
theorem jZ {H:Type} {n:Nat}:∀ {ts:List TypeId} {l:List (DataW H)} {i:Nat} {t:TypeId} {d:DataW H},ts[i]?=some t->l[i]?=some d->n∈d.weights P t->n∈DataW.weightsEach P ts l
 | [],_,_,_,_,h,_,_=>by simp at h
 | _::_,[],_,_,_,_,h,_=>by simp at h
 | u::ts,a::l,0,t,d,h,h',hn=>by
  simp only[List.getElem?_cons_zero,Option.some.injEq] at h h'
  subst h; subst h'
  simp only[DataW.weightsEach,List.mem_append]
  exact .inl hn
 | u::ts,a::l,i+1,t,d,h,h',hn=>by
  simp only[DataW.weightsEach,List.mem_append]
  exact .inr (jZ (by simpa using h) (by simpa using h') hn)
theorem AB {S:PV->Prop} (he:Op P e S) (n b:Nat) (hbb:P.bytesOf e=b) (ht:P.underlying t=some (.slice e)) (hn:P.cellsOf e=n) (h0:0 < n) (hc:P.cellsOf t=1):Op P t (SSl n b S):=fun {H} ec w base held fuel cs x h yY=>by
 subst hn
 subst hbb
 rcases Deep.open_slice ht h with ⟨rfl,_⟩|⟨a,len,cap,m,k,D,Pl,rfl,hb,hl,hm,pA,rfl,hx⟩
 ·exact⟨.sl _ [],⟨[],⟨by simp,by simp⟩,fun _ h=>by simp at h,rfl⟩,nofun,bH.one (by simp only[PV.Is]; exact⟨none,0,rfl,Nat.le_refl _,by simp,fun _ _ h=>by simp at h,fun h=>absurd rfl h⟩),by rw[hc]; rfl,fun c hc=>by simp only[List.mem_singleton] at hc; subst hc; rfl⟩
 ·simp only[if_true] at pA
  subst pA
  have hwl:len*P.bytesOf e<=reachBytes:=by
   have:=yY ((len+(m - len))*P.bytesOf e) (by simp only[DataW.weights,ht,List.length_map,List.length_range]; exact List.mem_cons_self)
   exact Nat.le_trans (Nat.mul_le_mul_right _ (Nat.le_add_right _ _)) this
  have hwe:∀ i,i < len->∀ n∈(D i).weights P e,n<=reachBytes:=fun i hi n hn=>yY n (by
   simp only[DataW.weights,ht]
   exact List.mem_cons_of_mem _ (List.mem_append.2 (.inl (kR (List.mem_map.2 ⟨i,List.mem_range.2 hi,rfl⟩) hn))))
  have J2:0 < len->a.spot=none:=fun hp=>by
   obtain⟨Nw,h1,h2⟩:=hx 0 (by omega)
   obtain⟨y,_,_,hy,hlen,_⟩:=he ec w base held k Nw _ h2 (hwe 0 hp)
   obtain⟨_,_,l_⟩:=World.cells?_some h1
   have qu:=l_ 0 h0
   rw[List.getElem?_eq_getElem (by omega),Nat.zero_mul] at qu
   exact World.cell?_spot qu
  have each:∀ i,i < len->∃ y,S y/\a.spot=none/\a.block < w.heap.size/\EC w (In w) (P.cellsOf e) y a.block (a.off+i*P.cellsOf e):=fun i hi=>by
   obtain⟨Nw,h1,h2⟩:=hx i (by omega)
   obtain⟨y,hS,_,hy,hlen,h1c⟩:=he ec w base held k Nw _ h2 (hwe i hi)
   obtain⟨_,_,l_⟩:=World.cells?_some h1
   have qu:=l_ 0 h0
   rw[List.getElem?_eq_getElem (by omega)] at qu
   have hs:a.spot=none:=J2 (by omega)
   obtain⟨b,off,sp⟩:=a
   dsimp only at hs
   subst hs
   have ea:∀ b off k,(⟨b,off,none⟩:Addr).add k=⟨b,off+k,none⟩:=fun b off k=>by unfold Addr.add; split<;>simp_all
   refine⟨y,hS,rfl,?_,?_,dj.of fun j c hj=>?_⟩
   ·have:=World.block_lt_of_cell? w _ qu
    rw[ea,ea] at this; exact this
   ·rw[hy.length,hlen]
   ·obtain⟨v,hv,Nv⟩:=hy.get hj
    have qz:j < P.cellsOf e:=by rw[← hlen]; exact (List.getElem?_eq_some_iff.1 hv).1
    have:=l_ j qz
    rw[ea,ea,hv] at this
    exact⟨v,by simpa only [Nat.add_assoc] using this,Nv,h1c v (List.mem_of_getElem? hv)⟩
  obtain⟨es,po,hp⟩:=pz len each
  refine⟨.sl _ es,⟨es,⟨by omega,by rw[po]; exact hwl⟩,fun y hy=>?_,rfl⟩,nofun,bH.one ?_,by rw[hc]; rfl,fun c hc=>by simp only[List.mem_singleton] at hc; subst hc; rfl⟩
  ·obtain⟨i,hi⟩:=List.getElem?_of_mem hy
   exact (hp i y hi).1
  ·simp only[PV.Is]
   refine⟨some a,m,by rw[po],by omega,by omega,fun g o U5=>?_,fun de=>?_⟩
   ·cases U5
    exact cB.of fun i y hy=>(hp i y hy).2.2.2
   ·have h1:0 < es.length:=by omega
    obtain⟨_,h2,h3,_⟩:=hp 0 es[0] (List.getElem?_eq_getElem h1)
    obtain⟨b,off,sp⟩:=a
    dsimp only at h2
    subst h2
    exact⟨b,off,rfl,h3,h0⟩
def J4 (P:Program) (total:Nat):Nat->List Field->List (PV->Prop)->Prop
 | off,[],[]=>off=total
 | off,f::fs,S::Ss=>f.offset=off/\Op P f.type S/\J4 P total (off+P.cellsOf f.type) fs Ss
 | _,_,_=>False
theorem V9 {fs:Array Field} {Ss:List (PV->Prop)} (ht:P.underlying t=some (.struct fs)) (hf:J4 P (P.cellsOf t) 0 fs.toList Ss):Op P t (pR Ss):=fun {H} ec w base held fuel cs x h yY=>by
 obtain⟨xs,n,_,rfl,hl,sq,hx⟩:=DataW.trod_struct ht h
 have key:∀ (l:List Field) (Ss:List (PV->Prop)) (off:Nat),J4 P (P.cellsOf t) off l Ss->(∀ f∈l,∃ y,DataW.trod ec P w base (fun _=>true) held n f.type ((cs.drop f.offset).take (P.cellsOf f.type))=some y/\∀ n∈y.1.weights P f.type,n<=reachBytes)->off<=cs.length ->
   ∃ ys,qX Ss ys/\bH w (In w) (ys.flatMap PV.cells) no (cs.drop off)/\∀ c∈cs.drop off,c.oneCell'=true:=by
  intro l
  induction l with
  | nil =>
   intro Ss off h _ _
   cases Ss with
   | nil =>
    simp only[J4] at h
    refine⟨[],trivial,?_,?_⟩
    ·rw[List.drop_eq_nil_of_le (by omega)]; simp only[List.flatMap_nil,bH]
    ·rw[List.drop_eq_nil_of_le (by omega)]; intro c hc; cases hc
   | cons=>exact h.elim
  | cons f l ih =>
   intro Ss off h ht hle
   cases Ss with
   | nil=>exact h.elim
   | cons S Ss =>
    obtain⟨h1,h2,h3⟩:=h
    subst h1
    obtain⟨z,hz,hzw⟩:=ht f (List.mem_cons_self ..)
    obtain⟨y,hS,_,hy,JO,lT⟩:=h2 ec w base held n _ z hz hzw
    have Fu:f.offset+P.cellsOf f.type<=cs.length:=by
     rw[List.length_take,List.length_drop] at JO; omega
    obtain⟨ys,hys,hyL,hyO⟩:=ih Ss _ h3 (fun g hg=>ht g (List.mem_cons_of_mem _ hg)) Fu
    have hd:cs.drop f.offset=(cs.drop f.offset).take (P.cellsOf f.type)++cs.drop (f.offset+P.cellsOf f.type):=by
     rw[← List.drop_drop,List.take_append_drop]
    refine⟨y::ys,⟨hS,hys⟩,?_,?_⟩
    ·rw[hd,List.flatMap_cons]; exact hy.append hyL
    ·intro c hc
     rw[hd,List.mem_append] at hc
     exact hc.elim (lT c) (hyO c)
 obtain⟨ys,h1,h2,h3⟩:=key fs.toList Ss 0 hf (fun f hf=>by
  obtain⟨i,hi⟩:=List.getElem?_of_mem hf
  have Nv:i < fs.size:=by simpa using (List.getElem?_eq_some_iff.1 hi).1
  have:=hx i f (by simpa using hi)
  rw[this]
  have cJ:i < xs.length:=by omega
  refine⟨_,List.getElem?_eq_getElem cJ,fun n hn=>yY n ?_⟩
  simp only[DataW.weights,ht]
  exact jZ (i:=i) (by rw[List.getElem?_map,hi]; rfl) (by rw[List.getElem?_map,List.getElem?_eq_getElem cJ]; rfl) hn) (Nat.zero_le _)
 rw[List.drop_zero] at h2 h3
 exact⟨.agg (ys.flatMap PV.cells),⟨ys,h1,rfl⟩,nofun,h2,hl,h3⟩
theorem Op.OO {S S':PV->Prop} (h:Op P t S) (hS:∀ x,S x->S' x):Op P t S':=fun e w base held fuel cs x hx yY=>by
 obtain⟨y,h1,h2⟩:=h e w base held fuel cs x hx yY
 exact⟨y,hS y h1,h2⟩
theorem decode {α:Type} {S:PV->Prop} {enc:α->PV} {ok:α->Prop} (h:∀ x,S x->∃ z,ok z/\x=enc z):∀ (es:List PV),(∀ e∈es,S e)->∃ l:List α,(∀ z∈l,ok z)/\es=l.map enc
 | [],_=>⟨[],fun _ h=>by simp at h,rfl⟩
 | e::es,hS=>by
  obtain⟨z,hz,rfl⟩:=h e (hS e (List.mem_cons_self ..))
  obtain⟨l,hl,rfl⟩:=decode h es fun e he=>hS e (List.mem_cons_of_mem _ he)
  refine⟨z::l,fun y hy=>?_,rfl⟩
  rcases List.mem_cons.1 hy with rfl|hy
  ·exact hz
  ·exact hl y hy
def J5 {α:Type} (n b:Nat) (enc:α->PV) (ok:α->Prop) (x:PV):Prop:=∃ l:List α,(l.length<=maxLen/\l.length*b<=reachBytes)/\(∀ z∈l,ok z)/\x = .sl n (l.map enc)
theorem Fv {α:Type} {S:PV->Prop} {n b:Nat} {enc:α->PV} {ok:α->Prop} (h:Op P t (SSl n b S)) (hd:∀ x,S x->∃ z,ok z/\x=enc z):Op P t (J5 n b enc ok):=h.OO fun x ⟨es,h1,h2,h3⟩=>by
 obtain⟨l,hl,rfl⟩:=decode hd es h2
 exact⟨l,by simpa using h1,hl,h3⟩
theorem AD {H:Type} {ts:List TypeId} {l:List (DataW H)} (h:(DataW.weightsEach P ts l).all (·<=reachBytes)=true) {i:Nat} {d:DataW H} (ht:ts[i]?=some t) (hd:l[i]?=some d):∀ n∈d.weights P t,n<=reachBytes:=fun n hn=>by
 have:=List.all_eq_true.1 h n (jZ ht hd hn)
 simpa using this
theorem Op.V' {S:PV->Prop} (h:Op P t S) (h1:∀ y,S y->y.cells = [y]) {H:Type} {ec:TypeId × Value->H} {w:World} {base:Nat} {held:Bool} {v:Value} {d:DataW H} {p:List MemPlace} (hv:v.cells = #[v]) (ht:DataW.Trod ec P w base (fun _=>true) held t v d p) (yY:∀ n∈d.weights P t,n<=reachBytes) :
  ∃ y,S y/\y.Is w (In w) no v:=by
 obtain⟨fuel,ht⟩:=ht
 obtain⟨y,hS,_,hy,_⟩:=h ec w base held fuel _ _ ht yY
 refine⟨y,hS,?_⟩
 rw[h1 y hS,hv] at hy
 simp only[bH,and_true] at hy
 exact hy
theorem Op.argA {Ss:List (PV->Prop)} (h:Op P t (pR Ss)) {H:Type} {ec:TypeId × Value->H} {w:World} {base:Nat} {held:Bool} {vs:Array Value} {d:DataW H} {p:List MemPlace} (ht:DataW.Trod ec P w base (fun _=>true) held t (.agg vs) d p) (yY:∀ n∈d.weights P t,n<=reachBytes) :
  ∃ y,pR Ss y/\y.Is w (In w) no (.agg vs):=by
 obtain⟨fuel,ht⟩:=ht
 obtain⟨y,hS,_,hy,_⟩:=h ec w base held fuel _ _ ht yY
 refine⟨y,hS,?_⟩
 obtain⟨xs,_,rfl⟩:=hS
 simp only[PV.Is]
 exact⟨vs,rfl,hy⟩
theorem SSl.cell {n b:Nat} {S:PV->Prop} (y:PV):SSl n b S y->y.cells = [y]:=fun ⟨_,_,_,h⟩=>by subst h; rfl
theorem J5.cell {α:Type} {n b:Nat} {enc:α->PV} {ok:α->Prop} (y:PV):J5 n b enc ok y->y.cells = [y]:=fun ⟨_,_,_,h⟩=>by subst h; rfl
theorem SInt.cell {k:IntKind} (y:PV):SInt k y->y.cells = [y]:=fun ⟨_,_,h⟩=>by subst h; rfl
end
def pB (P:Program) (total:Nat) (r:TypeId->DataW Unit->Option (List PV)):Nat->List (Nat × TypeId)->List (DataW Unit)->Option (List PV)
 | off,[],[]=>if off=total then some [] else none
 | off,(o,t)::ps,d::ds=>if o=off then (match r t d,pB P total r (off+P.cellsOf t) ps ds with
   | some xs,some ys=>some (xs++ys)
   | _,_=>none) else none
 | _,_,_=>none
def wM (P:Program):Nat->TypeId->DataW Unit->Option (List PV)
 | 0,_,_=>none
 | f+1,t,d=>match P.underlying t,d with
  | some (.int k),.lit (.int l n)=>if k=l then some [.lit k n] else none
  | some .bool,.lit (.bool b)=>some [if b then .tt else .ff]
  | some (.struct fs),.agg ds=>pB P (P.cellsOf t) (wM P f) 0 (fs.toList.map fun f=>(f.offset,f.type)) ds
  | some (.array n e),.agg ds=>pB P (P.cellsOf t) (wM P f) 0 ((List.range n).map fun i=>(i*P.cellsOf e,e)) ds
  | _,_=>none
section
variable {P:Program} {w:World} {I:Nat->Prop}
theorem AE {base:Nat} {sp:Nat->Bool} {held:Bool} {enc:TypeId × Value->Unit}:∀ (f:Nat) (t:TypeId) (d:DataW Unit) (xs:List PV) (fuel:Nat) (cs:List Value) (p:List MemPlace),wM P f t d=some xs->DataW.trod enc P w base sp held fuel t cs=some (d,p)->bH w I xs no cs/\∀ c∈cs,c.oneCell'=true
 | 0,_,_,_,_,_,_,h,_=>by simp[wM] at h
 | f+1,t,d,xs,fuel,cs,p,h,ht=>by
  have key:∀ (n:Nat) (ps:List (Nat × TypeId)) (ds:List (DataW Unit)) (off:Nat) (xs:List PV),pB P (P.cellsOf t) (wM P f) off ps ds=some xs->cs.length=P.cellsOf t ->
    (∀ (i:Nat) (o:Nat) (u:TypeId),ps[i]?=some (o,u)->∃ d p,ds[i]?=some d/\DataW.trod enc P w base sp held n u ((cs.drop o).take (P.cellsOf u))=some (d,p))->bH w I xs no (cs.drop off)/\∀ c∈cs.drop off,c.oneCell'=true:=by
   intro n ps
   induction ps with
   | nil =>
    intro ds off xs h hl _
    cases ds with
    | cons=>simp[pB] at h
    | nil =>
     simp only[pB] at h
     split at h
     ·cases h
      rw[List.drop_eq_nil_of_le (by omega)]
      exact⟨by simp only[bH],fun c hc=>by cases hc⟩
     ·cases h
   | cons q ps ih =>
    obtain⟨o,u⟩:=q
    intro ds off xs h hl ha
    cases ds with
    | nil=>simp[pB] at h
    | cons d ds =>
     simp only[pB] at h
     split at h
     ·rename_i ho
      subst ho
      split at h
      ·rename_i xs1 ys h1 h2
       cases h
       obtain⟨d',p',hd,ht⟩:=ha 0 o u rfl
       simp only[List.getElem?_cons_zero,Option.some.injEq] at hd
       subst hd
       have i1:=AE f u _ _ n _ _ h1 ht
       have i2:=ih ds _ _ h2 hl fun i o' u' hi=>by
        obtain⟨d',p',hd,ht⟩:=ha (i+1) o' u' (by simpa using hi)
        exact⟨d',p',by simpa using hd,ht⟩
       have hd:cs.drop o=(cs.drop o).take (P.cellsOf u)++cs.drop (o+P.cellsOf u):=by
        rw[← List.drop_drop,List.take_append_drop]
       rw[hd]
       refine⟨i1.1.append i2.1,fun c hc=>?_⟩
       rw[List.mem_append] at hc
       exact hc.elim (i1.2 c) (i2.2 c)
      ·cases h
     ·cases h
  unfold wM at h
  split at h
  ·rename_i hu
   obtain⟨z,rfl,hz,_⟩:=DataW.trod_int hu ht
   simp only[Prod.mk.injEq,DataW.lit.injEq,Lit.int.injEq] at hz
   obtain⟨⟨rfl,rfl⟩,_⟩:=hz
   simp only[if_true,Option.some.injEq] at h
   subst h
   exact⟨bH.one (by simp only[PV.Is]),fun c hc=>by simp only[List.mem_singleton] at hc; subst hc; rfl⟩
  ·rename_i hu
   obtain⟨b,rfl,hz⟩:=DataW.trod_bool hu ht
   simp only[Prod.mk.injEq,DataW.lit.injEq,Lit.bool.injEq] at hz
   obtain⟨rfl,_⟩:=hz
   simp only[Option.some.injEq] at h
   subst h
   refine⟨bH.one ?_,fun c hc=>by simp only[List.mem_singleton] at hc; subst hc; rfl⟩
   split<;>simp only[PV.Is]<;>simp_all
  ·rename_i hu
   obtain⟨ys,n,_,hz,hl,JO,hy⟩:=DataW.trod_struct hu ht
   simp only[Prod.mk.injEq,DataW.agg.injEq] at hz
   obtain⟨rfl,_⟩:=hz
   have:=key n _ _ 0 xs h hl fun i o u hi=>by
    simp only[List.getElem?_map,Option.map_eq_some_iff,Prod.mk.injEq] at hi
    obtain⟨f',hf,rfl,rfl⟩:=hi
    have hy:=hy i f' (by simpa using hf)
    have cJ:i < ys.length:=by rw[JO]; simpa using (List.getElem?_eq_some_iff.1 hf).1
    exact⟨ys[i].1,ys[i].2,by simp[cJ],by rw[hy]; simp[cJ]⟩
   simpa using this
  ·rename_i hu
   obtain⟨ys,n,_,hz,hl,JO,hy⟩:=DataW.trod_array hu ht
   simp only[Prod.mk.injEq,DataW.agg.injEq] at hz
   obtain⟨rfl,_⟩:=hz
   have:=key n _ _ 0 xs h hl fun i o u hi=>by
    simp only[List.getElem?_map,Option.map_eq_some_iff,Prod.mk.injEq] at hi
    obtain⟨j,hj,rfl,rfl⟩:=hi
    obtain⟨V_,rfl⟩:=List.getElem?_eq_some_iff.1 hj
    simp only[List.length_range] at V_
    rw[List.getElem_range]
    have hy:=hy i V_
    have cJ:i < ys.length:=by omega
    exact⟨ys[i].1,ys[i].2,by simp[cJ],by rw[hy]; simp[cJ]⟩
   simpa using this
  ·cases h
theorem AF {laid:List (String × DataW Unit)}:∀ {l:List (String × DataW Unit)} {ps:List MemPlace},DataW.LaidVars P w l ps->∀ {name:String} {d:DataW Unit},(name,d)∈l->∀ {g:Nat} {t:TypeId} {xs:List PV} (f:Nat),P.globalNamed name=some g->(P.globals[g]?).map (·.type)=some t->wM P f t d=some xs->xs≠[]->(g < w.heap.size/\dj w I xs g 0)/\∃ arr ty fr,w.heap[g]?=some (.cells arr ty fr)/\arr.size=xs.length
 | [],_,_,_,_,hm,_,_,_,_,_,_,_,_=>by cases hm
 | (n,d)::r,ps,h,name,d',hm,g,t,xs,f,hg,ht,hx,de=>by
  obtain⟨g',t',cs,fuel,p,q,vP,Ah,B4,hd,hr,_⟩:=h
  rcases List.mem_cons.1 hm with he|hm
  ·cases he
   obtain rfl:=Option.some.inj (hg.symm.trans vP)
   obtain rfl:=Option.some.inj (ht.symm.trans Ah)
   obtain⟨h1,h2⟩:=AE (I:=I) f t _ _ fuel _ _ hx hd
   have U9:dj w I xs g 0:=dj.of fun i c hc=>by
    obtain⟨v,hv,hi⟩:=h1.get hc
    exact⟨v,by rw[Nat.zero_add,World.var?_cell hg B4]; simpa using hv,hi,h2 v (List.mem_of_getElem? hv)⟩
   refine⟨⟨?_,U9⟩,?_⟩
   rotate_left 1
   ·have hl:=h1.length
    unfold World.var? at B4
    rw[hg,Option.bind_some] at B4
    split at B4
    ·rename_i arr ty fr hh
     cases B4
     exact⟨_,ty,fr,hh,by simpa using hl.symm⟩
    ·cases B4
   cases xs with
   | nil=>exact absurd rfl de
   | cons c xs =>
    obtain⟨v,hv,_⟩:=U9.get (i:=0) rfl
    exact World.block_lt_of_cell? w _ hv
  ·exact AF (laid:=laid) hr hm f hg ht hx de
theorem yZ {G:Gx} {laid:List (String × DataW Unit)} (pk:(laid.all fun x=>x.2.handleName?.isNone)=true) (h:laidMetH P laid w)
  (dx:∀ x∈G.mq,∃ name d t,(name,d)∈laid/\P.globalNamed name=some x.1/\(P.globals[x.1]?).map (·.type)=some t/\wM P 8 t d=some x.2/\x.2≠[]):db G (In w) w:=by
 rw[MakeChecks.laidMetH_plain _ _ _ pk] at h
 obtain⟨ps,h,_⟩:=h
 have key:∀ (g:Nat) (cs:List PV),(g,cs)∈G.mq->(g < w.heap.size/\dj w (In w) cs g 0)/\∃ arr ty fr,w.heap[g]?=some (.cells arr ty fr)/\arr.size=cs.length:=fun g cs hg=>by
  obtain⟨name,d,t,h1,h2,h3,h4,h5⟩:=dx _ hg
  exact AF (I:=In w) (laid:=laid) h h1 8 h2 h3 h4 h5
 exact⟨fun g hg=>hg,fun g cs hg=>(key g cs hg).1,fun g cs hg=>(key g cs hg).2⟩
end
section
variable {w w':World} {I I':Nat->Prop} {β aU:aB} {G:Gx} {s:bb} {a:Act} {st eA:List ak}
def Wb (I:Nat->Prop) (w w':World) (g:Nat):Prop:=I g\/(w.heap.size<=g/\g < w'.heap.size)
theorem ai.of_new {f:FuncId} {args:List PV} {r:PV} (he:Ev.gX G.cx.P f)
  (h:∀ I β w bs,db G I w->bH w I args β bs->Calls G.cx.P f bs.toArray w fun e w'=>∃ v,e = .returned v/\Below w.heap.size w w'/\r.Is w' (Wb I w w') no v) (hu:r.dk = []):ai G f args r:=by
 refine Spec.intro he fun I β w bs hH hM hA=>?_
 refine (h I β w bs hM hA).mono fun e w' ⟨v,he,hB,hr⟩=>⟨v,r,[],Wb I w w',β,he,rfl,lE hu hr,hH.Ft _ _,?_,⟨hB.os,hB.tape,hB.output,hB.size,fun g hg _=>hB.block g hg,fun g _ ⟨l,b,p,o,h1,_⟩=>by simp at h1,fun _ h=>.inl h,fun g hg h=>?_⟩,Nat.le_refl _,fun _ _ _=>rfl⟩
 ·have lF:=hM.below hB
  exact⟨fun g hg=>hg.elim (fun h=>lF.az g h) (fun h=>h.2),fun g cs hg=>⟨.inl (lF.m0 g cs hg).1,dj.mono (fun _ h=>.inl h) (fun _ _=>rfl) _ _ _ rfl (lF.m0 g cs hg).2⟩,lF.row⟩
 ·rcases h with h|h
  ·exact .inl h
  ·omega
end
def P6:List (Nat × aT):=[]
def P23:List (Nat × aT):=[]
def P50:List (Nat × aT):=[]
def P8:List (Nat × aT):=[(6,.load 0 [11,10,9,8,7,5,3,1] <| .load 2 [11,10,9,8,7,5,3] <| .load 4 [11,10,9,8,7,5] <| .load 6 [11,10,9,8,7] <| .bq 1 (.bq 3 (.bq 5 (.bq 7 (.bq 8 (.bq 9 (.pure 10 <| .pure 11 <| .done) (.nil)) (.nil)) (.nil)) (.nil)) (.nil)) (.nil))]
def P25:List (Nat × aT):=[(2,.pure 0 <| .load 1 [38,37,36,35,34,33,32,31,30,29,28,27,26,25,24,23,22,21,20,19,18,17,16,15,14,13,12,11,10,9,8,7,6,5,4,3,2] <| .bq 2 (.pure 3 <| .pure 4 <| .pure 5 <| .pure 6 <| .load 7 [38,37,36,35,34,33,32,31,30,29,28,27,26,25,24,23,22,21,20,19,18,17,16,15,14,13,12,11,10,9,8] <| .bq 8 (.pure 9 <| .pure 10 <| .pure 11 <| .pure 12 <| .pure 13 <| .load 14 [38,37,36,35,34,33,32,31,30,29,28,27,26,25,24,23,22,21,20,19,18,17,16,15] <| .bq 15 (.pure 16 <| .pure 17 <| .pure 18 <| .load 19 [38,37,36,35,34,33,32,31,30,29,28,27,26,25,24,23,22,21,20] <| .pure 20 <| .pure 21 <| .pure 22 <| .pure 23 <| .pure 25 <| .pure 26 <| .load 24 [38,37,36,35,34,33,32,31,30,29,28] <| .load 27 [38,37,36,35,34,33,32,31,30,29,28] <| .pure 28 <| .pure 29 <| .pure 30 <| .pure 31 <| .pure 32 <| .pure 34 <| .load 33 [38,37,36] <| .load 35 [38,37,36] <| .bq 36 (.pure 37 <| .pure 38 <| .done) (.nil)) (.nil)) (.nil)) (.nil))]
def mb:List (Nat × aT):=[]
def P54:List (Nat × aT):=[]
def P55:List (Nat × aT):=[]
def P56:List (Nat × aT):=[]
def P26:List (Nat × aT):=[(1,.pure 6 <| .load 0 [5,4,3,1] <| .load 2 [5,4,3] <| .bq 1 (.bq 3 (.bq 4 (.pure 5 <| .done) (.nil)) (.nil)) (.nil))]
def P57:List (Nat × aT):=[]
def Nx:List (Nat × aT):=[]
def P58:List (Nat × aT):=[]
def P60:List (Nat × aT):=[]
def P61:List (Nat × aT):=[]
def P96:List (Nat × aT):=[]
def P59:List (Nat × aT):=[]
def P95:List (Nat × aT):=[]
def P27:List (Nat × aT):=[]
def P28:List (Nat × aT):=[]
def P30:List (Nat × aT):=[]
def P31:List (Nat × aT):=[(1,.pure 0 <| .pure 1 <| .pure 3 <| .pure 4 <| .load 2 [7,6] <| .pure 6 <| .load 5 [7] <| .pure 7 <| .done),(2,.pure 0 <| .pure 1 <| .pure 3 <| .pure 4 <| .pure 6 <| .pure 7 <| .pure 9 <| .pure 10 <| .load 2 [15,14,13,12] <| .pure 12 <| .load 5 [15,14,13] <| .pure 13 <| .load 8 [15,14] <| .pure 14 <| .load 11 [15] <| .pure 15 <| .done)]
def P63:List (Nat × aT):=[]
def P64:List (Nat × aT):=[]
def P32:List (Nat × aT):=[(1,.pure 0 <| .pure 1 <| .pure 3 <| .pure 4 <| .pure 6 <| .load 2 [11,10,9] <| .pure 9 <| .load 5 [11,10] <| .pure 10 <| .load 7 [11,8] <| .pure 8 <| .pure 11 <| .done)]
def P65:List (Nat × aT):=[]
def P33:List (Nat × aT):=[(1,.pure 0 <| .pure 1 <| .pure 3 <| .pure 4 <| .pure 6 <| .pure 7 <| .load 2 [11,10,9] <| .pure 9 <| .load 5 [11,10] <| .pure 10 <| .load 8 [11] <| .pure 11 <| .done)]
def P29:List (Nat × aT):=[]
def P7:List (Nat × aT):=[]
def P24:List (Nat × aT):=[]
def mc:List (Nat × aT):=[(5,.pure 0 <| .pure 1 <| .pure 3 <| .pure 4 <| .load 2 [7,6] <| .pure 6 <| .load 5 [7] <| .pure 7 <| .done)]
def P52:List (Nat × aT):=[]
def P10:List (Nat × aT):=[]
def P35:List (Nat × aT):=[]
def P67:List (Nat × aT):=[]
def P86:List (Nat × aT):=[]
def P122:List (Nat × aT):=[]
def P121:List (Nat × aT):=[]
def P152:List (Nat × aT):=[]
def P123:List (Nat × aT):=[]
def P153:List (Nat × aT):=[]
def P124:List (Nat × aT):=[]
def P125:List (Nat × aT):=[]
def P126:List (Nat × aT):=[]
def P127:List (Nat × aT):=[]
def P154:List (Nat × aT):=[]
def P128:List (Nat × aT):=[]
def P100:List (Nat × aT):=[(2,.pure 0 <| .load 1 [6,5,4,2] <| .load 3 [6,5,4] <| .bq 2 (.bq 4 (.pure 5 <| .pure 6 <| .done) (.nil)) (.nil)),(3,.pure 0 <| .load 1 [6,5,4,2] <| .load 3 [6,5,4] <| .bq 2 (.bq 4 (.pure 5 <| .pure 6 <| .done) (.nil)) (.nil))]
def P68:List (Nat × aT):=[]
def P102:List (Nat × aT):=[]
def P135:List (Nat × aT):=[]
def kj:List (Nat × aT):=[(1,.pure 0 <| .pure 3 <| .load 1 [7,6,2] <| .pure 2 <| .pure 6 <| .load 4 [7,5] <| .pure 5 <| .pure 7 <| .done),(12,.pure 2 <| .pure 6 <| .pure 10 <| .load 0 [15,14,9,8,7,5,4,3,1] <| .load 11 [15,14,13,12] <| .pure 12 <| .pure 13 <| .bq 1 (.bq 3 (.pure 4 <| .pure 5 <| .bq 7 (.pure 8 <| .pure 9 <| .pure 14 <| .pure 15 <| .done) (.nil)) (.nil)) (.nil))]
def P155:List (Nat × aT):=[]
def P156:List (Nat × aT):=[]
def P157:List (Nat × aT):=[(1,.pure 0 <| .pure 1 <| .pure 2 <| .pure 3 <| .pure 4 <| .pure 5 <| .pure 6 <| .pure 7 <| .pure 8 <| .pure 9 <| .pure 10 <| .done)]
def P158:List (Nat × aT):=[]
def P159:List (Nat × aT):=[]
def P161:List (Nat × aT):=[]
def lW:List (Nat × aT):=[(1,.pure 0 <| .pure 3 <| .pure 6 <| .load 1 [11,10,9,2] <| .pure 2 <| .pure 9 <| .load 4 [11,10,5] <| .pure 5 <| .pure 10 <| .load 7 [11,8] <| .pure 8 <| .pure 11 <| .done),(24,.pure 0 <| .pure 5 <| .load 1 [10,9,8,4,3,2] <| .pure 2 <| .load 6 [10,9,8,7] <| .pure 7 <| .bq 3 (.pure 4 <| .bq 8 (.pure 9 <| .pure 10 <| .done) (.nil)) (.nil)),(26,.pure 0 <| .pure 5 <| .load 1 [10,9,8,4,3,2] <| .pure 2 <| .load 6 [10,9,8,7] <| .pure 7 <| .bq 3 (.pure 4 <| .bq 8 (.pure 9 <| .pure 10 <| .done) (.nil)) (.nil)),(30,.pure 0 <| .pure 4 <| .load 1 [7,6,3,2] <| .pure 2 <| .pure 3 <| .bq 5 (.pure 6 <| .pure 7 <| .done) (.nil))]
def P160:List (Nat × aT):=[]
def P36:List (Nat × aT):=[(3,.pure 0 <| .bq 1 (.bq 2 (.pure 3 <| .bq 4 (.pure 5 <| .pure 6 <| .done) (.nil)) (.nil)) (.cons 2 (.bq 1 (.pure 3 <| .bq 4 (.pure 5 <| .pure 6 <| .done) (.nil)) (.nil)) (.nil)))]
def P69:List (Nat × aT):=[]
def P37:List (Nat × aT):=[]
def P14:List (Nat × aT):=[]
def P17:List (Nat × aT):=[(7,.pure 0 <| .pure 2 <| .pure 3 <| .pure 4 <| .pure 6 <| .load 1 [9,8,7] <| .load 5 [9,8,7] <| .pure 7 <| .bq 8 (.pure 9 <| .done) (.nil)),(8,.pure 0 <| .pure 1 <| .pure 6 <| .pure 7 <| .pure 8 <| .load 2 [10,9,5,4,3] <| .bq 3 (.pure 4 <| .pure 5 <| .pure 9 <| .bq 10 (.done) (.nil)) (.nil)),(12,.pure 1 <| .pure 2 <| .pure 3 <| .pure 5 <| .pure 6 <| .pure 7 <| .pure 9 <| .pure 10 <| .pure 11 <| .load 0 [18,17,16,15,14,13] <| .load 4 [18,17,16,15,14,13] <| .load 8 [18,17,16,15,14,13] <| .load 12 [18,17,16,15,14,13] <| .bq 13 (.pure 14 <| .pure 15 <| .pure 16 <| .pure 17 <| .pure 18 <| .done) (.nil)),(13,.pure 0 <| .pure 1 <| .pure 2 <| .pure 4 <| .load 3 [13,12,10,9,8,7] <| .load 5 [13,12,10,9,8,7,6] <| .bq 6 (.bq 7 (.pure 8 <| .pure 9 <| .pure 10 <| .bq 11 (.bq 12 (.pure 13 <| .done) (.nil)) (.nil)) (.cons 11 (.bq 7 (.pure 8 <| .pure 9 <| .pure 10 <| .bq 12 (.pure 13 <| .done) (.nil)) (.nil)) (.nil))) (.cons 11 (.bq 6 (.bq 7 (.pure 8 <| .pure 9 <| .pure 10 <| .bq 12 (.pure 13 <| .done) (.nil)) (.nil)) (.nil)) (.nil))),(14,.pure 0 <| .pure 1 <| .pure 2 <| .pure 3 <| .pure 4 <| .pure 5 <| .pure 8 <| .pure 9 <| .pure 10 <| .load 6 [20,19,18,17,16,15,14,13,12] <| .load 7 [20,19,18,17,16,15] <| .load 11 [20,19,18,17,16,15,14,13,12] <| .pure 12 <| .pure 13 <| .bq 14 (.pure 15 <| .pure 16 <| .bq 17 (.pure 18 <| .pure 19 <| .bq 20 (.done) (.nil)) (.nil)) (.nil)),(15,.pure 0 <| .pure 1 <| .pure 2 <| .pure 4 <| .pure 5 <| .pure 6 <| .pure 7 <| .pure 8 <| .load 3 [15,14,13,12] <| .load 9 [15,14,13,12,11,10] <| .pure 10 <| .pure 11 <| .pure 12 <| .pure 13 <| .pure 14 <| .bq 15 (.done) (.nil)),(16,.pure 0 <| .pure 1 <| .pure 2 <| .pure 3 <| .pure 5 <| .pure 6 <| .pure 7 <| .pure 9 <| .pure 10 <| .load 4 [13,12,11] <| .load 8 [13,12,11] <| .pure 11 <| .bq 12 (.pure 13 <| .done) (.nil))]
def P43:List (Nat × aT):=[]
def P72:List (Nat × aT):=[(6,.pure 0 <| .pure 1 <| .pure 4 <| .pure 5 <| .load 2 [11,10,9,3] <| .pure 3 <| .load 6 [11,10,9,8,7] <| .pure 7 <| .pure 8 <| .pure 9 <| .pure 10 <| .pure 11 <| .done)]
def P38:List (Nat × aT):=[]
def P73:List (Nat × aT):=[]
def P74:List (Nat × aT):=[]
def kS:List (Nat × aT):=[]
def P136:List (Nat × aT):=[]
def P137:List (Nat × aT):=[]
def P138:List (Nat × aT):=[]
def P139:List (Nat × aT):=[]
def kk:List (Nat × aT):=[(5,.pure 0 <| .pure 2 <| .load 1 [7,6,5,4] <| .pure 4 <| .bq 3 (.bq 5 (.pure 6 <| .bq 7 (.done) (.nil)) (.nil)) (.nil)),(16,.pure 0 <| .pure 2 <| .pure 4 <| .load 1 [11,10,9,8,7,6] <| .pure 6 <| .bq 3 (.bq 5 (.bq 7 (.pure 8 <| .bq 9 (.pure 10 <| .bq 11 (.done) (.nil)) (.nil)) (.nil)) (.nil)) (.nil)),(18,.pure 0 <| .pure 2 <| .pure 4 <| .pure 6 <| .load 1 [15,14,13,12,11,10,9,8] <| .pure 8 <| .load 7 [15,14] <| .bq 3 (.bq 5 (.bq 9 (.pure 10 <| .bq 11 (.pure 12 <| .bq 13 (.pure 14 <| .bq 15 (.done) (.nil)) (.nil)) (.nil)) (.nil)) (.nil)) (.nil)),(22,.pure 0 <| .pure 2 <| .pure 4 <| .load 1 [11,10,9,8,7,6] <| .pure 6 <| .load 3 [11,10,9,8] <| .load 5 [11,10] <| .bq 7 (.pure 8 <| .bq 9 (.pure 10 <| .bq 11 (.done) (.nil)) (.nil)) (.nil)),(25,.pure 0 <| .pure 2 <| .pure 4 <| .pure 6 <| .load 1 [15,14,13,12,11,10,9,8] <| .pure 8 <| .load 3 [15,14,13,12,11,10] <| .load 5 [15,14,13,12] <| .bq 7 (.bq 9 (.pure 10 <| .bq 11 (.pure 12 <| .bq 13 (.pure 14 <| .bq 15 (.done) (.nil)) (.nil)) (.nil)) (.nil)) (.nil)),(27,.pure 0 <| .pure 2 <| .pure 4 <| .pure 6 <| .load 1 [15,14,13,12,11,10,9,8] <| .pure 8 <| .load 5 [15,14,13,12] <| .load 7 [15,14] <| .bq 3 (.bq 9 (.pure 10 <| .bq 11 (.pure 12 <| .bq 13 (.pure 14 <| .bq 15 (.done) (.nil)) (.nil)) (.nil)) (.nil)) (.nil)),(29,.pure 0 <| .pure 2 <| .load 1 [7,6,5,4] <| .pure 4 <| .load 3 [7,6] <| .bq 5 (.pure 6 <| .bq 7 (.done) (.nil)) (.nil))]
def P140:List (Nat × aT):=[]
def Wc:List (Nat × aT):=[]
def J6:List (Nat × aT):=[(5,.pure 0 <| .pure 2 <| .pure 4 <| .load 1 [11,10,9,8,7,6] <| .pure 6 <| .load 3 [11,10,9,8] <| .load 5 [11,10] <| .bq 7 (.pure 8 <| .bq 9 (.pure 10 <| .bq 11 (.done) (.nil)) (.nil)) (.nil)),(7,.pure 0 <| .pure 2 <| .load 1 [7,6,5,4] <| .pure 4 <| .load 3 [7,6] <| .bq 5 (.pure 6 <| .bq 7 (.done) (.nil)) (.nil)),(11,.pure 0 <| .pure 2 <| .load 1 [7,6,5,4] <| .pure 4 <| .load 3 [7,6] <| .bq 5 (.pure 6 <| .bq 7 (.done) (.nil)) (.nil))]
def OP:List (Nat × aT):=[(3,.pure 0 <| .pure 1 <| .pure 3 <| .pure 4 <| .pure 5 <| .pure 8 <| .load 2 [14,12] <| .bq 6 (.pure 7 <| .bq 9 (.pure 10 <| .bq 11 (.pure 12 <| .bq 13 (.bq 14 (.done) (.nil)) (.nil)) (.cons 13 (.bq 11 (.pure 12 <| .bq 14 (.done) (.nil)) (.nil)) (.nil))) (.cons 13 (.bq 9 (.pure 10 <| .bq 11 (.pure 12 <| .bq 14 (.done) (.nil)) (.nil)) (.nil)) (.nil))) (.cons 13 (.bq 6 (.pure 7 <| .bq 9 (.pure 10 <| .bq 11 (.pure 12 <| .bq 14 (.done) (.nil)) (.nil)) (.nil)) (.nil)) (.nil))),(5,.pure 0 <| .pure 2 <| .load 1 [7,6,5,4] <| .pure 4 <| .load 3 [7,6] <| .bq 5 (.pure 6 <| .bq 7 (.done) (.nil)) (.nil))]
def P144:List (Nat × aT):=[]
def P145:List (Nat × aT):=[]
def P44:List (Nat × aT):=[]
def P45:List (Nat × aT):=[]
def P75:List (Nat × aT):=[]
def P46:List (Nat × aT):=[]
def P76:List (Nat × aT):=[(8,.pure 0 <| .pure 1 <| .pure 4 <| .pure 5 <| .load 2 [10,9,8,7,3] <| .load 6 [10,9,8,7] <| .bq 3 (.bq 7 (.pure 8 <| .pure 9 <| .pure 10 <| .done) (.nil)) (.nil)),(19,.pure 0 <| .pure 1 <| .pure 4 <| .pure 5 <| .pure 8 <| .load 2 [13,12,11,10,7,3] <| .load 6 [13,12,11,10,7] <| .load 9 [13,12,11,10] <| .bq 3 (.bq 7 (.pure 10 <| .pure 11 <| .pure 12 <| .pure 13 <| .done) (.nil)) (.nil))]
def P105:List (Nat × aT):=[]
def P77:List (Nat × aT):=[(8,.pure 0 <| .pure 1 <| .pure 2 <| .pure 7 <| .pure 8 <| .pure 9 <| .pure 10 <| .pure 11 <| .pure 12 <| .load 3 [16,15,6,5,4] <| .pure 4 <| .pure 5 <| .load 6 [16,15] <| .load 13 [16,15,14] <| .bq 14 (.bq 15 (.pure 16 <| .done) (.nil)) (.nil))]
def P12:List (Nat × aT):=[]
def P106:List (Nat × aT):=[]
def P93:List (Nat × aT):=[]
def P107:List (Nat × aT):=[]
def P78:List (Nat × aT):=[(2,.pure 0 <| .pure 1 <| .pure 3 <| .pure 4 <| .pure 5 <| .load 6 [12,11,10,9,8,7] <| .pure 7 <| .pure 8 <| .bq 2 (.pure 9 <| .pure 10 <| .pure 11 <| .bq 12 (.done) (.nil)) (.nil)),(8,.pure 0 <| .pure 1 <| .pure 2 <| .pure 7 <| .pure 8 <| .pure 9 <| .load 3 [12,11,6,5,4] <| .pure 4 <| .pure 5 <| .load 6 [12,11] <| .bq 10 (.bq 11 (.pure 12 <| .done) (.nil)) (.nil))]
def P79:List (Nat × aT):=[]
def P109:List (Nat × aT):=[]
def P80:List (Nat × aT):=[]
def P110:List (Nat × aT):=[]
def P111:List (Nat × aT):=[(5,.pure 0 <| .pure 1 <| .pure 2 <| .pure 3 <| .pure 6 <| .pure 7 <| .pure 8 <| .pure 9 <| .load 4 [12,11,5] <| .pure 5 <| .pure 11 <| .load 10 [12] <| .pure 12 <| .done),(10,.pure 0 <| .pure 1 <| .pure 2 <| .pure 3 <| .pure 5 <| .pure 6 <| .pure 7 <| .pure 8 <| .load 4 [15,14,13,12,11,10] <| .load 9 [15,14,13,12,11,10] <| .bq 10 (.pure 11 <| .pure 12 <| .pure 13 <| .pure 14 <| .pure 15 <| .done) (.nil)),(15,.pure 0 <| .pure 1 <| .pure 2 <| .pure 3 <| .pure 5 <| .pure 6 <| .pure 7 <| .pure 8 <| .pure 9 <| .pure 12 <| .pure 13 <| .pure 14 <| .pure 15 <| .pure 17 <| .pure 18 <| .pure 19 <| .pure 20 <| .load 4 [29,28,27,26,25,24,23,22] <| .load 10 [29,28,27,26,25,24,23,22,11] <| .load 16 [29,28,27,26,25,24,23,22] <| .load 21 [29,28,27,26,25,24,23,22] <| .bq 11 (.bq 22 (.pure 23 <| .pure 24 <| .pure 25 <| .pure 26 <| .pure 27 <| .pure 28 <| .pure 29 <| .done) (.nil)) (.nil)),(17,.pure 0 <| .pure 1 <| .pure 2 <| .pure 3 <| .pure 4 <| .pure 7 <| .pure 8 <| .pure 9 <| .pure 10 <| .load 5 [13,12,6] <| .load 11 [13] <| .bq 6 (.pure 12 <| .pure 13 <| .done) (.nil))]
def P112:List (Nat × aT):=[]
def P149:List (Nat × aT):=[]
def P116:List (Nat × aT):=[]
def P81:List (Nat × aT):=[]
def P113:List (Nat × aT):=[]
def P82:List (Nat × aT):=[(8,.pure 0 <| .pure 1 <| .pure 4 <| .pure 5 <| .pure 8 <| .load 2 [10,3] <| .pure 3 <| .load 6 [10,7] <| .load 9 [10] <| .bq 7 (.bq 10 (.done) (.nil)) (.nil)),(12,.pure 0 <| .pure 1 <| .pure 4 <| .pure 5 <| .pure 8 <| .load 2 [9,3] <| .pure 3 <| .load 6 [9,7] <| .bq 7 (.bq 9 (.done) (.nil)) (.nil)),(19,.pure 0 <| .pure 1 <| .pure 4 <| .pure 5 <| .pure 8 <| .load 2 [9,3] <| .pure 3 <| .load 6 [9,7] <| .bq 7 (.bq 9 (.done) (.nil)) (.nil))]
def P114:List (Nat × aT):=[]
def P83:List (Nat × aT):=[(2,.pure 0 <| .pure 1 <| .pure 4 <| .pure 5 <| .load 2 [9,8,7,3] <| .load 6 [9,8,7] <| .bq 3 (.bq 7 (.pure 8 <| .pure 9 <| .done) (.nil)) (.nil)),(13,.pure 0 <| .pure 1 <| .pure 3 <| .pure 4 <| .pure 5 <| .load 2 [9] <| .load 6 [9,8,7] <| .bq 7 (.pure 8 <| .bq 9 (.done) (.nil)) (.nil)),(15,.pure 0 <| .pure 1 <| .pure 3 <| .pure 4 <| .pure 7 <| .load 2 [9] <| .load 5 [9,8,6] <| .bq 6 (.pure 8 <| .bq 9 (.done) (.nil)) (.nil)),(24,.pure 0 <| .pure 1 <| .pure 3 <| .pure 4 <| .pure 5 <| .pure 6 <| .pure 7 <| .pure 8 <| .pure 9 <| .load 2 [10] <| .bq 10 (.done) (.nil)),(26,.pure 0 <| .pure 1 <| .pure 3 <| .load 2 [6] <| .bq 4 (.pure 5 <| .bq 6 (.done) (.nil)) (.nil))]
def P117:List (Nat × aT):=[]
def P84:List (Nat × aT):=[(6,.pure 0 <| .pure 1 <| .pure 3 <| .pure 5 <| .pure 6 <| .pure 9 <| .pure 10 <| .load 2 [15] <| .load 4 [15,14] <| .load 7 [15,14,13,12,8] <| .load 11 [15,14,13,12] <| .bq 8 (.bq 12 (.pure 13 <| .bq 14 (.bq 15 (.done) (.nil)) (.nil)) (.nil)) (.nil)),(8,.pure 0 <| .pure 1 <| .pure 3 <| .pure 5 <| .pure 6 <| .load 2 [10] <| .load 4 [10,9] <| .load 7 [10,9,8] <| .bq 8 (.bq 9 (.bq 10 (.done) (.nil)) (.nil)) (.nil)),(12,.pure 0 <| .pure 1 <| .pure 3 <| .pure 4 <| .pure 8 <| .pure 9 <| .load 2 [11] <| .load 5 [11,10,7,6] <| .bq 6 (.pure 7 <| .pure 10 <| .bq 11 (.done) (.nil)) (.nil)),(14,.pure 0 <| .pure 1 <| .pure 3 <| .pure 4 <| .pure 7 <| .load 2 [9] <| .load 5 [9,8,6] <| .bq 6 (.pure 8 <| .bq 9 (.done) (.nil)) (.nil)),(16,.pure 0 <| .pure 1 <| .pure 3 <| .pure 4 <| .pure 7 <| .load 2 [9] <| .load 5 [9,8,6] <| .bq 6 (.pure 8 <| .bq 9 (.done) (.nil)) (.nil)),(18,.pure 0 <| .pure 1 <| .pure 3 <| .pure 5 <| .load 2 [7] <| .bq 4 (.pure 6 <| .bq 7 (.done) (.nil)) (.nil))]
def P119:List (Nat × aT):=[]
def P85:List (Nat × aT):=[(6,.pure 0 <| .pure 1 <| .pure 2 <| .pure 3 <| .pure 5 <| .load 4 [10,9,8,7] <| .load 6 [10,9,8,7] <| .bq 7 (.pure 8 <| .pure 9 <| .bq 10 (.done) (.nil)) (.nil)),(9,.pure 0 <| .pure 1 <| .pure 3 <| .load 4 [7,6,5] <| .pure 5 <| .bq 2 (.pure 6 <| .bq 7 (.done) (.nil)) (.nil)),(12,.pure 0 <| .pure 1 <| .pure 3 <| .load 4 [7,6,5] <| .pure 5 <| .bq 2 (.pure 6 <| .bq 7 (.done) (.nil)) (.nil))]
def mB:List (Nat × aT):=[]
def P47:List (Nat × aT):=[]
def P87:List (Nat × aT):=[]
def P88:List (Nat × aT):=[]
def P48:List (Nat × aT):=[(3,.pure 1 <| .load 0 [8,7,6,5,4,3] <| .bq 2 (.bq 3 (.pure 4 <| .pure 5 <| .pure 6 <| .bq 7 (.pure 8 <| .done) (.nil)) (.nil)) (.nil)),(6,.pure 1 <| .pure 2 <| .load 0 [9,8,7,6,5,4] <| .bq 3 (.bq 4 (.pure 5 <| .pure 6 <| .pure 7 <| .bq 8 (.pure 9 <| .done) (.nil)) (.nil)) (.nil))]
def P89:List (Nat × aT):=[]
def P91:List (Nat × aT):=[]
def P90:List (Nat × aT):=[]
def P13:List (Nat × aT):=[]
def P39:List (Nat × aT):=[]
def tC:List (Nat × aT):=[(5,.pure 0 <| .pure 1 <| .pure 2 <| .pure 4 <| .load 3 [7] <| .load 5 [7,6] <| .pure 6 <| .pure 7 <| .done),(10,.pure 0 <| .pure 1 <| .pure 2 <| .pure 4 <| .load 3 [7] <| .load 5 [7,6] <| .pure 6 <| .pure 7 <| .done),(16,.pure 0 <| .pure 1 <| .pure 3 <| .pure 4 <| .pure 5 <| .load 2 [10,9,8,7] <| .load 6 [10,9,8,7] <| .pure 7 <| .load 8 [10,9] <| .pure 9 <| .bq 10 (.done) (.nil)),(18,.pure 1 <| .pure 3 <| .load 0 [10,9,8] <| .load 2 [10,9,8,7,6,5] <| .load 4 [10,9,8,7,6,5] <| .pure 5 <| .bq 6 (.pure 7 <| .bq 8 (.pure 9 <| .pure 10 <| .done) (.nil)) (.nil)),(20,.pure 1 <| .load 0 [9,8,7] <| .load 2 [9,8,7,6,5,4,3] <| .pure 3 <| .bq 4 (.pure 5 <| .pure 6 <| .bq 7 (.pure 8 <| .pure 9 <| .done) (.nil)) (.nil))]
def P40:List (Nat × aT):=[]
def P41:List (Nat × aT):=[]
def P70:List (Nat × aT):=[]
def P42:List (Nat × aT):=[(8,.pure 0 <| .pure 3 <| .pure 4 <| .pure 5 <| .pure 6 <| .pure 7 <| .pure 8 <| .pure 9 <| .pure 10 <| .pure 11 <| .pure 12 <| .pure 13 <| .pure 14 <| .pure 15 <| .pure 16 <| .pure 17 <| .pure 18 <| .pure 19 <| .pure 20 <| .pure 21 <| .pure 22 <| .pure 23 <| .pure 24 <| .pure 25 <| .pure 26 <| .pure 27 <| .pure 28 <| .pure 30 <| .pure 31 <| .pure 33 <| .pure 34 <| .pure 36 <| .pure 37 <| .pure 38 <| .pure 39 <| .pure 40 <| .pure 41 <| .pure 42 <| .pure 43 <| .pure 46 <| .pure 47 <| .pure 50 <| .pure 51 <| .pure 54 <| .pure 55 <| .pure 56 <| .pure 58 <| .pure 59 <| .pure 60 <| .pure 62 <| .pure 63 <| .pure 64 <| .pure 65 <| .pure 66 <| .pure 67 <| .pure 68 <| .pure 69 <| .pure 70 <| .pure 72 <| .pure 73 <| .pure 74 <| .pure 75 <| .pure 76 <| .pure 77 <| .pure 78 <| .pure 79 <| .pure 80 <| .pure 81 <| .pure 82 <| .pure 83 <| .pure 84 <| .pure 85 <| .load 1 [92,90,2] <| .pure 2 <| .load 44 [92,90,71,61,57,53,49,45] <| .load 48 [92,90,71,61,57,53,49] <| .load 52 [92,90,71,61,57,53] <| .load 86 [92,90,89,88,87] <| .pure 87 <| .pure 88 <| .pure 89 <| .bq 29 (.bq 32 (.bq 35 (.bq 45 (.bq 49 (.bq 53 (.bq 57 (.bq 61 (.bq 71 (.pure 90 <| .bq 91 (.bq 92 (.done) (.nil)) (.nil)) (.cons 91 (.bq 71 (.pure 90 <| .bq 92 (.done) (.nil)) (.nil)) (.nil))) (.cons 91 (.bq 61 (.bq 71 (.pure 90 <| .bq 92 (.done) (.nil)) (.nil)) (.nil)) (.nil))) (.cons 91 (.bq 57 (.bq 61 (.bq 71 (.pure 90 <| .bq 92 (.done) (.nil)) (.nil)) (.nil)) (.nil)) (.nil))) (.cons 91 (.bq 53 (.bq 57 (.bq 61 (.bq 71 (.pure 90 <| .bq 92 (.done) (.nil)) (.nil)) (.nil)) (.nil)) (.nil)) (.nil))) (.cons 91 (.bq 49 (.bq 53 (.bq 57 (.bq 61 (.bq 71 (.pure 90 <| .bq 92 (.done) (.nil)) (.nil)) (.nil)) (.nil)) (.nil)) (.nil)) (.nil))) (.cons 91 (.bq 45 (.bq 49 (.bq 53 (.bq 57 (.bq 61 (.bq 71 (.pure 90 <| .bq 92 (.done) (.nil)) (.nil)) (.nil)) (.nil)) (.nil)) (.nil)) (.nil)) (.nil))) (.cons 91 (.bq 35 (.bq 45 (.bq 49 (.bq 53 (.bq 57 (.bq 61 (.bq 71 (.pure 90 <| .bq 92 (.done) (.nil)) (.nil)) (.nil)) (.nil)) (.nil)) (.nil)) (.nil)) (.nil)) (.nil))) (.cons 91 (.bq 32 (.bq 35 (.bq 45 (.bq 49 (.bq 53 (.bq 57 (.bq 61 (.bq 71 (.pure 90 <| .bq 92 (.done) (.nil)) (.nil)) (.nil)) (.nil)) (.nil)) (.nil)) (.nil)) (.nil)) (.nil)) (.nil))) (.cons 91 (.bq 29 (.bq 32 (.bq 35 (.bq 45 (.bq 49 (.bq 53 (.bq 57 (.bq 61 (.bq 71 (.pure 90 <| .bq 92 (.done) (.nil)) (.nil)) (.nil)) (.nil)) (.nil)) (.nil)) (.nil)) (.nil)) (.nil)) (.nil)) (.nil)))]
def P71:List (Nat × aT):=[]
def P18:List (Nat × aT):=[]
def P19:List (Nat × aT):=[]
def P5:List (Nat × aT):=[(38,.pure 0 <| .pure 1 <| .pure 2 <| .pure 4 <| .pure 6 <| .load 3 [9] <| .load 5 [9,8,7] <| .pure 7 <| .load 8 [9] <| .pure 9 <| .done)]
def P22:List (Nat × aT):=[]
end Go.Proofs.YtlgkljpgagfndaaGreatDoor.Pw

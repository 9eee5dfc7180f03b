/- What this claim is proved with: no condition. -/
import Derived.Test.YtnbhdacpogplgaaGreatDoorPn8
import Derived.Test.YtnbhdacpogplgaaGreatDoorPn2
import Derived.Deep.Slices
import Derived.Below
import Derived.OpenShut
import Derived.LaidLaws
import Derived.ChangeArms
import Derived.MakeChecks
import Derived.Stop.Joined
import Derived.Test.YtnbhdacpogplgaaGreatDoorPn7
set_option linter.unusedVariables false
set_option linter.unusedSimpArgs false
namespace Go.Proofs.YtnbhdacpogplgaaGreatDoor.Pw
open Go Go.RowKit
section
variable {w w':World} {I I':Nat->Prop} {β aG:au} {G:Gx} {s:aL} {a:Act} {st cA:List aj}
def ai (G:Gx) (f:FuncId) (args:List PV) (r:PV):Prop:=Spec G f args [] [] fun r' _=>r'=r
theorem iE {x:PV} {v:Value} (h:x.bW = []) (hx:x.Is w I β v):x.Is w I aG v:=PV.Is.mono (fun _ h=>h) (fun _ _=>rfl) x β aG v (fun l p hl=>by rw[h] at hl; cases hl) hx
theorem gn {xs:List PV} {vs:List Value} (h:ct xs = []) (hx:aU w I xs β vs):aU w I xs aG vs:=aU.mono (fun _ h=>h) (fun _ _=>rfl) xs β aG vs (fun l p hl=>by rw[h] at hl; cases hl) hx
theorem ai.use {f:FuncId} {args aR:List PV} {r:PV} {S:List aj} {K:PV->List aj->Prop} (h:ai G f aR r) (hle:iC kq args aR) (hu:ct aR = []) (hr:r.bW = []) (hK:K r S):Spec G f args S [] K:=by
 refine Spec.intro h.run.1 fun I β w aS hH hM hA=>?_
 have h0:aB I (fun _=>none) ([]:List aj) w:=⟨fun _ _=>rfl,fun l b hl=>by simp at hl⟩
 refine (h.run.2 I (fun _=>none) w aS h0 hM (gn hu (eR (fun _ _=>cX) hle hA))).mono fun e w' ⟨v,r',S',I',aG,he,qw,hi,_,iF,hE,_,_⟩=>?_
 subst qw
 have yc:∀ g,¬ Wr (fun _=>none) ([]:List aj) g:=fun g ⟨l,b,p,o,h1,_⟩=>by simp at h1
 have hold:∀ g,g < w.heap.size->w'.heap[g]?=w.heap[g]?:=fun g hg=>hE.block g hg (yc g)
 have zo:∀ g,g < w.heap.size->I' g->I g:=fun g hg h=>(hE.new g hg h).elim id fun h=>absurd h (yc g)
 refine⟨v,r',S,I',β,he,hK,iE hr hi,⟨hH.jE,fun l b hl ax=>?_⟩,iF,⟨hE.os,hE.tape,hE.output,hE.size,fun g hg _=>hold g hg,fun g _ h=>h,hE.av,fun g hg h=>.inl (zo g hg h)⟩,Nat.le_refl _,fun _ _ _=>rfl⟩
 have hb:=hH.dX l b hl ax
 refine hb.mono hE.av (fun g hg=>hold g (hM.av g hg)) (fun _ _ h=>h) fun p g o hp ha=>?_
 obtain⟨arr,ty,fr,hh,ho⟩:=hb.place hp ha
 have bA:=bX hh
 exact⟨hold g bA,fun hr=>⟨fun hI=>(ho.1 hr).2.1 (zo g bA hI),(ho.1 hr).2.2⟩⟩
theorem ai.u {P:Nat->Prop} {f:FuncId} {args aR:List PV} {r:PV} {S:List aj} {K:List Nat->PV->List aj->Prop} (h:ai G f aR r) (hK:K [] r S) (hle:iC kq args aR:=by repeat' first|exact trivial|exact rfl|exact Iff.rfl|exact Or.inl rfl|refine And.intro ?_ ?_) (hu:ct aR = []:=by rfl) (hr:r.bW = []:=by rfl):∃ rl:List Nat,(∀ l,l∈rl->P l)/\Spec G f args S rl (K rl):=⟨[],fun _ hl=>(by cases hl),h.use hle hu hr hK⟩
theorem Spec.args {f:FuncId} {args aR:List PV} {S:List aj} {rl:List Nat} {K:PV->List aj->Prop} (h:Spec G f aR S rl K) (hle:iC kq args aR):Spec G f args S rl K :=
 Spec.intro h.run.1 fun I β w aS hH hM hA=>h.run.2 I β w aS hH hM (eR (fun _ _=>cX) hle hA)
theorem al {r r0:PV} (h:kq r r0):∃ r',oH r r'/\r'=r0:=⟨r0,cX h,rfl⟩
theorem rA {r r0:PV} (h:kq r r0:=by repeat' first|exact trivial|exact rfl|exact Iff.rfl|exact Or.inl rfl|refine And.intro ?_ ?_):∃ r',oH r r'/\r'=r0:=al h
theorem aA {z:Int} (h:-9223372036854775808<=z/\z<=9223372036854775807):qu .i64 z:=by unfold qu Ev.gN Ev.gF; simp only[IntKind.signed,IntKind.bits]; simpa using h
theorem ah {z:Int} (h:0<=z/\z<=4294967295):qu .u32 z:=by unfold qu Ev.gN Ev.gF; simp only[IntKind.signed,IntKind.bits]; simpa using h
theorem cH {z:Int} (h:0<=z/\z<=18446744073709551615):qu .u64 z:=by unfold qu Ev.gN Ev.gF; simp only[IntKind.signed,IntKind.bits]; simpa using h
theorem dF {z:Int} (h:0<=z/\z<=255):qu .u8 z:=by unfold qu Ev.gN Ev.gF; simp only[IntKind.signed,IntKind.bits]; simpa using h
theorem li {z:Int} {P Q:Prop} (hP:P) (h:-9223372036854775808<=z/\z<=9223372036854775807:=by omega):(qu .i64 z/\P)\/Q:=.inl ⟨aA h,hP⟩
theorem lu {z:Int} {P Q:Prop} (hP:P) (h:0<=z/\z<=4294967295:=by omega):(qu .u32 z/\P)\/Q:=.inl ⟨ah h,hP⟩
end
open Go
noncomputable def bt:List (Nat × Nat):=[(3,Tryz.t3.bytes),(42,Tryz.t42.bytes),(30,Tryz.t30.bytes),(37,Tryz.t37.bytes),(27,Tryz.t27.bytes),(110,Tryz.t110.bytes),(108,Tryz.t108.bytes),(24,Tryz.t24.bytes),(40,Tryz.t40.bytes),(28,Tryz.t28.bytes),(70,Tryz.t70.bytes),(31,Tryz.t31.bytes),(39,Tryz.t39.bytes),(35,Tryz.t35.bytes),(61,Tryz.t61.bytes),(56,Tryz.t56.bytes),(25,Tryz.t25.bytes),(4,Tryz.t4.bytes),(34,Tryz.t34.bytes),(106,Tryz.t106.bytes),(95,Tryz.t95.bytes),(87,Tryz.t87.bytes),(22,Tryz.t22.bytes),(91,Tryz.t91.bytes),(148,Tryz.t148.bytes),(128,Tryz.t128.bytes),(63,Tryz.t63.bytes),(58,Tryz.t58.bytes),(5,Tryz.t5.bytes),(104,Tryz.t104.bytes),(59,Tryz.t59.bytes),(9,Tryz.t9.bytes),(159,Tryz.t159.bytes),(82,Tryz.t82.bytes),(138,Tryz.t138.bytes),(165,Tryz.t165.bytes),(129,Tryz.t129.bytes),(76,Tryz.t76.bytes)]
theorem Mq:∀ p∈bt,∃ i,Tryz.prog.info? p.1=some i/\i.bytes=p.2 :=
 Ev.all_cons ⟨Tryz.t3,by kernel_rfl,rfl⟩ <|
 Ev.all_cons ⟨Tryz.t42,by kernel_rfl,rfl⟩ <|
 Ev.all_cons ⟨Tryz.t30,by kernel_rfl,rfl⟩ <|
 Ev.all_cons ⟨Tryz.t37,by kernel_rfl,rfl⟩ <|
 Ev.all_cons ⟨Tryz.t27,by kernel_rfl,rfl⟩ <|
 Ev.all_cons ⟨Tryz.t110,by kernel_rfl,rfl⟩ <|
 Ev.all_cons ⟨Tryz.t108,by kernel_rfl,rfl⟩ <|
 Ev.all_cons ⟨Tryz.t24,by kernel_rfl,rfl⟩ <|
 Ev.all_cons ⟨Tryz.t40,by kernel_rfl,rfl⟩ <|
 Ev.all_cons ⟨Tryz.t28,by kernel_rfl,rfl⟩ <|
 Ev.all_cons ⟨Tryz.t70,by kernel_rfl,rfl⟩ <|
 Ev.all_cons ⟨Tryz.t31,by kernel_rfl,rfl⟩ <|
 Ev.all_cons ⟨Tryz.t39,by kernel_rfl,rfl⟩ <|
 Ev.all_cons ⟨Tryz.t35,by kernel_rfl,rfl⟩ <|
 Ev.all_cons ⟨Tryz.t61,by kernel_rfl,rfl⟩ <|
 Ev.all_cons ⟨Tryz.t56,by kernel_rfl,rfl⟩ <|
 Ev.all_cons ⟨Tryz.t25,by kernel_rfl,rfl⟩ <|
 Ev.all_cons ⟨Tryz.t4,by kernel_rfl,rfl⟩ <|
 Ev.all_cons ⟨Tryz.t34,by kernel_rfl,rfl⟩ <|
 Ev.all_cons ⟨Tryz.t106,by kernel_rfl,rfl⟩ <|
 Ev.all_cons ⟨Tryz.t95,by kernel_rfl,rfl⟩ <|
 Ev.all_cons ⟨Tryz.t87,by kernel_rfl,rfl⟩ <|
 Ev.all_cons ⟨Tryz.t22,by kernel_rfl,rfl⟩ <|
 Ev.all_cons ⟨Tryz.t91,by kernel_rfl,rfl⟩ <|
 Ev.all_cons ⟨Tryz.t148,by kernel_rfl,rfl⟩ <|
 Ev.all_cons ⟨Tryz.t128,by kernel_rfl,rfl⟩ <|
 Ev.all_cons ⟨Tryz.t63,by kernel_rfl,rfl⟩ <|
 Ev.all_cons ⟨Tryz.t58,by kernel_rfl,rfl⟩ <|
 Ev.all_cons ⟨Tryz.t5,by kernel_rfl,rfl⟩ <|
 Ev.all_cons ⟨Tryz.t104,by kernel_rfl,rfl⟩ <|
 Ev.all_cons ⟨Tryz.t59,by kernel_rfl,rfl⟩ <|
 Ev.all_cons ⟨Tryz.t9,by kernel_rfl,rfl⟩ <|
 Ev.all_cons ⟨Tryz.t159,by kernel_rfl,rfl⟩ <|
 Ev.all_cons ⟨Tryz.t82,by kernel_rfl,rfl⟩ <|
 Ev.all_cons ⟨Tryz.t138,by kernel_rfl,rfl⟩ <|
 Ev.all_cons ⟨Tryz.t165,by kernel_rfl,rfl⟩ <|
 Ev.all_cons ⟨Tryz.t129,by kernel_rfl,rfl⟩ <|
 Ev.all_cons ⟨Tryz.t76,by kernel_rfl,rfl⟩ <| Ev.all_nil
noncomputable def Mr (jh:List (Nat × List PV)):Gx:={ cx:=Ev.LS [] [],jh:=jh,bt:=bt }
theorem Ms (jh:List (Nat × List PV)):lX (Mr jh):=⟨Ev.PR [] [],Mq⟩
def FZ:List PV:=[.lit .u32 1,.lit .u32 65537,.lit .u32 16777472,.lit .u32 16843009]
def S6:List PV:=[0,1,1,1,2,2,3,3,4,4,4,4,5,5,5,5,5,5,5,5,5,5,5,5,5,5,5,5,6,6,6,7,8,2,2,9,9,8,8,8,10,10,11,12,13,14,15,16,17,17,18,18,18,18,18,18,18,18,18,18,19,19,20,20,20,20,21,21,21,21,21,21,21,21,21,21,22,22,23,23,23,23,24,24,25,25,26,26,27,27,27,27,28,29,30,31,31,28,32,33,34].map (.lit .i64)
def mS (a b c d e:Bool) (m n:Int):List PV:=[bif a then .tt else .ff,bif b then .tt else .ff,bif c then .tt else .ff,bif d then .tt else .ff,bif e then .tt else .ff,.lit .i64 m,.lit .i64 n]
def zp:List PV:=mS false false false false false 0 0++mS false false false false true 0 0++mS false false false false false 0 2147483647++mS true false false false false 2 2++mS true true true false false 1 1++mS true false false true false 1 1++mS true true false false false 0 0
noncomputable def gT:Gx:={ Mr [(2,FZ),(1,S6),(0,zp)] with ext:=[114] }
theorem aw:lX gT:=⟨(Ms []).ok,(Ms []).ba⟩
section
variable {w w':World} {I I':Nat->Prop} {β aG:au} {G:Gx} {s:aL} {a:Act} {st cA:List aj}
theorem aB.zq (hH:aB I β [] w) (w':World) (I':Nat->Prop):aB I' β [] w':=⟨hH.jE,fun l b hl=>by simp at hl⟩
theorem cg.below (hM:cg G I w) (hB:Below w.heap.size w w'):cg G I w' :=
 ⟨fun g hg=>Nat.lt_of_lt_of_le (hM.av g hg) hB.size,fun g cs h=>⟨(hM.mg g cs h).1,bQ.mono (fun _ h=>h) (fun g hg=>hB.block g (hM.av g hg)) _ _ _ (hB.block g (hM.av g (hM.mg g cs h).1)) (hM.mg g cs h).2⟩,fun g cs h=>by
  obtain⟨arr,ty,fr,h1,h2⟩:=hM.row g cs h
  exact⟨arr,ty,fr,(hB.block g (hM.av g (hM.mg g cs h).1)).trans h1,h2⟩⟩
theorem ai.rG {f:FuncId} {args:List PV} {r:PV} (he:Ev.fB G.cx.P f) (vs:List Value) (v:Value) (ha:∀ w I β aS,aU w I args β aS->aS=vs) (hr:∀ w I β,r.Is w I β v)
  (h:∀ w,Calls G.cx.P f vs.toArray w fun e w'=>e = .returned v/\Below w.heap.size w w'):ai G f args r:=by
 refine Spec.intro he fun I β w aS hH hM hA=>?_
 rw[ha _ _ _ _ hA]
 refine (h w).mono fun e w' ⟨he,hB⟩=>⟨v,r,[],I,β,he,rfl,hr _ _ _,hH.zq _ _,hM.below hB,⟨hB.os,hB.tape,hB.output,hB.size,fun g hg _=>hB.block g hg,fun g _ h=>h,fun _ h=>h,fun _ _ h=>.inl h⟩,Nat.le_refl _,fun _ _ _=>rfl⟩
theorem ai.of_same {f:FuncId} {args:List PV} {r:PV} (he:Ev.fB G.cx.P f) (vs:List Value) (v:Value) (ha:∀ w I β aS,aU w I args β aS->aS=vs) (hr:∀ w I β,r.Is w I β v)
  (h:∀ w,Calls G.cx.P f vs.toArray w fun e w'=>e = .returned v/\w'=w):ai G f args r :=
 ai.rG he vs v ha hr fun w=>(h w).mono fun e w' ⟨h1,h2⟩=>⟨h1,h2 ▸ Below.refl _ _⟩
theorem ai.calls {f:FuncId} {args:List PV} {r:PV} {aS:List Value} (h:ai G f args r) (hM:cg G I w) (hA:aU w I args (fun _=>none) aS) (v:Value) (hr:∀ w' I' aG v',r.Is w' I' aG v'->v'=v) :
  Calls G.cx.P f aS.toArray w fun e w'=>e = .returned v/\Below w.heap.size w w':=by
 have h0:aB I (fun _=>none) ([]:List aj) w:=⟨fun _ _=>rfl,fun l b hl=>by simp at hl⟩
 refine (h.run.2 I (fun _=>none) w aS h0 hM hA).mono fun e w' ⟨v',r',S',I',aG,he,qw,hi,_,iF,hE,_,_⟩=>?_
 subst qw
 rw[hr _ _ _ _ hi] at he
 exact⟨he,hE.os,hE.tape,hE.output,hE.size,fun g hg=>hE.block g hg fun ⟨l,b,p,o,h1,_⟩=>by simp at h1⟩
theorem CA (w':World) (I':Nat->Prop) (aG:au) (v':Value) (h:PV.tt.Is w' I' aG v'):v' = .bool true:=by simpa [PV.Is] using h
end
def In (w:World) (g:Nat):Prop:=g < w.heap.size
abbrev no:au:=fun _=>none
def Op (P:Program) (t:TypeId) (S:PV->Prop):Prop:=∀ {H:Type} (e:TypeId × Value->H) (w:World) (base:Nat) (held:Bool) (fuel:Nat) (cs:List Value) (x:DataW H × List MemPlace),
 DataW.trod e P w base (fun _=>true) held fuel t cs=some x->(∀ n∈x.1.weights P t,n<=reachBytes)->∃ y,S y/\(∀ vs,y≠.tup vs)/\aU w (In w) y.cells no cs/\cs.length=P.cellsOf t/\∀ c∈cs,c.oneCell'=true
def SInt (k:IntKind) (x:PV):Prop:=∃ z,qu k z/\x = .int k z
def Pq (n b:Nat) (S:PV->Prop) (x:PV):Prop:=∃ es:List PV,(es.length<=maxLen/\es.length*b<=reachBytes)/\(∀ e∈es,S e)/\x = .sl n es
def EL:List (PV->Prop)->List PV->Prop
 | [],[]=>True
 | S::Ss,x::xs=>S x/\EL Ss xs
 | _,_=>False
def Mt (Ss:List (PV->Prop)) (x:PV):Prop:=∃ xs,EL Ss xs/\x = .agg (xs.flatMap PV.cells)
section
variable {P:Program} {t e:TypeId}
theorem F0 {k:IntKind} {z:Int} (h:(Lit.int k z).wf=true):qu k z:=by
 unfold qu
 cases k<;>simp_all [Lit.wf,Ev.gN,Ev.gF,IntKind.min,IntKind.max,IntKind.signed,IntKind.bits]<;>omega
theorem EM {k:IntKind} (ht:P.underlying t=some (.int k)) (hc:P.cellsOf t=1):Op P t (SInt k):=fun e w base held fuel cs x h zr=>by
 obtain⟨n,rfl,_,hw⟩:=DataW.trod_int ht h
 exact⟨.int k n,⟨n,F0 hw,rfl⟩,nofun,aU.one (by simp only[PV.Is]),by rw[hc]; rfl,fun c hc=>by simp only[List.mem_singleton] at hc; subst hc; rfl⟩
theorem lp {α:Type _} {p:Nat->α->Prop}:∀ n:Nat,(∀ i,i < n->∃ y,p i y)->∃ l:List α,l.length=n/\∀ i y,l[i]?=some y->p i y
 | 0,_=>⟨[],rfl,fun i y h=>by simp at h⟩
 | n+1,h=>by
  obtain⟨l,hl,hp⟩:=lp (p:=p) n fun i hi=>h i (by omega)
  obtain⟨y,hy⟩:=h n (by omega)
  refine⟨l++[y],by simp[hl],fun i z hz=>?_⟩
  rw[List.getElem?_append] at hz
  split at hz
  ·exact hp i z hz
  ·rename_i Mb
   have h0:i - l.length=0:=by
    have:=(List.getElem?_eq_some_iff.1 hz).1
    simp at this; omega
   rw[h0] at hz
   simp only[List.getElem?_cons_zero,Option.some.injEq] at hz
   subst hz
   have:i=n:=by omega
   subst this; exact hy
theorem lq {H:Type} {n:Nat}:∀ {l:List (DataW H)} {d:DataW H},d∈l->n∈d.weights P e->n∈DataW.weightsAll P e l
 | [],_,h,_=>by cases h
 | a::l,d,h,hn=>by
  simp only[DataW.weightsAll,List.mem_append]
  rcases List.mem_cons.1 h with rfl|h
  ·exact .inl hn
  ·exact .inr (lq h hn)
theorem j8 {H:Type} {n:Nat}:∀ {ts:List TypeId} {l:List (DataW H)} {i:Nat} {t:TypeId} {d:DataW H},ts[i]?=some t->l[i]?=some d->n∈d.weights P t->n∈DataW.weightsEach P ts l
 | [],_,_,_,_,h,_,_=>by simp at h
 | _::_,[],_,_,_,_,h,_=>by simp at h
 | u::ts,a::l,0,t,d,h,h',hn=>by
  simp only[List.getElem?_cons_zero,Option.some.injEq] at h h'
  subst h; subst h'
  simp only[DataW.weightsEach,List.mem_append]
  exact .inl hn
 | u::ts,a::l,i+1,t,d,h,h',hn=>by
  simp only[DataW.weightsEach,List.mem_append]
  exact .inr (j8 (by simpa using h) (by simpa using h') hn)
theorem CB {S:PV->Prop} (he:Op P e S) (n b:Nat) (U5:P.bytesOf e=b) (ht:P.underlying t=some (.slice e)) (hn:P.cellsOf e=n) (h0:0 < n) (hc:P.cellsOf t=1):Op P t (Pq n b S):=fun {H} ec w base held fuel cs x h zr=>by
 subst hn
 subst U5
 rcases Deep.open_slice ht h with ⟨rfl,_⟩|⟨a,len,cap,m,k,D,Pl,rfl,hb,hl,hm,qA,rfl,hx⟩
 ·exact⟨.sl _ [],⟨[],⟨by simp,by simp⟩,fun _ h=>by simp at h,rfl⟩,nofun,aU.one (by simp only[PV.Is]; exact⟨none,0,rfl,Nat.le_refl _,by simp,fun _ _ h=>by simp at h,fun h=>absurd rfl h⟩),by rw[hc]; rfl,fun c hc=>by simp only[List.mem_singleton] at hc; subst hc; rfl⟩
 ·simp only[if_true] at qA
  subst qA
  have U6:len*P.bytesOf e<=reachBytes:=by
   have:=zr ((len+(m - len))*P.bytesOf e) (by simp only[DataW.weights,ht,List.length_map,List.length_range]; exact List.mem_cons_self)
   exact Nat.le_trans (Nat.mul_le_mul_right _ (Nat.le_add_right _ _)) this
  have S7:∀ i,i < len->∀ n∈(D i).weights P e,n<=reachBytes:=fun i hi n hn=>zr n (by
   simp only[DataW.weights,ht]
   exact List.mem_cons_of_mem _ (List.mem_append.2 (.inl (lq (List.mem_map.2 ⟨i,List.mem_range.2 hi,rfl⟩) hn))))
  have QT:0 < len->a.spot=none:=fun hp=>by
   obtain⟨EN,h1,h2⟩:=hx 0 (by omega)
   obtain⟨y,_,_,hy,hlen,_⟩:=he ec w base held k EN _ h2 (S7 0 hp)
   obtain⟨_,_,iS⟩:=World.cells?_some h1
   have qN:=iS 0 h0
   rw[List.getElem?_eq_getElem (by omega),Nat.zero_mul] at qN
   exact World.cell?_spot qN
  have each:∀ i,i < len->∃ y,S y/\a.spot=none/\a.block < w.heap.size/\yA w (In w) (P.cellsOf e) y a.block (a.off+i*P.cellsOf e):=fun i hi=>by
   obtain⟨EN,h1,h2⟩:=hx i (by omega)
   obtain⟨y,hS,_,hy,hlen,U7⟩:=he ec w base held k EN _ h2 (S7 i hi)
   obtain⟨_,_,iS⟩:=World.cells?_some h1
   have qN:=iS 0 h0
   rw[List.getElem?_eq_getElem (by omega)] at qN
   have hs:a.spot=none:=QT (by omega)
   obtain⟨b,off,sp⟩:=a
   dsimp only at hs
   subst hs
   have ea:∀ b off k,(⟨b,off,none⟩:Addr).add k=⟨b,off+k,none⟩:=fun b off k=>by unfold Addr.add; split<;>simp_all
   refine⟨y,hS,rfl,?_,?_,bQ.of fun j c hj=>?_⟩
   ·have:=World.block_lt_of_cell? w _ qN
    rw[ea,ea] at this; exact this
   ·rw[hy.length,hlen]
   ·obtain⟨v,hv,FY⟩:=hy.get hj
    have tF:j < P.cellsOf e:=by rw[← hlen]; exact (List.getElem?_eq_some_iff.1 hv).1
    have:=iS j tF
    rw[ea,ea,hv] at this
    exact⟨v,by simpa only [Nat.add_assoc] using this,FY,U7 v (List.mem_of_getElem? hv)⟩
  obtain⟨es,jM,hp⟩:=lp len each
  refine⟨.sl _ es,⟨es,⟨by omega,by rw[jM]; exact U6⟩,fun y hy=>?_,rfl⟩,nofun,aU.one ?_,by rw[hc]; rfl,fun c hc=>by simp only[List.mem_singleton] at hc; subst hc; rfl⟩
  ·obtain⟨i,hi⟩:=List.getElem?_of_mem hy
   exact (hp i y hi).1
  ·simp only[PV.Is]
   refine⟨some a,m,by rw[jM],by omega,by omega,fun g o Ln=>?_,fun bR=>?_⟩
   ·cases Ln
    exact bp.of fun i y hy=>(hp i y hy).2.2.2
   ·have h1:0 < es.length:=by omega
    obtain⟨_,h2,h3,_⟩:=hp 0 es[0] (List.getElem?_eq_getElem h1)
    obtain⟨b,off,sp⟩:=a
    dsimp only at h2
    subst h2
    exact⟨b,off,rfl,h3,h0⟩
theorem Op.F1 {S S':PV->Prop} (h:Op P t S) (hS:∀ x,S x->S' x):Op P t S':=fun e w base held fuel cs x hx zr=>by
 obtain⟨y,h1,h2⟩:=h e w base held fuel cs x hx zr
 exact⟨y,hS y h1,h2⟩
theorem decode {α:Type} {S:PV->Prop} {enc:α->PV} {ok:α->Prop} (h:∀ x,S x->∃ z,ok z/\x=enc z):∀ (es:List PV),(∀ e∈es,S e)->∃ l:List α,(∀ z∈l,ok z)/\es=l.map enc
 | [],_=>⟨[],fun _ h=>by simp at h,rfl⟩
 | e::es,hS=>by
  obtain⟨z,hz,rfl⟩:=h e (hS e (List.mem_cons_self ..))
  obtain⟨l,hl,rfl⟩:=decode h es fun e he=>hS e (List.mem_cons_of_mem _ he)
  refine⟨z::l,fun y hy=>?_,rfl⟩
  rcases List.mem_cons.1 hy with rfl|hy
  ·exact hz
  ·exact hl y hy
def Lq {α:Type} (n b:Nat) (enc:α->PV) (ok:α->Prop) (x:PV):Prop:=∃ l:List α,(l.length<=maxLen/\l.length*b<=reachBytes)/\(∀ z∈l,ok z)/\x = .sl n (l.map enc)
theorem F2 {α:Type} {S:PV->Prop} {n b:Nat} {enc:α->PV} {ok:α->Prop} (h:Op P t (Pq n b S)) (hd:∀ x,S x->∃ z,ok z/\x=enc z):Op P t (Lq n b enc ok):=h.F1 fun x ⟨es,h1,h2,h3⟩=>by
 obtain⟨l,hl,rfl⟩:=decode hd es h2
 exact⟨l,by simpa using h1,hl,h3⟩
theorem pV {H:Type} {ts:List TypeId} {l:List (DataW H)} (h:(DataW.weightsEach P ts l).all (·<=reachBytes)=true) {i:Nat} {d:DataW H} (ht:ts[i]?=some t) (hd:l[i]?=some d):∀ n∈d.weights P t,n<=reachBytes:=fun n hn=>by
 have:=List.all_eq_true.1 h n (j8 ht hd hn)
 simpa using this
theorem Op.F3 {S:PV->Prop} (h:Op P t S) (h1:∀ y,S y->y.cells = [y]) {H:Type} {ec:TypeId × Value->H} {w:World} {base:Nat} {held:Bool} {v:Value} {d:DataW H} {p:List MemPlace} (hv:v.cells = #[v]) (ht:DataW.Trod ec P w base (fun _=>true) held t v d p) (zr:∀ n∈d.weights P t,n<=reachBytes) :
  ∃ y,S y/\y.Is w (In w) no v:=by
 obtain⟨fuel,ht⟩:=ht
 obtain⟨y,hS,_,hy,_⟩:=h ec w base held fuel _ _ ht zr
 refine⟨y,hS,?_⟩
 rw[h1 y hS,hv] at hy
 simp only[aU,and_true] at hy
 exact hy
theorem Op.U8 {Ss:List (PV->Prop)} (h:Op P t (Mt Ss)) {H:Type} {ec:TypeId × Value->H} {w:World} {base:Nat} {held:Bool} {vs:Array Value} {d:DataW H} {p:List MemPlace} (ht:DataW.Trod ec P w base (fun _=>true) held t (.agg vs) d p) (zr:∀ n∈d.weights P t,n<=reachBytes) :
  ∃ y,Mt Ss y/\y.Is w (In w) no (.agg vs):=by
 obtain⟨fuel,ht⟩:=ht
 obtain⟨y,hS,_,hy,_⟩:=h ec w base held fuel _ _ ht zr
 refine⟨y,hS,?_⟩
 obtain⟨xs,_,rfl⟩:=hS
 simp only[PV.Is]
 exact⟨vs,rfl,hy⟩
theorem Pq.cell {n b:Nat} {S:PV->Prop} (y:PV):Pq n b S y->y.cells = [y]:=fun ⟨_,_,_,h⟩=>by subst h; rfl
theorem Lq.cell {α:Type} {n b:Nat} {enc:α->PV} {ok:α->Prop} (y:PV):Lq n b enc ok y->y.cells = [y]:=fun ⟨_,_,_,h⟩=>by subst h; rfl
theorem SInt.cell {k:IntKind} (y:PV):SInt k y->y.cells = [y]:=fun ⟨_,_,h⟩=>by subst h; rfl
end
def lr (P:Program) (total:Nat) (r:TypeId->DataW Unit->Option (List PV)):Nat->List (Nat × TypeId)->List (DataW Unit)->Option (List PV)
 | off,[],[]=>if off=total then some [] else none
 | off,(o,t)::ps,d::ds=>if o=off then (match r t d,lr P total r (off+P.cellsOf t) ps ds with
   | some xs,some ys=>some (xs++ys)
   | _,_=>none) else none
 | _,_,_=>none
def rH (P:Program):Nat->TypeId->DataW Unit->Option (List PV)
 | 0,_,_=>none
 | f+1,t,d=>match P.underlying t,d with
  | some (.int k),.lit (.int l n)=>if k=l then some [.lit k n] else none
  | some .bool,.lit (.bool b)=>some [if b then .tt else .ff]
  | some (.struct fs),.agg ds=>lr P (P.cellsOf t) (rH P f) 0 (fs.toList.map fun f=>(f.offset,f.type)) ds
  | some (.array n e),.agg ds=>lr P (P.cellsOf t) (rH P f) 0 ((List.range n).map fun i=>(i*P.cellsOf e,e)) ds
  | _,_=>none
section
variable {P:Program} {w:World} {I:Nat->Prop}
theorem vi {base:Nat} {sp:Nat->Bool} {held:Bool} {enc:TypeId × Value->Unit}:∀ (f:Nat) (t:TypeId) (d:DataW Unit) (xs:List PV) (fuel:Nat) (cs:List Value) (p:List MemPlace),rH P f t d=some xs->DataW.trod enc P w base sp held fuel t cs=some (d,p)->aU w I xs no cs/\∀ c∈cs,c.oneCell'=true
 | 0,_,_,_,_,_,_,h,_=>by simp[rH] at h
 | f+1,t,d,xs,fuel,cs,p,h,ht=>by
  have key:∀ (n:Nat) (ps:List (Nat × TypeId)) (ds:List (DataW Unit)) (off:Nat) (xs:List PV),lr P (P.cellsOf t) (rH P f) off ps ds=some xs->cs.length=P.cellsOf t ->
    (∀ (i:Nat) (o:Nat) (u:TypeId),ps[i]?=some (o,u)->∃ d p,ds[i]?=some d/\DataW.trod enc P w base sp held n u ((cs.drop o).take (P.cellsOf u))=some (d,p))->aU w I xs no (cs.drop off)/\∀ c∈cs.drop off,c.oneCell'=true:=by
   intro n ps
   induction ps with
   | nil =>
    intro ds off xs h hl _
    cases ds with
    | cons=>simp[lr] at h
    | nil =>
     simp only[lr] at h
     split at h
     ·cases h
      rw[List.drop_eq_nil_of_le (by omega)]
      exact⟨by simp only[aU],fun c hc=>by cases hc⟩
     ·cases h
   | cons q ps ih =>
    obtain⟨o,u⟩:=q
    intro ds off xs h hl ha
    cases ds with
    | nil=>simp[lr] at h
    | cons d ds =>
     simp only[lr] at h
     split at h
     ·rename_i ho
      subst ho
      split at h
      ·rename_i WS ys h1 h2
       cases h
       obtain⟨d',p',hd,ht⟩:=ha 0 o u rfl
       simp only[List.getElem?_cons_zero,Option.some.injEq] at hd
       subst hd
       have i1:=vi f u _ _ n _ _ h1 ht
       have i2:=ih ds _ _ h2 hl fun i o' u' hi=>by
        obtain⟨d',p',hd,ht⟩:=ha (i+1) o' u' (by simpa using hi)
        exact⟨d',p',by simpa using hd,ht⟩
       have hd:cs.drop o=(cs.drop o).take (P.cellsOf u)++cs.drop (o+P.cellsOf u):=by
        rw[← List.drop_drop,List.take_append_drop]
       rw[hd]
       refine⟨i1.1.append i2.1,fun c hc=>?_⟩
       rw[List.mem_append] at hc
       exact hc.elim (i1.2 c) (i2.2 c)
      ·cases h
     ·cases h
  unfold rH at h
  split at h
  ·rename_i hu
   obtain⟨z,rfl,hz,_⟩:=DataW.trod_int hu ht
   simp only[Prod.mk.injEq,DataW.lit.injEq,Lit.int.injEq] at hz
   obtain⟨⟨rfl,rfl⟩,_⟩:=hz
   simp only[if_true,Option.some.injEq] at h
   subst h
   exact⟨aU.one (by simp only[PV.Is]),fun c hc=>by simp only[List.mem_singleton] at hc; subst hc; rfl⟩
  ·rename_i hu
   obtain⟨b,rfl,hz⟩:=DataW.trod_bool hu ht
   simp only[Prod.mk.injEq,DataW.lit.injEq,Lit.bool.injEq] at hz
   obtain⟨rfl,_⟩:=hz
   simp only[Option.some.injEq] at h
   subst h
   refine⟨aU.one ?_,fun c hc=>by simp only[List.mem_singleton] at hc; subst hc; rfl⟩
   split<;>simp only[PV.Is]<;>simp_all
  ·rename_i hu
   obtain⟨ys,n,_,hz,hl,Li,hy⟩:=DataW.trod_struct hu ht
   simp only[Prod.mk.injEq,DataW.agg.injEq] at hz
   obtain⟨rfl,_⟩:=hz
   have:=key n _ _ 0 xs h hl fun i o u hi=>by
    simp only[List.getElem?_map,Option.map_eq_some_iff,Prod.mk.injEq] at hi
    obtain⟨f',hf,rfl,rfl⟩:=hi
    have hy:=hy i f' (by simpa using hf)
    have bA:i < ys.length:=by rw[Li]; simpa using (List.getElem?_eq_some_iff.1 hf).1
    exact⟨ys[i].1,ys[i].2,by simp[bA],by rw[hy]; simp[bA]⟩
   simpa using this
  ·rename_i hu
   obtain⟨ys,n,_,hz,hl,Li,hy⟩:=DataW.trod_array hu ht
   simp only[Prod.mk.injEq,DataW.agg.injEq] at hz
   obtain⟨rfl,_⟩:=hz
   have:=key n _ _ 0 xs h hl fun i o u hi=>by
    simp only[List.getElem?_map,Option.map_eq_some_iff,Prod.mk.injEq] at hi
    obtain⟨j,hj,rfl,rfl⟩:=hi
    obtain⟨S8,rfl⟩:=List.getElem?_eq_some_iff.1 hj
    simp only[List.length_range] at S8
    rw[List.getElem_range]
    have hy:=hy i S8
    have bA:i < ys.length:=by omega
    exact⟨ys[i].1,ys[i].2,by simp[bA],by rw[hy]; simp[bA]⟩
   simpa using this
  ·cases h
theorem vj {laid:List (String × DataW Unit)}:∀ {l:List (String × DataW Unit)} {ps:List MemPlace},DataW.LaidVars P w l ps->∀ {name:String} {d:DataW Unit},(name,d)∈l->∀ {g:Nat} {t:TypeId} {xs:List PV} (f:Nat),P.globalNamed name=some g->(P.globals[g]?).map (·.type)=some t->rH P f t d=some xs->xs≠[]->(g < w.heap.size/\bQ w I xs g 0)/\∃ arr ty fr,w.heap[g]?=some (.cells arr ty fr)/\arr.size=xs.length
 | [],_,_,_,_,hm,_,_,_,_,_,_,_,_=>by cases hm
 | (n,d)::r,ps,h,name,d',hm,g,t,xs,f,hg,ht,hx,bR=>by
  obtain⟨g',t',cs,fuel,p,q,ze,s7,wF,hd,hr,_⟩:=h
  rcases List.mem_cons.1 hm with he|hm
  ·cases he
   obtain rfl:=Option.some.inj (hg.symm.trans ze)
   obtain rfl:=Option.some.inj (ht.symm.trans s7)
   obtain⟨h1,h2⟩:=vi (I:=I) f t _ _ fuel _ _ hx hd
   have lL:bQ w I xs g 0:=bQ.of fun i c hc=>by
    obtain⟨v,hv,hi⟩:=h1.get hc
    exact⟨v,by rw[Nat.zero_add,World.var?_cell hg wF]; simpa using hv,hi,h2 v (List.mem_of_getElem? hv)⟩
   refine⟨⟨?_,lL⟩,?_⟩
   rotate_left 1
   ·have hl:=h1.length
    unfold World.var? at wF
    rw[hg,Option.bind_some] at wF
    split at wF
    ·rename_i arr ty fr hh
     cases wF
     exact⟨_,ty,fr,hh,by simpa using hl.symm⟩
    ·cases wF
   cases xs with
   | nil=>exact absurd rfl bR
   | cons c xs =>
    obtain⟨v,hv,_⟩:=lL.get (i:=0) rfl
    exact World.block_lt_of_cell? w _ hv
  ·exact vj (laid:=laid) hr hm f hg ht hx bR
theorem tV {G:Gx} {laid:List (String × DataW Unit)} (mq:(laid.all fun x=>x.2.handleName?.isNone)=true) (h:laidMetH P laid w)
  (cr:∀ x∈G.jh,∃ name d t,(name,d)∈laid/\P.globalNamed name=some x.1/\(P.globals[x.1]?).map (·.type)=some t/\rH P 8 t d=some x.2/\x.2≠[]):cg G (In w) w:=by
 rw[MakeChecks.laidMetH_plain _ _ _ mq] at h
 obtain⟨ps,h,_⟩:=h
 have key:∀ (g:Nat) (cs:List PV),(g,cs)∈G.jh->(g < w.heap.size/\bQ w (In w) cs g 0)/\∃ arr ty fr,w.heap[g]?=some (.cells arr ty fr)/\arr.size=cs.length:=fun g cs hg=>by
  obtain⟨name,d,t,h1,h2,h3,h4,h5⟩:=cr _ hg
  exact vj (I:=In w) (laid:=laid) h h1 8 h2 h3 h4 h5
 exact⟨fun g hg=>hg,fun g cs hg=>(key g cs hg).1,fun g cs hg=>(key g cs hg).2⟩
end
section
variable {w w':World} {I I':Nat->Prop} {β aG:au} {G:Gx} {s:aL} {a:Act} {st cA:List aj}
def Mu (I:Nat->Prop) (w w':World) (g:Nat):Prop:=I g\/(w.heap.size<=g/\g < w'.heap.size)
theorem ai.QW {f:FuncId} {args:List PV} {r:PV} (he:Ev.fB G.cx.P f)
  (h:∀ I β w aS,cg G I w->aU w I args β aS->Calls G.cx.P f aS.toArray w fun e w'=>∃ v,e = .returned v/\Below w.heap.size w w'/\r.Is w' (Mu I w w') no v) (hu:r.bW = []):ai G f args r:=by
 refine Spec.intro he fun I β w aS hH hM hA=>?_
 refine (h I β w aS hM hA).mono fun e w' ⟨v,he,hB,hr⟩=>⟨v,r,[],Mu I w w',β,he,rfl,iE hu hr,hH.zq _ _,?_,⟨hB.os,hB.tape,hB.output,hB.size,fun g hg _=>hB.block g hg,fun g _ ⟨l,b,p,o,h1,_⟩=>by simp at h1,fun _ h=>.inl h,fun g hg h=>?_⟩,Nat.le_refl _,fun _ _ _=>rfl⟩
 ·have iF:=hM.below hB
  exact⟨fun g hg=>hg.elim (fun h=>iF.av g h) (fun h=>h.2),fun g cs hg=>⟨.inl (iF.mg g cs hg).1,bQ.mono (fun _ h=>.inl h) (fun _ _=>rfl) _ _ _ rfl (iF.mg g cs hg).2⟩,iF.row⟩
 ·rcases h with h|h
  ·exact .inl h
  ·omega
end
def P3:List (Nat × aI):=[(15,.pure 1 <| .pure 2 <| .pure 3 <| .load 0 [12,11,9,8,7,6] <| .load 4 [12,11,9,8,7,6,5] <| .bu 5 (.bu 6 (.pure 7 <| .pure 8 <| .pure 9 <| .bu 10 (.bu 11 (.pure 12 <| .done) (.nil)) (.nil)) (.cons 10 (.bu 6 (.pure 7 <| .pure 8 <| .pure 9 <| .bu 11 (.pure 12 <| .done) (.nil)) (.nil)) (.nil))) (.cons 10 (.bu 5 (.bu 6 (.pure 7 <| .pure 8 <| .pure 9 <| .bu 11 (.pure 12 <| .done) (.nil)) (.nil)) (.nil)) (.nil))),(23,.pure 0 <| .pure 1 <| .pure 2 <| .pure 3 <| .pure 4 <| .pure 5 <| .pure 6 <| .pure 7 <| .pure 9 <| .pure 10 <| .load 8 [14,13,12] <| .bu 11 (.bu 12 (.pure 13 <| .pure 14 <| .done) (.nil)) (.nil))]
def P6:List (Nat × aI):=[(3,.pure 0 <| .pure 1 <| .pure 2 <| .pure 3 <| .pure 4 <| .pure 5 <| .pure 6 <| .load 7 [11,10,9] <| .bu 8 (.bu 9 (.pure 10 <| .pure 11 <| .done) (.nil)) (.nil))]
def P7:List (Nat × aI):=[(5,.pure 0 <| .pure 1 <| .pure 2 <| .pure 3 <| .load 4 [7] <| .bu 5 (.pure 6 <| .pure 7 <| .done) (.nil)),(8,.pure 1 <| .pure 2 <| .pure 3 <| .load 0 [7,6,5] <| .load 4 [7,6] <| .bu 5 (.pure 6 <| .pure 7 <| .done) (.nil))]
def S9:List (Nat × aI):=[]
def U9:List (Nat × aI):=[(1,.pure 0 <| .pure 1 <| .pure 3 <| .pure 4 <| .pure 5 <| .load 2 [26,25,24,23,22,21,20,19,18,17,16,15,14,13,12,11,10,9,8,7] <| .load 6 [26,25,24,23,22,21,20,19,18,17,16,15,14,13,12,11,10,9,8,7] <| .pure 7 <| .pure 8 <| .pure 9 <| .pure 11 <| .load 10 [26,25,24,23,22,21,20,19,18,17,16,15,14,13] <| .load 12 [26,25,24,23,22,21,20,19,18,17,16,15,14,13] <| .pure 13 <| .pure 14 <| .pure 15 <| .pure 16 <| .pure 17 <| .pure 18 <| .load 19 [26,25,24,23,22,21,20] <| .pure 20 <| .pure 21 <| .pure 22 <| .load 23 [26,25,24] <| .bu 24 (.pure 25 <| .bu 26 (.done) (.nil)) (.nil)),(15,.pure 0 <| .pure 1 <| .pure 2 <| .pure 3 <| .pure 5 <| .load 4 [8,7] <| .load 6 [8,7] <| .pure 7 <| .bu 8 (.done) (.nil))]
def U':List (Nat × aI):=[]
def QX:List (Nat × aI):=[]
def QY:List (Nat × aI):=[]
def QZ:List (Nat × aI):=[]
def Mv:List (Nat × aI):=[]
def Q0:List (Nat × aI):=[]
def wG:List (Nat × aI):=[]
def Q1:List (Nat × aI):=[(1,.pure 0 <| .load 1 [36,35,34,33,32,31,30,29,28,27,26,25,24,23,22,21,20,19,18,17,16,15,14,13,12,11,10,9,8,7,6,5,4,3,2] <| .pure 2 <| .pure 3 <| .pure 4 <| .load 5 [36,35,34,33,32,31,30,29,28,27,26,25,24,23,22,21,20,19,18,17,16,15,14,13,12,11,10,9,8,7,6] <| .pure 6 <| .pure 7 <| .pure 8 <| .pure 9 <| .pure 12 <| .load 10 [36,35,34,33,32,31,30,29,28,27,26,25,24,23,22,21,20,19,18,17,16,15,11] <| .pure 11 <| .load 13 [36,35,34,33,32,31,30,29,28,27,26,25,24,23,22,21,20,19,18,17,16,15,14] <| .bu 14 (.pure 15 <| .pure 16 <| .pure 17 <| .pure 18 <| .load 19 [36,35,34,33,32,31,30,29,28,27,26,25,24,23,22,21,20] <| .pure 20 <| .pure 21 <| .pure 22 <| .load 23 [36,35,34,33,32,31,30,29,28,27,26,25,24] <| .pure 24 <| .pure 25 <| .pure 26 <| .pure 27 <| .pure 28 <| .load 29 [36,35,34,33,32,31,30] <| .pure 30 <| .pure 31 <| .pure 32 <| .load 33 [36,35,34] <| .pure 34 <| .pure 35 <| .pure 36 <| .done) (.nil))]
def Q2:List (Nat × aI):=[]
def Mw:List (Nat × aI):=[]
def rI:List (Nat × aI):=[]
def Q3:List (Nat × aI):=[]
def Q4:List (Nat × aI):=[]
def Q5:List (Nat × aI):=[]
def S_:List (Nat × aI):=[(3,.pure 0 <| .pure 1 <| .pure 2 <| .pure 4 <| .load 3 [13,12,11,10,9,8,7,6] <| .load 5 [13,12,11,10,9,8,7,6] <| .pure 6 <| .pure 7 <| .pure 8 <| .pure 9 <| .pure 10 <| .load 11 [13,12] <| .pure 12 <| .pure 13 <| .done),(14,.pure 0 <| .pure 1 <| .pure 2 <| .pure 3 <| .pure 5 <| .pure 6 <| .pure 7 <| .load 4 [12,11,10,9] <| .load 8 [12,11,10,9] <| .pure 9 <| .bu 10 (.bu 11 (.pure 12 <| .done) (.nil)) (.nil))]
def Q6:List (Nat × aI):=[(6,.pure 0 <| .pure 1 <| .pure 2 <| .pure 3 <| .load 4 [8,7] <| .load 5 [8,7,6] <| .bu 6 (.bu 7 (.pure 8 <| .done) (.nil)) (.nil)),(8,.pure 0 <| .pure 1 <| .pure 2 <| .load 3 [9,8,7,6] <| .load 4 [9,8,7,6,5] <| .bu 5 (.pure 6 <| .pure 7 <| .pure 8 <| .bu 9 (.done) (.nil)) (.nil))]
def Q7:List (Nat × aI):=[]
def P8:List (Nat × aI):=[]
def U_:List (Nat × aI):=[(1,.pure 0 <| .pure 1 <| .pure 2 <| .pure 5 <| .pure 6 <| .pure 7 <| .pure 8 <| .load 3 [13,12,4] <| .pure 4 <| .load 9 [13,12,11,10] <| .pure 10 <| .pure 11 <| .pure 12 <| .pure 13 <| .done)]
def Va:List (Nat × aI):=[]
def Ta:List (Nat × aI):=[]
def Vb:List (Nat × aI):=[]
def Vc:List (Nat × aI):=[]
def Vd:List (Nat × aI):=[]
def Ve:List (Nat × aI):=[]
def rJ:List (Nat × aI):=[]
def Vf:List (Nat × aI):=[]
def Vg:List (Nat × aI):=[]
def Q8:List (Nat × aI):=[(1,.pure 0 <| .pure 1 <| .pure 2 <| .pure 3 <| .pure 4 <| .pure 5 <| .pure 6 <| .pure 7 <| .pure 8 <| .pure 9 <| .pure 10 <| .done)]
def Vh:List (Nat × aI):=[]
def Vi:List (Nat × aI):=[]
def Vj:List (Nat × aI):=[]
def qB:List (Nat × aI):=[(5,.pure 0 <| .pure 2 <| .load 1 [7,6,5,4] <| .pure 4 <| .bu 3 (.bu 5 (.pure 6 <| .bu 7 (.done) (.nil)) (.nil)) (.nil)),(16,.pure 0 <| .pure 2 <| .pure 4 <| .load 1 [11,10,9,8,7,6] <| .pure 6 <| .bu 3 (.bu 5 (.bu 7 (.pure 8 <| .bu 9 (.pure 10 <| .bu 11 (.done) (.nil)) (.nil)) (.nil)) (.nil)) (.nil)),(18,.pure 0 <| .pure 2 <| .pure 4 <| .pure 6 <| .load 1 [15,14,13,12,11,10,9,8] <| .pure 8 <| .load 7 [15,14] <| .bu 3 (.bu 5 (.bu 9 (.pure 10 <| .bu 11 (.pure 12 <| .bu 13 (.pure 14 <| .bu 15 (.done) (.nil)) (.nil)) (.nil)) (.nil)) (.nil)) (.nil)),(22,.pure 0 <| .pure 2 <| .pure 4 <| .load 1 [11,10,9,8,7,6] <| .pure 6 <| .load 3 [11,10,9,8] <| .load 5 [11,10] <| .bu 7 (.pure 8 <| .bu 9 (.pure 10 <| .bu 11 (.done) (.nil)) (.nil)) (.nil)),(25,.pure 0 <| .pure 2 <| .pure 4 <| .pure 6 <| .load 1 [15,14,13,12,11,10,9,8] <| .pure 8 <| .load 3 [15,14,13,12,11,10] <| .load 5 [15,14,13,12] <| .bu 7 (.bu 9 (.pure 10 <| .bu 11 (.pure 12 <| .bu 13 (.pure 14 <| .bu 15 (.done) (.nil)) (.nil)) (.nil)) (.nil)) (.nil)),(27,.pure 0 <| .pure 2 <| .pure 4 <| .pure 6 <| .load 1 [15,14,13,12,11,10,9,8] <| .pure 8 <| .load 5 [15,14,13,12] <| .load 7 [15,14] <| .bu 3 (.bu 9 (.pure 10 <| .bu 11 (.pure 12 <| .bu 13 (.pure 14 <| .bu 15 (.done) (.nil)) (.nil)) (.nil)) (.nil)) (.nil)),(29,.pure 0 <| .pure 2 <| .load 1 [7,6,5,4] <| .pure 4 <| .load 3 [7,6] <| .bu 5 (.pure 6 <| .bu 7 (.done) (.nil)) (.nil))]
def Vk:List (Nat × aI):=[]
def Tb:List (Nat × aI):=[]
def Pr:List (Nat × aI):=[(5,.pure 0 <| .pure 2 <| .pure 4 <| .load 1 [11,10,9,8,7,6] <| .pure 6 <| .load 3 [11,10,9,8] <| .load 5 [11,10] <| .bu 7 (.pure 8 <| .bu 9 (.pure 10 <| .bu 11 (.done) (.nil)) (.nil)) (.nil)),(7,.pure 0 <| .pure 2 <| .load 1 [7,6,5,4] <| .pure 4 <| .load 3 [7,6] <| .bu 5 (.pure 6 <| .bu 7 (.done) (.nil)) (.nil)),(11,.pure 0 <| .pure 2 <| .load 1 [7,6,5,4] <| .pure 4 <| .load 3 [7,6] <| .bu 5 (.pure 6 <| .bu 7 (.done) (.nil)) (.nil))]
def F4:List (Nat × aI):=[(3,.pure 0 <| .pure 1 <| .pure 3 <| .pure 4 <| .pure 5 <| .pure 8 <| .load 2 [14,12] <| .bu 6 (.pure 7 <| .bu 9 (.pure 10 <| .bu 11 (.pure 12 <| .bu 13 (.bu 14 (.done) (.nil)) (.nil)) (.cons 13 (.bu 11 (.pure 12 <| .bu 14 (.done) (.nil)) (.nil)) (.nil))) (.cons 13 (.bu 9 (.pure 10 <| .bu 11 (.pure 12 <| .bu 14 (.done) (.nil)) (.nil)) (.nil)) (.nil))) (.cons 13 (.bu 6 (.pure 7 <| .bu 9 (.pure 10 <| .bu 11 (.pure 12 <| .bu 14 (.done) (.nil)) (.nil)) (.nil)) (.nil)) (.nil))),(5,.pure 0 <| .pure 2 <| .load 1 [7,6,5,4] <| .pure 4 <| .load 3 [7,6] <| .bu 5 (.pure 6 <| .bu 7 (.done) (.nil)) (.nil))]
def Q9:List (Nat × aI):=[]
def Q_:List (Nat × aI):=[]
def Ra:List (Nat × aI):=[]
def Vl:List (Nat × aI):=[]
def Vm:List (Nat × aI):=[]
def Rb:List (Nat × aI):=[]
def Vn:List (Nat × aI):=[]
def Rc:List (Nat × aI):=[]
def Vo:List (Nat × aI):=[]
def Vp:List (Nat × aI):=[]
def Vq:List (Nat × aI):=[]
def Vr:List (Nat × aI):=[]
def Rd:List (Nat × aI):=[]
def Vs:List (Nat × aI):=[]
def Vt:List (Nat × aI):=[(2,.pure 0 <| .load 1 [6,5,4,2] <| .load 3 [6,5,4] <| .bu 2 (.bu 4 (.pure 5 <| .pure 6 <| .done) (.nil)) (.nil)),(3,.pure 0 <| .load 1 [6,5,4,2] <| .load 3 [6,5,4] <| .bu 2 (.bu 4 (.pure 5 <| .pure 6 <| .done) (.nil)) (.nil))]
def gH:List (Nat × aI):=[(1,.pure 0 <| .pure 3 <| .load 1 [7,6,2] <| .pure 2 <| .pure 6 <| .load 4 [7,5] <| .pure 5 <| .pure 7 <| .done),(12,.pure 2 <| .pure 6 <| .pure 10 <| .load 0 [15,14,9,8,7,5,4,3,1] <| .load 11 [15,14,13,12] <| .pure 12 <| .pure 13 <| .bu 1 (.bu 3 (.pure 4 <| .pure 5 <| .bu 7 (.pure 8 <| .pure 9 <| .pure 14 <| .pure 15 <| .done) (.nil)) (.nil)) (.nil))]
def Re:List (Nat × aI):=[]
def Rf:List (Nat × aI):=[]
def Rg:List (Nat × aI):=[]
def Rh:List (Nat × aI):=[]
def iQ:List (Nat × aI):=[(1,.pure 0 <| .pure 3 <| .pure 6 <| .load 1 [11,10,9,2] <| .pure 2 <| .pure 9 <| .load 4 [11,10,5] <| .pure 5 <| .pure 10 <| .load 7 [11,8] <| .pure 8 <| .pure 11 <| .done),(24,.pure 0 <| .pure 5 <| .load 1 [10,9,8,4,3,2] <| .pure 2 <| .load 6 [10,9,8,7] <| .pure 7 <| .bu 3 (.pure 4 <| .bu 8 (.pure 9 <| .pure 10 <| .done) (.nil)) (.nil)),(26,.pure 0 <| .pure 5 <| .load 1 [10,9,8,4,3,2] <| .pure 2 <| .load 6 [10,9,8,7] <| .pure 7 <| .bu 3 (.pure 4 <| .bu 8 (.pure 9 <| .pure 10 <| .done) (.nil)) (.nil)),(30,.pure 0 <| .pure 4 <| .load 1 [7,6,3,2] <| .pure 2 <| .pure 3 <| .bu 5 (.pure 6 <| .pure 7 <| .done) (.nil))]
def Ri:List (Nat × aI):=[]
def Vu:List (Nat × aI):=[]
def Vv:List (Nat × aI):=[]
def Rj:List (Nat × aI):=[]
def Vw:List (Nat × aI):=[(3,.pure 1 <| .load 0 [8,7,6,5,4,3] <| .bu 2 (.bu 3 (.pure 4 <| .pure 5 <| .pure 6 <| .bu 7 (.pure 8 <| .done) (.nil)) (.nil)) (.nil)),(6,.pure 1 <| .pure 2 <| .load 0 [9,8,7,6,5,4] <| .bu 3 (.bu 4 (.pure 5 <| .pure 6 <| .pure 7 <| .bu 8 (.pure 9 <| .done) (.nil)) (.nil)) (.nil))]
def Vx:List (Nat × aI):=[]
def Vy:List (Nat × aI):=[]
def Vz:List (Nat × aI):=[]
def P9:List (Nat × aI):=[]
def VA:List (Nat × aI):=[]
def Tc:List (Nat × aI):=[]
def VB:List (Nat × aI):=[]
def VC:List (Nat × aI):=[]
def VD:List (Nat × aI):=[]
def Td:List (Nat × aI):=[(7,.pure 0 <| .pure 1 <| .pure 2 <| .pure 3 <| .pure 4 <| .pure 5 <| .pure 6 <| .pure 7 <| .pure 9 <| .pure 12 <| .pure 13 <| .pure 14 <| .pure 15 <| .pure 16 <| .pure 18 <| .load 8 [23,22,21,11] <| .load 10 [23,22,21,11] <| .pure 11 <| .load 17 [23,22,21,20] <| .load 19 [23,22,21,20] <| .pure 20 <| .bu 21 (.pure 22 <| .bu 23 (.done) (.nil)) (.nil))]
def Te:List (Nat × aI):=[]
def Tf:List (Nat × aI):=[]
def CC:List (Nat × aI):=[]
def VE:List (Nat × aI):=[]
def VF:List (Nat × aI):=[]
def Tg:List (Nat × aI):=[(1,.pure 0 <| .pure 4 <| .load 1 [8,7,6,3,2] <| .load 5 [8,7,6] <| .bu 2 (.pure 3 <| .bu 6 (.pure 7 <| .pure 8 <| .done) (.nil)) (.nil))]
def VG:List (Nat × aI):=[]
def VH:List (Nat × aI):=[]
def Th:List (Nat × aI):=[]
def Ti:List (Nat × aI):=[]
def Rk:List (Nat × aI):=[]
def Rl:List (Nat × aI):=[]
def VI:List (Nat × aI):=[]
def VJ:List (Nat × aI):=[]
def VK:List (Nat × aI):=[]
def VL:List (Nat × aI):=[]
def Tj:List (Nat × aI):=[]
def Tk:List (Nat × aI):=[]
def Ps (b:aj) (n:Nat) (es:List PV):Prop:=match b with
 | ⟨k,_,m,md,live,cs⟩=>bif live && wD md && Nat.beq m n then (match k with
  | .dyn=>cs=es
  | .arr=>dc true m (.stat cs)=some es\/(m=1/\dc false m (.stat cs)=some es)
  | _=>False) else False
def CD (S:List aj) (fz:List Nat) (x y:PV):Prop:=match x,y with
 | .wref l,.sl n es=>bif gg l fz then aP S[l]? fun b=>Ps b n es else False
 | x,y=>pQ x y
def Mx (S:List aj) (fz:List Nat) (x y:PV):Prop:=match x,y with
 | .wref l,.sl n es=>bif gg l fz then aP S[l]? fun b=>Ps b n es else False
 | .agg cs,.agg ds=>iC (CD S fz) cs ds
 | x,y=>kq x y
def Lr (S:List aj) (fz:List Nat):Bool:=fz.all fun l=>match S[l]? with
 | some b=>b.live && wD b.m
 | none=>false
def hC (b:Bool) (m:Md):Md:=bif b then .r else m
def gq (fz:List Nat) (S:List aj):List aj:=mapM hC fz 0 S
def PV.zs:PV->Bool
 | .lit ..|.int ..|.tt|.ff|.bool _|.val _|.nil=>true
 | _=>false
def PV.vk:PV->Bool
 | .agg cs=>cs.all PV.zs
 | x=>x.zs
def PV.zt:PV->Bool
 | .tup cs=>cs.all PV.vk
 | x=>x.vk
section
variable {w w':World} {I I':Nat->Prop} {β aG:au} {G:Gx} {S:List aj}
theorem rK {x:PV} {v:Value} (hf:x.zs=true) (h:x.Is w I β v):x.Is w' I' aG v:=by
 cases x<;>first|(cases hf; done)|(simp only[PV.Is] at h ⊢; exact h)
theorem mT {r:PV->Bool} (hr:∀ x v,r x=true->x.Is w I β v->x.Is w' I' aG v):∀ {cs:List PV} {vs:List Value},cs.all r=true->aU w I cs β vs->aU w' I' cs aG vs
 | [],[],_,_=>by simp only[aU]
 | c::cs,v::vs,hf,h=>by
  simp only[List.all_cons,Bool.and_eq_true] at hf
  simp only[aU] at h ⊢
  exact⟨hr c v hf.1 h.1,mT hr hf.2 h.2⟩
 | [],_::_,_,h=>by simp only[aU] at h
 | _::_,[],_,h=>by simp only[aU] at h
theorem rL {x:PV} {v:Value} (hf:x.vk=true) (h:x.Is w I β v):x.Is w' I' aG v:=by
 unfold PV.vk at hf
 split at hf
 ·simp only[PV.Is] at h ⊢
  obtain⟨vs,rfl,h⟩:=h
  exact⟨vs,rfl,mT (fun x v=>rK) hf h⟩
 ·exact rK hf h
theorem zu {x:PV} {v:Value} (hf:x.zt=true) (h:x.Is w I β v):x.Is w' I' aG v:=by
 unfold PV.zt at hf
 split at hf
 ·simp only[PV.Is] at h ⊢
  obtain⟨vs,rfl,h⟩:=h
  exact⟨vs,rfl,mT (fun x v=>rL) hf h⟩
 ·exact rL hf h
def dm (I:Nat->Prop) (β:au) (S:List aj) (fz:List Nat) (g:Nat):Prop:=I g\/∃ l b p o,l∈fz/\S[l]?=some b/\b.live=true/\wD b.m=true/\β l=some p/\p.a=some (g,o)
theorem tW {fz:List Nat} (h:Lr S fz=true) {l:Nat} (hl:l∈fz):∃ b,S[l]?=some b/\b.live=true/\wD b.m=true:=by
 have:=List.all_eq_true.1 h l hl
 split at this
 ·rename_i b hb
  simp only[Bool.and_eq_true] at this
  exact⟨b,hb,this⟩
 ·cases this
theorem pW {fz:List Nat} (hH:aB I β S w) {l:Nat} {b:aj} {n:Nat} {es:List PV} (hl:l∈fz) (hb:S[l]?=some b) (h:Ps b n es) {v:Value} (hx:(PV.wref l).Is w I β v):(PV.sl n es).Is w (dm I β S fz) no v:=by
 obtain⟨k,ty,m,md,live,cs⟩:=b
 unfold Ps at h
 replace h:=aK h
 obtain⟨hc,h⟩:=h
 simp only[Bool.and_eq_true] at hc
 obtain⟨⟨ax,hm⟩,hn⟩:=hc
 obtain rfl:=Nat.eq_of_beq_eq_true hn
 simp only[PV.Is] at hx ⊢
 obtain⟨p,hp,rfl⟩:=hx
 have hI:∀ g,I g->dm I β S fz g:=fun g h=>.inl h
 have qz:∀ {g o:Nat},p.a=some (g,o)->dm I β S fz g:=fun {g o} ha=>.inr ⟨l,_,p,o,hl,hb,ax,hm,hp,ha⟩
 cases k with
 | dyn =>
  obtain⟨gC,hlen,hle,mr,jm⟩:=bT hH hb ax rfl hp
  subst h
  rcases jm with ⟨ha,qN,hw⟩|⟨g,arr,fr,ha,hw,eh,jM,cB,has⟩
  ·have h0:cs = []:=List.eq_nil_of_length_eq_zero (by simp only at hlen; omega)
   subst h0
   exact⟨none,0,by rw[hw]; rfl,Nat.le_refl _,Nat.zero_le _,(fun _ _ e=>by cases e),fun hn=>absurd rfl hn⟩
  ·simp only at hlen
   exact⟨some ⟨g,0,none⟩,p.cap,by rw[hw,hlen],by omega,by omega,(fun g' o' e=>by cases e; exact bp.mono hI (fun _ _=>rfl) _ _ _ _ rfl jM),fun _=>⟨g,0,rfl,qz ha,gC⟩⟩
 | arr =>
  obtain⟨g,arr,fr,ha,hw,eh,lY,cB,hlen,hle,mr,has,gC⟩:=dk hH hb ax rfl hp
  simp only at hlen has gC lY
  have dK:p.len*m<=arr.size:=by rw[has]; exact Nat.mul_le_mul_right _ hle
  have nU:(arr.toList.take (p.len*m)).length=p.len*m:=by rw[List.length_take,Array.length_toList]; omega
  have kC:jQ w I β m (.stat cs) (arr.toList.take (p.len*m)):=by
   refine⟨by rw[nU,hlen],fun j c hj=>?_⟩
   obtain⟨u,hu,hi,h1⟩:=lY j c hj
   have tF:j < p.len*m:=by rw[← hlen]; exact (List.getElem?_eq_some_iff.1 hj).1
   exact⟨u,by rw[List.getElem?_take,if_pos tF]; simpa using hu,hi,h1⟩
  have key:es.length=p.len/\cC w I es m (arr.toList.take (p.len*m)):=by
   rcases h with h|⟨h1,h⟩
   ·exact dj gC (.inl rfl) h kC nU
   ·exact dj gC (.inr h1) h kC nU
  obtain⟨e1,e2⟩:=key
  have Cz:bp w I es m g 0:=e2.at (fun j v hj=>by
   have:=jR eh 0 (p.len*m) j v (by simpa using hj)
   simpa using this) (fun _ h=>h) (fun _ _=>rfl)
  exact⟨some ⟨g,0,none⟩,p.cap,by rw[hw,e1],by omega,by omega,fun g' o' e=>by cases e; exact bp.mono hI (fun _ _=>rfl) _ _ _ _ rfl Cz,fun _=>⟨g,0,rfl,qz ha,gC⟩⟩
 | loc=>exact h.elim
 | mp=>exact h.elim
theorem F5 {fz:List Nat} (hH:aB I β S w) {x y:PV} {v:Value} (h1:CD S fz x y) (hu:y.bW = []) (hx:x.Is w I β v):y.Is w (dm I β S fz) no v:=by
 unfold CD at h1
 split at h1
 ·replace h1:=aK h1
  obtain⟨hl,h1⟩:=h1
  replace h1:=an h1
  obtain⟨b,hb,h1⟩:=h1
  exact pW hH (ck.1 hl) hb h1 hx
 ·exact PV.Is.mono (fun _ h=>.inl h) (fun _ _=>rfl) y β no v (fun l p hl=>by rw[hu] at hl; cases hl) (kK h1 w I β v hx)
theorem vl {fz:List Nat} (hH:aB I β S w):∀ {args aR:List PV} {aS:List Value},iC (CD S fz) args aR->ct aR = []->aU w I args β aS->aU w (dm I β S fz) aR no aS
 | [],[],[],_,_,_=>by simp only[aU]
 | x::xs,y::ys,v::vs,h,hu,hx=>by
  simp only[aU] at hx ⊢
  have tu:y.bW = []/\ct ys = []:=by simpa [ct] using hu
  exact⟨F5 hH h.1 tu.1 hx.1,vl hH h.2 tu.2 hx.2⟩
 | [],_::_,_,h,_,_=>h.elim
 | _::_,[],_,h,_,_=>h.elim
 | [],[],_::_,_,_,hx=>by simp only[aU] at hx
 | _::_,_::_,[],_,_,hx=>by simp only[aU] at hx
theorem iG {fz:List Nat} (hH:aB I β S w):∀ {args aR:List PV} {aS:List Value},iC (Mx S fz) args aR->ct aR = []->aU w I args β aS->aU w (dm I β S fz) aR no aS
 | [],[],[],_,_,_=>by simp only[aU]
 | x::xs,y::ys,v::vs,h,hu,hx=>by
  simp only[aU] at hx ⊢
  have tu:y.bW = []/\ct ys = []:=by simpa [ct] using hu
  refine⟨?_,iG hH h.2 tu.2 hx.2⟩
  have h1:=h.1
  unfold Mx at h1
  split at h1
  ·obtain⟨hl,h1⟩:=aK h1
   obtain⟨b,hb,h1⟩:=an h1
   exact pW hH (ck.1 hl) hb h1 hx.1
  ·have F6:=hx.1
   simp only[PV.Is] at F6 ⊢
   obtain⟨VM,rfl,F6⟩:=F6
   exact⟨VM,rfl,vl hH h1 (by simpa [PV.bW] using tu.1) F6⟩
  ·exact PV.Is.mono (fun _ h=>.inl h) (fun _ _=>rfl) y β no v (fun l p hl=>by rw[tu.1] at hl; cases hl) (cX h1 w I β v hx.1)
 | [],_::_,_,h,_,_=>h.elim
 | _::_,[],_,h,_,_=>h.elim
 | [],[],_::_,_,_,hx=>by simp only[aU] at hx
 | _::_,_::_,[],_,_,hx=>by simp only[aU] at hx
theorem CE {fz:List Nat} (hH:aB I β S w) (hM:cg G I w) {g:Nat} (h:dm I β S fz g):g < w.heap.size:=by
 rcases h with h|⟨l,b,p,o,_,hb,ax,_,hp,ha⟩
 ·exact hM.av g h
 ·exact hH.ch ⟨l,b,p,o,hb,ax,hp,ha⟩
theorem j9 {fz:List Nat} (hH:aB I β S w) (hM:cg G I w):cg G (dm I β S fz) w :=
 ⟨fun g hg=>CE hH hM hg,fun g cs hg=>⟨.inl (hM.mg g cs hg).1,bQ.mono (fun _ h=>.inl h) (fun _ _=>rfl) _ _ _ rfl (hM.mg g cs hg).2⟩,hM.row⟩
theorem zw (g:Nat):¬ Wr no ([]:List aj) g:=fun ⟨l,b,p,o,h1,_⟩=>by simp at h1
theorem ai.tX {f:FuncId} {args aR:List PV} {r:PV} {K:PV->List aj->Prop} (h:ai G f aR r) (fz:List Nat) (hz:Lr S fz=true) (hle:iC (Mx S fz) args aR) (hu:ct aR = []) (hr:r.bW = []) (hK:EB (gq fz S) (K r)):Spec G f args S [] K:=by
 refine Spec.intro h.run.1 fun I β w aS hH hM hA=>?_
 have h0:aB (dm I β S fz) no ([]:List aj) w:=⟨fun _ _=>rfl,fun l b hl=>by simp at hl⟩
 refine (h.run.2 _ no w aS h0 (j9 hH hM) (iG hH hle hu hA)).mono fun e w' ⟨v,r',S',I',aG,he,qw,hi,_,iF,hE,_,_⟩=>?_
 subst qw
 have hold:∀ g,g < w.heap.size->w'.heap[g]?=w.heap[g]?:=fun g hg=>hE.block g hg (zw g)
 have zo:∀ g,g < w.heap.size->I' g->dm I β S fz g:=fun g hg h=>(hE.new g hg h).elim id fun h=>absurd h (zw g)
 have oE:∀ g,I g->I' g:=fun g h=>hE.av g (.inl h)
 have tU:∀ (l:Nat) (b:aj),(gq fz S)[l]?=some b->∃ b0,S[l]?=some b0/\b = { b0 with m:=hC (gg l fz) b0.m }:=fun l b hb=>by
  unfold gq at hb
  rw[c9,Option.map_eq_some_iff] at hb
  obtain⟨b0,h1,h2⟩:=hb
  rw[Nat.zero_add] at h2
  exact⟨b0,h1,h2.symm⟩
 refine⟨v,r',gq fz S,I',β,he,pP hK,iE hr hi,⟨fun l hl=>hH.jE l (by unfold gq at hl; rw[dC] at hl; exact hl),fun l b hb ax=>?_⟩,iF,⟨hE.os,hE.tape,hE.output,hE.size,fun g hg _=>hold g hg,fun g _ h=>?_,oE,fun g hg h=>?_⟩,by unfold gq; rw[dC]; exact Nat.le_refl _,fun _ _ _=>rfl⟩
 ·obtain⟨b0,ee,rfl⟩:=tU l b hb
  obtain⟨p,hp,hk⟩:=hH.dX l b0 ee ax
  have own:∀ {g o:Nat} {fr:Nat × Nat},p.a=some (g,o)->g < w.heap.size->Own I β S l g fr b0->Own I' β (gq fz S) l g fr { b0 with m:=hC (gg l fz) b0.m }:=fun {g o fr} ha hg ho=>by
   refine⟨fun hm=>?_,fun hm=>?_⟩
   ·have lH:gg l fz=false/\b0.m≠.r:=by
     cases hc:gg l fz with
     | true=>simp only[hc,hC,cond_true,ne_eq,not_true_eq_false] at hm
     | false=>exact⟨rfl,by simpa only [hc,hC,cond_false] using hm⟩
    obtain⟨h1,h2,h3⟩:=ho.1 lH.2
    refine⟨h1,fun hI=>?_,fun l2 b2 bR du aY p2 g2 o2 eg ef=>?_⟩
    ·rcases zo g hg hI with hI|⟨l2,b2,p2,o2,du,cv,aY,_,eg,ef⟩
     ·exact h2 hI
     ·refine h3 l2 b2 (fun e=>?_) cv aY p2 g o2 eg ef rfl
      subst e
      rw[ck.2 du] at lH
      cases lH.1
    ·obtain⟨b3,gL,rfl⟩:=tU l2 b2 du
     exact h3 l2 b3 bR gL aY p2 g2 o2 eg ef
   ·cases hc:gg l fz with
    | true =>
     obtain⟨b1,My,k1,k2⟩:=tW hz (ck.1 hc)
     rw[ee] at My; cases My
     exact hE.av g (.inr ⟨l,b0,p,o,ck.1 hc,ee,k1,k2,hp,ha⟩)
    | false=>exact oE g (ho.2 (by simpa only [hc,hC,cond_false] using hm))
  have yf:∀ g,I g->w'.heap[g]?=w.heap[g]?:=fun g hg=>hold g (hM.av g hg)
  refine⟨p,hp,?_⟩
  split at hk
  ·rename_i bH
   obtain⟨g,o,arr,ty,fr,h1,h2,h3,ho⟩:=hk
   have hg:=bX h2
   simp only[bH]
   exact⟨g,o,arr,ty,fr,h1,(hold g hg).trans h2,aO.mono oE yf (fun _ _ h=>h) h3,own h1 hg ho⟩
  ·rename_i bH
   obtain⟨g,arr,fr,h1,h2,h3,ho,h4⟩:=hk
   have hg:=bX h2
   simp only[bH]
   exact⟨g,arr,fr,h1,(hold g hg).trans h2,aO.mono oE yf (fun _ _ h=>h) h3,own h1 hg ho,h4⟩
  ·rename_i bH
   obtain⟨h1,hk⟩:=hk
   simp only[bH]
   refine⟨h1,?_⟩
   rcases hk with h|⟨g,arr,fr,h2,h3,h4,ho,h5⟩
   ·exact .inl h
   ·have hg:=bX h3
    exact .inr ⟨g,arr,fr,h2,(hold g hg).trans h3,bp.mono oE yf _ _ _ _ (hold g hg) h4,own h2 hg ho,h5⟩
  ·rename_i bH
   obtain⟨g,h1,h2,ho⟩:=hk
   have hg:g < w.heap.size:=by obtain⟨es,clock,hb,_⟩:=h2; exact bX hb
   simp only[bH]
   exact⟨g,h1,h2.kz (hold g hg),own h1 hg ho⟩
 ·obtain⟨l,b,p,o,h1,h2,h3,h4,h5⟩:=h
  obtain⟨b0,ee,rfl⟩:=tU l b h1
  refine⟨l,b0,p,o,ee,h2,?_,h4,h5⟩
  cases hc:gg l fz with
  | true=>simp only[hc,hC,cond_true] at h3; cases h3
  | false=>simpa only [hc,hC,cond_false] using h3
 ·rcases zo g hg h with h|⟨l,b,p,o,hl,hb,ax,hm,hp,ha⟩
  ·exact .inl h
  ·cases qA:b.m with
   | w=>exact .inr ⟨l,b,p,o,hb,ax,qA,hp,ha⟩
   | p=>rw[qA] at hm; cases hm
   | r =>
    obtain⟨arr,ty,fr,_,ho⟩:=(hH.dX l b hb ax).place hp ha
    exact .inl (ho.2 qA)
theorem ai.Rn {f:FuncId} {args aR:List PV} {r:PV} {K:PV->List aj->Prop} (h:ai G f aR r) (fz:List Nat) (hle:iC (Mx S fz) args aR) (hu:ct aR = []) (hr:r.zt=true) (hK:K r S):Spec G f args S [] K:=by
 refine Spec.intro h.run.1 fun I β w aS hH hM hA=>?_
 have h0:aB (dm I β S fz) no ([]:List aj) w:=⟨fun _ _=>rfl,fun l b hl=>by simp at hl⟩
 refine (h.run.2 _ no w aS h0 (j9 hH hM) (iG hH hle hu hA)).mono fun e w' ⟨v,r',S',I',aG,he,qw,hi,_,iF,hE,_,_⟩=>?_
 subst qw
 have hold:∀ g,g < w.heap.size->w'.heap[g]?=w.heap[g]?:=fun g hg=>hE.block g hg (zw g)
 have yf:∀ g,I g->w'.heap[g]?=w.heap[g]?:=fun g hg=>hold g (hM.av g hg)
 refine⟨v,r',S,I,β,he,hK,zu hr hi,⟨hH.jE,fun l b hb ax=>(hH.dX l b hb ax).mono (fun _ h=>h) yf (fun _ _ h=>h) fun p g o hp ha=>?_⟩,⟨fun g hg=>Nat.lt_of_lt_of_le (hM.av g hg) hE.size,fun g cs hg=>⟨(hM.mg g cs hg).1,bQ.mono (fun _ h=>h) yf _ _ _ (yf g (hM.mg g cs hg).1) (hM.mg g cs hg).2⟩,fun g cs hg=>by
   obtain⟨arr,ty,fr,h1,h2⟩:=hM.row g cs hg
   exact⟨arr,ty,fr,(yf g (hM.mg g cs hg).1).trans h1,h2⟩⟩,
  ⟨hE.os,hE.tape,hE.output,hE.size,fun g hg _=>hold g hg,fun g _ h=>h,fun _ h=>h,fun _ _ h=>.inl h⟩,Nat.le_refl _,fun _ _ _=>rfl⟩
 obtain⟨arr,ty,fr,hh,ho⟩:=(hH.dX l b hb ax).place hp ha
 exact⟨hold g (bX hh),fun hr=>⟨(ho.1 hr).2.1,(ho.1 hr).2.2⟩⟩
end
def TM.rM:TM->TM
 | .nil=>.nil
 | .node v l r=>.node (match v with
  | some (.tup _)=>none
  | v=>v) l.rM r.rM
def aL.rN (s:aL) (c:Code) (vs:List (Nat × PV)):aL:=match s with
 | ⟨n,t,st,b,rl⟩=>⟨n,(rD vs (mP (mO c) t)).rM,st,b,rl⟩
theorem SW.mU {G:Gx} {s:aL} (hG:lX G) (R:List (Nat × aI)) {α:Type} {c:Code} {Q:X->aL->Prop} (hc:bL R c=true) (vs:α->List (Nat × PV)) (μ:α->Nat) (x0:α) (N:Nat) (h0:gG G.cx (FV 0 s.st) s (s.rN c (vs x0)))
  (h:∀ x,Lp (s.rN c (vs x)) (pw G R N c (mJ (fun s'=>∃ y,μ y < μ x/\gG G.cx (FV 0 s.st) s' (s.rN c (vs y))) Q))):SW G (.loop c) Q s :=
 SW.inv hG (fun x=>s.rN c (vs x)) μ (N:=N) hc x0 (dd hG.ok h0) (fun x s'=>∃ y,μ y < μ x/\gG G.cx (FV 0 s.st) s' (s.rN c (vs y))) (fun x s' ⟨y,hy,hs⟩=>⟨y,hy,dd hG.ok hs⟩) fun x=>mN (h x)
def aL.headD (s:aL) (c:Code) (vs:List (Nat × PV)) (ex:List aj):aL:=match s with
 | ⟨n,t,st,b,rl⟩=>⟨n,(rD vs (mP (mO c) t)).rM,st++ex,b,rl⟩
theorem SW.EO {G:Gx} {s:aL} (hG:lX G) (R:List (Nat × aI)) {α:Type} {c:Code} {Q:X->aL->Prop} (hc:bL R c=true) (vs:α->List (Nat × PV)) (ex:α->List aj) (μ:α->Nat) (x0:α) (N:Nat) (EH:dN) (h0:gG G.cx (FV 0 s.st++EH) s (s.headD c (vs x0) (ex x0)))
  (h:∀ x,Lp (s.headD c (vs x) (ex x)) (pw G R N c (mJ (fun s'=>∃ y π,μ y < μ x/\gG G.cx (FV 0 s.st++π) s' (s.headD c (vs y) (ex y))) Q))):SW G (.loop c) Q s :=
 SW.inv hG (fun x=>s.headD c (vs x) (ex x)) μ (N:=N) hc x0 (dd hG.ok h0) (fun x s'=>∃ y π,μ y < μ x/\gG G.cx (FV 0 s.st++π) s' (s.headD c (vs y) (ex y))) (fun x s' ⟨y,_,hy,hs⟩=>⟨y,hy,dd hG.ok hs⟩) fun x=>mN (h x)
end Go.Proofs.YtnbhdacpogplgaaGreatDoor.Pw

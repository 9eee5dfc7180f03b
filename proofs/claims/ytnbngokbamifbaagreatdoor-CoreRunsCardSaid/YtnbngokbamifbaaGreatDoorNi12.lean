/- What a law is proved with. -/
import Derived.Test.YtnbngokbamifbaaGreatDoorNi11
import Derived.Deep.Slices
import Derived.Below
import Derived.OpenShut
import Derived.LaidLaws
import Derived.ChangeArms
import Derived.MakeChecks
import Derived.Stop.Joined
import Derived.Test.YtnbngokbamifbaaGreatDoorNi10
set_option linter.unusedVariables false
set_option linter.unusedSimpArgs false
namespace Go.Proofs.YtnbngokbamifbaaGreatDoor.Pw
open Go Go.RowKit
section
variable {w w' : World} {I I' : Nat -> Prop} {β β' : Places} {G : Gx} {s : PSt} {a : Act} {st st' : List PBlk}
theorem HeapOk.none0 (hH : HeapOk I β [] w) (w' : World) (I' : Nat -> Prop) : HeapOk I' β [] w':=⟨hH.far,fun l b hl=>by simp at hl⟩
theorem ImmOk.below (hM : ImmOk G I w) (hB : Below w.heap.size w w') : ImmOk G I w' :=
 ⟨fun g hg=>Nat.lt_of_lt_of_le (hM.imm g hg) hB.size,fun g cs h=>⟨(hM.tab g cs h).1,IsAt.mono (fun _ h=>h) (fun g hg=>hB.block g (hM.imm g hg)) _ _ _ (hB.block g (hM.imm g (hM.tab g cs h).1)) (hM.tab g cs h).2⟩,fun g cs h=>by
  obtain ⟨arr,ty,fr,h1,h2⟩:=hM.row g cs h
  exact ⟨arr,ty,fr,(hB.block g (hM.imm g (hM.tab g cs h).1)).trans h1,h2⟩⟩
theorem PureF.of_calls {f : FuncId} {args : List PV} {r : PV} (he : Ev.Enters G.cx.P f) (vs : List Value) (v : Value) (ha : ∀ w I β vals,IsL w I args β vals -> vals = vs) (hr : ∀ w I β,r.Is w I β v)
  (h : ∀ w,Calls G.cx.P f vs.toArray w fun e w'=>e = .returned v /\ Below w.heap.size w w') : PureF G f args r:=by
 refine Spec.intro he fun I β w vals hH hM hA=>?_
 rw [ha _ _ _ _ hA]
 refine (h w).mono fun e w' ⟨he,hB⟩=>⟨v,r,[],I,β,he,rfl,hr _ _ _,hH.none0 _ _,hM.below hB,⟨hB.os,hB.tape,hB.output,hB.size,fun g hg _=>hB.block g hg,fun g _ h=>h,fun _ h=>h,fun _ _ h=>.inl h⟩,Nat.le_refl _,fun _ _ _=>rfl⟩
theorem PureF.of_same {f : FuncId} {args : List PV} {r : PV} (he : Ev.Enters G.cx.P f) (vs : List Value) (v : Value) (ha : ∀ w I β vals,IsL w I args β vals -> vals = vs) (hr : ∀ w I β,r.Is w I β v)
  (h : ∀ w,Calls G.cx.P f vs.toArray w fun e w'=>e = .returned v /\ w' = w) : PureF G f args r :=
 PureF.of_calls he vs v ha hr fun w=>(h w).mono fun e w' ⟨h1,h2⟩=>⟨h1,h2 ▸ Below.refl _ _⟩
theorem PureF.calls {f : FuncId} {args : List PV} {r : PV} {vals : List Value} (h : PureF G f args r) (hM : ImmOk G I w) (hA : IsL w I args (fun _=>none) vals) (v : Value) (hr : ∀ w' I' β' v',r.Is w' I' β' v' -> v' = v) :
  Calls G.cx.P f vals.toArray w fun e w'=>e = .returned v /\ Below w.heap.size w w':=by
 have h0 : HeapOk I (fun _=>none) ([] : List PBlk) w:=⟨fun _ _=>rfl,fun l b hl=>by simp at hl⟩
 refine (h.run.2 I (fun _=>none) w vals h0 hM hA).mono fun e w' ⟨v',r',S',I',β',he,hr',hi,_,hM',hE,_,_⟩=>?_
 subst hr'
 rw [hr _ _ _ _ hi] at he
 exact ⟨he,hE.os,hE.tape,hE.output,hE.size,fun g hg=>hE.block g hg fun ⟨l,b,p,o,h1,_⟩=>by simp at h1⟩
theorem tt_only (w' : World) (I' : Nat -> Prop) (β' : Places) (v' : Value) (h : PV.tt.Is w' I' β' v') : v' = .bool true:=by simpa [PV.Is] using h
end
def In (w : World) (g : Nat) : Prop:=g < w.heap.size
abbrev no : Places:=fun _=>none
def Op (P : Program) (t : TypeId) (S : PV -> Prop) : Prop:=∀ {H : Type} (e : TypeId × Value -> H) (w : World) (base : Nat) (held : Bool) (fuel : Nat) (cs : List Value) (x : DataW H × List MemPlace),
 DataW.trod e P w base (fun _=>true) held fuel t cs = some x -> (∀ n ∈ x.1.weights P t,n <= reachBytes) -> ∃ y,S y /\ (∀ vs,y ≠ .tup vs) /\ IsL w (In w) y.cells no cs /\ cs.length = P.cellsOf t /\ ∀ c ∈ cs,c.oneCell' = true
def SInt (k : IntKind) (x : PV) : Prop:=∃ z,InR k z /\ x = .int k z
def SBool (x : PV) : Prop:=∃ b : Bool,x = .bool (b = true)
def SSl (n b : Nat) (S : PV -> Prop) (x : PV) : Prop:=∃ es : List PV,(es.length <= maxLen /\ es.length * b <= reachBytes) /\ (∀ e ∈ es,S e) /\ x = .sl n es
def All2S : List (PV -> Prop) -> List PV -> Prop
 | [],[]=>True
 | S :: Ss,x :: xs=>S x /\ All2S Ss xs
 | _,_=>False
def SAgg (Ss : List (PV -> Prop)) (x : PV) : Prop:=∃ xs,All2S Ss xs /\ x = .agg (xs.flatMap PV.cells)
theorem all2_cons {S : PV -> Prop} {Ss : List (PV -> Prop)} {xs : List PV} (h : All2S (S :: Ss) xs) : ∃ x r,xs = x :: r /\ S x /\ All2S Ss r:=by
 cases xs with
 | nil=>exact h.elim
 | cons x r=>exact ⟨x,r,rfl,h⟩
theorem all2_nil {xs : List PV} (h : All2S [] xs) : xs = []:=by
 cases xs with
 | nil=>rfl
 | cons x r=>exact h.elim
section
variable {P : Program} {t e : TypeId}
theorem inR_wf {k : IntKind} {z : Int} (h : (Lit.int k z).wf = true) : InR k z:=by
 unfold InR
 cases k <;> simp_all [Lit.wf,Ev.kmin,Ev.kmax,IntKind.min,IntKind.max,IntKind.signed,IntKind.bits] <;> omega
theorem opInt {k : IntKind} (ht : P.underlying t = some (.int k)) (hc : P.cellsOf t = 1) : Op P t (SInt k):=fun e w base held fuel cs x h hwt=>by
 obtain ⟨n,rfl,_,hw⟩:=DataW.trod_int ht h
 exact ⟨.int k n,⟨n,inR_wf hw,rfl⟩,nofun,IsL.one (by simp only [PV.Is]),by rw [hc]; rfl,fun c hc=>by simp only [List.mem_singleton] at hc; subst hc; rfl⟩
theorem choose_list {α : Type _} {p : Nat -> α -> Prop} : ∀ n : Nat,(∀ i,i < n -> ∃ y,p i y) -> ∃ l : List α,l.length = n /\ ∀ i y,l[i]? = some y -> p i y
 | 0,_=>⟨[],rfl,fun i y h=>by simp at h⟩
 | n + 1,h=>by
  obtain ⟨l,hl,hp⟩:=choose_list (p:=p) n fun i hi=>h i (by omega)
  obtain ⟨y,hy⟩:=h n (by omega)
  refine ⟨l ++ [y],by simp [hl],fun i z hz=>?_⟩
  rw [List.getElem?_append] at hz
  split at hz
  ·exact hp i z hz
  ·rename_i hge
   have h0 : i - l.length = 0:=by
    have:=(List.getElem?_eq_some_iff.1 hz).1
    simp at this; omega
   rw [h0] at hz
   simp only [List.getElem?_cons_zero,Option.some.injEq] at hz
   subst hz
   have : i = n:=by omega
   subst this; exact hy
theorem weights_all {H : Type} {n : Nat} : ∀ {l : List (DataW H)} {d : DataW H},d ∈ l -> n ∈ d.weights P e -> n ∈ DataW.weightsAll P e l
 | [],_,h,_=>by cases h
 | a :: l,d,h,hn=>by
  simp only [DataW.weightsAll,List.mem_append]
  rcases List.mem_cons.1 h with rfl | h
  ·exact .inl hn
  ·exact .inr (weights_all h hn)
theorem weights_each {H : Type} {n : Nat} : ∀ {ts : List TypeId} {l : List (DataW H)} {i : Nat} {t : TypeId} {d : DataW H},ts[i]? = some t -> l[i]? = some d -> n ∈ d.weights P t -> n ∈ DataW.weightsEach P ts l
 | [],_,_,_,_,h,_,_=>by simp at h
 | _ :: _,[],_,_,_,_,h,_=>by simp at h
 | u :: ts,a :: l,0,t,d,h,h',hn=>by
  simp only [List.getElem?_cons_zero,Option.some.injEq] at h h'
  subst h; subst h'
  simp only [DataW.weightsEach,List.mem_append]
  exact .inl hn
 | u :: ts,a :: l,i + 1,t,d,h,h',hn=>by
  simp only [DataW.weightsEach,List.mem_append]
  exact .inr (weights_each (by simpa using h) (by simpa using h') hn)
theorem opSlice {S : PV -> Prop} (he : Op P e S) (n b : Nat) (hbb : P.bytesOf e = b) (ht : P.underlying t = some (.slice e)) (hn : P.cellsOf e = n) (h0 : 0 < n) (hc : P.cellsOf t = 1) : Op P t (SSl n b S):=fun {H} ec w base held fuel cs x h hwt=>by
 subst hn
 subst hbb
 rcases Deep.open_slice ht h with ⟨rfl,_⟩ | ⟨a,len,cap,m,k,D,Pl,rfl,hb,hl,hm,hmm,rfl,hx⟩
 ·exact ⟨.sl _ [],⟨[],⟨by simp,by simp⟩,fun _ h=>by simp at h,rfl⟩,nofun,IsL.one (by simp only [PV.Is]; exact ⟨none,0,rfl,Nat.le_refl _,by simp,fun _ _ h=>by simp at h,fun h=>absurd rfl h⟩),by rw [hc]; rfl,fun c hc=>by simp only [List.mem_singleton] at hc; subst hc; rfl⟩
 ·simp only [if_true] at hmm
  subst hmm
  have hwl : len * P.bytesOf e <= reachBytes:=by
   have:=hwt ((len + (m - len)) * P.bytesOf e) (by simp only [DataW.weights,ht,List.length_map,List.length_range]; exact List.mem_cons_self)
   exact Nat.le_trans (Nat.mul_le_mul_right _ (Nat.le_add_right _ _)) this
  have hwe : ∀ i,i < len -> ∀ n ∈ (D i).weights P e,n <= reachBytes:=fun i hi n hn=>hwt n (by
   simp only [DataW.weights,ht]
   exact List.mem_cons_of_mem _ (List.mem_append.2 (.inl (weights_all (List.mem_map.2 ⟨i,List.mem_range.2 hi,rfl⟩) hn))))
  have hs0 : 0 < len -> a.spot = none:=fun hp=>by
   obtain ⟨cs',h1,h2⟩:=hx 0 (by omega)
   obtain ⟨y,_,_,hy,hlen,_⟩:=he ec w base held k cs' _ h2 (hwe 0 hp)
   obtain ⟨_,_,hcell⟩:=World.cells?_some h1
   have hc0:=hcell 0 h0
   rw [List.getElem?_eq_getElem (by omega),Nat.zero_mul] at hc0
   exact World.cell?_spot hc0
  have each : ∀ i,i < len -> ∃ y,S y /\ a.spot = none /\ a.block < w.heap.size /\ ElAt w (In w) (P.cellsOf e) y a.block (a.off + i * P.cellsOf e):=fun i hi=>by
   obtain ⟨cs',h1,h2⟩:=hx i (by omega)
   obtain ⟨y,hS,_,hy,hlen,h1c⟩:=he ec w base held k cs' _ h2 (hwe i hi)
   obtain ⟨_,_,hcell⟩:=World.cells?_some h1
   have hc0:=hcell 0 h0
   rw [List.getElem?_eq_getElem (by omega)] at hc0
   have hs : a.spot = none:=hs0 (by omega)
   obtain ⟨b,off,sp⟩:=a
   dsimp only at hs
   subst hs
   have ea : ∀ b off k,(⟨b,off,none⟩ : Addr).add k = ⟨b,off + k,none⟩:=fun b off k=>by unfold Addr.add; split <;> simp_all
   refine ⟨y,hS,rfl,?_,?_,IsAt.of fun j c hj=>?_⟩
   ·have:=World.block_lt_of_cell? w _ hc0
    rw [ea,ea] at this; exact this
   ·rw [hy.length,hlen]
   ·obtain ⟨v,hv,hi'⟩:=hy.get hj
    have hj' : j < P.cellsOf e:=by rw [← hlen]; exact (List.getElem?_eq_some_iff.1 hv).1
    have:=hcell j hj'
    rw [ea,ea,hv] at this
    exact ⟨v,by simpa only [Nat.add_assoc] using this,hi',h1c v (List.mem_of_getElem? hv)⟩
  obtain ⟨es,hes,hp⟩:=choose_list len each
  refine ⟨.sl _ es,⟨es,⟨by omega,by rw [hes]; exact hwl⟩,fun y hy=>?_,rfl⟩,nofun,IsL.one ?_,by rw [hc]; rfl,fun c hc=>by simp only [List.mem_singleton] at hc; subst hc; rfl⟩
  ·obtain ⟨i,hi⟩:=List.getElem?_of_mem hy
   exact (hp i y hi).1
  ·simp only [PV.Is]
   refine ⟨some a,m,by rw [hes],by omega,by omega,fun g o hgo=>?_,fun hne=>?_⟩
   ·cases hgo
    exact IsEs.of fun i y hy=>(hp i y hy).2.2.2
   ·have h1 : 0 < es.length:=by omega
    obtain ⟨_,h2,h3,_⟩:=hp 0 es[0] (List.getElem?_eq_getElem h1)
    obtain ⟨b,off,sp⟩:=a
    dsimp only at h2
    subst h2
    exact ⟨b,off,rfl,h3,h0⟩
def OpFs (P : Program) (total : Nat) : Nat -> List Field -> List (PV -> Prop) -> Prop
 | off,[],[]=>off = total
 | off,f :: fs,S :: Ss=>f.offset = off /\ Op P f.type S /\ OpFs P total (off + P.cellsOf f.type) fs Ss
 | _,_,_=>False
theorem opAgg {fs : Array Field} {Ss : List (PV -> Prop)} (ht : P.underlying t = some (.struct fs)) (hf : OpFs P (P.cellsOf t) 0 fs.toList Ss) : Op P t (SAgg Ss):=fun {H} ec w base held fuel cs x h hwt=>by
 obtain ⟨xs,n,_,rfl,hl,hxl,hx⟩:=DataW.trod_struct ht h
 have key : ∀ (l : List Field) (Ss : List (PV -> Prop)) (off : Nat),OpFs P (P.cellsOf t) off l Ss -> (∀ f ∈ l,∃ y,DataW.trod ec P w base (fun _=>true) held n f.type ((cs.drop f.offset).take (P.cellsOf f.type)) = some y /\ ∀ n ∈ y.1.weights P f.type,n <= reachBytes) -> off <= cs.length ->
   ∃ ys,All2S Ss ys /\ IsL w (In w) (ys.flatMap PV.cells) no (cs.drop off) /\ ∀ c ∈ cs.drop off,c.oneCell' = true:=by
  intro l
  induction l with
  | nil =>
   intro Ss off h _ _
   cases Ss with
   | nil =>
    simp only [OpFs] at h
    refine ⟨[],trivial,?_,?_⟩
    ·rw [List.drop_eq_nil_of_le (by omega)]; simp only [List.flatMap_nil,IsL]
    ·rw [List.drop_eq_nil_of_le (by omega)]; intro c hc; cases hc
   | cons=>exact h.elim
  | cons f l ih =>
   intro Ss off h ht hle
   cases Ss with
   | nil=>exact h.elim
   | cons S Ss =>
    obtain ⟨h1,h2,h3⟩:=h
    subst h1
    obtain ⟨z,hz,hzw⟩:=ht f (List.mem_cons_self ..)
    obtain ⟨y,hS,_,hy,hyl,hy1⟩:=h2 ec w base held n _ z hz hzw
    have hle2 : f.offset + P.cellsOf f.type <= cs.length:=by
     rw [List.length_take,List.length_drop] at hyl; omega
    obtain ⟨ys,hys,hyL,hyO⟩:=ih Ss _ h3 (fun g hg=>ht g (List.mem_cons_of_mem _ hg)) hle2
    have hd : cs.drop f.offset = (cs.drop f.offset).take (P.cellsOf f.type) ++ cs.drop (f.offset + P.cellsOf f.type):=by
     rw [← List.drop_drop,List.take_append_drop]
    refine ⟨y :: ys,⟨hS,hys⟩,?_,?_⟩
    ·rw [hd,List.flatMap_cons]; exact hy.append hyL
    ·intro c hc
     rw [hd,List.mem_append] at hc
     exact hc.elim (hy1 c) (hyO c)
 obtain ⟨ys,h1,h2,h3⟩:=key fs.toList Ss 0 hf (fun f hf=>by
  obtain ⟨i,hi⟩:=List.getElem?_of_mem hf
  have hi' : i < fs.size:=by simpa using (List.getElem?_eq_some_iff.1 hi).1
  have:=hx i f (by simpa using hi)
  rw [this]
  have hlt : i < xs.length:=by omega
  refine ⟨_,List.getElem?_eq_getElem hlt,fun n hn=>hwt n ?_⟩
  simp only [DataW.weights,ht]
  exact weights_each (i:=i) (by rw [List.getElem?_map,hi]; rfl) (by rw [List.getElem?_map,List.getElem?_eq_getElem hlt]; rfl) hn) (Nat.zero_le _)
 rw [List.drop_zero] at h2 h3
 exact ⟨.agg (ys.flatMap PV.cells),⟨ys,h1,rfl⟩,nofun,h2,hl,h3⟩
theorem Op.weak {S S' : PV -> Prop} (h : Op P t S) (hS : ∀ x,S x -> S' x) : Op P t S':=fun e w base held fuel cs x hx hwt=>by
 obtain ⟨y,h1,h2⟩:=h e w base held fuel cs x hx hwt
 exact ⟨y,hS y h1,h2⟩
theorem decode {α : Type} {S : PV -> Prop} {enc : α -> PV} {ok : α -> Prop} (h : ∀ x,S x -> ∃ z,ok z /\ x = enc z) : ∀ (es : List PV),(∀ e ∈ es,S e) -> ∃ l : List α,(∀ z ∈ l,ok z) /\ es = l.map enc
 | [],_=>⟨[],fun _ h=>by simp at h,rfl⟩
 | e :: es,hS=>by
  obtain ⟨z,hz,rfl⟩:=h e (hS e (List.mem_cons_self ..))
  obtain ⟨l,hl,rfl⟩:=decode h es fun e he=>hS e (List.mem_cons_of_mem _ he)
  refine ⟨z :: l,fun y hy=>?_,rfl⟩
  rcases List.mem_cons.1 hy with rfl | hy
  ·exact hz
  ·exact hl y hy
def SLs {α : Type} (n b : Nat) (enc : α -> PV) (ok : α -> Prop) (x : PV) : Prop:=∃ l : List α,(l.length <= maxLen /\ l.length * b <= reachBytes) /\ (∀ z ∈ l,ok z) /\ x = .sl n (l.map enc)
theorem opList {α : Type} {S : PV -> Prop} {n b : Nat} {enc : α -> PV} {ok : α -> Prop} (h : Op P t (SSl n b S)) (hd : ∀ x,S x -> ∃ z,ok z /\ x = enc z) : Op P t (SLs n b enc ok):=h.weak fun x ⟨es,h1,h2,h3⟩=>by
 obtain ⟨l,hl,rfl⟩:=decode hd es h2
 exact ⟨l,by simpa using h1,hl,h3⟩
theorem each_le {H : Type} {ts : List TypeId} {l : List (DataW H)} (h : (DataW.weightsEach P ts l).all (· <= reachBytes) = true) {i : Nat} {d : DataW H} (ht : ts[i]? = some t) (hd : l[i]? = some d) : ∀ n ∈ d.weights P t,n <= reachBytes:=fun n hn=>by
 have:=List.all_eq_true.1 h n (weights_each ht hd hn)
 simpa using this
theorem Op.arg1 {S : PV -> Prop} (h : Op P t S) (h1 : ∀ y,S y -> y.cells = [y]) {H : Type} {ec : TypeId × Value -> H} {w : World} {base : Nat} {held : Bool} {v : Value} {d : DataW H} {p : List MemPlace} (hv : v.cells = #[v]) (ht : DataW.Trod ec P w base (fun _=>true) held t v d p) (hwt : ∀ n ∈ d.weights P t,n <= reachBytes) :
  ∃ y,S y /\ y.Is w (In w) no v:=by
 obtain ⟨fuel,ht⟩:=ht
 obtain ⟨y,hS,_,hy,_⟩:=h ec w base held fuel _ _ ht hwt
 refine ⟨y,hS,?_⟩
 rw [h1 y hS,hv] at hy
 simp only [IsL,and_true] at hy
 exact hy
theorem Op.argA {Ss : List (PV -> Prop)} (h : Op P t (SAgg Ss)) {H : Type} {ec : TypeId × Value -> H} {w : World} {base : Nat} {held : Bool} {vs : Array Value} {d : DataW H} {p : List MemPlace} (ht : DataW.Trod ec P w base (fun _=>true) held t (.agg vs) d p) (hwt : ∀ n ∈ d.weights P t,n <= reachBytes) :
  ∃ y,SAgg Ss y /\ y.Is w (In w) no (.agg vs):=by
 obtain ⟨fuel,ht⟩:=ht
 obtain ⟨y,hS,_,hy,_⟩:=h ec w base held fuel _ _ ht hwt
 refine ⟨y,hS,?_⟩
 obtain ⟨xs,_,rfl⟩:=hS
 simp only [PV.Is]
 exact ⟨vs,rfl,hy⟩
theorem SSl.cell {n b : Nat} {S : PV -> Prop} (y : PV) : SSl n b S y -> y.cells = [y]:=fun ⟨_,_,_,h⟩=>by subst h; rfl
theorem SLs.cell {α : Type} {n b : Nat} {enc : α -> PV} {ok : α -> Prop} (y : PV) : SLs n b enc ok y -> y.cells = [y]:=fun ⟨_,_,_,h⟩=>by subst h; rfl
theorem SInt.cell {k : IntKind} (y : PV) : SInt k y -> y.cells = [y]:=fun ⟨_,_,h⟩=>by subst h; rfl
theorem SBool.cell (y : PV) : SBool y -> y.cells = [y]:=fun ⟨_,h⟩=>by subst h; rfl
end
end Go.Proofs.YtnbngokbamifbaaGreatDoor.Pw
namespace Go.Proofs.YtnbngokbamifbaaGreatDoor.Pw
open Go Go.RowKit
def tabPs (P : Program) (total : Nat) (r : TypeId -> DataW Unit -> Option (List PV)) : Nat -> List (Nat × TypeId) -> List (DataW Unit) -> Option (List PV)
 | off,[],[]=>if off = total then some [] else none
 | off,(o,t) :: ps,d :: ds=>if o = off then (match r t d,tabPs P total r (off + P.cellsOf t) ps ds with
   | some xs,some ys=>some (xs ++ ys)
   | _,_=>none) else none
 | _,_,_=>none
def tabV (P : Program) : Nat -> TypeId -> DataW Unit -> Option (List PV)
 | 0,_,_=>none
 | f + 1,t,d=>match P.underlying t,d with
  | some (.int k),.lit (.int l n)=>if k = l then some [.lit k n] else none
  | some .bool,.lit (.bool b)=>some [if b then .tt else .ff]
  | some (.struct fs),.agg ds=>tabPs P (P.cellsOf t) (tabV P f) 0 (fs.toList.map fun f=>(f.offset,f.type)) ds
  | some (.array n e),.agg ds=>tabPs P (P.cellsOf t) (tabV P f) 0 ((List.range n).map fun i=>(i * P.cellsOf e,e)) ds
  | _,_=>none
section
variable {P : Program} {w : World} {I : Nat -> Prop}
theorem tabV_ok {base : Nat} {sp : Nat -> Bool} {held : Bool} {enc : TypeId × Value -> Unit} : ∀ (f : Nat) (t : TypeId) (d : DataW Unit) (xs : List PV) (fuel : Nat) (cs : List Value) (p : List MemPlace),tabV P f t d = some xs -> DataW.trod enc P w base sp held fuel t cs = some (d,p) -> IsL w I xs no cs /\ ∀ c ∈ cs,c.oneCell' = true
 | 0,_,_,_,_,_,_,h,_=>by simp [tabV] at h
 | f + 1,t,d,xs,fuel,cs,p,h,ht=>by
  have key : ∀ (n : Nat) (ps : List (Nat × TypeId)) (ds : List (DataW Unit)) (off : Nat) (xs : List PV),tabPs P (P.cellsOf t) (tabV P f) off ps ds = some xs -> cs.length = P.cellsOf t ->
    (∀ (i : Nat) (o : Nat) (u : TypeId),ps[i]? = some (o,u) -> ∃ d p,ds[i]? = some d /\ DataW.trod enc P w base sp held n u ((cs.drop o).take (P.cellsOf u)) = some (d,p)) -> IsL w I xs no (cs.drop off) /\ ∀ c ∈ cs.drop off,c.oneCell' = true:=by
   intro n ps
   induction ps with
   | nil =>
    intro ds off xs h hl _
    cases ds with
    | cons=>simp [tabPs] at h
    | nil =>
     simp only [tabPs] at h
     split at h
     ·cases h
      rw [List.drop_eq_nil_of_le (by omega)]
      exact ⟨by simp only [IsL],fun c hc=>by cases hc⟩
     ·cases h
   | cons q ps ih =>
    obtain ⟨o,u⟩:=q
    intro ds off xs h hl ha
    cases ds with
    | nil=>simp [tabPs] at h
    | cons d ds =>
     simp only [tabPs] at h
     split at h
     ·rename_i ho
      subst ho
      split at h
      ·rename_i xs1 ys h1 h2
       cases h
       obtain ⟨d',p',hd,ht⟩:=ha 0 o u rfl
       simp only [List.getElem?_cons_zero,Option.some.injEq] at hd
       subst hd
       have i1:=tabV_ok f u _ _ n _ _ h1 ht
       have i2:=ih ds _ _ h2 hl fun i o' u' hi=>by
        obtain ⟨d',p',hd,ht⟩:=ha (i + 1) o' u' (by simpa using hi)
        exact ⟨d',p',by simpa using hd,ht⟩
       have hd : cs.drop o = (cs.drop o).take (P.cellsOf u) ++ cs.drop (o + P.cellsOf u):=by
        rw [← List.drop_drop,List.take_append_drop]
       rw [hd]
       refine ⟨i1.1.append i2.1,fun c hc=>?_⟩
       rw [List.mem_append] at hc
       exact hc.elim (i1.2 c) (i2.2 c)
      ·cases h
     ·cases h
  unfold tabV at h
  split at h
  ·rename_i hu
   obtain ⟨z,rfl,hz,_⟩:=DataW.trod_int hu ht
   simp only [Prod.mk.injEq,DataW.lit.injEq,Lit.int.injEq] at hz
   obtain ⟨⟨rfl,rfl⟩,_⟩:=hz
   simp only [if_true,Option.some.injEq] at h
   subst h
   exact ⟨IsL.one (by simp only [PV.Is]),fun c hc=>by simp only [List.mem_singleton] at hc; subst hc; rfl⟩
  ·rename_i hu
   obtain ⟨b,rfl,hz⟩:=DataW.trod_bool hu ht
   simp only [Prod.mk.injEq,DataW.lit.injEq,Lit.bool.injEq] at hz
   obtain ⟨rfl,_⟩:=hz
   simp only [Option.some.injEq] at h
   subst h
   refine ⟨IsL.one ?_,fun c hc=>by simp only [List.mem_singleton] at hc; subst hc; rfl⟩
   split <;> simp only [PV.Is] <;> simp_all
  ·rename_i hu
   obtain ⟨ys,n,_,hz,hl,hyl,hy⟩:=DataW.trod_struct hu ht
   simp only [Prod.mk.injEq,DataW.agg.injEq] at hz
   obtain ⟨rfl,_⟩:=hz
   have:=key n _ _ 0 xs h hl fun i o u hi=>by
    simp only [List.getElem?_map,Option.map_eq_some_iff,Prod.mk.injEq] at hi
    obtain ⟨f',hf,rfl,rfl⟩:=hi
    have hy:=hy i f' (by simpa using hf)
    have hlt : i < ys.length:=by rw [hyl]; simpa using (List.getElem?_eq_some_iff.1 hf).1
    exact ⟨ys[i].1,ys[i].2,by simp [hlt],by rw [hy]; simp [hlt]⟩
   simpa using this
  ·rename_i hu
   obtain ⟨ys,n,_,hz,hl,hyl,hy⟩:=DataW.trod_array hu ht
   simp only [Prod.mk.injEq,DataW.agg.injEq] at hz
   obtain ⟨rfl,_⟩:=hz
   have:=key n _ _ 0 xs h hl fun i o u hi=>by
    simp only [List.getElem?_map,Option.map_eq_some_iff,Prod.mk.injEq] at hi
    obtain ⟨j,hj,rfl,rfl⟩:=hi
    obtain ⟨hj1,rfl⟩:=List.getElem?_eq_some_iff.1 hj
    simp only [List.length_range] at hj1
    rw [List.getElem_range]
    have hy:=hy i hj1
    have hlt : i < ys.length:=by omega
    exact ⟨ys[i].1,ys[i].2,by simp [hlt],by rw [hy]; simp [hlt]⟩
   simpa using this
  ·cases h
theorem laid_at {laid : List (String × DataW Unit)} : ∀ {l : List (String × DataW Unit)} {ps : List MemPlace},DataW.LaidVars P w l ps -> ∀ {name : String} {d : DataW Unit},(name,d) ∈ l -> ∀ {g : Nat} {t : TypeId} {xs : List PV} (f : Nat),P.globalNamed name = some g -> (P.globals[g]?).map (·.type) = some t -> tabV P f t d = some xs -> xs ≠ [] -> (g < w.heap.size /\ IsAt w I xs g 0) /\ ∃ arr ty fr,w.heap[g]? = some (.cells arr ty fr) /\ arr.size = xs.length
 | [],_,_,_,_,hm,_,_,_,_,_,_,_,_=>by cases hm
 | (n,d) :: r,ps,h,name,d',hm,g,t,xs,f,hg,ht,hx,hne=>by
  obtain ⟨g',t',cs,fuel,p,q,hg',ht',hvar,hd,hr,_⟩:=h
  rcases List.mem_cons.1 hm with he | hm
  ·cases he
   obtain rfl:=Option.some.inj (hg.symm.trans hg')
   obtain rfl:=Option.some.inj (ht.symm.trans ht')
   obtain ⟨h1,h2⟩:=tabV_ok (I:=I) f t _ _ fuel _ _ hx hd
   have hat : IsAt w I xs g 0:=IsAt.of fun i c hc=>by
    obtain ⟨v,hv,hi⟩:=h1.get hc
    exact ⟨v,by rw [Nat.zero_add,World.var?_cell hg hvar]; simpa using hv,hi,h2 v (List.mem_of_getElem? hv)⟩
   refine ⟨⟨?_,hat⟩,?_⟩
   rotate_left 1
   ·have hl:=h1.length
    unfold World.var? at hvar
    rw [hg,Option.bind_some] at hvar
    split at hvar
    ·rename_i arr ty fr hh
     cases hvar
     exact ⟨_,ty,fr,hh,by simpa using hl.symm⟩
    ·cases hvar
   cases xs with
   | nil=>exact absurd rfl hne
   | cons c xs =>
    obtain ⟨v,hv,_⟩:=hat.get (i:=0) rfl
    exact World.block_lt_of_cell? w _ hv
  ·exact laid_at (laid:=laid) hr hm f hg ht hx hne
theorem immOk_laid {G : Gx} {laid : List (String × DataW Unit)} (hpl : (laid.all fun x=>x.2.handleName?.isNone) = true) (h : laidMetH P laid w)
  (hall : ∀ x ∈ G.tabs,∃ name d t,(name,d) ∈ laid /\ P.globalNamed name = some x.1 /\ (P.globals[x.1]?).map (·.type) = some t /\ tabV P 8 t d = some x.2 /\ x.2 ≠ []) : ImmOk G (In w) w:=by
 rw [MakeChecks.laidMetH_plain _ _ _ hpl] at h
 obtain ⟨ps,h,_⟩:=h
 have key : ∀ (g : Nat) (cs : List PV),(g,cs) ∈ G.tabs -> (g < w.heap.size /\ IsAt w (In w) cs g 0) /\ ∃ arr ty fr,w.heap[g]? = some (.cells arr ty fr) /\ arr.size = cs.length:=fun g cs hg=>by
  obtain ⟨name,d,t,h1,h2,h3,h4,h5⟩:=hall _ hg
  exact laid_at (I:=In w) (laid:=laid) h h1 8 h2 h3 h4 h5
 exact ⟨fun g hg=>hg,fun g cs hg=>(key g cs hg).1,fun g cs hg=>(key g cs hg).2⟩
end
section
variable {w w' : World} {I I' : Nat -> Prop} {β β' : Places} {G : Gx} {s : PSt} {a : Act} {st st' : List PBlk}
def NewI (I : Nat -> Prop) (w w' : World) (g : Nat) : Prop:=I g \/ (w.heap.size <= g /\ g < w'.heap.size)
theorem PureF.of_new {f : FuncId} {args : List PV} {r : PV} (he : Ev.Enters G.cx.P f)
  (h : ∀ I β w vals,ImmOk G I w -> IsL w I args β vals -> Calls G.cx.P f vals.toArray w fun e w'=>∃ v,e = .returned v /\ Below w.heap.size w w' /\ r.Is w' (NewI I w w') no v) (hu : r.uses = []) : PureF G f args r:=by
 refine Spec.intro he fun I β w vals hH hM hA=>?_
 refine (h I β w vals hM hA).mono fun e w' ⟨v,he,hB,hr⟩=>⟨v,r,[],NewI I w w',β,he,rfl,uses_none hu hr,hH.none0 _ _,?_,⟨hB.os,hB.tape,hB.output,hB.size,fun g hg _=>hB.block g hg,fun g _ ⟨l,b,p,o,h1,_⟩=>by simp at h1,fun _ h=>.inl h,fun g hg h=>?_⟩,Nat.le_refl _,fun _ _ _=>rfl⟩
 ·have hM':=hM.below hB
  exact ⟨fun g hg=>hg.elim (fun h=>hM'.imm g h) (fun h=>h.2),fun g cs hg=>⟨.inl (hM'.tab g cs hg).1,IsAt.mono (fun _ h=>.inl h) (fun _ _=>rfl) _ _ _ rfl (hM'.tab g cs hg).2⟩,hM'.row⟩
 ·rcases h with h | h
  ·exact .inl h
  ·omega
end
end Go.Proofs.YtnbngokbamifbaaGreatDoor.Pw
namespace Go.Proofs.YtnbngokbamifbaaGreatDoor.Pw
open Go
def P99 : List (Nat × Plan):=[]
def P131 : List (Nat × Plan):=[]
def P149 : List (Nat × Plan):=[]
def P148 : List (Nat × Plan):=[]
def P188 : List (Nat × Plan):=[]
def P150 : List (Nat × Plan):=[]
def P189 : List (Nat × Plan):=[]
def P151 : List (Nat × Plan):=[]
def P152 : List (Nat × Plan):=[]
def P153 : List (Nat × Plan):=[]
def P154 : List (Nat × Plan):=[]
def P190 : List (Nat × Plan):=[]
def P155 : List (Nat × Plan):=[]
def P54 : List (Nat × Plan):=[]
def P88 : List (Nat × Plan):=[]
def P85 : List (Nat × Plan):=[]
def P48 : List (Nat × Plan):=[]
def P84 : List (Nat × Plan):=[]
def P123 : List (Nat × Plan):=[(2,.pure 0 <| .load 1 [6,5,4,2] <| .load 3 [6,5,4] <| .eff 2 (.eff 4 (.pure 5 <| .pure 6 <| .done) (.nil)) (.nil)),(3,.pure 0 <| .load 1 [6,5,4,2] <| .load 3 [6,5,4] <| .eff 2 (.eff 4 (.pure 5 <| .pure 6 <| .done) (.nil)) (.nil))]
def P120 : List (Nat × Plan):=[]
def P166 : List (Nat × Plan):=[]
def P177 : List (Nat × Plan):=[(1,.pure 0 <| .pure 3 <| .load 1 [7,6,2] <| .pure 2 <| .pure 6 <| .load 4 [7,5] <| .pure 5 <| .pure 7 <| .done),(12,.pure 2 <| .pure 6 <| .pure 10 <| .load 0 [15,14,9,8,7,5,4,3,1] <| .load 11 [15,14,13,12] <| .pure 12 <| .pure 13 <| .eff 1 (.eff 3 (.pure 4 <| .pure 5 <| .eff 7 (.pure 8 <| .pure 9 <| .pure 14 <| .pure 15 <| .done) (.nil)) (.nil)) (.nil))]
def P197 : List (Nat × Plan):=[]
def P198 : List (Nat × Plan):=[]
def P195 : List (Nat × Plan):=[(1,.pure 0 <| .pure 1 <| .pure 2 <| .pure 3 <| .pure 4 <| .pure 5 <| .pure 6 <| .pure 7 <| .pure 8 <| .pure 9 <| .pure 10 <| .done)]
def P199 : List (Nat × Plan):=[]
def P200 : List (Nat × Plan):=[]
def P196 : List (Nat × Plan):=[]
def P178 : List (Nat × Plan):=[(1,.pure 0 <| .pure 3 <| .pure 6 <| .load 1 [11,10,9,2] <| .pure 2 <| .pure 9 <| .load 4 [11,10,5] <| .pure 5 <| .pure 10 <| .load 7 [11,8] <| .pure 8 <| .pure 11 <| .done),(24,.pure 0 <| .pure 5 <| .load 1 [10,9,8,4,3,2] <| .pure 2 <| .load 6 [10,9,8,7] <| .pure 7 <| .eff 3 (.pure 4 <| .eff 8 (.pure 9 <| .pure 10 <| .done) (.nil)) (.nil)),(26,.pure 0 <| .pure 5 <| .load 1 [10,9,8,4,3,2] <| .pure 2 <| .load 6 [10,9,8,7] <| .pure 7 <| .eff 3 (.pure 4 <| .eff 8 (.pure 9 <| .pure 10 <| .done) (.nil)) (.nil)),(30,.pure 0 <| .pure 4 <| .load 1 [7,6,3,2] <| .pure 2 <| .pure 3 <| .eff 5 (.pure 6 <| .pure 7 <| .done) (.nil))]
def P201 : List (Nat × Plan):=[]
def P68 : List (Nat × Plan):=[]
def P69 : List (Nat × Plan):=[]
def P121 : List (Nat × Plan):=[]
def P167 : List (Nat × Plan):=[]
def P168 : List (Nat × Plan):=[]
def P169 : List (Nat × Plan):=[]
def P170 : List (Nat × Plan):=[]
def P122 : List (Nat × Plan):=[(5,.pure 0 <| .pure 2 <| .load 1 [7,6,5,4] <| .pure 4 <| .eff 3 (.eff 5 (.pure 6 <| .eff 7 (.done) (.nil)) (.nil)) (.nil)),(16,.pure 0 <| .pure 2 <| .pure 4 <| .load 1 [11,10,9,8,7,6] <| .pure 6 <| .eff 3 (.eff 5 (.eff 7 (.pure 8 <| .eff 9 (.pure 10 <| .eff 11 (.done) (.nil)) (.nil)) (.nil)) (.nil)) (.nil)),(18,.pure 0 <| .pure 2 <| .pure 4 <| .pure 6 <| .load 1 [15,14,13,12,11,10,9,8] <| .pure 8 <| .load 7 [15,14] <| .eff 3 (.eff 5 (.eff 9 (.pure 10 <| .eff 11 (.pure 12 <| .eff 13 (.pure 14 <| .eff 15 (.done) (.nil)) (.nil)) (.nil)) (.nil)) (.nil)) (.nil)),(22,.pure 0 <| .pure 2 <| .pure 4 <| .load 1 [11,10,9,8,7,6] <| .pure 6 <| .load 3 [11,10,9,8] <| .load 5 [11,10] <| .eff 7 (.pure 8 <| .eff 9 (.pure 10 <| .eff 11 (.done) (.nil)) (.nil)) (.nil)),(25,.pure 0 <| .pure 2 <| .pure 4 <| .pure 6 <| .load 1 [15,14,13,12,11,10,9,8] <| .pure 8 <| .load 3 [15,14,13,12,11,10] <| .load 5 [15,14,13,12] <| .eff 7 (.eff 9 (.pure 10 <| .eff 11 (.pure 12 <| .eff 13 (.pure 14 <| .eff 15 (.done) (.nil)) (.nil)) (.nil)) (.nil)) (.nil)),(27,.pure 0 <| .pure 2 <| .pure 4 <| .pure 6 <| .load 1 [15,14,13,12,11,10,9,8] <| .pure 8 <| .load 5 [15,14,13,12] <| .load 7 [15,14] <| .eff 3 (.eff 9 (.pure 10 <| .eff 11 (.pure 12 <| .eff 13 (.pure 14 <| .eff 15 (.done) (.nil)) (.nil)) (.nil)) (.nil)) (.nil)),(29,.pure 0 <| .pure 2 <| .load 1 [7,6,5,4] <| .pure 4 <| .load 3 [7,6] <| .eff 5 (.pure 6 <| .eff 7 (.done) (.nil)) (.nil))]
def P171 : List (Nat × Plan):=[]
def P172 : List (Nat × Plan):=[]
def P173 : List (Nat × Plan):=[(5,.pure 0 <| .pure 2 <| .pure 4 <| .load 1 [11,10,9,8,7,6] <| .pure 6 <| .load 3 [11,10,9,8] <| .load 5 [11,10] <| .eff 7 (.pure 8 <| .eff 9 (.pure 10 <| .eff 11 (.done) (.nil)) (.nil)) (.nil)),(7,.pure 0 <| .pure 2 <| .load 1 [7,6,5,4] <| .pure 4 <| .load 3 [7,6] <| .eff 5 (.pure 6 <| .eff 7 (.done) (.nil)) (.nil)),(11,.pure 0 <| .pure 2 <| .load 1 [7,6,5,4] <| .pure 4 <| .load 3 [7,6] <| .eff 5 (.pure 6 <| .eff 7 (.done) (.nil)) (.nil))]
def P174 : List (Nat × Plan):=[(3,.pure 0 <| .pure 1 <| .pure 3 <| .pure 4 <| .pure 5 <| .pure 8 <| .load 2 [14,12] <| .eff 6 (.pure 7 <| .eff 9 (.pure 10 <| .eff 11 (.pure 12 <| .eff 13 (.eff 14 (.done) (.nil)) (.nil)) (.cons 13 (.eff 11 (.pure 12 <| .eff 14 (.done) (.nil)) (.nil)) (.nil))) (.cons 13 (.eff 9 (.pure 10 <| .eff 11 (.pure 12 <| .eff 14 (.done) (.nil)) (.nil)) (.nil)) (.nil))) (.cons 13 (.eff 6 (.pure 7 <| .eff 9 (.pure 10 <| .eff 11 (.pure 12 <| .eff 14 (.done) (.nil)) (.nil)) (.nil)) (.nil)) (.nil))),(5,.pure 0 <| .pure 2 <| .load 1 [7,6,5,4] <| .pure 4 <| .load 3 [7,6] <| .eff 5 (.pure 6 <| .eff 7 (.done) (.nil)) (.nil))]
def P175 : List (Nat × Plan):=[]
def P176 : List (Nat × Plan):=[]
def P13 : List (Nat × Plan):=[]
def P16 : List (Nat × Plan):=[]
def P49 : List (Nat × Plan):=[(3,.pure 0 <| .eff 1 (.eff 2 (.pure 3 <| .eff 4 (.pure 5 <| .pure 6 <| .done) (.nil)) (.nil)) (.cons 2 (.eff 1 (.pure 3 <| .eff 4 (.pure 5 <| .pure 6 <| .done) (.nil)) (.nil)) (.nil)))]
def P86 : List (Nat × Plan):=[]
def P50 : List (Nat × Plan):=[]
def P51 : List (Nat × Plan):=[]
def P17 : List (Nat × Plan):=[]
def P18 : List (Nat × Plan):=[]
def P20 : List (Nat × Plan):=[(7,.pure 0 <| .pure 2 <| .pure 3 <| .pure 4 <| .pure 6 <| .load 1 [9,8,7] <| .load 5 [9,8,7] <| .pure 7 <| .eff 8 (.pure 9 <| .done) (.nil)),(8,.pure 0 <| .pure 1 <| .pure 6 <| .pure 7 <| .pure 8 <| .load 2 [10,9,5,4,3] <| .eff 3 (.pure 4 <| .pure 5 <| .pure 9 <| .eff 10 (.done) (.nil)) (.nil)),(12,.pure 1 <| .pure 2 <| .pure 3 <| .pure 5 <| .pure 6 <| .pure 7 <| .pure 9 <| .pure 10 <| .pure 11 <| .load 0 [18,17,16,15,14,13] <| .load 4 [18,17,16,15,14,13] <| .load 8 [18,17,16,15,14,13] <| .load 12 [18,17,16,15,14,13] <| .eff 13 (.pure 14 <| .pure 15 <| .pure 16 <| .pure 17 <| .pure 18 <| .done) (.nil)),(13,.pure 0 <| .pure 1 <| .pure 2 <| .pure 4 <| .load 3 [13,12,10,9,8,7] <| .load 5 [13,12,10,9,8,7,6] <| .eff 6 (.eff 7 (.pure 8 <| .pure 9 <| .pure 10 <| .eff 11 (.eff 12 (.pure 13 <| .done) (.nil)) (.nil)) (.cons 11 (.eff 7 (.pure 8 <| .pure 9 <| .pure 10 <| .eff 12 (.pure 13 <| .done) (.nil)) (.nil)) (.nil))) (.cons 11 (.eff 6 (.eff 7 (.pure 8 <| .pure 9 <| .pure 10 <| .eff 12 (.pure 13 <| .done) (.nil)) (.nil)) (.nil)) (.nil))),(14,.pure 0 <| .pure 1 <| .pure 2 <| .pure 3 <| .pure 4 <| .pure 5 <| .pure 8 <| .pure 9 <| .pure 10 <| .load 6 [20,19,18,17,16,15,14,13,12] <| .load 7 [20,19,18,17,16,15] <| .load 11 [20,19,18,17,16,15,14,13,12] <| .pure 12 <| .pure 13 <| .eff 14 (.pure 15 <| .pure 16 <| .eff 17 (.pure 18 <| .pure 19 <| .eff 20 (.done) (.nil)) (.nil)) (.nil)),(15,.pure 0 <| .pure 1 <| .pure 2 <| .pure 4 <| .pure 5 <| .pure 6 <| .pure 7 <| .pure 8 <| .load 3 [15,14,13,12] <| .load 9 [15,14,13,12,11,10] <| .pure 10 <| .pure 11 <| .pure 12 <| .pure 13 <| .pure 14 <| .eff 15 (.done) (.nil)),(16,.pure 0 <| .pure 1 <| .pure 2 <| .pure 3 <| .pure 5 <| .pure 6 <| .pure 7 <| .pure 9 <| .pure 10 <| .load 4 [13,12,11] <| .load 8 [13,12,11] <| .pure 11 <| .eff 12 (.pure 13 <| .done) (.nil))]
def P52 : List (Nat × Plan):=[]
def P87 : List (Nat × Plan):=[(6,.pure 0 <| .pure 1 <| .pure 4 <| .pure 5 <| .load 2 [11,10,9,3] <| .pure 3 <| .load 6 [11,10,9,8,7] <| .pure 7 <| .pure 8 <| .pure 9 <| .pure 10 <| .pure 11 <| .done)]
def P65 : List (Nat × Plan):=[]
def P53 : List (Nat × Plan):=[]
def P55 : List (Nat × Plan):=[]
def P89 : List (Nat × Plan):=[(8,.pure 0 <| .pure 1 <| .pure 4 <| .pure 5 <| .load 2 [10,9,8,7,3] <| .load 6 [10,9,8,7] <| .eff 3 (.eff 7 (.pure 8 <| .pure 9 <| .pure 10 <| .done) (.nil)) (.nil)),(19,.pure 0 <| .pure 1 <| .pure 4 <| .pure 5 <| .pure 8 <| .load 2 [13,12,11,10,7,3] <| .load 6 [13,12,11,10,7] <| .load 9 [13,12,11,10] <| .eff 3 (.eff 7 (.pure 10 <| .pure 11 <| .pure 12 <| .pure 13 <| .done) (.nil)) (.nil))]
def P132 : List (Nat × Plan):=[]
def P90 : List (Nat × Plan):=[(8,.pure 0 <| .pure 1 <| .pure 2 <| .pure 7 <| .pure 8 <| .pure 9 <| .pure 10 <| .pure 11 <| .pure 12 <| .load 3 [16,15,6,5,4] <| .pure 4 <| .pure 5 <| .load 6 [16,15] <| .load 13 [16,15,14] <| .eff 14 (.eff 15 (.pure 16 <| .done) (.nil)) (.nil))]
def P30 : List (Nat × Plan):=[]
def P133 : List (Nat × Plan):=[]
def P118 : List (Nat × Plan):=[]
def P134 : List (Nat × Plan):=[]
def P91 : List (Nat × Plan):=[(2,.pure 0 <| .pure 1 <| .pure 3 <| .pure 4 <| .pure 5 <| .load 6 [12,11,10,9,8,7] <| .pure 7 <| .pure 8 <| .eff 2 (.pure 9 <| .pure 10 <| .pure 11 <| .eff 12 (.done) (.nil)) (.nil)),(8,.pure 0 <| .pure 1 <| .pure 2 <| .pure 7 <| .pure 8 <| .pure 9 <| .load 3 [12,11,6,5,4] <| .pure 4 <| .pure 5 <| .load 6 [12,11] <| .eff 10 (.eff 11 (.pure 12 <| .done) (.nil)) (.nil))]
def P92 : List (Nat × Plan):=[]
def P136 : List (Nat × Plan):=[]
def P93 : List (Nat × Plan):=[]
def P137 : List (Nat × Plan):=[]
def P138 : List (Nat × Plan):=[(5,.pure 0 <| .pure 1 <| .pure 2 <| .pure 3 <| .pure 6 <| .pure 7 <| .pure 8 <| .pure 9 <| .load 4 [12,11,5] <| .pure 5 <| .pure 11 <| .load 10 [12] <| .pure 12 <| .done),(10,.pure 0 <| .pure 1 <| .pure 2 <| .pure 3 <| .pure 5 <| .pure 6 <| .pure 7 <| .pure 8 <| .load 4 [15,14,13,12,11,10] <| .load 9 [15,14,13,12,11,10] <| .eff 10 (.pure 11 <| .pure 12 <| .pure 13 <| .pure 14 <| .pure 15 <| .done) (.nil)),(15,.pure 0 <| .pure 1 <| .pure 2 <| .pure 3 <| .pure 5 <| .pure 6 <| .pure 7 <| .pure 8 <| .pure 9 <| .pure 12 <| .pure 13 <| .pure 14 <| .pure 15 <| .pure 17 <| .pure 18 <| .pure 19 <| .pure 20 <| .load 4 [29,28,27,26,25,24,23,22] <| .load 10 [29,28,27,26,25,24,23,22,11] <| .load 16 [29,28,27,26,25,24,23,22] <| .load 21 [29,28,27,26,25,24,23,22] <| .eff 11 (.eff 22 (.pure 23 <| .pure 24 <| .pure 25 <| .pure 26 <| .pure 27 <| .pure 28 <| .pure 29 <| .done) (.nil)) (.nil)),(17,.pure 0 <| .pure 1 <| .pure 2 <| .pure 3 <| .pure 4 <| .pure 7 <| .pure 8 <| .pure 9 <| .pure 10 <| .load 5 [13,12,6] <| .load 11 [13] <| .eff 6 (.pure 12 <| .pure 13 <| .done) (.nil))]
def P139 : List (Nat × Plan):=[]
def P184 : List (Nat × Plan):=[]
def P143 : List (Nat × Plan):=[]
def P94 : List (Nat × Plan):=[]
def P140 : List (Nat × Plan):=[]
def P95 : List (Nat × Plan):=[(8,.pure 0 <| .pure 1 <| .pure 4 <| .pure 5 <| .pure 8 <| .load 2 [10,3] <| .pure 3 <| .load 6 [10,7] <| .load 9 [10] <| .eff 7 (.eff 10 (.done) (.nil)) (.nil)),(12,.pure 0 <| .pure 1 <| .pure 4 <| .pure 5 <| .pure 8 <| .load 2 [9,3] <| .pure 3 <| .load 6 [9,7] <| .eff 7 (.eff 9 (.done) (.nil)) (.nil)),(19,.pure 0 <| .pure 1 <| .pure 4 <| .pure 5 <| .pure 8 <| .load 2 [9,3] <| .pure 3 <| .load 6 [9,7] <| .eff 7 (.eff 9 (.done) (.nil)) (.nil))]
def P141 : List (Nat × Plan):=[]
def P96 : List (Nat × Plan):=[(2,.pure 0 <| .pure 1 <| .pure 4 <| .pure 5 <| .load 2 [9,8,7,3] <| .load 6 [9,8,7] <| .eff 3 (.eff 7 (.pure 8 <| .pure 9 <| .done) (.nil)) (.nil)),(13,.pure 0 <| .pure 1 <| .pure 3 <| .pure 4 <| .pure 5 <| .load 2 [9] <| .load 6 [9,8,7] <| .eff 7 (.pure 8 <| .eff 9 (.done) (.nil)) (.nil)),(15,.pure 0 <| .pure 1 <| .pure 3 <| .pure 4 <| .pure 7 <| .load 2 [9] <| .load 5 [9,8,6] <| .eff 6 (.pure 8 <| .eff 9 (.done) (.nil)) (.nil)),(24,.pure 0 <| .pure 1 <| .pure 3 <| .pure 4 <| .pure 5 <| .pure 6 <| .pure 7 <| .pure 8 <| .pure 9 <| .load 2 [10] <| .eff 10 (.done) (.nil)),(26,.pure 0 <| .pure 1 <| .pure 3 <| .load 2 [6] <| .eff 4 (.pure 5 <| .eff 6 (.done) (.nil)) (.nil))]
def P144 : List (Nat × Plan):=[]
def P97 : List (Nat × Plan):=[(6,.pure 0 <| .pure 1 <| .pure 3 <| .pure 5 <| .pure 6 <| .pure 9 <| .pure 10 <| .load 2 [15] <| .load 4 [15,14] <| .load 7 [15,14,13,12,8] <| .load 11 [15,14,13,12] <| .eff 8 (.eff 12 (.pure 13 <| .eff 14 (.eff 15 (.done) (.nil)) (.nil)) (.nil)) (.nil)),(8,.pure 0 <| .pure 1 <| .pure 3 <| .pure 5 <| .pure 6 <| .load 2 [10] <| .load 4 [10,9] <| .load 7 [10,9,8] <| .eff 8 (.eff 9 (.eff 10 (.done) (.nil)) (.nil)) (.nil)),(12,.pure 0 <| .pure 1 <| .pure 3 <| .pure 4 <| .pure 8 <| .pure 9 <| .load 2 [11] <| .load 5 [11,10,7,6] <| .eff 6 (.pure 7 <| .pure 10 <| .eff 11 (.done) (.nil)) (.nil)),(14,.pure 0 <| .pure 1 <| .pure 3 <| .pure 4 <| .pure 7 <| .load 2 [9] <| .load 5 [9,8,6] <| .eff 6 (.pure 8 <| .eff 9 (.done) (.nil)) (.nil)),(16,.pure 0 <| .pure 1 <| .pure 3 <| .pure 4 <| .pure 7 <| .load 2 [9] <| .load 5 [9,8,6] <| .eff 6 (.pure 8 <| .eff 9 (.done) (.nil)) (.nil)),(18,.pure 0 <| .pure 1 <| .pure 3 <| .pure 5 <| .load 2 [7] <| .eff 4 (.pure 6 <| .eff 7 (.done) (.nil)) (.nil))]
def P147 : List (Nat × Plan):=[]
def P98 : List (Nat × Plan):=[(6,.pure 0 <| .pure 1 <| .pure 2 <| .pure 3 <| .pure 5 <| .load 4 [10,9,8,7] <| .load 6 [10,9,8,7] <| .eff 7 (.pure 8 <| .pure 9 <| .eff 10 (.done) (.nil)) (.nil)),(9,.pure 0 <| .pure 1 <| .pure 3 <| .load 4 [7,6,5] <| .pure 5 <| .eff 2 (.pure 6 <| .eff 7 (.done) (.nil)) (.nil)),(12,.pure 0 <| .pure 1 <| .pure 3 <| .load 4 [7,6,5] <| .pure 5 <| .eff 2 (.pure 6 <| .eff 7 (.done) (.nil)) (.nil))]
def P14 : List (Nat × Plan):=[]
def P56 : List (Nat × Plan):=[]
def P100 : List (Nat × Plan):=[]
def P101 : List (Nat × Plan):=[]
def P57 : List (Nat × Plan):=[(3,.pure 1 <| .load 0 [8,7,6,5,4,3] <| .eff 2 (.eff 3 (.pure 4 <| .pure 5 <| .pure 6 <| .eff 7 (.pure 8 <| .done) (.nil)) (.nil)) (.nil)),(6,.pure 1 <| .pure 2 <| .load 0 [9,8,7,6,5,4] <| .eff 3 (.eff 4 (.pure 5 <| .pure 6 <| .pure 7 <| .eff 8 (.pure 9 <| .done) (.nil)) (.nil)) (.nil))]
def P102 : List (Nat × Plan):=[]
def P104 : List (Nat × Plan):=[]
def P103 : List (Nat × Plan):=[]
def P47 : List (Nat × Plan):=[]
def P22 : List (Nat × Plan):=[]
def P21 : List (Nat × Plan):=[]
def P23 : List (Nat × Plan):=[]
def P5 : List (Nat × Plan):=[(13,.load 0 [7,6,5,4,3,2,1] <| .pure 1 <| .pure 2 <| .pure 4 <| .load 3 [7,6] <| .eff 5 (.pure 6 <| .pure 7 <| .done) (.nil)),(22,.pure 0 <| .pure 1 <| .pure 2 <| .pure 3 <| .pure 4 <| .pure 5 <| .pure 6 <| .pure 7 <| .load 9 [19,18,17,16,15,14,13,12,11,10] <| .eff 8 (.eff 10 (.pure 11 <| .pure 12 <| .pure 13 <| .pure 14 <| .eff 15 (.pure 16 <| .pure 17 <| .pure 18 <| .pure 19 <| .done) (.nil)) (.nil)) (.nil))]
def P19 : List (Nat × Plan):=[]
end Go.Proofs.YtnbngokbamifbaaGreatDoor.Pw
namespace Go.Proofs.YtnbngokbamifbaaGreatDoor.Pw
open Go Go.RowKit
def elB (b : PBlk) (n : Nat) (es : List PV) : Prop:=match b with
 | ⟨k,_,m,md,live,cs⟩=>bif live && notP md && Nat.beq m n then (match k with
  | .dyn=>cs = es
  | .arr=>elemsOf true m (.stat cs) = some es \/ (m = 1 /\ elemsOf false m (.stat cs) = some es)
  | _=>False) else False
def leB1 (S : List PBlk) (fz : List Nat) (x y : PV) : Prop:=match x,y with
 | .wref l,.sl n es=>bif inL l fz then need S[l]? fun b=>elB b n es else False
 | x,y=>le1 x y
def leB (S : List PBlk) (fz : List Nat) (x y : PV) : Prop:=match x,y with
 | .wref l,.sl n es=>bif inL l fz then need S[l]? fun b=>elB b n es else False
 | .agg cs,.agg ds=>leL (leB1 S fz) cs ds
 | x,y=>leK x y
def okZ (S : List PBlk) (fz : List Nat) : Bool:=fz.all fun l=>match S[l]? with
 | some b=>b.live && notP b.m
 | none=>false
def frzM (b : Bool) (m : Md) : Md:=bif b then .r else m
def frzS (fz : List Nat) (S : List PBlk) : List PBlk:=mapM frzM fz 0 S
def PV.flat1 : PV -> Bool
 | .lit .. | .int .. | .tt | .ff | .bool _ | .val _ | .nil=>true
 | _=>false
def PV.flatA : PV -> Bool
 | .agg cs=>cs.all PV.flat1
 | x=>x.flat1
def PV.flatP : PV -> Bool
 | .tup cs=>cs.all PV.flatA
 | x=>x.flatA
section
variable {w w' : World} {I I' : Nat -> Prop} {β β' : Places} {G : Gx} {S : List PBlk}
theorem flat1_ok {x : PV} {v : Value} (hf : x.flat1 = true) (h : x.Is w I β v) : x.Is w' I' β' v:=by
 cases x <;> first | (cases hf; done) | (simp only [PV.Is] at h ⊢; exact h)
theorem flatL_ok {r : PV -> Bool} (hr : ∀ x v,r x = true -> x.Is w I β v -> x.Is w' I' β' v) : ∀ {cs : List PV} {vs : List Value},cs.all r = true -> IsL w I cs β vs -> IsL w' I' cs β' vs
 | [],[],_,_=>by simp only [IsL]
 | c :: cs,v :: vs,hf,h=>by
  simp only [List.all_cons,Bool.and_eq_true] at hf
  simp only [IsL] at h ⊢
  exact ⟨hr c v hf.1 h.1,flatL_ok hr hf.2 h.2⟩
 | [],_ :: _,_,h=>by simp only [IsL] at h
 | _ :: _,[],_,h=>by simp only [IsL] at h
theorem flatA_ok {x : PV} {v : Value} (hf : x.flatA = true) (h : x.Is w I β v) : x.Is w' I' β' v:=by
 unfold PV.flatA at hf
 split at hf
 ·simp only [PV.Is] at h ⊢
  obtain ⟨vs,rfl,h⟩:=h
  exact ⟨vs,rfl,flatL_ok (fun x v=>flat1_ok) hf h⟩
 ·exact flat1_ok hf h
theorem flatP_ok {x : PV} {v : Value} (hf : x.flatP = true) (h : x.Is w I β v) : x.Is w' I' β' v:=by
 unfold PV.flatP at hf
 split at hf
 ·simp only [PV.Is] at h ⊢
  obtain ⟨vs,rfl,h⟩:=h
  exact ⟨vs,rfl,flatL_ok (fun x v=>flatA_ok) hf h⟩
 ·exact flatA_ok hf h
def LentI (I : Nat -> Prop) (β : Places) (S : List PBlk) (fz : List Nat) (g : Nat) : Prop:=I g \/ ∃ l b p o,l ∈ fz /\ S[l]? = some b /\ b.live = true /\ notP b.m = true /\ β l = some p /\ p.a = some (g,o)
theorem okZ_ok {fz : List Nat} (h : okZ S fz = true) {l : Nat} (hl : l ∈ fz) : ∃ b,S[l]? = some b /\ b.live = true /\ notP b.m = true:=by
 have:=List.all_eq_true.1 h l hl
 split at this
 ·rename_i b hb
  simp only [Bool.and_eq_true] at this
  exact ⟨b,hb,this⟩
 ·cases this
theorem lent_sl {fz : List Nat} (hH : HeapOk I β S w) {l : Nat} {b : PBlk} {n : Nat} {es : List PV} (hl : l ∈ fz) (hb : S[l]? = some b) (h : elB b n es) {v : Value} (hx : (PV.wref l).Is w I β v) : (PV.sl n es).Is w (LentI I β S fz) no v:=by
 obtain ⟨k,ty,m,md,live,cs⟩:=b
 unfold elB at h
 replace h:=bif_ok h
 obtain ⟨hc,h⟩:=h
 simp only [Bool.and_eq_true] at hc
 obtain ⟨⟨hlive,hm⟩,hn⟩:=hc
 obtain rfl:=Nat.eq_of_beq_eq_true hn
 simp only [PV.Is] at hx ⊢
 obtain ⟨p,hp,rfl⟩:=hx
 have hI : ∀ g,I g -> LentI I β S fz g:=fun g h=>.inl h
 have hgI : ∀ {g o : Nat},p.a = some (g,o) -> LentI I β S fz g:=fun {g o} ha=>.inr ⟨l,_,p,o,hl,hb,hlive,hm,hp,ha⟩
 cases k with
 | dyn =>
  obtain ⟨hn0,hlen,hle,hmx,hor⟩:=whole_dyn hH hb hlive rfl hp
  subst h
  rcases hor with ⟨ha,hc0,hw⟩ | ⟨g,arr,fr,ha,hw,hhg,hes,hown,has⟩
  ·have h0 : cs = []:=List.eq_nil_of_length_eq_zero (by simp only at hlen; omega)
   subst h0
   exact ⟨none,0,by rw [hw]; rfl,Nat.le_refl _,Nat.zero_le _,(fun _ _ e=>by cases e),fun hn=>absurd rfl hn⟩
  ·simp only at hlen
   exact ⟨some ⟨g,0,none⟩,p.cap,by rw [hw,hlen],by omega,by omega,(fun g' o' e=>by cases e; exact IsEs.mono hI (fun _ _=>rfl) _ _ _ _ rfl hes),fun _=>⟨g,0,rfl,hgI ha,hn0⟩⟩
 | arr =>
  obtain ⟨g,arr,fr,ha,hw,hhg,hca,hown,hlen,hle,hmx,has,hn0⟩:=whole_arr hH hb hlive rfl hp
  simp only at hlen has hn0 hca
  have hsz : p.len * m <= arr.size:=by rw [has]; exact Nat.mul_le_mul_right _ hle
  have hxl : (arr.toList.take (p.len * m)).length = p.len * m:=by rw [List.length_take,Array.length_toList]; omega
  have hsrc : SrcIs w I β m (.stat cs) (arr.toList.take (p.len * m)):=by
   refine ⟨by rw [hxl,hlen],fun j c hj=>?_⟩
   obtain ⟨u,hu,hi,h1⟩:=hca j c hj
   have hj' : j < p.len * m:=by rw [← hlen]; exact (List.getElem?_eq_some_iff.1 hj).1
   exact ⟨u,by rw [List.getElem?_take,if_pos hj']; simpa using hu,hi,h1⟩
  have key : es.length = p.len /\ RowIs w I es m (arr.toList.take (p.len * m)):=by
   rcases h with h | ⟨h1,h⟩
   ·exact elemsOf_ok hn0 (.inl rfl) h hsrc hxl
   ·exact elemsOf_ok hn0 (.inr h1) h hsrc hxl
  obtain ⟨e1,e2⟩:=key
  have hEs : IsEs w I es m g 0:=e2.at (fun j v hj=>by
   have:=take_at hhg 0 (p.len * m) j v (by simpa using hj)
   simpa using this) (fun _ h=>h) (fun _ _=>rfl)
  exact ⟨some ⟨g,0,none⟩,p.cap,by rw [hw,e1],by omega,by omega,fun g' o' e=>by cases e; exact IsEs.mono hI (fun _ _=>rfl) _ _ _ _ rfl hEs,fun _=>⟨g,0,rfl,hgI ha,hn0⟩⟩
 | loc=>exact h.elim
 | mp=>exact h.elim
theorem lent_1 {fz : List Nat} (hH : HeapOk I β S w) {x y : PV} {v : Value} (h1 : leB1 S fz x y) (hu : y.uses = []) (hx : x.Is w I β v) : y.Is w (LentI I β S fz) no v:=by
 unfold leB1 at h1
 split at h1
 ·replace h1:=bif_ok h1
  obtain ⟨hl,h1⟩:=h1
  replace h1:=need_ok h1
  obtain ⟨b,hb,h1⟩:=h1
  exact lent_sl hH (inL_iff.1 hl) hb h1 hx
 ·exact PV.Is.mono (fun _ h=>.inl h) (fun _ _=>rfl) y β no v (fun l p hl=>by rw [hu] at hl; cases hl) (le1_ok h1 w I β v hx)
theorem lent_l1 {fz : List Nat} (hH : HeapOk I β S w) : ∀ {args args' : List PV} {vals : List Value},leL (leB1 S fz) args args' -> usesL args' = [] -> IsL w I args β vals -> IsL w (LentI I β S fz) args' no vals
 | [],[],[],_,_,_=>by simp only [IsL]
 | x :: xs,y :: ys,v :: vs,h,hu,hx=>by
  simp only [IsL] at hx ⊢
  have hu' : y.uses = [] /\ usesL ys = []:=by simpa [usesL] using hu
  exact ⟨lent_1 hH h.1 hu'.1 hx.1,lent_l1 hH h.2 hu'.2 hx.2⟩
 | [],_ :: _,_,h,_,_=>h.elim
 | _ :: _,[],_,h,_,_=>h.elim
 | [],[],_ :: _,_,_,hx=>by simp only [IsL] at hx
 | _ :: _,_ :: _,[],_,_,hx=>by simp only [IsL] at hx
theorem lent_args {fz : List Nat} (hH : HeapOk I β S w) : ∀ {args args' : List PV} {vals : List Value},leL (leB S fz) args args' -> usesL args' = [] -> IsL w I args β vals -> IsL w (LentI I β S fz) args' no vals
 | [],[],[],_,_,_=>by simp only [IsL]
 | x :: xs,y :: ys,v :: vs,h,hu,hx=>by
  simp only [IsL] at hx ⊢
  have hu' : y.uses = [] /\ usesL ys = []:=by simpa [usesL] using hu
  refine ⟨?_,lent_args hH h.2 hu'.2 hx.2⟩
  have h1:=h.1
  unfold leB at h1
  split at h1
  ·obtain ⟨hl,h1⟩:=bif_ok h1
   obtain ⟨b,hb,h1⟩:=need_ok h1
   exact lent_sl hH (inL_iff.1 hl) hb h1 hx.1
  ·have hx1:=hx.1
   simp only [PV.Is] at hx1 ⊢
   obtain ⟨vs',rfl,hx1⟩:=hx1
   exact ⟨vs',rfl,lent_l1 hH h1 (by simpa [PV.uses] using hu'.1) hx1⟩
  ·exact PV.Is.mono (fun _ h=>.inl h) (fun _ _=>rfl) y β no v (fun l p hl=>by rw [hu'.1] at hl; cases hl) (leK_ok h1 w I β v hx.1)
 | [],_ :: _,_,h,_,_=>h.elim
 | _ :: _,[],_,h,_,_=>h.elim
 | [],[],_ :: _,_,_,hx=>by simp only [IsL] at hx
 | _ :: _,_ :: _,[],_,_,hx=>by simp only [IsL] at hx
theorem lent_lt {fz : List Nat} (hH : HeapOk I β S w) (hM : ImmOk G I w) {g : Nat} (h : LentI I β S fz g) : g < w.heap.size:=by
 rcases h with h | ⟨l,b,p,o,_,hb,hlive,_,hp,ha⟩
 ·exact hM.imm g h
 ·exact hH.lives_lt ⟨l,b,p,o,hb,hlive,hp,ha⟩
theorem lent_imm {fz : List Nat} (hH : HeapOk I β S w) (hM : ImmOk G I w) : ImmOk G (LentI I β S fz) w :=
 ⟨fun g hg=>lent_lt hH hM hg,fun g cs hg=>⟨.inl (hM.tab g cs hg).1,IsAt.mono (fun _ h=>.inl h) (fun _ _=>rfl) _ _ _ rfl (hM.tab g cs hg).2⟩,hM.row⟩
theorem no_wr (g : Nat) : ¬ Wr no ([] : List PBlk) g:=fun ⟨l,b,p,o,h1,_⟩=>by simp at h1
theorem PureF.useF {f : FuncId} {args args' : List PV} {r : PV} {K : PV -> List PBlk -> Prop} (h : PureF G f args' r) (fz : List Nat) (hz : okZ S fz = true) (hle : leL (leB S fz) args args') (hu : usesL args' = []) (hr : r.uses = []) (hK : frB (frzS fz S) (K r)) : Spec G f args S [] K:=by
 refine Spec.intro h.run.1 fun I β w vals hH hM hA=>?_
 have h0 : HeapOk (LentI I β S fz) no ([] : List PBlk) w:=⟨fun _ _=>rfl,fun l b hl=>by simp at hl⟩
 refine (h.run.2 _ no w vals h0 (lent_imm hH hM) (lent_args hH hle hu hA)).mono fun e w' ⟨v,r',S',I',β',he,hr',hi,_,hM',hE,_,_⟩=>?_
 subst hr'
 have hold : ∀ g,g < w.heap.size -> w'.heap[g]? = w.heap[g]?:=fun g hg=>hE.block g hg (no_wr g)
 have hI' : ∀ g,g < w.heap.size -> I' g -> LentI I β S fz g:=fun g hg h=>(hE.new g hg h).elim id fun h=>absurd h (no_wr g)
 have hII : ∀ g,I g -> I' g:=fun g h=>hE.imm g (.inl h)
 have hget : ∀ (l : Nat) (b : PBlk),(frzS fz S)[l]? = some b -> ∃ b0,S[l]? = some b0 /\ b = { b0 with m:=frzM (inL l fz) b0.m }:=fun l b hb=>by
  unfold frzS at hb
  rw [mapM_get,Option.map_eq_some_iff] at hb
  obtain ⟨b0,h1,h2⟩:=hb
  rw [Nat.zero_add] at h2
  exact ⟨b0,h1,h2.symm⟩
 refine ⟨v,r',frzS fz S,I',β,he,frB_ok hK,uses_none hr hi,⟨fun l hl=>hH.far l (by unfold frzS at hl; rw [mapM_len] at hl; exact hl),fun l b hb hlive=>?_⟩,hM',⟨hE.os,hE.tape,hE.output,hE.size,fun g hg _=>hold g hg,fun g _ h=>?_,hII,fun g hg h=>?_⟩,by unfold frzS; rw [mapM_len]; exact Nat.le_refl _,fun _ _ _=>rfl⟩
 ·obtain ⟨b0,hb0,rfl⟩:=hget l b hb
  obtain ⟨p,hp,hk⟩:=hH.blk l b0 hb0 hlive
  have own : ∀ {g o : Nat} {fr : Nat × Nat},p.a = some (g,o) -> g < w.heap.size -> Own I β S l g fr b0 -> Own I' β (frzS fz S) l g fr { b0 with m:=frzM (inL l fz) b0.m }:=fun {g o fr} ha hg ho=>by
   refine ⟨fun hm=>?_,fun hm=>?_⟩
   ·have hm0 : inL l fz = false /\ b0.m ≠ .r:=by
     cases hc : inL l fz with
     | true=>simp only [hc,frzM,cond_true,ne_eq,not_true_eq_false] at hm
     | false=>exact ⟨rfl,by simpa only [hc,frzM,cond_false] using hm⟩
    obtain ⟨h1,h2,h3⟩:=ho.1 hm0.2
    refine ⟨h1,fun hI=>?_,fun l2 b2 hne hl2 hlive2 p2 g2 o2 hp2 ha2=>?_⟩
    ·rcases hI' g hg hI with hI | ⟨l2,b2,p2,o2,hl2,hb2,hlive2,_,hp2,ha2⟩
     ·exact h2 hI
     ·refine h3 l2 b2 (fun e=>?_) hb2 hlive2 p2 g o2 hp2 ha2 rfl
      subst e
      rw [inL_iff.2 hl2] at hm0
      cases hm0.1
    ·obtain ⟨b3,hb3,rfl⟩:=hget l2 b2 hl2
     exact h3 l2 b3 hne hb3 hlive2 p2 g2 o2 hp2 ha2
   ·cases hc : inL l fz with
    | true =>
     obtain ⟨b1,hb1,k1,k2⟩:=okZ_ok hz (inL_iff.1 hc)
     rw [hb0] at hb1; cases hb1
     exact hE.imm g (.inr ⟨l,b0,p,o,inL_iff.1 hc,hb0,k1,k2,hp,ha⟩)
    | false=>exact hII g (ho.2 (by simpa only [hc,frzM,cond_false] using hm))
  have hwI : ∀ g,I g -> w'.heap[g]? = w.heap[g]?:=fun g hg=>hold g (hM.imm g hg)
  refine ⟨p,hp,?_⟩
  split at hk
  ·rename_i hkk
   obtain ⟨g,o,arr,ty,fr,h1,h2,h3,ho⟩:=hk
   have hg:=lt_of_heap h2
   simp only [hkk]
   exact ⟨g,o,arr,ty,fr,h1,(hold g hg).trans h2,CellsAt.mono hII hwI (fun _ _ h=>h) h3,own h1 hg ho⟩
  ·rename_i hkk
   obtain ⟨g,arr,fr,h1,h2,h3,ho,h4⟩:=hk
   have hg:=lt_of_heap h2
   simp only [hkk]
   exact ⟨g,arr,fr,h1,(hold g hg).trans h2,CellsAt.mono hII hwI (fun _ _ h=>h) h3,own h1 hg ho,h4⟩
  ·rename_i hkk
   obtain ⟨h1,hk⟩:=hk
   simp only [hkk]
   refine ⟨h1,?_⟩
   rcases hk with h | ⟨g,arr,fr,h2,h3,h4,ho,h5⟩
   ·exact .inl h
   ·have hg:=lt_of_heap h3
    exact .inr ⟨g,arr,fr,h2,(hold g hg).trans h3,IsEs.mono hII hwI _ _ _ _ (hold g hg) h4,own h2 hg ho,h5⟩
  ·rename_i hkk
   obtain ⟨g,h1,h2,ho⟩:=hk
   have hg : g < w.heap.size:=by obtain ⟨es,clock,hb,_⟩:=h2; exact lt_of_heap hb
   simp only [hkk]
   exact ⟨g,h1,h2.keep (hold g hg),own h1 hg ho⟩
 ·obtain ⟨l,b,p,o,h1,h2,h3,h4,h5⟩:=h
  obtain ⟨b0,hb0,rfl⟩:=hget l b h1
  refine ⟨l,b0,p,o,hb0,h2,?_,h4,h5⟩
  cases hc : inL l fz with
  | true=>simp only [hc,frzM,cond_true] at h3; cases h3
  | false=>simpa only [hc,frzM,cond_false] using h3
 ·rcases hI' g hg h with h | ⟨l,b,p,o,hl,hb,hlive,hm,hp,ha⟩
  ·exact .inl h
  ·cases hmm : b.m with
   | w=>exact .inr ⟨l,b,p,o,hb,hlive,hmm,hp,ha⟩
   | p=>rw [hmm] at hm; cases hm
   | r =>
    obtain ⟨arr,ty,fr,_,ho⟩:=(hH.blk l b hb hlive).place hp ha
    exact .inl (ho.2 hmm)
theorem PureF.useB {f : FuncId} {args args' : List PV} {r : PV} {K : PV -> List PBlk -> Prop} (h : PureF G f args' r) (fz : List Nat) (hle : leL (leB S fz) args args') (hu : usesL args' = []) (hr : r.flatP = true) (hK : K r S) : Spec G f args S [] K:=by
 refine Spec.intro h.run.1 fun I β w vals hH hM hA=>?_
 have h0 : HeapOk (LentI I β S fz) no ([] : List PBlk) w:=⟨fun _ _=>rfl,fun l b hl=>by simp at hl⟩
 refine (h.run.2 _ no w vals h0 (lent_imm hH hM) (lent_args hH hle hu hA)).mono fun e w' ⟨v,r',S',I',β',he,hr',hi,_,hM',hE,_,_⟩=>?_
 subst hr'
 have hold : ∀ g,g < w.heap.size -> w'.heap[g]? = w.heap[g]?:=fun g hg=>hE.block g hg (no_wr g)
 have hwI : ∀ g,I g -> w'.heap[g]? = w.heap[g]?:=fun g hg=>hold g (hM.imm g hg)
 refine ⟨v,r',S,I,β,he,hK,flatP_ok hr hi,⟨hH.far,fun l b hb hlive=>(hH.blk l b hb hlive).mono (fun _ h=>h) hwI (fun _ _ h=>h) fun p g o hp ha=>?_⟩,⟨fun g hg=>Nat.lt_of_lt_of_le (hM.imm g hg) hE.size,fun g cs hg=>⟨(hM.tab g cs hg).1,IsAt.mono (fun _ h=>h) hwI _ _ _ (hwI g (hM.tab g cs hg).1) (hM.tab g cs hg).2⟩,fun g cs hg=>by
   obtain ⟨arr,ty,fr,h1,h2⟩:=hM.row g cs hg
   exact ⟨arr,ty,fr,(hwI g (hM.tab g cs hg).1).trans h1,h2⟩⟩,
  ⟨hE.os,hE.tape,hE.output,hE.size,fun g hg _=>hold g hg,fun g _ h=>h,fun _ h=>h,fun _ _ h=>.inl h⟩,Nat.le_refl _,fun _ _ _=>rfl⟩
 obtain ⟨arr,ty,fr,hh,ho⟩:=(hH.blk l b hb hlive).place hp ha
 exact ⟨hold g (lt_of_heap hh),fun hr=>⟨(ho.1 hr).2.1,(ho.1 hr).2.2⟩⟩
end
end Go.Proofs.YtnbngokbamifbaaGreatDoor.Pw
namespace Go.Proofs.YtnbngokbamifbaaGreatDoor.Pw
open Go Go.RowKit
def TM.dropT : TM -> TM
 | .nil=>.nil
 | .node v l r=>.node (match v with
  | some (.tup _)=>none
  | v=>v) l.dropT r.dropT
def PSt.headS (s : PSt) (c : Code) (vs : List (Nat × PV)) : PSt:=match s with
 | ⟨n,t,st,b,rl⟩=>⟨n,(layF vs (clearF (dsts c) t)).dropT,st,b,rl⟩
theorem SW.loopS {G : Gx} {s : PSt} (hG : GOk G) (R : List (Nat × Plan)) {α : Type} {c : Code} {Q : X -> PSt -> Prop} (hc : planAll R c = true) (vs : α -> List (Nat × PV)) (μ : α -> Nat) (x0 : α) (N : Nat) (h0 : subK G.cx (idR 0 s.st) s (s.headS c (vs x0)))
  (h : ∀ x,frS (s.headS c (vs x)) (pw G R N c (backK (fun s'=>∃ y,μ y < μ x /\ subK G.cx (idR 0 s.st) s' (s.headS c (vs y))) Q))) : SW G (.loop c) Q s :=
 SW.inv hG (fun x=>s.headS c (vs x)) μ (N:=N) hc x0 (subK_ok hG.ok h0) (fun x s'=>∃ y,μ y < μ x /\ subK G.cx (idR 0 s.st) s' (s.headS c (vs y))) (fun x s' ⟨y,hy,hs⟩=>⟨y,hy,subK_ok hG.ok hs⟩) fun x=>frS_ok (h x)
def PSt.headD (s : PSt) (c : Code) (vs : List (Nat × PV)) (ex : List PBlk) : PSt:=match s with
 | ⟨n,t,st,b,rl⟩=>⟨n,(layF vs (clearF (dsts c) t)).dropT,st ++ ex,b,rl⟩
theorem SW.loopD {G : Gx} {s : PSt} (hG : GOk G) (R : List (Nat × Plan)) {α : Type} {c : Code} {Q : X -> PSt -> Prop} (hc : planAll R c = true) (vs : α -> List (Nat × PV)) (ex : α -> List PBlk) (μ : α -> Nat) (x0 : α) (N : Nat) (π0 : Ren) (h0 : subK G.cx (idR 0 s.st ++ π0) s (s.headD c (vs x0) (ex x0)))
  (h : ∀ x,frS (s.headD c (vs x) (ex x)) (pw G R N c (backK (fun s'=>∃ y π,μ y < μ x /\ subK G.cx (idR 0 s.st ++ π) s' (s.headD c (vs y) (ex y))) Q))) : SW G (.loop c) Q s :=
 SW.inv hG (fun x=>s.headD c (vs x) (ex x)) μ (N:=N) hc x0 (subK_ok hG.ok h0) (fun x s'=>∃ y π,μ y < μ x /\ subK G.cx (idR 0 s.st ++ π) s' (s.headD c (vs y) (ex y))) (fun x s' ⟨y,_,hy,hs⟩=>⟨y,hy,subK_ok hG.ok hs⟩) fun x=>frS_ok (h x)
end Go.Proofs.YtnbngokbamifbaaGreatDoor.Pw

/- What a law is proved with. -/
import Derived.Test.YtnbngokbamifbaaGreatDoorNi13
import Derived.Maps.Views
import Derived.Carry
set_option linter.unusedVariables false
set_option linter.unusedSimpArgs false
namespace Go.Proofs.YtnbngokbamifbaaGreatDoor.Pw
open Go Go.RowKit
def renK (π : Ren) (b : PBlk) (q : PBlk -> Prop) : Prop:=match b with
 | ⟨.dyn,ty,n,m,live,cs⟩=>q ⟨.dyn,ty,n,m,live,cs⟩
 | ⟨.mp,ty,n,m,live,cs⟩=>q ⟨.mp,ty,n,m,live,cs⟩
 | ⟨k,ty,n,m,live,cs⟩=>need (renL π cs) fun cs=>q ⟨k,ty,n,m,live,cs⟩
def atK (π : Ren) (st : List PBlk) : List Nat -> List PBlk -> Prop -> Prop
 | [],[],k=>k
 | l :: σ,b' :: S,k=>(need st[l]? fun b=>renK π b' fun b''=>leBlk b b'') /\ atK π st σ S k
 | _,_,_=>False
def toK (π : Ren) : List Nat -> List PBlk -> List PBlk -> (List PBlk -> Prop) -> Prop
 | [],[],st,k=>k st
 | l :: σ,b' :: S,st,k=>renK π b' fun b''=>frK b'' fun b''=>setB st l b'' fun st=>toK π σ S st k
 | _,_,_,_=>False
def argR (π : Ren) : List PV -> List PV -> Prop
 | [],[]=>True
 | x :: xs,y :: ys=>(need (y.ren π) fun z=>leK x z) /\ argR π xs ys
 | _,_=>False
def nodupN : List Nat -> Bool
 | []=>true
 | l :: σ=>!σ.any (Nat.beq l) && nodupN σ
section
variable {w w' : World} {I I' : Nat -> Prop} {β β' : Places} {G : Gx} {s : PSt} {a : Act} {st st' : List PBlk}
theorem renK_ok {π : Ren} {b : PBlk} {q : PBlk -> Prop} (h : renK π b q) : ∃ b2,q b2 /\ b2.k = b.k /\ b2.ty = b.ty /\ b2.size = b.size /\ b2.m = b.m /\ b2.live = b.live /\ ((b.k.isC = false /\ b2.cs = b.cs) \/ (b.k.isC = true /\ renL π b.cs = some b2.cs)):=by
 obtain ⟨k,ty,n,m,live,cs⟩:=b
 cases k
 ·obtain ⟨ds,h1,h2⟩:=need_ok h
  exact ⟨_,h2,rfl,rfl,rfl,rfl,rfl,.inr ⟨rfl,h1⟩⟩
 ·obtain ⟨ds,h1,h2⟩:=need_ok h
  exact ⟨_,h2,rfl,rfl,rfl,rfl,rfl,.inr ⟨rfl,h1⟩⟩
 ·exact ⟨_,h,rfl,rfl,rfl,rfl,rfl,.inl ⟨rfl,rfl⟩⟩
 ·exact ⟨_,h,rfl,rfl,rfl,rfl,rfl,.inl ⟨rfl,rfl⟩⟩
theorem atK_ok {π : Ren} {st : List PBlk} : ∀ {σ : List Nat} {S : List PBlk} {k : Prop},atK π st σ S k -> k /\ σ.length = S.length /\ ∀ (i l : Nat) (b' : PBlk),σ[i]? = some l -> S[i]? = some b' -> ∃ b,st[l]? = some b /\ renK π b' fun b''=>leBlk b b''
 | [],[],k,h=>⟨h,rfl,fun i l b' hl=>by simp at hl⟩
 | l :: σ,b' :: S,k,h=>by
  obtain ⟨h1,h2⟩:=h
  obtain ⟨hk,hl,hh⟩:=atK_ok h2
  obtain ⟨b,hb,h1⟩:=need_ok h1
  refine ⟨hk,by simp [hl],fun i m c hm hc=>?_⟩
  cases i with
  | zero=>simp at hm hc; subst hm; subst hc; exact ⟨b,hb,h1⟩
  | succ i=>exact hh i m c (by simpa using hm) (by simpa using hc)
 | [],_ :: _,_,h=>h.elim
 | _ :: _,[],_,h=>h.elim
theorem nodupN_ok : ∀ {σ : List Nat},nodupN σ = true -> ∀ (i j l : Nat),σ[i]? = some l -> σ[j]? = some l -> i = j
 | [],_,i,j,l,h,_=>by simp at h
 | m :: σ,h,i,j,l,hi,hj=>by
  simp only [nodupN,Bool.and_eq_true,Bool.not_eq_true',List.any_eq_false] at h
  have hn : ∀ k,σ[k]? = some m -> False:=fun k hk=>h.1 m (List.mem_of_getElem? hk) (Nat.beq_refl m)
  cases i with
  | zero=>cases j with
   | zero=>rfl
   | succ j=>simp at hi hj; subst hi; exact (hn j hj).elim
  | succ i=>cases j with
   | zero=>simp at hi hj; subst hj; exact (hn i hi).elim
   | succ j=>simp at hi hj; rw [nodupN_ok h.2 i j l hi hj]
theorem toK_ok {π : Ren} : ∀ {σ : List Nat} {S : List PBlk} {st : List PBlk} {k : List PBlk -> Prop},nodupN σ = true -> toK π σ S st k -> ∃ st',k st' /\ st'.length = st.length /\ (∀ l,l ∉ σ -> st'[l]? = st[l]?) /\ ∀ (i l : Nat) (b' : PBlk),σ[i]? = some l -> S[i]? = some b' -> renK π b' fun b''=>st'[l]? = some b''
 | [],[],st,k,_,h=>⟨st,h,rfl,fun _ _=>rfl,fun i l b' hl=>by simp at hl⟩
 | l :: σ,b' :: S,st,k,hd,h=>by
  have hd':=hd
  simp only [nodupN,Bool.and_eq_true,Bool.not_eq_true',List.any_eq_false] at hd
  have hnm : l ∉ σ:=fun hm=>hd.1 l hm (Nat.beq_refl l)
  have key : ∀ {c : PBlk} {q : PBlk -> Prop},(renK π b' fun b''=>q b'') -> ∃ b2,q b2 /\ ∀ q2 : PBlk -> Prop,q2 b2 -> renK π b' q2:=fun {c q} hq=>by
   obtain ⟨k0,ty,n,m,live,cs⟩:=b'
   cases k0
   ·obtain ⟨ds,h1,h2⟩:=need_ok hq
    exact ⟨_,h2,fun q2 hq2=>by show need (renL π cs) _; rw [h1]; exact hq2⟩
   ·obtain ⟨ds,h1,h2⟩:=need_ok hq
    exact ⟨_,h2,fun q2 hq2=>by show need (renL π cs) _; rw [h1]; exact hq2⟩
   ·exact ⟨_,hq,fun q2 hq2=>hq2⟩
   ·exact ⟨_,hq,fun q2 hq2=>hq2⟩
  obtain ⟨b2,h2,hq2⟩:=key (c:=b') (q:=fun b''=>frK b'' fun b''=>setB st l b'' fun st=>toK π σ S st k) h
  obtain ⟨hlt,h3⟩:=setB_ok (frK_ok h2)
  obtain ⟨st',hk,hlen,hout,hin⟩:=toK_ok hd.2 h3
  refine ⟨st',hk,by rw [hlen,List.length_set],fun m hm=>?_,fun i m c hm hc=>?_⟩
  ·rw [hout m (fun hx=>hm (List.mem_cons_of_mem _ hx)),List.getElem?_set_ne (fun e=>hm (by rw [e]; exact List.mem_cons_self))]
  ·cases i with
   | zero =>
    simp at hm hc; subst hm; subst hc
    refine hq2 _ ?_
    rw [hout l hnm,List.getElem?_set_self hlt]
   | succ i=>exact hin i m c (by simpa using hm) (by simpa using hc)
 | [],_ :: _,_,_,_,h=>h.elim
 | _ :: _,[],_,_,_,h=>h.elim
theorem argR_ok {π : Ren} : ∀ {xs ys : List PV} {vs : List Value},argR π xs ys -> IsL w I xs β vs -> IsL w I ys (renB β π) vs
 | [],[],vs,_,h=>by cases vs with
  | nil=>simp only [IsL]
  | cons v vs=>simp only [IsL] at h
 | x :: xs,y :: ys,vs,h,hx=>by
  cases vs with
  | nil=>simp only [IsL] at hx
  | cons v vs =>
   simp only [IsL] at hx ⊢
   obtain ⟨z,hz,hle⟩:=need_ok h.1
   exact ⟨ren_ok hz (leK_ok hle _ _ _ _ hx.1),argR_ok h.2 hx.2⟩
 | [],_ :: _,_,h,_=>h.elim
 | _ :: _,[],_,h,_=>h.elim
theorem ren1_inv {π : Ren} {x y : PV} {v : Value} (h : x.ren1 π = some y) (hx : x.Is w I (renB β π) v) : y.Is w I β v:=by
 unfold PV.ren1 at h
 split at h
 ·split at h
  ·rename_i m hm
   cases h
   simp only [PV.Is] at hx ⊢
   rw [renB_some hm] at hx; exact hx
  ·rename_i hm
   cases h
   simp only [PV.Is] at hx ⊢
   obtain ⟨p,hp,hv⟩:=hx
   rw [renB_none hm] at hp; cases hp; exact hv
  ·cases h
 ·split at h
  ·rename_i m hm
   cases h
   simp only [PV.Is] at hx ⊢
   rw [renB_some hm] at hx; exact hx
  ·cases h
 ·split at h
  ·rename_i m hm
   cases h
   simp only [PV.Is] at hx ⊢
   rw [renB_some hm] at hx; exact hx
  ·cases h
 ·split at h
  ·rename_i m hm
   cases h
   simp only [PV.Is] at hx ⊢
   rw [renB_some hm] at hx; exact hx
  ·cases h
 ·split at h
  ·rename_i m hm
   cases h
   simp only [PV.Is] at hx ⊢
   rw [renB_some hm] at hx; exact hx
  ·cases h
 ·split at h
  ·rename_i m hm
   cases h
   simp only [PV.Is] at hx ⊢
   rw [renB_some hm] at hx; exact hx
  ·cases h
 ·cases h
 ·cases h
 ·cases h
 ·cases h
  refine PV.Is.mono (fun _ h=>h) (fun _ _=>rfl) x _ β v (fun l p hl=>?_) hx
  cases x <;> first | (simp_all [PV.uses]; done) | (rename_i a1 a2 a3 a4 a5 a6 a7 a8 a9; first | exact (a4 _ _ _ _ rfl).elim | exact (a5 _ _ _ _ rfl).elim | exact (a6 _ _ _ _ rfl).elim)
theorem renL_get {π : Ren} : ∀ {xs ys : List PV} {i : Nat},renL π xs = some ys -> (∀ y,ys[i]? = some y -> ∃ x,xs[i]? = some x /\ x.ren1 π = some y) /\ (∀ x,xs[i]? = some x -> ∃ y,ys[i]? = some y /\ x.ren1 π = some y) /\ ys.length = xs.length
 | [],ys,i,h=>by
  simp only [renL,Option.some.injEq] at h
  subst h
  exact ⟨fun y hy=>by simp at hy,fun x hx=>by simp at hx,rfl⟩
 | x :: xs,ys,i,h=>by
  simp only [renL] at h
  split at h
  ·rename_i y l h1 h2
   cases h
   obtain ⟨a1,a2,a3⟩:=renL_get (i:=i - 1) h2
   cases i with
   | zero=>exact ⟨fun z hz=>by simp at hz; subst hz; exact ⟨x,rfl,h1⟩,fun z hz=>by simp at hz; subst hz; exact ⟨y,rfl,h1⟩,by simp [a3]⟩
   | succ i=>exact ⟨fun z hz=>by simpa using a1 z (by simpa using hz),fun z hz=>by simpa using a2 z (by simpa using hz),by simp [a3]⟩
  ·cases h
theorem BlkOk.tr {l l' : Nat} {b b' : PBlk} (hb : BlkOk I β st w l b) (hβ : ∀ p,β l = some p -> β' l' = some p) (hI : ∀ g,I g -> I' g) (hw : ∀ g,I g -> w'.heap[g]? = w.heap[g]?)
  (hg : ∀ p g o,β l = some p -> p.a = some (g,o) -> w'.heap[g]? = w.heap[g]?) (hown : ∀ p g o fr,β l = some p -> p.a = some (g,o) -> Own I β st l g fr b -> Own I' β' st' l' g fr b')
  (hk : b'.k = b.k) (hty : b'.ty = b.ty) (hsz : b'.size = b.size) (hcs : b.k.isC = false -> b'.cs = b.cs) (hlen : b'.cs.length = b.cs.length)
  (hcells : b.k.isC = true -> ∀ (arr : Array Value) (o : Nat),CellsAt w I β b.cs arr o -> CellsAt w' I' β' b'.cs arr o) : BlkOk I' β' st' w' l' b':=by
 obtain ⟨p,hp,hkk⟩:=hb
 refine ⟨p,hβ p hp,?_⟩
 rw [hk]
 split at hkk
 ·rename_i he
  obtain ⟨g,o,arr,ty,fr,ha,hh,hc,ho⟩:=hkk
  exact ⟨g,o,arr,ty,fr,ha,(hg p g o hp ha).trans hh,hcells (by rw [he]; rfl) arr o hc,hown p g o fr hp ha ho⟩
 ·rename_i he
  obtain ⟨g,arr,fr,ha,hh,hc,ho,h1,h2,h3,h4,h5⟩:=hkk
  exact ⟨g,arr,fr,ha,by rw [hty]; exact (hg p g 0 hp ha).trans hh,hcells (by rw [he]; rfl) arr 0 hc,hown p g 0 fr hp ha ho,by rw [hlen,hsz]; exact h1,h2,h3,by rw [hsz]; exact h4,by rw [hsz]; exact h5⟩
 ·rename_i he
  obtain ⟨⟨h1,h2,h3,h4⟩,hkk⟩:=hkk
  have hc2:=hcs (by rw [he]; rfl)
  refine ⟨⟨by rw [hsz]; exact h1,by rw [hc2]; exact h2,h3,h4⟩,?_⟩
  rcases hkk with h | ⟨g,arr,fr,ha,hh,hc,ho,h5⟩
  ·exact .inl h
  ·exact .inr ⟨g,arr,fr,ha,by rw [hty]; exact (hg p g 0 hp ha).trans hh,by rw [hc2,hsz]; exact IsEs.mono hI hw _ _ _ _ (hg p g 0 hp ha) hc,hown p g 0 fr hp ha ho,by rw [hsz]; exact h5⟩
 ·rename_i he
  obtain ⟨g,ha,hm,ho⟩:=hkk
  have hc2:=hcs (by rw [he]; rfl)
  exact ⟨g,ha,by rw [hc2]; exact hm.keep (hg p g 0 hp ha),hown p g 0 _ hp ha ho⟩
theorem Spec.useP {f : FuncId} {args args' : List PV} {r0 : PV} {S0 S1 : List PBlk} {K : PV -> List PBlk -> Prop} (σ : List Nat) (h : Spec G f args' S0 [] fun r S'=>r = r0 /\ S' = S1) (hm : modeS S0 S1 = true) (hr0 : r0.uses = []) (hσ : nodupN σ = true)
  (hle : argR (σ.map some) args args') (hK : atK (σ.map some) st σ S0 (toK (σ.map some) σ S1 st (K r0))) : Spec G f args st [] K:=by
 obtain ⟨hk,hl0,hat⟩:=atK_ok hK
 obtain ⟨st',hk2,hlen',hout,hin⟩:=toK_ok hσ hk
 obtain ⟨hl1,hmd⟩:=modeS_ok hm
 have hdup:=nodupN_ok hσ
 have hπ : ∀ {i l : Nat},σ[i]? = some l -> (σ.map some)[i]? = some (some l):=fun {i l} h=>by rw [List.getElem?_map,h]; rfl
 refine Spec.intro h.run.1 fun I β w vals hH hM hA=>?_
 obtain ⟨β0,eβ0⟩ : ∃ β0 : Places,β0 = renB β (σ.map some):=⟨_,rfl⟩
 have hβ0 : ∀ {i l : Nat},σ[i]? = some l -> β0 i = β l:=fun {i l} h=>by rw [eβ0]; exact renB_some (hπ h)
 have hβo : ∀ {i : Nat},S0.length <= i -> β0 i = none:=fun {i} h=>by
  rw [eβ0]; unfold renB; rw [List.getElem?_eq_none (by rw [List.length_map]; omega)]
 have idx : ∀ {i : Nat},i < S0.length -> ∃ l,σ[i]? = some l:=fun {i} h=>⟨σ[i]'(by omega),List.getElem?_eq_getElem (by omega)⟩
 have old : ∀ {i : Nat} {b' : PBlk},S0[i]? = some b' -> ∃ l b b2,σ[i]? = some l /\ st[l]? = some b /\ leBlk b b2 /\ b2.k = b'.k /\ b2.ty = b'.ty /\ b2.size = b'.size /\ b2.m = b'.m /\ b2.live = b'.live /\ ((b'.k.isC = false /\ b2.cs = b'.cs) \/ (b'.k.isC = true /\ renL (σ.map some) b'.cs = some b2.cs)):=fun {i b'} hb'=>by
  obtain ⟨l,hl⟩:=idx (List.getElem?_eq_some_iff.1 hb').1
  obtain ⟨b,hb,hr⟩:=hat i l b' hl hb'
  obtain ⟨b2,h1,h2⟩:=renK_ok hr
  exact ⟨l,b,b2,hl,hb,h1,h2⟩
 have oldm : ∀ {i : Nat} {b' : PBlk},S0[i]? = some b' -> ∃ l b,σ[i]? = some l /\ st[l]? = some b /\ b.live = true /\ b.m = b'.m:=fun {i b'} hb'=>by
  obtain ⟨l,b,b2,hl,hb,h1,h2,h3,h4,h5,h6,h7⟩:=old hb'
  obtain ⟨e1,e2,e3,e4,e5,e6,e7⟩:=leBlk_ok h1
  exact ⟨l,b,hl,hb,e4,e3.trans h5⟩
 have hH0 : HeapOk I β0 S0 w:=by
  refine ⟨fun i hi=>hβo hi,fun i b' hb' hlive=>?_⟩
  obtain ⟨l,b,b2,hl,hb,h1,h2,h3,h4,h5,h6,h7⟩:=old hb'
  obtain ⟨e1,e2,e3,e4,e5,e6,e7⟩:=leBlk_ok h1
  have hB:=hH.blk l b hb e4
  refine hB.tr (fun p hp=>(hβ0 hl).trans hp) (fun _ h=>h) (fun _ _=>rfl) (fun _ _ _ _ _=>rfl) (fun p g o fr hp ha ho=>⟨fun hr=>?_,fun hr=>ho.2 (by rw [e3,h5]; exact hr)⟩) (h2.symm.trans e6.symm) (h3.symm.trans e1.symm) (h4.symm.trans e2.symm) (fun hc=>?_) ?_ (fun hc arr o hca=>?_)
  ·obtain ⟨q1,q2,q3⟩:=ho.1 (by rw [e3,h5]; exact hr)
   refine ⟨q1,q2,fun i2 b2' hne hb2 hlive2 p2 g2 o2 hp2 ha2=>?_⟩
   obtain ⟨l2,b3,hl2,hb3,hlv3,_⟩:=oldm hb2
   exact q3 l2 b3 (fun e=>hne (hdup i2 i l (by rw [← e]; exact hl2) hl)) hb3 hlv3 p2 g2 o2 ((hβ0 hl2).symm.trans hp2) ha2
  ·rcases h7 with ⟨_,h7⟩ | ⟨h7,_⟩
   ·rcases e7 with ⟨_,e7⟩ | ⟨e7,_⟩
    ·rw [← h7,e7]
    ·rw [hc] at e7; cases e7
   ·rw [← h2,← e6,hc] at h7; cases h7
  ·have : b2.cs.length = b.cs.length:=by
    rcases e7 with ⟨_,e7⟩ | ⟨_,e7⟩
    ·rw [e7]
    ·exact (leL_len e7).symm
   rcases h7 with ⟨_,h7⟩ | ⟨_,h7⟩
   ·rw [← h7,this]
   ·rw [← (renL_get (i:=0) h7).2.2,this]
  ·have hca2 : CellsAt w I β b2.cs arr o:=by
    rcases e7 with ⟨hd,_⟩ | ⟨_,h8⟩
    ·rw [hc] at hd; cases hd
    ·exact leL_cells h8 hca
   rcases h7 with ⟨hd,_⟩ | ⟨_,h7⟩
   ·rw [← h2,← e6,hc] at hd; cases hd
   ·intro j c hj
    obtain ⟨y,hy,hren⟩:=(renL_get (i:=j) h7).2.1 c hj
    obtain ⟨v,hv,hi,h1⟩:=hca2 j y hy
    exact ⟨v,hv,by rw [eβ0]; exact ren1_ok hren hi,h1⟩
 have hA' : IsL w I args' β0 vals:=by rw [eβ0]; exact argR_ok hle hA
 refine (h.run.2 I β0 w vals hH0 hM hA').mono fun e w' ⟨v,r,S',I',β',he,⟨e1,e2⟩,hi,hH',hM',hE,hlen,hβ⟩=>?_
 subst e1; subst e2
 obtain rfl : β' = β0:=funext fun i=>by
  by_cases hi : i < S0.length
  ·exact hβ i hi (by simp)
  ·rw [hβo (by omega),hH'.far i (by omega)]
 have mem : ∀ {l : Nat},l ∈ σ -> ∃ i,σ[i]? = some l /\ i < S0.length:=fun {l} hl=>by
  obtain ⟨i,hi,e⟩:=List.getElem_of_mem hl
  exact ⟨i,by rw [List.getElem?_eq_getElem hi,e],by omega⟩
 have wr0 : ∀ {g},Wr β' S0 g -> Wr β st g:=fun {g} ⟨i,b,p,o,h1,h2,h3,h4,h5⟩=>by
  obtain ⟨l,b2,hl,hb2,hlv,hmm⟩:=oldm h1
  exact ⟨l,b2,p,o,hb2,hlv,by rw [hmm]; exact h3,(hβ0 hl).symm.trans h4,h5⟩
 have apart : ∀ {l : Nat} {b : PBlk} {p : Plc} {g o : Nat},l ∉ σ -> st[l]? = some b -> b.live = true -> β l = some p -> p.a = some (g,o) -> ¬ Wr β' S0 g:=fun {l b p g o} hl hb hlive hp ha ⟨i,b2,p2,o2,h1,h2,h3,h4,h5⟩=>by
  obtain ⟨l2,b3,hl2,hb3,hlv,hmm⟩:=oldm h1
  obtain ⟨arr,ty,fr,ho⟩:=(hH.blk l2 b3 hb3 hlv).place ((hβ0 hl2).symm.trans h4) h5
  exact (ho.2.1 (by rw [hmm,h3]; nofun)).2.2 l b (fun e=>hl (e ▸ List.mem_of_getElem? hl2)) hb hlive p g o hp ha rfl
 have new : ∀ {i l : Nat} {b' : PBlk},σ[i]? = some l -> S'[i]? = some b' -> ∃ b2,st'[l]? = some b2 /\ b2.k = b'.k /\ b2.ty = b'.ty /\ b2.size = b'.size /\ b2.m = b'.m /\ b2.live = b'.live /\ ((b'.k.isC = false /\ b2.cs = b'.cs) \/ (b'.k.isC = true /\ renL (σ.map some) b'.cs = some b2.cs)):=fun {i l b'} hl hb'=>renK_ok (hin i l b' hl hb')
 have inS : ∀ {i : Nat},i < S0.length -> ∃ b',S'[i]? = some b':=fun {i} h=>⟨S'[i]'(by omega),List.getElem?_eq_getElem (by omega)⟩
 have wr1 : ∀ {g},Wr β st' g -> (Wr β' S' g) \/ ∃ l b p o,l ∉ σ /\ st[l]? = some b /\ b.live = true /\ b.m = .w /\ β l = some p /\ p.a = some (g,o):=fun {g} ⟨l,b,p,o,h1,h2,h3,h4,h5⟩=>by
  by_cases hl : l ∈ σ
  ·obtain ⟨i,hi,hlt⟩:=mem hl
   obtain ⟨b',hb'⟩:=inS hlt
   obtain ⟨b2,hb2,q1,q2,q3,q4,q5,_⟩:=new hi hb'
   rw [hb2] at h1
   cases h1
   exact .inl ⟨i,b',p,o,hb',by rw [← q5]; exact h2,by rw [← q4]; exact h3,(hβ0 hi).trans h4,h5⟩
  ·exact .inr ⟨l,b,p,o,hl,(hout l hl).symm.trans h1,h2,h3,h4,h5⟩
 refine ⟨v,r,st',I',β,he,hk2,uses_none hr0 hi,⟨fun l hl=>hH.far l (by omega),fun l b hb hlive=>?_⟩,hM',⟨hE.os,hE.tape,hE.output,hE.size,fun g hg hn=>hE.block g hg fun h=>hn (wr0 h),fun g hg h=>?_,hE.imm,fun g hg h=>(hE.new g hg h).imp id wr0⟩,by omega,fun _ _ _=>rfl⟩
 ·by_cases hl : l ∈ σ
  ·obtain ⟨i,hi,hlt⟩:=mem hl
   obtain ⟨b',hb'⟩:=inS hlt
   obtain ⟨b2,hb2,q1,q2,q3,q4,q5,q6⟩:=new hi hb'
   rw [hb2] at hb
   cases hb
   have hB:=hH'.blk i b' hb' (by rw [← q5]; exact hlive)
   refine hB.tr (fun p hp=>(hβ0 hi).symm.trans hp) (fun _ h=>h) (fun _ _=>rfl) (fun _ _ _ _ _=>rfl) (fun p g o fr hp ha ho=>⟨fun hr=>?_,fun hr=>ho.2 (by rw [← q4]; exact hr)⟩) q1 q2 q3 (fun hc=>?_) ?_ (fun hc arr o hca=>?_)
   ·obtain ⟨x1,x2,x3⟩:=ho.1 (by rw [← q4]; exact hr)
    refine ⟨x1,x2,fun l2 c2 hne hc2 hlive2 p2 g2 o2 hp2 ha2=>?_⟩
    by_cases hl2 : l2 ∈ σ
    ·obtain ⟨i2,hi2,hlt2⟩:=mem hl2
     obtain ⟨b3',hb3'⟩:=inS hlt2
     obtain ⟨b3,hb3,_,_,_,_,y5,_⟩:=new hi2 hb3'
     rw [hb3] at hc2
     cases hc2
     exact x3 i2 b3' (fun e=>hne (Option.some.inj (by rw [← hi,← hi2,e]))) hb3' (by rw [← y5]; exact hlive2) p2 g2 o2 ((hβ0 hi2).trans hp2) ha2
    ·have hc2' : st[l2]? = some c2:=(hout l2 hl2).symm.trans hc2
     obtain ⟨b0,hb0⟩ : ∃ b0,S0[i]? = some b0:=⟨S0[i]'hlt,List.getElem?_eq_getElem hlt⟩
     obtain ⟨l3,b3,hl3,hb3,hlv3,hmm3⟩:=oldm hb0
     obtain rfl : l3 = l:=Option.some.inj (hl3.symm.trans hi)
     obtain ⟨_,q7⟩:=hmd i b0 b' hb0 hb'
     obtain ⟨_,_,fr3,_,ho3⟩:=(hH.blk l3 b3 hb3 hlv3).place ((hβ0 hi).symm.trans hp) ha
     exact (ho3.1 (by rw [hmm3,q7,← q4]; exact hr)).2.2 l2 c2 hne hc2' hlive2 p2 g2 o2 hp2 ha2
   ·rcases q6 with ⟨_,q6⟩ | ⟨q6,_⟩
    ·exact q6
    ·rw [hc] at q6; cases q6
   ·rcases q6 with ⟨_,q6⟩ | ⟨_,q6⟩
    ·rw [q6]
    ·exact (renL_get (i:=0) q6).2.2
   ·rcases q6 with ⟨hd,_⟩ | ⟨_,q6⟩
    ·rw [hc] at hd; cases hd
    ·intro j c hj
     obtain ⟨y,hy,hren⟩:=(renL_get (i:=j) q6).1 c hj
     obtain ⟨u,hu,hiu,h1⟩:=hca j y hy
     exact ⟨u,hu,ren1_inv hren (by rw [← eβ0]; exact hiu),h1⟩
  ·have hb' : st[l]? = some b:=(hout l hl).symm.trans hb
   have hB:=hH.blk l b hb' hlive
   have same : ∀ {p g o},β l = some p -> p.a = some (g,o) -> g < w.heap.size /\ w'.heap[g]? = w.heap[g]?:=fun {p g o} hp ha=>by
    have hlt:=hH.lives_lt ⟨l,b,p,o,hb',hlive,hp,ha⟩
    exact ⟨hlt,hE.block g hlt (apart hl hb' hlive hp ha)⟩
   refine hB.mono hE.imm (fun g hg=>hE.block g (hM.imm g hg) fun hw=>?_) (fun _ _ h=>h) fun p g o hp ha=>⟨(same hp ha).2,fun hr=>?_⟩
   ·exact hH0.wr_imm hw hg
   ·obtain ⟨arr,ty,fr,hh,ho⟩:=hB.place hp ha
    obtain ⟨h1,h2,h3⟩:=ho.1 hr
    refine ⟨fun hI=>(hE.new g (same hp ha).1 hI).elim h2 (apart hl hb' hlive hp ha),fun l2 b2 hne hb2 hlive2 p2 g2 o2 hp2 ha2=>?_⟩
    by_cases hl2 : l2 ∈ σ
    ·obtain ⟨i2,hi2,hlt2⟩:=mem hl2
     obtain ⟨b0,hb0⟩ : ∃ b0,S0[i2]? = some b0:=⟨S0[i2]'hlt2,List.getElem?_eq_getElem hlt2⟩
     obtain ⟨l3,b3,hl3,hb3,hlv3,_⟩:=oldm hb0
     obtain rfl : l3 = l2:=Option.some.inj (hl3.symm.trans hi2)
     exact h3 l3 b3 hne hb3 hlv3 p2 g2 o2 hp2 ha2
    ·exact h3 l2 b2 hne ((hout l2 hl2).symm.trans hb2) hlive2 p2 g2 o2 hp2 ha2
 ·rcases wr1 h with h | ⟨l,b,p,o,_,h2,h3,h4,h5,h6⟩
  ·exact wr0 (hE.wr g hg h)
  ·exact ⟨l,b,p,o,h2,h3,h4,h5,h6⟩
end
end Go.Proofs.YtnbngokbamifbaaGreatDoor.Pw
namespace Go.Proofs.YtnbngokbamifbaaGreatDoor.Pw
open Go Go.RowKit
def shR : Nat -> Nat -> Ren
 | _,0=>[]
 | n,k + 1=>some n :: shR (n + 1) k
def renTL (π : Ren) : List PV -> Option (List PV)
 | []=>some []
 | c :: cs=>(match c.ren π,renTL π cs with
  | some x,some l=>some (x :: l)
  | _,_=>none)
def PV.renT (π : Ren) (x : PV) : Option PV:=match x with
 | .tup cs=>(renTL π cs).map .tup
 | x=>x.ren π
def newK (π : Ren) : List PBlk -> List PBlk -> (List PBlk -> Prop) -> Prop
 | [],st,k=>k st
 | b :: S,st,k=>renK π b fun b=>frK b fun b=>addB st b fun st=>newK π S st k
section
variable {w w' : World} {I I' : Nat -> Prop} {β β' : Places} {G : Gx} {s : PSt} {a : Act} {st st' : List PBlk}
theorem shR_get : ∀ {k n i : Nat},(shR n k)[i]? = if i < k then some (some (n + i)) else none
 | 0,n,i=>by simp [shR]
 | k + 1,n,0=>by simp [shR]
 | k + 1,n,i + 1=>by
  rw [shR,List.getElem?_cons_succ,shR_get]
  simp only [Nat.add_lt_add_iff_right,show n + 1 + i = n + (i + 1) by omega]
theorem renL_inv {π : Ren} : ∀ {xs ys : List PV} {vs : List Value},renL π xs = some ys -> IsL w I xs (renB β π) vs -> IsL w I ys β vs
 | [],ys,vs,h,hx=>by
  simp only [renL,Option.some.injEq] at h
  subst h
  cases vs with
  | nil=>simp only [IsL]
  | cons v vs=>simp only [IsL] at hx
 | x :: xs,ys,vs,h,hx=>by
  simp only [renL] at h
  split at h
  ·rename_i y l h1 h2
   cases h
   cases vs with
   | nil=>simp only [IsL] at hx
   | cons v vs =>
    simp only [IsL] at hx ⊢
    exact ⟨ren1_inv h1 hx.1,renL_inv h2 hx.2⟩
  ·cases h
theorem ren_inv {π : Ren} {x y : PV} {v : Value} (h : x.ren π = some y) (hx : x.Is w I (renB β π) v) : y.Is w I β v:=by
 unfold PV.ren at h
 split at h
 ·rw [Option.map_eq_some_iff] at h
  obtain ⟨l,hl,rfl⟩:=h
  simp only [PV.Is] at hx ⊢
  obtain ⟨vs,rfl,hx⟩:=hx
  exact ⟨vs,rfl,renL_inv hl hx⟩
 ·rw [Option.map_eq_some_iff] at h
  obtain ⟨l,hl,rfl⟩:=h
  simp only [PV.Is] at hx ⊢
  obtain ⟨vs,rfl,hx⟩:=hx
  exact ⟨vs,rfl,renL_inv hl hx⟩
 ·cases h
 ·exact ren1_inv h hx
theorem renTL_inv {π : Ren} : ∀ {xs ys : List PV} {vs : List Value},renTL π xs = some ys -> IsL w I xs (renB β π) vs -> IsL w I ys β vs
 | [],ys,vs,h,hx=>by
  simp only [renTL,Option.some.injEq] at h
  subst h
  cases vs with
  | nil=>simp only [IsL]
  | cons v vs=>simp only [IsL] at hx
 | x :: xs,ys,vs,h,hx=>by
  simp only [renTL] at h
  split at h
  ·rename_i y l h1 h2
   cases h
   cases vs with
   | nil=>simp only [IsL] at hx
   | cons v vs =>
    simp only [IsL] at hx ⊢
    exact ⟨ren_inv h1 hx.1,renTL_inv h2 hx.2⟩
  ·cases h
theorem renT_inv {π : Ren} {x y : PV} {v : Value} (h : x.renT π = some y) (hx : x.Is w I (renB β π) v) : y.Is w I β v:=by
 unfold PV.renT at h
 split at h
 ·rw [Option.map_eq_some_iff] at h
  obtain ⟨l,hl,rfl⟩:=h
  simp only [PV.Is] at hx ⊢
  obtain ⟨vs,rfl,hx⟩:=hx
  exact ⟨vs,rfl,renTL_inv hl hx⟩
 ·exact ren_inv h hx
theorem addB_is : ∀ {l : List PBlk} {b : PBlk} {q : List PBlk -> Prop},addB l b q -> q (l ++ [b])
 | [],_,_,h=>h
 | c :: l,b,q,h=>addB_is (l:=l) (q:=fun x=>q (c :: x)) h
theorem newK_ok {π : Ren} : ∀ {S st : List PBlk} {k : List PBlk -> Prop},newK π S st k -> ∃ S2,k (st ++ S2) /\ S2.length = S.length /\ ∀ (i : Nat) (b : PBlk),S[i]? = some b -> ∃ b2,S2[i]? = some b2 /\ b2.k = b.k /\ b2.ty = b.ty /\ b2.size = b.size /\ b2.m = b.m /\ b2.live = b.live /\ ((b.k.isC = false /\ b2.cs = b.cs) \/ (b.k.isC = true /\ renL π b.cs = some b2.cs))
 | [],st,k,h=>⟨[],by rw [List.append_nil]; exact h,rfl,fun i b hb=>by simp at hb⟩
 | c :: S,st,k,h=>by
  obtain ⟨b2,h1,h2⟩:=renK_ok h
  obtain ⟨S2,hk,hl,hh⟩:=newK_ok (addB_is (frK_ok h1))
  refine ⟨b2 :: S2,by rw [List.append_assoc] at hk; exact hk,by simp [hl],fun i b hb=>?_⟩
  cases i with
  | zero=>simp at hb; subst hb; exact ⟨b2,rfl,h2⟩
  | succ i=>simpa using hh i b (by simpa using hb)
theorem Spec.useNews {f : FuncId} {args args' : List PV} {r0 : PV} {S1 : List PBlk} {K : PV -> List PBlk -> Prop} (h : Spec G f args' [] [] fun r S'=>r = r0 /\ S' = S1) (hall : S1.all (fun b=>b.live && Md.beq b.m .w) = true) (hle : leL leK args args') (hu : usesL args' = [])
  (hK : lenK st 0 fun n=>newK (shR n S1.length) S1 st fun st2=>need (r0.renT (shR n S1.length)) fun r=>K r st2) : Spec G f args st [] K:=by
 replace hK:=lenK_ok hK
 rw [Nat.zero_add] at hK
 obtain ⟨S2,hk,hlen,hnew⟩:=newK_ok hK
 obtain ⟨r2,hr2,hk2⟩:=need_ok hk
 refine Spec.intro h.run.1 fun I β w vals hH hM hA=>?_
 have h0 : HeapOk I (fun _=>none) ([] : List PBlk) w:=⟨fun _ _=>rfl,fun l b hl=>by simp at hl⟩
 refine (h.run.2 I (fun _=>none) w vals h0 hM (usesL_none hu (leL_ok (fun _ _=>leK_ok) hle hA))).mono fun e w' ⟨v,r,S',I',β1,he,⟨e1,e2⟩,hi,hH',hM',hE,_,_⟩=>?_
 subst e1; subst e2
 have hnw : ∀ g,¬ Wr (fun _=>none) ([] : List PBlk) g:=fun g ⟨l,b,p,o,h1,_⟩=>by simp at h1
 have hold : ∀ g,g < w.heap.size -> w'.heap[g]? = w.heap[g]?:=fun g hg=>hE.block g hg (hnw g)
 have hI' : ∀ g,g < w.heap.size -> I' g -> I g:=fun g hg h=>(hE.new g hg h).elim id fun h=>absurd h (hnw g)
 have hlw : ∀ {i : Nat} {b : PBlk},S'[i]? = some b -> b.live = true /\ b.m = .w:=fun {i b} hb=>by
  rw [List.all_eq_true] at hall
  have:=hall b (List.mem_of_getElem? hb)
  simp only [Bool.and_eq_true] at this
  exact ⟨this.1,Md.beq_ok this.2⟩
 have hfresh : ∀ {i : Nat} {p : Plc} {g o : Nat},β1 i = some p -> p.a = some (g,o) -> w.heap.size <= g:=fun {i p g o} hp ha=>by
  have hlt:=hH'.lt hp
  obtain ⟨b,hb⟩ : ∃ b,S'[i]? = some b:=⟨S'[i],List.getElem?_eq_getElem hlt⟩
  rcases Nat.lt_or_ge g w.heap.size with hg | hg
  ·exact absurd (hE.wr g hg ⟨i,b,p,o,hb,(hlw hb).1,(hlw hb).2,hp,ha⟩) (hnw g)
  ·exact hg
 obtain ⟨β2,eβ⟩ : ∃ β2 : Places,β2 = fun l=>if l < st.length then β l else β1 (l - st.length):=⟨_,rfl⟩
 have hlo : ∀ {l},l < st.length -> β2 l = β l:=fun {l} h=>by rw [eβ]; exact if_pos h
 have hhi : ∀ {i},β2 (st.length + i) = β1 i:=fun {i}=>by rw [eβ]; show (if st.length + i < st.length then _ else _) = _; rw [if_neg (by omega),Nat.add_sub_cancel_left]
 have hren : renB β2 (shR st.length S'.length) = β1:=funext fun i=>by
  by_cases h : i < S'.length
  ·rw [renB_some (m:=st.length + i) (by rw [shR_get,if_pos h]),hhi]
  ·unfold renB
   rw [shR_get,if_neg h]
   exact (hH'.far i (by omega)).symm
 have hmono : ∀ l p,β l = some p -> β2 l = some p:=fun l p hp=>by rw [hlo (hH.lt hp)]; exact hp
 have hlow : ∀ g,Lives β st g -> g < w.heap.size:=fun g hg=>hH.lives_lt hg
 refine ⟨v,r2,st ++ S2,I',β2,he,hk2,renT_inv hr2 (by rw [hren]; exact hi),⟨fun l hl=>?_,fun l b hb hlive=>?_⟩,hM',⟨hE.os,hE.tape,hE.output,hE.size,fun g hg _=>hold g hg,fun g hg ⟨l,b,p,o,h1,h2,h3,h4,h5⟩=>?_,hE.imm,fun g hg h=>.inl (hI' g hg h)⟩,by simp,fun l hl _=>hlo hl⟩
 ·rw [List.length_append] at hl
  have:=hhi (i:=l - st.length)
  rw [show st.length + (l - st.length) = l by omega] at this
  rw [this]; exact hH'.far _ (by omega)
 ·by_cases hl : l < st.length
  ·rw [List.getElem?_append_left hl] at hb
   have hB:=hH.blk l b hb hlive
   refine hB.mono hE.imm (fun g hg=>hold g (hM.imm g hg)) hmono fun p g o hp ha=>?_
   obtain ⟨arr,ty,fr,hh,ho⟩:=hB.place hp ha
   have hlt:=lt_of_heap hh
   refine ⟨hold g hlt,fun hr=>⟨fun hI=>(ho.1 hr).2.1 (hI' g hlt hI),fun l' b' hne hb' hlive' p' g' o' hp' ha'=>?_⟩⟩
   by_cases hl' : l' < st.length
   ·rw [List.getElem?_append_left hl'] at hb'
    exact (ho.1 hr).2.2 l' b' hne hb' hlive' p' g' o' (by rw [← hlo hl']; exact hp') ha'
   ·have e:=hhi (i:=l' - st.length)
    rw [show st.length + (l' - st.length) = l' by omega] at e
    have:=hfresh (by rw [← e]; exact hp') ha'
    omega
  ·obtain ⟨i,rfl⟩ : ∃ i,l = st.length + i:=⟨l - st.length,by omega⟩
   rw [List.getElem?_append_right (by omega),Nat.add_sub_cancel_left] at hb
   have hlt : i < S'.length:=by rw [← hlen]; exact (List.getElem?_eq_some_iff.1 hb).1
   obtain ⟨b',hb'⟩ : ∃ b,S'[i]? = some b:=⟨S'[i],List.getElem?_eq_getElem hlt⟩
   obtain ⟨b2,hb2,q1,q2,q3,q4,q5,q6⟩:=hnew i b' hb'
   obtain rfl : b2 = b:=Option.some.inj (hb2.symm.trans hb)
   have hB:=hH'.blk i b' hb' (hlw hb').1
   refine hB.tr (fun p hp=>by rw [hhi]; exact hp) (fun _ h=>h) (fun _ _=>rfl) (fun _ _ _ _ _=>rfl) (fun p g o fr hp ha ho=>⟨fun hr=>?_,fun hr=>ho.2 (by rw [← q4]; exact hr)⟩) q1 q2 q3 (fun hc=>?_) ?_ (fun hc arr o hca=>?_)
   ·obtain ⟨x1,x2,x3⟩:=ho.1 (by rw [← q4]; exact hr)
    refine ⟨x1,x2,fun l2 c2 hne hc2 hlive2 p2 g2 o2 hp2 ha2=>?_⟩
    by_cases hl2 : l2 < st.length
    ·rw [List.getElem?_append_left hl2] at hc2
     have h1:=hlow g2 ⟨l2,c2,p2,o2,hc2,hlive2,by rw [← hlo hl2]; exact hp2,ha2⟩
     have h2:=hfresh hp ha
     omega
    ·obtain ⟨i2,rfl⟩ : ∃ i2,l2 = st.length + i2:=⟨l2 - st.length,by omega⟩
     rw [hhi] at hp2
     have hlt2:=hH'.lt hp2
     obtain ⟨b3,hb3⟩ : ∃ b,S'[i2]? = some b:=⟨S'[i2],List.getElem?_eq_getElem hlt2⟩
     exact x3 i2 b3 (fun e=>hne (by rw [e])) hb3 (hlw hb3).1 p2 g2 o2 hp2 ha2
   ·rcases q6 with ⟨_,q6⟩ | ⟨q6,_⟩
    ·exact q6
    ·rw [hc] at q6; cases q6
   ·rcases q6 with ⟨_,q6⟩ | ⟨_,q6⟩
    ·rw [q6]
    ·exact (renL_get (i:=0) q6).2.2
   ·rcases q6 with ⟨hd,_⟩ | ⟨_,q6⟩
    ·rw [hc] at hd; cases hd
    ·intro j c hj
     obtain ⟨y,hy,hr⟩:=(renL_get (i:=j) q6).1 c hj
     obtain ⟨u,hu,hiu,h1⟩:=hca j y hy
     exact ⟨u,hu,ren1_inv hr (by rw [hren]; exact hiu),h1⟩
 ·by_cases hl : l < st.length
  ·rw [List.getElem?_append_left hl] at h1
   exact ⟨l,b,p,o,h1,h2,h3,by rw [← hlo hl]; exact h4,h5⟩
  ·have e:=hhi (i:=l - st.length)
   rw [show st.length + (l - st.length) = l by omega] at e
   have:=hfresh (by rw [← e]; exact h4) h5
   omega
theorem Spec.lend {f : FuncId} {args args' : List PV} {rl : List Nat} {K : PV -> List PBlk -> Prop} (fz : List Nat) (hz : okZ st fz = true) (hle : leL (leB st fz) args args') (hu : usesL args' = []) (h : Spec G f args' (frzS fz st) rl K) : Spec G f args st rl K:=by
 refine Spec.intro h.run.1 fun I β w vals hH hM hA=>?_
 have hH2:=hH.frz hM hz
 have hM2 : ImmOk G (LentI I β st fz) w:=lent_imm hH hM
 have hA2 : IsL w (LentI I β st fz) args' β vals:=usesL_none hu (lent_args hH hle hu hA)
 have hwr : ∀ {g},Wr β (frzS fz st) g -> Wr β st g:=fun {g} ⟨l,b1,p,o,h1,h2,h3,h4,h5⟩=>by
  obtain ⟨b0,hb0,rfl⟩:=frzS_get h1
  refine ⟨l,b0,p,o,hb0,h2,?_,h4,h5⟩
  cases hc : inL l fz with
  | true=>simp only [hc,frzM,cond_true] at h3; cases h3
  | false=>simpa only [hc,frzM,cond_false] using h3
 have hlen : (frzS fz st).length = st.length:=by unfold frzS; rw [mapM_len]
 refine (h.run.2 (LentI I β st fz) β w vals hH2 hM2 hA2).mono fun e w' ⟨v,r,S',I',β',he,hK,hi,hH',hM',hE,hl,hβ⟩=>?_
 refine ⟨v,r,S',I',β',he,hK,hi,hH',hM',⟨hE.os,hE.tape,hE.output,hE.size,fun g hg hn=>hE.block g hg fun h=>hn (hwr h),fun g hg h=>hwr (hE.wr g hg h),fun g hg=>hE.imm g (.inl hg),fun g hg h=>?_⟩,by rw [← hlen]; exact hl,fun l hl hr=>hβ l (by rw [hlen]; exact hl) hr⟩
 rcases hE.new g hg h with (h | ⟨l,b,p,o,hl,hb,hlive,hm,hp,ha⟩) | h
 ·exact .inl h
 ·cases hmm : b.m with
  | w=>exact .inr ⟨l,b,p,o,hb,hlive,hmm,hp,ha⟩
  | p=>rw [hmm] at hm; cases hm
  | r =>
   obtain ⟨arr,ty,fr,_,ho⟩:=(hH.blk l b hb hlive).place hp ha
   exact .inl (ho.2 hmm)
 ·exact .inr (hwr h)
end
end Go.Proofs.YtnbngokbamifbaaGreatDoor.Pw
namespace Go.Proofs.YtnbngokbamifbaaGreatDoor.Pw
open Go Go.RowKit
section
variable {w w' : World} {I I' : Nat -> Prop} {β β' : Places} {G : Gx} {s : PSt} {a : Act} {st st' : List PBlk}
theorem num_is {x : PV} {v : Value} {n : Bool × IntKind × Int} (h : x.num = some n) (hx : x.Is w I β v) : v = .int n.2.1 n.2.2:=by
 cases x <;> simp only [PV.num] at h <;> first | cases h; simp only [PV.Is] at hx; exact hx | cases h
end
end Go.Proofs.YtnbngokbamifbaaGreatDoor.Pw
namespace Go.Proofs.YtnbngokbamifbaaGreatDoor.Pw
open Go Go.RowKit
def pmakeN (G : Gx) (s : PSt) (o : Oper) (q : PV -> PSt -> Prop) : Prop:=match o.op with
 | .makeSlice t l c=>need (G.cx.und t) fun d=>match d with
  | .slice elem=>need (Ev.sizeT G.cx elem) fun n=>need (Ev.lkT elem G.bt) fun by_=>zerosO G.cx elem fun z=>s.ev l fun l=>s.ev c fun c=>need l.num fun n1=>need c.num fun n2=>(match z with
   | [x]=>bif Nat.beq n 1 && x.noRef then ∃ N : Nat,n1.2.2 = N /\ n2.2.2 = N /\ n1.2.1 = .i64 /\ n2.2.1 = .i64 /\ by_ * N <= 281474976710656 /\ N <= maxLen /\ pnewS s ⟨.dyn,elem,1,.w,true,List.replicate N x.norm⟩ q else False
   | _=>False)
  | _=>False
 | _=>False
section
variable {w w' : World} {I I' : Nat -> Prop} {β β' : Places} {G : Gx} {s : PSt} {a : Act} {st st' : List PBlk}
theorem pmakeN_ok (hG : GOk G) {o : Oper} {q : PV -> PSt -> Prop} (h : pmakeN G s o q) : OpS G s o q:=OpS.intro fun I β a w hR=>by
 unfold pmakeN at h
 split at h
 ·rename_i t l c hop
  replace h:=need_ok h
  obtain ⟨d,hu,h⟩:=h
  split at h
  ·rename_i elem
   replace h:=need_ok h
   obtain ⟨n,hn,h⟩:=h
   replace h:=need_ok h
   obtain ⟨by_,hby,h⟩:=h
   replace h:=zerosO_ok (w:=w) (I:=I) (β:=β) hG.ok h
   obtain ⟨z,i,v,h,hi,hzv,hzz⟩:=h
   replace h:=PSt.ev_ok hR h
   obtain ⟨x,h,hx⟩:=h
   replace h:=PSt.ev_ok hR h
   obtain ⟨y,h,hy⟩:=h
   replace h:=need_ok h
   obtain ⟨n1,hn1,h⟩:=h
   replace h:=need_ok h
   obtain ⟨n2,hn2,h⟩:=h
   have hx:=num_is hn1 hx
   have hy:=num_is hn2 hy
   split at h
   ·rename_i x
    replace h:=bif_ok h
    obtain ⟨hc,N,e1,e2,k1,k2,h4,h5,h⟩:=h
    simp only [Bool.and_eq_true] at hc
    obtain ⟨h3,h6⟩:=hc
    obtain rfl:=Nat.eq_of_beq_eq_true h3
    rw [e1,k1] at hx
    rw [e2,k2] at hy
    obtain ⟨i2,hi2,hib⟩:=hG.by_ _ (Ev.lkT_mem hby)
    rw [hi] at hi2; cases hi2
    obtain ⟨i3,hi3,his⟩:=Ev.size_inf hG.ok hn
    rw [hi] at hi3; cases hi3
    match hvc : v.cells.toList,hzz with
    | [u],hzz =>
     have hvc' : v.cells = #[u]:=by rw [← Array.toArray_toList (xs:=v.cells),hvc]
     simp only [IsL,and_true] at hzz
     have hu1 : u.oneCell' = true:=by
      refine flat_one (hzz.flat (show x.cell1 = true from ?_))
      cases x <;> first | rfl | cases h6
     have hv1 : v.cells = #[u]:=hvc'
     have hrun : (execOp a.eval o).run G.cx.P w = .ok (.value (.slice (some ⟨w.heap.size,0,none⟩) N N)) (w.alloc (.cells (madeCells #[u] N) elem)):=by
      have h7 : ((by_ * N : Nat) : Int) <= 281474976710656:=Int.ofNat_le.2 h4
      have h8 : (i.bytes : Int) * (N : Int) <= 281474976710656:=by rw [hib,← Int.natCast_mul]; exact h7
      have:=run_make (P:=G.cx.P) w t elem i v (hG.ok.un hu) hi hzv .i64 .i64 N N (by omega) (Int.le_refl _) h8 (by unfold maxLen at h5; omega)
      rw [show i.size = 1 from his,hv1] at this
      simp only [Int.toNat_natCast,Nat.mul_one] at this
      unfold execOp
      rw [hop]
      simp only [hx,hy,Sem.run_bind,this,Result.andThen_ok,Sem.run_pure]
     rw [hrun]
     replace h:=addB_ok (lenK_ok h)
     rw [Nat.zero_add] at h
     have hset:=Places.set_mono hR.heap ⟨some (w.heap.size,0),N,N⟩
     have hsz : (madeCells #[u] N).size = N:=size_madeCells _ _
     have hec : x.norm.cells = [x.norm]:=by cases x <;> first | rfl | cases h6
     have hEs : IsEs (w.alloc (.cells (madeCells #[u] N) elem)) I (List.replicate N x.norm) 1 w.heap.size 0:=IsEs.of fun j e he=>by
      rw [List.getElem?_replicate] at he
      split at he
      ·rename_i hj
       cases he
       refine ⟨by rw [hec]; rfl,IsAt.of fun j2 c hc=>?_⟩
       rw [hec] at hc
       match j2,hc with
       | 0,hc =>
        simp at hc; subst hc
        refine ⟨u,?_,norm_is ?_,hu1⟩
        ·rw [Ev.cells_of (Ev.heap_new w _)]
         simp [madeCells,hj,Nat.mod_one]
        ·refine PV.Is.mono (fun _ h=>h) (fun g hg=>alloc_keeps hR.heap hR.imm.imm _ g (.inr hg)) x β _ u (fun l p hl=>?_) hzz
         exfalso
         cases x <;> first | (simp [PV.uses] at hl; done) | (simp [PV.noRef] at h6; done)
      ·cases he
     obtain ⟨hH,hE⟩:=alloc_new (vs:=madeCells #[u] N) (t:=elem) hR.heap hR.imm.imm (b:=⟨.dyn,elem,1,.w,true,List.replicate N x.norm⟩) (p:=⟨some (w.heap.size,0),N,N⟩) rfl (fun ho =>
      ⟨_,Places.set_self ..,⟨Nat.zero_lt_one,List.length_replicate,Nat.le_refl _,h5⟩,.inr ⟨w.heap.size,madeCells #[u] N,(0,0),rfl,Ev.heap_new w _,hEs,ho,by rw [hsz,Nat.mul_one]⟩⟩) rfl
     refine OpPost.mk' hR h hH hE hset (by simp) (fun l hl=>if_neg (by omega)) ?_
     simp only [PV.Is]; exact ⟨_,Places.set_self ..,rfl⟩
    | [],hzz=>simp only [IsL] at hzz
    | _ :: _ :: _,hzz=>simp only [IsL,and_false] at hzz
   ·exact h.elim
  ·exact h.elim
 ·exact h.elim
end
end Go.Proofs.YtnbngokbamifbaaGreatDoor.Pw

/- What a law is proved with. -/
import Derived.Test.YtnbngokbamifbaaGreatDoorNi3
import Derived.Below
import Derived.Laws.Rows
import Derived.WalkKit
import Derived.OpenShut
set_option linter.unusedVariables false
set_option linter.unusedSimpArgs false
namespace Go.Proofs.YtnbngokbamifbaaGreatDoor.Ev
open Go Go.RowKit
structure Jx where
 J : World -> Prop
 G : List Nat
 closed : ∀ w w',J w -> (∀ b,b ∈ G -> w'.heap[b]? = w.heap[b]?) -> J w'
 inb : ∀ w,J w -> ∀ b,b ∈ G -> b < w.heap.size
def Jx.none : Jx:=⟨fun _=>True,[],fun _ _ _ _=>trivial,fun _ _ _ h=>by cases h⟩
structure Fr (W : World) (wr : List Nat) (w : World) : Prop where
 os : w.os = W.os
 tape : w.tape = W.tape
 output : w.output = W.output
 size : W.heap.size <= w.heap.size
 block : ∀ b,b < W.heap.size -> b ∉ wr -> w.heap[b]? = W.heap[b]?
theorem Fr.refl (W : World) (wr : List Nat) : Fr W wr W:=⟨rfl,rfl,rfl,Nat.le_refl _,fun _ _ _=>rfl⟩
theorem Fr.below {W w w' : World} {wr : List Nat} (h : Fr W wr w) (hb : Below w.heap.size w w') : Fr W wr w' :=
 ⟨hb.os.trans h.os,hb.tape.trans h.tape,hb.output.trans h.output,Nat.le_trans h.size hb.size,fun b hb' hn=>(hb.block b (Nat.lt_of_lt_of_le hb' h.size)).trans (h.block b hb' hn)⟩
theorem Fr.to_below {W w : World} (h : Fr W [] w) : Below W.heap.size W w:=⟨h.os,h.tape,h.output,h.size,fun b hb=>h.block b hb (by simp)⟩
section
variable {P : Program} {cx : Cx} {jx : Jx} {ρ : Env} {W : World} {wr : List Nat} {β β' : Pl} {heap : List Blk} {w w' : World}
def BlkOk (ρ : Env) (jx : Jx) (W : World) (wr : List Nat) (β : Pl) (w : World) (l : Nat) (b : Blk) : Prop :=
 ∃ (p : Nat × Nat) (arr : Array Value) (ty : TypeId) (fr : Nat × Nat),β[l]? = some p /\ w.heap[p.1]? = some (.cells arr ty fr) /\ CellsOk ρ β b.cells (fun i=>arr[p.2 + i]?) /\
  (b.rw = true -> fr = (0,0) /\ (∀ l' q,l' ≠ l -> β[l']? = some q -> q.1 ≠ p.1) /\ (W.heap.size <= p.1 \/ p.1 ∈ wr) /\ p.1 ∉ jx.G)
def HeapOk (ρ : Env) (jx : Jx) (W : World) (wr : List Nat) (β : Pl) (heap : List Blk) (w : World) : Prop :=
 β.length = heap.length /\ ∀ l b,heap[l]? = some b -> BlkOk ρ jx W wr β w l b
theorem lt_of_heap {o : Obj} {b : Nat} (h : w.heap[b]? = some o) : b < w.heap.size:=(Array.getElem?_eq_some_iff.1 h).1
theorem CellsOk.mono {l : List AT} {g : Nat -> Option Value} (hb : β <+: β') (h : CellsOk ρ β l g) : CellsOk ρ β' l g:=fun j x hx=>let ⟨v,hv,hi⟩:=h j x hx; ⟨v,hv,hi.mono hb⟩
theorem HeapOk.below (h : HeapOk ρ jx W wr β heap w) (hb : Below w.heap.size w w') : HeapOk ρ jx W wr β heap w' :=
 ⟨h.1,fun l b hl=>let ⟨p,arr,ty,fr,h1,h2,h3⟩:=h.2 l b hl; ⟨p,arr,ty,fr,h1,(hb.block _ (lt_of_heap h2)).trans h2,h3⟩⟩
theorem Jx.below (hj : jx.J w) (hb : Below w.heap.size w w') : jx.J w':=jx.closed w w' hj fun b hg=>hb.block b (jx.inb w hj b hg)
theorem heap_old (w : World) (o : Obj) (i : Nat) (h : i < w.heap.size) : (w.alloc o).heap[i]? = w.heap[i]?:=by
 show (w.heap.push o)[i]? = _
 rw [Array.getElem?_push_lt h,Array.getElem?_eq_getElem h]
theorem heap_new (w : World) (o : Obj) : (w.alloc o).heap[w.heap.size]? = some o:=by
 show (w.heap.push o)[w.heap.size]? = _
 simp
theorem HeapOk.alloc (h : HeapOk ρ jx W wr β heap w) (hf : Fr W wr w) (hj : jx.J w) {cs : List AT} {vs : Array Value} {ty ty' : TypeId} (hc : All2 (AT.Is ρ β) cs vs.toList) :
  HeapOk ρ jx W wr (β ++ [(w.heap.size,0)]) (heap ++ [⟨ty',cs,true⟩]) (w.alloc (.cells vs ty)):=by
 have hpre : β <+: β ++ [(w.heap.size,0)]:=List.prefix_append _ _
 have hplt : ∀ (l : Nat) (p : Nat × Nat),β[l]? = some p -> p.1 < w.heap.size:=fun l p hp=>by
  have hl : l < heap.length:=by rw [← h.1]; exact (List.getElem?_eq_some_iff.1 hp).1
  obtain ⟨q,arr,_,_,hq,hh,_⟩:=h.2 l _ (List.getElem?_eq_getElem hl)
  rw [hp] at hq
  cases hq
  exact lt_of_heap hh
 refine ⟨by simp [h.1],fun l b hl=>?_⟩
 by_cases hlt : l < heap.length
 ·rw [List.getElem?_append_left hlt] at hl
  obtain ⟨p,arr,t,fr,h1,h2,h3,h4⟩:=h.2 l b hl
  refine ⟨p,arr,t,fr,Pl.mono_get hpre h1,(heap_old w _ _ (lt_of_heap h2)).trans h2,h3.mono hpre,fun hrw=>?_⟩
  obtain ⟨g1,g2,g3,g4⟩:=h4 hrw
  refine ⟨g1,fun l' q hne hq=>?_,g3,g4⟩
  by_cases hl' : l' < β.length
  ·rw [List.getElem?_append_left hl'] at hq
   exact g2 l' q hne hq
  ·rw [List.getElem?_append_right (by omega)] at hq
   have : q = (w.heap.size,0):=by
    cases hk : l' - β.length with
    | zero=>rw [hk] at hq; simpa using hq.symm
    | succ k=>rw [hk] at hq; simp at hq
   rw [this]
   have:=hplt l p h1
   simp only; omega
 ·have hle : l = heap.length:=by
   have:=(List.getElem?_eq_some_iff.1 hl).1
   simp at this; omega
  subst hle
  rw [List.getElem?_append_right (Nat.le_refl _)] at hl
  simp only [Nat.sub_self,List.getElem?_cons_zero,Option.some.injEq] at hl
  subst hl
  refine ⟨(w.heap.size,0),vs,ty,(0,0),by rw [← h.1]; simp,heap_new w _,?_,fun _=>⟨rfl,fun l' q hne hq=>?_,.inl hf.size,fun hg=>?_⟩⟩
  ·intro j x hx
   obtain ⟨v,hv,hi⟩:=hc.get hx
   exact ⟨v,by simpa using hv,hi.mono hpre⟩
  ·rw [← h.1] at hne
   have hl' : l' < β.length:=by
    have:=(List.getElem?_eq_some_iff.1 hq).1
    simp at this; omega
   rw [List.getElem?_append_left hl'] at hq
   have:=hplt l' q hq
   simp only; omega
  ·have:=jx.inb w hj _ hg; omega
theorem HeapOk.setRow (h : HeapOk ρ jx W wr β heap w) {l : Nat} {b : Blk} {p : Nat × Nat} {arr arr' : Array Value} {ty : TypeId} {cs : List AT} (hl : heap[l]? = some b) (hp : β[l]? = some p)
  (hh : w.heap[p.1]? = some (.cells arr ty (0,0))) (hrw : b.rw = true) (hc : CellsOk ρ β cs (fun i=>arr'[p.2 + i]?)) : HeapOk ρ jx W wr β (heap.set l { b with cells:=cs }) (w.setRow p.1 arr'):=by
 refine ⟨by simp [h.1],fun l' b' hl'=>?_⟩
 obtain ⟨q,a1,t1,f1,h1,h2,h3,h4⟩:=h.2 l b hl
 rw [hp] at h1
 cases h1
 obtain ⟨g1,g2,g3,g4⟩:=h4 hrw
 by_cases hne : l' = l
 ·subst hne
  rw [List.getElem?_set_self (List.getElem?_eq_some_iff.1 hl).1] at hl'
  cases hl'
  exact ⟨p,arr',ty,(0,0),hp,setRow_heap w _ _ _ _ _ hh,hc,fun _=>⟨rfl,g2,g3,g4⟩⟩
 ·rw [List.getElem?_set_ne (fun e=>hne e.symm)] at hl'
  obtain ⟨q,a2,t2,f2,k1,k2,k3,k4⟩:=h.2 l' b' hl'
  exact ⟨q,a2,t2,f2,k1,(setRow_other w _ _ _ (g2 l' q hne k1)).trans k2,k3,k4⟩
theorem Fr.setRow (hf : Fr W wr w) {g : Nat} {arr : Array Value} (hg : W.heap.size <= g \/ g ∈ wr) : Fr W wr (w.setRow g arr) :=
 ⟨hf.os,hf.tape,hf.output,by simpa using hf.size,fun b hb hn=>by
  rw [setRow_other w g b _ (fun e=>(by subst e; exact hg.elim (fun h=>by omega) hn))]; exact hf.block b hb hn⟩
theorem Jx.setRow (hj : jx.J w) {g : Nat} {arr : Array Value} (hg : g ∉ jx.G) : jx.J (w.setRow g arr) :=
 jx.closed w _ hj fun b hb=>setRow_other w g b _ fun e=>hg (e ▸ hb)
theorem flat_one {v : Value} (h : flat v = true) : v.oneCell' = true:=by cases v <;> simp_all [flat,Value.oneCell']
theorem cells_of {arr : Array Value} {ty : TypeId} {fr : Nat × Nat} {b : Nat} (h : w.heap[b]? = some (.cells arr ty fr)) (o : Nat) : w.cell? ⟨b,o,none⟩ = arr[o]?:=cell_of_row w b o arr ty fr h
theorem loadCells_ok {b o n : Nat} {arr : Array Value} {ty : TypeId} {fr : Nat × Nat} (hh : w.heap[b]? = some (.cells arr ty fr)) {cs : List AT} (hl : cs.length = n) (hc : CellsOk ρ β cs (fun j=>arr[o + j]?)) :
  ∃ vs : Array Value,All2 (AT.Is ρ β) cs vs.toList /\ (loadCells ⟨b,o,none⟩ n).run P w = .ok vs w:=by
 have key : ∀ (cs : List AT) (o : Nat),CellsOk ρ β cs (fun j=>arr[o + j]?) -> ∃ l : List Value,All2 (AT.Is ρ β) cs l /\ ∀ j v,l[j]? = some v -> arr[o + j]? = some v:=by
  intro cs
  induction cs with
  | nil=>intro o _; exact ⟨[],trivial,fun j v h=>by simp at h⟩
  | cons a cs ih =>
   intro o hc
   obtain ⟨v,hv,hi⟩:=hc 0 a rfl
   have ht : CellsOk ρ β cs (fun j=>arr[o + 1 + j]?):=fun j x hx=>by
    obtain ⟨u,hu,hui⟩:=hc (j + 1) x (by simpa using hx)
    exact ⟨u,by show arr[o + 1 + j]? = some u; rw [show o + 1 + j = o + (j + 1) by omega]; exact hu,hui⟩
   obtain ⟨l,h1,h2⟩:=ih (o + 1) ht
   refine ⟨v :: l,⟨hi,h1⟩,fun j u hu=>?_⟩
   cases j with
   | zero=>simp at hu; subst hu; exact hv
   | succ j=>rw [show o + (j + 1) = o + 1 + j by omega]; exact h2 j u (by simpa using hu)
 obtain ⟨l,h1,h2⟩:=key cs o hc
 refine ⟨l.toArray,by simpa using h1,?_⟩
 have hll:=h1.length
 rw [show n = l.length by omega]
 exact run_loadCells_list w _ l fun j v hv=>by rw [addr_add,cells_of hh]; exact h2 j v hv
theorem evLoad_ok (hO : CxOk cx) {s : St} {t : TypeId} {x : AV} {r : A1} {u : Value} (hh : HeapOk ρ jx W wr β s.heap w) (hp : pcOk ρ s.pc) (hx : x.Is ρ β u) (h : evLoad cx s t x = some r) :
  ∃ v,r.Is ρ β v /\ (Instr.loadAt t u).run cx.P w = .ok v w:=by
 unfold evLoad at h
 split at h
 ·rename_i l off
  obtain ⟨p,hpl,rfl⟩:=hx
  rw [Option.bind_eq_some_iff] at h
  obtain ⟨b,hb,h⟩:=h
  obtain ⟨q,arr,ty,fr,h1,h2,h3,_⟩:=hh.2 l b hb
  rw [hpl] at h1
  cases h1
  unfold part1 at h
  split at h
  ·rename_i n ha hn
   split at h
   ·rename_i hle
    have hle' : off + n <= b.cells.length:=Nat.le_of_ble_eq_true hle
    cases h
    obtain ⟨vs,g1,g2⟩:=loadCells_ok (P:=cx.P) (o:=p.2 + off) h2 (cs:=(b.cells.drop off).take n) (n:=n) (by simp; omega) (fun j x hx=>by
     rw [List.getElem?_take] at hx
     split at hx
     ·rw [List.getElem?_drop] at hx
      obtain ⟨v,hv,hi⟩:=h3 _ _ hx
      exact ⟨v,by show arr[p.2 + off + j]? = some v; rw [Nat.add_assoc]; exact hv,hi⟩
     ·cases hx)
    exact ⟨.agg vs,⟨vs,rfl,g1⟩,by simp [Instr.loadAt,Instr.sureAddr,loadVar,isAgg_run hO ha,size_run hO hn,g2]⟩
   ·cases h
  ·rename_i m ha
   rw [Option.map_eq_some_iff] at h
   obtain ⟨a,hget,rfl⟩:=h
   obtain ⟨v,hv,hi⟩:=h3 _ _ hget
   have hcell : w.cell? ⟨p.1,p.2 + off,none⟩ = some v:=by rw [cells_of h2]; exact hv
   exact ⟨v,hi,by simp [Instr.loadAt,Instr.sureAddr,loadVar,isAgg_run hO ha,hcell]⟩
  ·cases h
 ·rename_i l off i size
  obtain ⟨p,hpl,rfl⟩:=hx
  rw [Option.bind_eq_some_iff] at h
  obtain ⟨b,hb,h⟩:=h
  obtain ⟨q,arr,ty,fr,h1,h2,h3,_⟩:=hh.2 l b hb
  rw [hpl] at h1
  cases h1
  have hidx : ∀ {r : Int × Int},rng s.pc i = some r -> 0 <= r.1 -> (i.den ρ).toNat <= r.2.toNat:=fun hr h0=>by have:=rng_sound hp hr; omega
  split at h
  ·rename_i _ rg ha hr
   split at h
   ·rename_i hc
    simp only [Bool.and_eq_true,decide_eq_true_eq] at hc
    rw [Option.map_eq_some_iff] at h
    obtain ⟨a,hsel,rfl⟩:=h
    have hle:=hidx hr hc.1
    have hlen : (every size (rg.2.toNat + 1) (b.cells.drop off)).length = rg.2.toNat + 1:=every_len _ _ _ fun j hj=>by
     have : j * size <= rg.2.toNat * size:=Nat.mul_le_mul_right _ (by omega)
     simp; omega
    obtain ⟨v,hv,hi⟩:=selA_is hp hsel ((h3.drop off).every size _) (by omega)
    have hcell : w.cell? ⟨p.1,p.2 + (off + (i.den ρ).toNat * size),none⟩ = some v:=by rw [cells_of h2]; exact hv
    exact ⟨v,hi,by simp [Instr.loadAt,Instr.sureAddr,loadVar,isAgg_run hO ha,hcell]⟩
   ·cases h
  ·rename_i m rg ha hn hr
   split at h
   ·rename_i hc
    simp only [Bool.and_eq_true,decide_eq_true_eq] at hc
    have hms : m <= size:=Nat.le_of_ble_eq_true hc.2
    rw [Option.map_eq_some_iff] at h
    obtain ⟨ars,hall,rfl⟩:=h
    have hle:=hidx hr hc.1.1
    have hall2:=All2.allSome (R:=fun (x : AT) (j : Nat)=>j < m -> ∃ v,arr[p.2 + (off + j + (i.den ρ).toNat * size)]? = some v /\ x.Is ρ β v) (g:=id) (fun j a ha hj=>by
     have hlen : (every size (rg.2.toNat + 1) (b.cells.drop (off + j))).length = rg.2.toNat + 1:=every_len _ _ _ fun k hk=>by
      have : k * size <= rg.2.toNat * size:=Nat.mul_le_mul_right _ (by omega)
      simp only [List.length_drop,id] at *; omega
     obtain ⟨v,hv,hi⟩:=selA_is hp ha ((h3.drop (off + j)).every size _) (by omega)
     exact ⟨v,hv,hi⟩) _ hall
    simp only [List.map_id_fun,id] at hall2
    have hasl:=hall2.length
    simp only [List.length_range] at hasl
    obtain ⟨vs,g1,g2⟩:=loadCells_ok (P:=cx.P) (o:=p.2 + (off + (i.den ρ).toNat * size)) h2 (cs:=ars) (n:=m) hasl (fun j x hx=>by
     obtain ⟨k,hk,hR⟩:=hall2.get hx
     have hjm : j < m:=by have:=(List.getElem?_eq_some_iff.1 hx).1; omega
     rw [List.getElem?_range hjm] at hk
     cases hk
     obtain ⟨v,hv,hi⟩:=hR hjm
     exact ⟨v,by show arr[p.2 + (off + (i.den ρ).toNat * size) + j]? = some v; rw [show p.2 + (off + (i.den ρ).toNat * size) + j = p.2 + (off + j + (i.den ρ).toNat * size) by omega]; exact hv,hi⟩)
    exact ⟨.agg vs,⟨vs,rfl,g1⟩,by simp [Instr.loadAt,Instr.sureAddr,loadVar,isAgg_run hO ha,size_run hO hn,g2]⟩
   ·cases h
  ·cases h
 ·cases h
theorem putAt_ok {cells new : List AT} {arr : Array Value} {o off : Nat} {vs : List Value} (hc : CellsOk ρ β cells (fun j=>arr[o + j]?)) (hn : All2 (AT.Is ρ β) new vs) (hle : off + new.length <= cells.length) (hsz : o + off + vs.length <= arr.size) :
  CellsOk ρ β (putAt off new cells) (fun j=>(arr.toList.take (o + off) ++ vs ++ arr.toList.drop (o + off + vs.length)).toArray[o + j]?):=by
 intro j x hx
 have hl:=hn.length
 unfold putAt at hx
 simp only [List.getElem?_toArray]
 have h1 : (arr.toList.take (o + off)).length = o + off:=by simp; omega
 by_cases hj : j < off
 ·rw [List.append_assoc,List.getElem?_append_left (by simp; omega),List.getElem?_take,if_pos hj] at hx
  obtain ⟨v,hv,hi⟩:=hc j x hx
  refine ⟨v,?_,hi⟩
  rw [List.append_assoc,List.getElem?_append_left (by rw [h1]; omega),List.getElem?_take,if_pos (by omega)]
  simpa using hv
 ·by_cases hj2 : j < off + new.length
  ·rw [List.getElem?_append_left (by simp; omega),List.getElem?_append_right (by simp; omega)] at hx
   have ht : (cells.take off).length = off:=by simp; omega
   rw [ht] at hx
   obtain ⟨v,hv,hi⟩:=hn.get hx
   refine ⟨v,?_,hi⟩
   rw [List.getElem?_append_left (by simp; omega),List.getElem?_append_right (by rw [h1]; omega),h1,show o + j - (o + off) = j - off by omega]
   exact hv
  ·rw [List.getElem?_append_right (by simp; omega),List.getElem?_drop] at hx
   have ht : (cells.take off ++ new).length = off + new.length:=by simp; omega
   rw [ht,show off + new.length + (j - (off + new.length)) = j by omega] at hx
   obtain ⟨v,hv,hi⟩:=hc j x hx
   refine ⟨v,?_,hi⟩
   have h2 : (arr.toList.take (o + off) ++ vs).length = o + off + vs.length:=by simp; omega
   rw [List.getElem?_append_right (by rw [h2]; omega),h2,List.getElem?_drop,show o + off + vs.length + (o + j - (o + off + vs.length)) = o + j by omega]
   simpa using hv
theorem zipM_get {pc : PC} (hp : pcOk ρ pc) {c : E} : ∀ {l r h : List AT},zipM pc c l r = some h -> ∀ {nv : List Value} {g : Nat -> Option Value},All2 (AT.Is ρ β) l nv -> CellsOk ρ β r g ->
  h.length = r.length /\ l.length <= r.length /\ CellsOk ρ β h (fun j=>if c.den ρ ≠ 0 /\ j < l.length then nv[j]? else g j)
 | [],r,h,hz,nv,g,_,hg=>by
  simp only [zipM,Option.some.injEq] at hz
  subst hz
  exact ⟨rfl,by simp,fun j x hx=>by simpa using hg j x hx⟩
 | a :: l,[],h,hz,_,_,_,_=>by simp [zipM] at hz
 | a :: l,b :: r,h,hz,[],g,hn,_=>hn.elim
 | a :: l,b :: r,h,hz,n :: nv,g,hn,hg=>by
  simp only [zipM,Option.bind_eq_some_iff,Option.map_eq_some_iff] at hz
  obtain ⟨x,hx,h',hz',rfl⟩:=hz
  obtain ⟨i1,i2,i3⟩:=zipM_get hp hz' hn.2 hg.tail
  refine ⟨by simp [i1],by simp; omega,fun j y hy=>?_⟩
  cases j with
  | zero =>
   simp only [List.getElem?_cons_zero,Option.some.injEq] at hy
   subst hy
   obtain ⟨v,hv,hi⟩:=hg 0 b rfl
   have hm:=mrg_is hp hx hn.1 hi
   by_cases hc : c.den ρ = 0
   ·rw [if_pos hc] at hm; exact ⟨v,by simp [hc,hv],hm⟩
   ·rw [if_neg hc] at hm; exact ⟨n,by simp [hc],hm⟩
  | succ j =>
   obtain ⟨v,hv,hi⟩:=i3 j y (by simpa using hy)
   exact ⟨v,by simpa using hv,hi⟩
theorem putEach_ok {pc : PC} (hp : pcOk ρ pc) {i : E} {size : Nat} {new : List AT} {nv : List Value} (hn : All2 (AT.Is ρ β) new nv) (hns : new.length <= size) (hi0 : 0 <= i.den ρ) :
  ∀ (k m : Nat) {r c : List AT} {g : Nat -> Option Value},putEach pc i size new m k r = some c -> CellsOk ρ β r g -> k * size <= r.length -> (i.den ρ).toNat < m + k ->
   CellsOk ρ β c (fun j=>if (i.den ρ).toNat * size <= m * size + j /\ m * size + j < (i.den ρ).toNat * size + new.length then nv[m * size + j - (i.den ρ).toNat * size]? else g j)
 | 0,m,r,c,g,h,hg,_,hlt=>by
  simp only [putEach,Option.some.injEq] at h
  subst h
  intro j x hx
  have h1 : (i.den ρ).toNat * size + size <= m * size:=by
   have : ((i.den ρ).toNat + 1) * size <= m * size:=Nat.mul_le_mul_right _ (by omega)
   rwa [Nat.succ_mul] at this
  obtain ⟨v,hv,hi⟩:=hg j x hx
  exact ⟨v,by dsimp only; rw [if_neg (by omega)]; exact hv,hi⟩
 | k + 1,m,r,c,g,h,hg,hlen,hlt=>by
  simp only [putEach,Option.bind_eq_some_iff,Option.map_eq_some_iff] at h
  obtain ⟨hd,hz,tl,ht,rfl⟩:=h
  have hks : (k + 1) * size = k * size + size:=Nat.succ_mul _ _
  rw [hks] at hlen
  obtain ⟨z1,z2,z3⟩:=zipM_get hp hz hn (g:=g) (fun j x hx=>by
   rw [List.getElem?_take] at hx
   split at hx
   ·exact hg j x hx
   ·cases hx)
  have hsz : hd.length = size:=by rw [z1]; simp; omega
  have hden : ((fin pc (.eq i (.lit m))).den ρ ≠ 0) ↔ (i.den ρ).toNat = m:=by
   rw [fin_den hp]
   show truth (decide (i.den ρ = (m : Int))) ≠ 0 ↔ _
   rw [truth_ne,decide_eq_true_iff]
   constructor
   ·intro h; omega
   ·intro h; omega
  intro j x hx
  by_cases hj : j < size
  ·rw [List.getElem?_append_left (by omega)] at hx
   obtain ⟨v,hv,hvi⟩:=z3 j x hx
   refine ⟨v,?_,hvi⟩
   dsimp only at hv ⊢
   by_cases hD : (i.den ρ).toNat = m
   ·simp only [hden,hD,true_and] at hv
    rw [hD]
    by_cases hjn : j < new.length
    ·rw [if_pos hjn] at hv; rw [if_pos (by omega),show m * size + j - m * size = j by omega]; exact hv
    ·rw [if_neg hjn] at hv; rw [if_neg (by omega)]; exact hv
   ·simp only [hden,hD,false_and,if_false] at hv
    rw [if_neg ?_]; exact hv
    intro hcon
    rcases Nat.lt_or_gt_of_ne hD with hlt' | hgt'
    ·have : ((i.den ρ).toNat + 1) * size <= m * size:=Nat.mul_le_mul_right _ (by omega)
     rw [Nat.succ_mul] at this; omega
    ·have : (m + 1) * size <= (i.den ρ).toNat * size:=Nat.mul_le_mul_right _ (by omega)
     rw [Nat.succ_mul] at this; omega
  ·rw [List.getElem?_append_right (by omega),hsz] at hx
   obtain ⟨v,hv,hvi⟩:=putEach_ok hp hn hns hi0 k (m + 1) ht (hg.drop size) (by simp; omega) (by omega) (j - size) x hx
   refine ⟨v,?_,hvi⟩
   dsimp only at hv ⊢
   have e1 : (m + 1) * size + (j - size) = m * size + j:=by rw [Nat.succ_mul]; omega
   have e2 : size + (j - size) = j:=by omega
   simp only [e1,e2] at hv
   exact hv
theorem evStore_ok (hO : CxOk cx) {s : St} {t : TypeId} {x v : AV} {h' : List Blk} {u y : Value} (hh : HeapOk ρ jx W wr β s.heap w) (hf : Fr W wr w) (hj : jx.J w) (hp : pcOk ρ s.pc) (hx : x.Is ρ β u) (hv : v.Is ρ β y) (h : evStore cx s t x v = some h') :
  ∃ w',HeapOk ρ jx W wr β h' w' /\ Fr W wr w' /\ jx.J w' /\ (Instr.storeAt t u y).run cx.P w = .ok () w':=by
 unfold evStore at h
 split at h
 ·rename_i n v1 hn hv1
  have hy : v1.Is ρ β y:=by
   cases v with
   | v q=>simp only [asV,Option.some.injEq] at hv1; subst hv1; exact hv
   | t l=>simp [asV] at hv1
  have hyc:=hy.cells
  have hyl:=hyc.length
  simp only [Array.length_toList] at hyl
  have hone : ∀ z ∈ y.cells.toList,z.oneCell' = true:=by
   intro z hz
   obtain ⟨k,hk,hkz⟩:=List.getElem_of_mem hz
   have hk' : k < v1.cells.length:=by simp at hk; omega
   obtain ⟨z',hz',hzi⟩:=hyc.get (List.getElem?_eq_getElem hk')
   rw [List.getElem?_eq_getElem hk,hkz] at hz'
   cases hz'
   exact flat_one hzi.flat
  split at h
  ·rename_i hsz
   simp only [Bool.and_eq_true] at hsz
   have hsz' : v1.cells.length = n:=Nat.eq_of_beq_eq_true hsz.1
   have hn0 : 0 < n:=Nat.le_of_ble_eq_true hsz.2
   split at h
   ·rename_i l off
    obtain ⟨p,hpl,rfl⟩:=hx
    rw [Option.bind_eq_some_iff] at h
    obtain ⟨b,hb,h⟩:=h
    split at h
    ·rename_i hc
     simp only [Bool.and_eq_true] at hc
     have hle : off + n <= b.cells.length:=Nat.le_of_ble_eq_true hc.2
     cases h
     obtain ⟨q,arr,ty,fr,h1,h2,h3,h4⟩:=hh.2 l b hb
     rw [hpl] at h1
     cases h1
     obtain ⟨g1,g2,g3,g4⟩:=h4 hc.1
     subst g1
     have harr : p.2 + off + y.cells.toList.length <= arr.size:=by
      have hlast : off + n - 1 < b.cells.length:=by omega
      obtain ⟨z,hz,_⟩:=h3 _ _ (List.getElem?_eq_getElem hlast)
      have:=(Array.getElem?_eq_some_iff.1 hz).1
      simp only [Array.length_toList]
      omega
     refine ⟨_,hh.setRow hb hpl h2 hc.1 (putAt_ok h3 hyc (by omega) harr),hf.setRow g3,Jx.setRow hj g4,?_⟩
     have:=run_storeCells_at (P:=cx.P) p.1 (p.2 + off) ty y.cells.toList 0 arr w h2 (by simpa using harr) hone
     simp only [Instr.storeAt,Instr.sureAddr,storeVar,Sem.run_bind,Sem.run_pure,Result.andThen_ok,size_run hO hn]
     rw [if_neg (by omega)]
     simpa using this
    ·cases h
   ·rename_i l off i size
    obtain ⟨p,hpl,rfl⟩:=hx
    rw [Option.bind_eq_some_iff] at h
    obtain ⟨b,hb,h⟩:=h
    split at h
    ·rename_i rg hr
     have hrg:=rng_sound hp hr
     split at h
     ·rename_i hc
      simp only [Bool.and_eq_true,decide_eq_true_eq] at hc
      obtain ⟨⟨⟨hrw,h0⟩,hns⟩,hle⟩:=hc
      have hns' : n <= size:=Nat.le_of_ble_eq_true hns
      rw [Option.map_eq_some_iff] at h
      obtain ⟨c,hput,rfl⟩:=h
      obtain ⟨q,arr,ty,fr,h1,h2,h3,h4⟩:=hh.2 l b hb
      rw [hpl] at h1
      cases h1
      obtain ⟨g1,g2,g3,g4⟩:=h4 hrw
      subst g1
      have hD : (i.den ρ).toNat <= rg.2.toNat:=by omega
      have hDs : (i.den ρ).toNat * size <= rg.2.toNat * size:=Nat.mul_le_mul_right _ hD
      have harr : p.2 + (off + (i.den ρ).toNat * size) + y.cells.toList.length <= arr.size:=by
       have hlast : off + (i.den ρ).toNat * size + n - 1 < b.cells.length:=by omega
       obtain ⟨z,hz,_⟩:=h3 _ _ (List.getElem?_eq_getElem hlast)
       have:=(Array.getElem?_eq_some_iff.1 hz).1
       simp only [Array.length_toList]
       omega
      have hE:=putEach_ok hp hyc (by omega) (by omega) (rg.2.toNat + 1) 0 hput (h3.drop off) (by rw [Nat.succ_mul]; simp; omega) (by omega)
      refine ⟨_,hh.setRow hb hpl h2 hrw (arr':=(arr.toList.take (p.2 + (off + (i.den ρ).toNat * size)) ++ y.cells.toList ++ arr.toList.drop (p.2 + (off + (i.den ρ).toNat * size) + y.cells.toList.length)).toArray) ?_,hf.setRow g3,Jx.setRow hj g4,?_⟩
      ·have key : ∀ k,(arr.toList.take (p.2 + (off + (i.den ρ).toNat * size)) ++ y.cells.toList ++ arr.toList.drop (p.2 + (off + (i.den ρ).toNat * size) + y.cells.toList.length)).toArray[p.2 + k]? =
         if off + (i.den ρ).toNat * size <= k /\ k < off + (i.den ρ).toNat * size + n then y.cells.toList[k - (off + (i.den ρ).toNat * size)]? else arr[p.2 + k]?:=by
        intro k
        simp only [List.getElem?_toArray]
        have h1 : (arr.toList.take (p.2 + (off + (i.den ρ).toNat * size))).length = p.2 + (off + (i.den ρ).toNat * size):=by simp; omega
        have h2 : (arr.toList.take (p.2 + (off + (i.den ρ).toNat * size)) ++ y.cells.toList).length = p.2 + (off + (i.den ρ).toNat * size) + y.cells.toList.length:=by rw [List.length_append,h1]
        have hyn : y.cells.toList.length = n:=by simp only [Array.length_toList]; omega
        by_cases hk1 : k < off + (i.den ρ).toNat * size
        ·rw [if_neg (by omega),List.append_assoc,List.getElem?_append_left (by rw [h1]; omega),List.getElem?_take,if_pos (by omega)]; simp
        ·by_cases hk2 : k < off + (i.den ρ).toNat * size + n
         ·rw [if_pos ⟨by omega,hk2⟩,List.getElem?_append_left (by rw [h2,hyn]; omega),List.getElem?_append_right (by rw [h1]; omega),h1]
          congr 1; omega
         ·rw [if_neg (by omega),List.getElem?_append_right (by rw [h2,hyn]; omega),h2,hyn,List.getElem?_drop,show p.2 + (off + (i.den ρ).toNat * size) + n + (p.2 + k - (p.2 + (off + (i.den ρ).toNat * size) + n)) = p.2 + k by omega]; simp
       intro j x hx
       by_cases hjo : j < off
       ·rw [List.getElem?_append_left (by simp; omega),List.getElem?_take,if_pos hjo] at hx
        obtain ⟨v,hv,hi⟩:=h3 j x hx
        exact ⟨v,by dsimp only; rw [key,if_neg (by omega)]; exact hv,hi⟩
       ·have htl : (b.cells.take off).length = off:=by simp; omega
        rw [List.getElem?_append_right (by omega),htl] at hx
        obtain ⟨v,hv,hi⟩:=hE (j - off) x hx
        refine ⟨v,?_,hi⟩
        dsimp only at hv ⊢
        rw [key,← hv]
        simp only [Nat.zero_mul,Nat.zero_add]
        by_cases hin : (i.den ρ).toNat * size <= j - off /\ j - off < (i.den ρ).toNat * size + v1.cells.length
        ·rw [if_pos hin,if_pos (by omega)]; congr 1; omega
        ·rw [if_neg hin,if_neg (by omega),show off + (j - off) = j by omega]
      ·have:=run_storeCells_at (P:=cx.P) p.1 (p.2 + (off + (i.den ρ).toNat * size)) ty y.cells.toList 0 arr w h2 (by simpa using harr) hone
       simp only [Instr.storeAt,Instr.sureAddr,storeVar,Sem.run_bind,Sem.run_pure,Result.andThen_ok,size_run hO hn]
       rw [if_neg (by omega)]
       simpa using this
     ·cases h
    ·cases h
   ·cases h
  ·cases h
 ·cases h
end
end Go.Proofs.YtnbngokbamifbaaGreatDoor.Ev
namespace Go.Proofs.YtnbngokbamifbaaGreatDoor.Ev
open Go Go.RowKit
structure Rel (cx : Cx) (jx : Jx) (ρ : Env) (W : World) (wr : List Nat) (β : Pl) (s : St) (a : Act) (w : World) : Prop where
 tm : Tmps cx ρ β s a
 heap : HeapOk ρ jx W wr β s.heap w
 fr : Fr W wr w
 pc : pcOk ρ s.pc
 j : jx.J w
def CallPost (jx : Jx) (ρ : Env) (W : World) (wr : List Nat) (β : Pl) (r : AV) (heap' : List Blk) (pc' : PC) (e : Ending) (w' : World) : Prop :=
 ∃ v β',e = .returned v /\ β <+: β' /\ r.Is ρ β' v /\ HeapOk ρ jx W wr β' heap' w' /\ Fr W wr w' /\ jx.J w' /\ pcOk ρ pc'
def Enters (P : Program) (f : FuncId) : Prop:=∀ args w,(callFunc f args).run P w = .ok (.enter f args) w
structure SumOk (P : Program) (jx : Jx) (ρ : Env) (m : Sum) : Prop where
 enters : Enters P m.f
 calls : ∀ W wr β heap w pc args vals r heap' pc',m.run pc heap args = some (r,heap',pc') -> pcOk ρ pc -> HeapOk ρ jx W wr β heap w -> Fr W wr w -> jx.J w -> All2 (AV.Is ρ β) args vals ->
  Calls P m.f vals.toArray w (CallPost jx ρ W wr β r heap' pc')
def QX (Q : Exit -> Act -> World -> Prop) : X -> Act -> World -> Prop
 | .nml,a,w=>Q .normal a w
 | .exit id,a,w=>Q (.exit id) a w
 | .ret,a,w=>Q .ret a w
def IhOk (cx : Cx) (jx : Jx) (ρ : Env) (ih : Code -> St -> Tr (X × St)) : Prop :=
 ∀ W wr β s a w c Q x s',(ih c s).pick ρ = some (x,s') -> Rel cx jx ρ W wr β s a w -> (∀ β' a' w',β <+: β' -> Rel cx jx ρ W wr β' s' a' w' -> QX Q x a' w') -> Code.wp cx.P c Q a w
section
variable {P : Program} {cx : Cx} {jx : Jx} {ρ : Env} {W : World} {wr : List Nat} {β β' : Pl} {heap : List Blk} {w w' : World}
theorem run_mapM_list {α γ : Type} {f : α -> Sem γ} {R : α -> γ -> Prop} : ∀ (l : List α),(∀ x ∈ l,∃ y,(f x).run P w = .ok y w /\ R x y) -> ∃ r,(l.mapM f).run P w = .ok r w /\ All2 R l r
 | [],_=>⟨[],rfl,trivial⟩
 | x :: l,h=>by
  obtain ⟨y,hy,hR⟩:=h x (by simp)
  obtain ⟨r,hr,hA⟩:=run_mapM_list l fun z hz=>h z (by simp [hz])
  exact ⟨y :: r,by simp [List.mapM_cons,hy,hr],hR,hA⟩
theorem trans_allSome {α γ δ : Type} {f : α -> Option γ} {S : γ -> δ -> Prop} : ∀ {l : List α} {r : List δ} {q : List γ},All2 (fun x y=>∃ z,f x = some z /\ S z y) l r -> allSome (l.map f) = some q -> All2 S q r
 | [],[],q,_,h=>by simp only [List.map_nil,allSome,Option.some.injEq] at h; subst h; trivial
 | x :: l,y :: r,q,⟨⟨z,hz,hS⟩,hr⟩,h=>by
  simp only [List.map_cons,hz,allSome,Option.map_eq_some_iff] at h
  obtain ⟨q',hq,rfl⟩:=h
  exact ⟨hS,trans_allSome hr hq⟩
 | [],_ :: _,_,h,_=>h.elim
 | _ :: _,[],_,h,_=>h.elim
theorem allSome_mem {α γ : Type} {f : α -> Option γ} : ∀ {l : List α} {q : List γ},allSome (l.map f) = some q -> ∀ x ∈ l,∃ z,f x = some z
 | [],_,_,x,hx=>by cases hx
 | y :: l,q,h,x,hx=>by
  simp only [List.map_cons] at h
  cases hy : f y with
  | none=>rw [hy] at h; simp [allSome] at h
  | some z =>
   rw [hy] at h
   simp only [allSome,Option.map_eq_some_iff] at h
   obtain ⟨q',hq,_⟩:=h
   rcases List.mem_cons.1 hx with rfl | hx
   ·exact ⟨z,hy⟩
   ·exact allSome_mem hq x hx
theorem resA_ok {s : St} {a : Act} (h : Rel cx jx ρ W wr β s a w) {rv : ResultVar} {x : A1} (hr : resA cx s rv = some x) :
  ∃ v,((match rv with
   | .tmp t=>pure (a.tmps.getD t undef)
   | .cell b t=>do loadVar t (← asAddr (a.tmps.getD b undef)) : Sem Value)).run cx.P w = .ok v w /\ x.Is ρ β v:=by
 cases rv with
 | tmp t =>
  simp only [resA,Option.bind_eq_some_iff] at hr
  obtain ⟨y,hy,hx⟩:=hr
  obtain ⟨v,hv,hi⟩:=h.tm.get t y hy
  refine ⟨v,by simp [hv],?_⟩
  cases y with
  | v q=>simp only [asV,Option.some.injEq] at hx; subst hx; exact hi
  | t l=>simp [asV] at hx
 | cell b t =>
  simp only [resA,Option.bind_eq_some_iff] at hr
  obtain ⟨y,hy,hx⟩:=hr
  obtain ⟨v,hv,hi⟩:=h.tm.get b y hy
  split at hx
  ·rename_i l off
   obtain ⟨r,hri,hrun⟩:=evLoad_ok h.tm.ok h.heap h.pc hi hx
   obtain ⟨p,hp,rfl⟩:=hi
   refine ⟨r,?_,hri⟩
   simp only [Instr.loadAt,Instr.sureAddr,Sem.run_bind,Sem.run_pure,Result.andThen_ok] at hrun
   simp [hv,asAddr,hrun]
  ·cases hx
theorem resultsA_ok {s : St} {a : Act} {fn : Func} (h : Rel cx jx ρ W wr β s a w) {x : AV} (hr : resultsA cx fn.results.toList s = some x) : ∃ v,(results fn a.tmps).run cx.P w = .ok v w /\ x.Is ρ β v:=by
 have key : ∀ q,allSome (fn.results.toList.map (resA cx s)) = some q -> x = (match q with | [x]=>.v x | l=>.t l) -> ∃ v,(results fn a.tmps).run cx.P w = .ok v w /\ x.Is ρ β v:=by
  intro q hq hxq
  obtain ⟨r,hrun,hA⟩:=run_mapM_list (P:=cx.P) (w:=w) (f:=fun rv : ResultVar=>(match rv with
   | .tmp t=>pure (a.tmps.getD t undef)
   | .cell b t=>do loadVar t (← asAddr (a.tmps.getD b undef)) : Sem Value)) (R:=fun rv v=>∃ z,resA cx s rv = some z /\ z.Is ρ β v) fn.results.toList (fun rv hrv=>by
    obtain ⟨z,hz⟩:=allSome_mem hq rv hrv
    obtain ⟨v,h1,h2⟩:=resA_ok h hz
    exact ⟨v,h1,z,hz,h2⟩)
  have hAq:=trans_allSome hA hq
  have hres : (results fn a.tmps).run cx.P w = .ok (if h : r.toArray.size = 1 then r.toArray[0] else .tuple r.toArray) w:=by
   unfold results
   rw [Array.mapM_eq_mapM_toList]
   simp only [Sem.run_bind,Sem.run_map]
   erw [hrun]
   rfl
  rw [hres]
  refine ⟨_,rfl,?_⟩
  match q,r,hAq,hxq with
  | [],[],_,hxq=>subst hxq; exact ⟨#[],rfl,trivial⟩
  | [z],[v],hA,hxq=>subst hxq; exact hA.1
  | z :: z' :: q,v :: v' :: r,hA,hxq=>subst hxq; rw [dif_neg (by simp)]; exact ⟨_,rfl,by simpa using hA⟩
 unfold resultsA at hr
 split at hr
 ·rename_i t heq
  obtain ⟨v,hv,hi⟩:=h.tm.get t x hr
  refine ⟨v,?_,hi⟩
  have hfr : fn.results = #[.tmp t]:=by rw [← Array.toList_inj]; simpa using heq
  simp [results,hfr,hv]
 ·rw [Option.map_eq_some_iff] at hr
  obtain ⟨q,hq,rfl⟩:=hr
  exact key q hq rfl
theorem AT.below_is {n : Nat} {a : AT} {v : Value} (hb : a.below n = true) (h : a.Is ρ β v) : a.Is ρ (β.take n) v:=by
 have g : ∀ {l : Nat} {p : Nat × Nat},Nat.blt l n = true -> β[l]? = some p -> (β.take n)[l]? = some p:=fun hl hp=>by
  have hl' : _ < n:=Nat.le_of_ble_eq_true hl
  rw [List.getElem?_take,if_pos hl']; exact hp
 cases a <;> simp only [AT.Is,AT.below] at h hb ⊢
 case int=>exact h
 case bool=>exact h
 case val=>exact h
 case ptr=>obtain ⟨p,hp,e⟩:=h; exact ⟨p,g hb hp,e⟩
 case pti=>obtain ⟨p,hp,e⟩:=h; exact ⟨p,g hb hp,e⟩
 case slc=>obtain ⟨p,hp,e⟩:=h; exact ⟨p,g hb hp,e⟩
 case opq=>exact h
theorem mem_imp {α γ : Type} {R S : α -> γ -> Prop} : ∀ {l : List α} {m : List γ},(∀ a ∈ l,∀ b,R a b -> S a b) -> All2 R l m -> All2 S l m
 | [],[],_,_=>trivial
 | a :: l,b :: m,hi,h=>⟨hi a (by simp) b h.1,mem_imp (fun x hx=>hi x (by simp [hx])) h.2⟩
 | [],_ :: _,_,h=>h.elim
 | _ :: _,[],_,h=>h.elim
theorem A1.below_is {n : Nat} {x : A1} {v : Value} (hb : x.below n = true) (h : x.Is ρ β v) : x.Is ρ (β.take n) v:=by
 cases x with
 | c a=>exact AT.below_is (by simpa [A1.below,A1.cells] using hb) h
 | g l =>
  obtain ⟨cs,e,hc⟩:=h
  exact ⟨cs,e,mem_imp (fun a ha v hv=>AT.below_is (List.all_eq_true.1 (show l.all (·.below n) = true from hb) a ha) hv) hc⟩
theorem AV.below_is {n : Nat} {x : AV} {v : Value} (hb : x.below n = true) (h : x.Is ρ β v) : x.Is ρ (β.take n) v:=by
 cases x with
 | v x=>exact A1.below_is hb h
 | t l =>
  obtain ⟨cs,e,hc⟩:=h
  exact ⟨cs,e,mem_imp (fun a ha v hv=>A1.below_is (List.all_eq_true.1 (show l.all (·.below n) = true from hb) a ha) hv) hc⟩
theorem HeapOk.take {n : Nat} (h : HeapOk ρ jx W wr β heap w) (hb : (heap.take n).all (fun b=>b.cells.all (·.below n)) = true) : HeapOk ρ jx W wr (β.take n) (heap.take n) w:=by
 refine ⟨by simp [h.1],fun l b hl=>?_⟩
 have hmem : b ∈ heap.take n:=List.mem_of_getElem? hl
 have hbb:=List.all_eq_true.1 hb b hmem
 rw [List.getElem?_take] at hl
 split at hl
 ·rename_i hln
  obtain ⟨p,arr,ty,fr,h1,h2,h3,h4⟩:=h.2 l b hl
  refine ⟨p,arr,ty,fr,by rw [List.getElem?_take,if_pos hln]; exact h1,h2,fun j x hx=>?_,fun hrw=>?_⟩
  ·obtain ⟨v,hv,hi⟩:=h3 j x hx
   exact ⟨v,hv,AT.below_is (List.all_eq_true.1 hbb x (List.mem_of_getElem? hx)) hi⟩
  ·obtain ⟨g1,g2,g3,g4⟩:=h4 hrw
   refine ⟨g1,fun l' q hne hq=>?_,g3,g4⟩
   rw [List.getElem?_take] at hq
   split at hq
   ·exact g2 l' q hne hq
   ·cases hq
 ·cases hl
theorem trim_ok {n : Nat} {x : AV} {v : Value} (hn : n = β.length) (hb : β <+: β') (h : HeapOk ρ jx W wr β' heap w) (hx : x.Is ρ β' v) :
  ∃ β'',β <+: β'' /\ x.Is ρ β'' v /\ HeapOk ρ jx W wr β'' (trim n x heap) w:=by
 unfold trim
 split
 ·rename_i hc
  simp only [Bool.and_eq_true] at hc
  refine ⟨β'.take n,?_,AV.below_is hc.1 hx,h.take hc.2⟩
  obtain ⟨t,rfl⟩:=hb
  subst hn
  simp
 ·exact ⟨β',hb,hx,h⟩
theorem get_number {args : List AV} : ∀ {k : Nat} {m : TM} {t : Nat},k + args.length <= 16777215 -> (number k args m).get t = if k <= t /\ t < k + args.length then args[t - k]? else m.get t:=by
 induction args with
 | nil=>intro k m t _; rw [if_neg (fun h=>by simp at h; omega)]; rfl
 | cons y l ih =>
  intro k m t hk
  simp only [List.length_cons] at hk ⊢
  simp only [number]
  rw [ih (by omega),TM.set_get _ _ _ (by omega)]
  by_cases h1 : k + 1 <= t /\ t < k + 1 + l.length
  ·rw [if_pos h1,if_pos (by omega),show t - k = (t - (k + 1)) + 1 by omega,List.getElem?_cons_succ]
  ·rw [if_neg h1]
   by_cases h2 : t = k
   ·subst h2; rw [if_pos rfl,if_pos (by omega)]; simp
   ·rw [if_neg h2,if_neg (by omega)]
theorem find_number {args : List AV} {t : Nat} {x : AV} (hk : args.length <= 16777215) (h : find t (number 0 args .nil) = some x) : args[t]? = some x:=by
 unfold find at h
 rw [get_number (by omega)] at h
 split at h
 ·simpa using h
 ·cases h
theorem sumOf_mem : ∀ {l : List Sum} {f : FuncId} {m : Sum},sumOf f l = some m -> m ∈ l /\ m.f = f
 | [],f,m,h=>by simp [sumOf] at h
 | s :: l,f,m,h=>by
  simp only [sumOf] at h
  split at h
  ·rename_i he; cases h; exact ⟨by simp,Nat.eq_of_beq_eq_true he⟩
  ·obtain ⟨h1,h2⟩:=sumOf_mem h; exact ⟨by simp [h1],h2⟩
theorem enters_of {f : FuncId} {fn : Func} {c : Code} (hf : P.funcs[f]? = some fn) (hb : fn.body = some c) (hn : (fn.name == "runtime.NumGoroutine") = false) : Enters P f:=fun args w=>by
 have hn' : fn.name ≠ "runtime.NumGoroutine":=by simpa using hn
 simp [callFunc,hf,hb,hn']
theorem evCall_ok (hO : CxOk cx) {ih : Code -> St -> Tr (X × St)} (hih : IhOk cx jx ρ ih) (hs : ∀ m ∈ cx.sums,SumOk cx.P jx ρ m) {s : St} {f : FuncId} {args : List AV} {vals : List Value} {r : AV} {heap' : List Blk} {pc' : PC}
  (hg : ∀ g l,assoc g cx.glob = some l -> β[l]? = some (g,0)) (hh : HeapOk ρ jx W wr β s.heap w) (hf : Fr W wr w) (hp : pcOk ρ s.pc) (hj : jx.J w)
  (ha : All2 (AV.Is ρ β) args vals) (h : (evCall cx ih s f args).pick ρ = some (r,heap',pc')) : Enters cx.P f /\ Calls cx.P f vals.toArray w (CallPost jx ρ W wr β r heap' pc'):=by
 unfold evCall at h
 split at h
 ·rename_i m hm
  obtain ⟨y,hy,h⟩:=must_pick h
  cases leaf_eq h
  obtain ⟨hmem,rfl⟩:=sumOf_mem hm
  exact ⟨(hs m hmem).enters,(hs m hmem).calls W wr β _ w _ _ _ _ _ _ hy hp hh hf hj ha⟩
 ·split at h
  ·rename_i fn hfn
   have hfn:=hO.fn _ (lkT_mem hfn)
   split at h
   ·rename_i c hc
    split at h
    ·rename_i hle
     simp only [Bool.and_eq_true,Bool.not_eq_true'] at hle
     have hle' : args.length <= fn.ntmps:=Nat.le_of_ble_eq_true hle.1.1
     have hlim : fn.ntmps <= 16777215:=Nat.le_of_ble_eq_true hle.1.2
     obtain ⟨⟨x,s'⟩,hx,h⟩:=Tr.pick_bind_some h
     have hal:=ha.length
     have hRel : Rel cx jx ρ W wr β { n:=fn.ntmps,tmps:=number 0 args .nil,heap:=s.heap,pc:=s.pc } { tmps:=vals.toArray ++ Array.replicate (fn.ntmps - vals.toArray.size) undef,defers:=[] } w:=by
      refine ⟨⟨hO,hlim,rfl,by simp; omega,fun t y hy=>?_,hg⟩,hh,hf,hp,hj⟩
      have h2:=find_number (by omega) hy
      obtain ⟨v,hv,hi⟩:=ha.get h2
      have ht : t < vals.length:=(List.getElem?_eq_some_iff.1 hv).1
      exact ⟨v,by rw [Array.getElem?_append_left (by simpa using ht)]; simpa using hv,hi⟩
     have fin : ∀ v,resultsA cx fn.results.toList s' = some v -> (v,trim s.heap.length v s'.heap,s'.pc) = (r,heap',pc') -> ∀ β' a' w',β <+: β' -> Rel cx jx ρ W wr β' s' a' w' ->
       a'.defers = [] /\ ∃ v,(results fn a'.tmps).run cx.P w' = .ok v w' /\ CallPost jx ρ W wr β r heap' pc' (.returned v) w':=by
      intro v hv he β' a' w' hb hR
      cases he
      obtain ⟨u,hu,hui⟩:=resultsA_ok hR hv
      obtain ⟨β'',h1,h2,h3⟩:=trim_ok (hh.1).symm hb hR.heap hui
      exact ⟨hR.tm.defers,u,hu,u,β'',rfl,h1,h2,h3,hR.fr,hR.j,hR.pc⟩
     refine ⟨enters_of hfn hc hle.2,calls_of_wp hfn hc (hih W wr β _ _ w c _ x s' hx hRel fun β' a' w' hb hR=>?_)⟩
     cases x with
     | nml =>
      obtain ⟨v,hv,h⟩:=must_pick h
      exact fin v hv (leaf_eq h) β' a' w' hb hR
     | ret =>
      obtain ⟨v,hv,h⟩:=must_pick h
      exact fin v hv (leaf_eq h) β' a' w' hb hR
     | exit id=>simp [Tr.pick] at h
    ·simp [Tr.pick] at h
   ·simp [Tr.pick] at h
  ·simp [Tr.pick] at h
theorem asArgs_ok {s : St} {a : Act} (hT : Tmps cx ρ β s a) {l : List Operand} {q : List AV} (h : asArgs cx s l = some q) : All2 (AV.Is ρ β) q (l.map a.eval) :=
 All2.allSome (fun _ _ hc=>hT.ev hc) l h
theorem replicate_all2 {z : List AT} {v : Array Value} (h : All2 (AT.Is ρ β) z v.toList) : ∀ n,All2 (AT.Is ρ β) ((List.replicate n z).flatten) ((List.replicate n v.toList).flatten)
 | 0=>trivial
 | n + 1=>by simp only [List.replicate_succ,List.flatten_cons]; exact h.append (replicate_all2 h n)
theorem zeros_eq {v : Array Value} (n : Nat) (hv : 0 < v.size) : ((Array.range (n * v.size)).map fun i=>v[i % v.size]!).toList = (List.replicate n v.toList).flatten:=by
 apply List.ext_getElem?
 intro i
 simp only [Array.toList_map,Array.toList_range,List.getElem?_map]
 by_cases hi : i < n * v.size
 ·rw [List.getElem?_range hi]
  have hm : i % v.size < v.size:=Nat.mod_lt _ hv
  have key : ∀ n i,i < n * v.size -> (List.replicate n v.toList).flatten[i]? = v.toList[i % v.size]?:=by
   intro n
   induction n with
   | zero=>intro i hi; simp at hi
   | succ n ih =>
    intro i hi
    simp only [List.replicate_succ,List.flatten_cons]
    by_cases h : i < v.size
    ·rw [List.getElem?_append_left (by simpa using h),Nat.mod_eq_of_lt h]
    ·rw [List.getElem?_append_right (by simp; omega),ih _ (by simp; rw [Nat.succ_mul] at hi; omega)]
     simp only [Array.length_toList]
     rw [← Nat.mod_eq_sub_mod (by omega)]
  rw [key n i hi]
  simp [hm]
 ·have h1 : (List.replicate n v.toList).flatten.length = n * v.size:=by simp
  rw [List.getElem?_eq_none (by simp; omega),List.getElem?_eq_none (by omega)]
  rfl
def resE (P : Program) (K : Value -> World -> Prop) : Result Next -> Prop
 | .ok (.value u) w'=>K u w'
 | .ok .skip w'=>K undef w'
 | .ok (.enter f args) w'=>Calls P f args w' (fun e w''=>∃ u,e = .returned u /\ K u w'')
 | _=>False
theorem resE_mono {K K' : Value -> World -> Prop} (hK : ∀ v w,K v w -> K' v w) {r : Result Next} (h : resE P K r) : resE P K' r:=by
 cases r with
 | ok n w =>
  cases n <;> simp only [resE] at h ⊢
  case enter f args=>exact h.mono fun e w' ⟨u,he,hu⟩=>⟨u,he,hK _ _ hu⟩
  all_goals exact hK _ _ h
 | halt x w=>exact h.elim
theorem resE_wp {o : Oper} {a : Act} {K : Value -> World -> Prop} {K' : Act -> World -> Prop} {Q : Exit -> Act -> World -> Prop} (h : resE P K ((execOp a.eval o).run P w)) (hK : ∀ v w',K v w' -> K' (a.put o.dst v) w') : o.wp P a w K' Q:=by
 unfold Oper.wp
 generalize (execOp a.eval o).run P w = r at *
 cases r with
 | ok n w =>
  cases n <;> simp only [resE] at h
  case value u=>exact hK _ _ h
  case skip=>exact hK _ _ h
  case enter f args=>exact h.mono fun e w' ⟨u,he,hu⟩=>by subst he; exact hK _ _ hu
 | halt x w=>exact h.elim
def OpPost (cx : Cx) (jx : Jx) (ρ : Env) (W : World) (wr : List Nat) (β : Pl) (s' : St) (a : Act) (x : AV) (v : Value) (w' : World) : Prop :=
 ∃ β',β <+: β' /\ Rel cx jx ρ W wr β' s' a w' /\ x.Is ρ β' v
theorem evOp_ok {ih : Code -> St -> Tr (X × St)} (hih : IhOk cx jx ρ ih) (hs : ∀ m ∈ cx.sums,SumOk cx.P jx ρ m) {s s' : St} {a : Act} {o : Oper} {x : AV}
  (hR : Rel cx jx ρ W wr β s a w) (h : (evOp cx ih s o).pick ρ = some (x,s')) : resE cx.P (OpPost cx jx ρ W wr β s' a x) ((execOp a.eval o).run cx.P w):=by
 have pureCase : (∀ z pc',(evPure cx s o).pick ρ = some (z,pc') -> (z,{ s with pc:=pc' }) = (x,s') -> resE cx.P (OpPost cx jx ρ W wr β s' a x) ((execOp a.eval o).run cx.P w)):=by
  intro z pc' hz he
  cases he
  obtain ⟨h1,r,h2,h3⟩:=evPure_ok hR.tm hR.pc hz
  rw [h3 w]
  exact ⟨β,List.prefix_refl _,⟨hR.tm.of rfl rfl,hR.heap,hR.fr,h1,hR.j⟩,h2⟩
 have newCase : ∀ {cs : List AT} {vs : Array Value} {ty ty' : TypeId} {y : AV} {v : Value},All2 (AT.Is ρ β) cs vs.toList -> (y,{ s with heap:=s.heap ++ [⟨ty',cs,true⟩] }) = (x,s') -> y.Is ρ (β ++ [(w.heap.size,0)]) v ->
   (execOp a.eval o).run cx.P w = .ok (.value v) (w.alloc (.cells vs ty)) -> resE cx.P (OpPost cx jx ρ W wr β s' a x) ((execOp a.eval o).run cx.P w):=by
  intro cs vs ty ty' y v hc he hy hrun
  cases he
  rw [hrun]
  have hpre : β <+: β ++ [(w.heap.size,0)]:=List.prefix_append _ _
  have hb : Below w.heap.size w (w.alloc (.cells vs ty)):=(Below.refl _ w).alloc (Nat.le_refl _) _
  exact ⟨_,hpre,⟨(hR.tm.mono hpre).of rfl rfl,hR.heap.alloc hR.fr hR.j hc,hR.fr.below hb,hR.pc,Jx.below hR.j hb⟩,hy⟩
 have hnew : (β ++ [(w.heap.size,0)])[s.heap.length]? = some (w.heap.size,0):=by rw [← hR.heap.1]; simp
 unfold evOp at h
 split at h
 ·-- load
  rename_i t ad hop
  obtain ⟨v,hv,h⟩:=must_pick h
  rw [Option.bind_eq_some_iff] at hv
  obtain ⟨y,hy,hv⟩:=hv
  cases leaf_eq h
  obtain ⟨r,hr,hrun⟩:=evLoad_ok hR.tm.ok hR.heap hR.pc (hR.tm.ev hy) hv
  unfold execOp
  rw [hop]
  simp only [Sem.run_bind,hrun,Result.andThen_ok,Sem.run_pure]
  exact ⟨β,List.prefix_refl _,hR,hr⟩
 ·-- store
  rename_i t ad y hop
  split at h
  ·rename_i u v hu hv
   obtain ⟨h',hst,h⟩:=must_pick h
   cases leaf_eq h
   obtain ⟨w',h1,h2,h3,hrun⟩:=evStore_ok hR.tm.ok hR.heap hR.fr hR.j hR.pc (hR.tm.ev hu) (hR.tm.ev hv) hst
   unfold execOp
   rw [hop]
   simp only [Sem.run_bind,hrun,Result.andThen_ok,Sem.run_pure]
   exact ⟨β,List.prefix_refl _,⟨hR.tm.of rfl rfl,h1,h2,hR.pc,h3⟩,#[],rfl,trivial⟩
  ·simp [Tr.pick] at h
 ·-- alloc
  rename_i t hop
  obtain ⟨z,hz,h⟩:=must_pick h
  obtain ⟨i,v,hi,hzv,hzz⟩:=zeroA_ok (ρ:=ρ) (β:=β) hR.tm.ok hz
  refine newCase hzz (leaf_eq h) ⟨_,hnew,rfl⟩ (ty:=t) ?_
  unfold execOp
  rw [hop]
  simp [Instr.alloc,zeroValue,typeInfo,hi,hzv,newVar,newRow]
 ·-- box
  rename_i t y hop
  obtain ⟨z,hz,h⟩:=must_pick h
  rw [Option.bind_eq_some_iff] at hz
  obtain ⟨u,hu,hz⟩:=hz
  have hzi : z.Is ρ β (a.eval y):=by
   have:=hR.tm.ev hu
   cases u with
   | v q=>simp only [asV,Option.some.injEq] at hz; subst hz; exact this
   | t l=>simp [asV] at hz
  refine newCase hzi.cells (leaf_eq h) ⟨_,hnew,rfl⟩ (ty:=t) ?_
  unfold execOp
  rw [hop]
  simp [Instr.box,newVar,newRow]
 ·-- buildSlice
  rename_i t len ps hop
  split at h
  ·rename_i elem hu
   obtain ⟨size,hsz,h⟩:=must_pick h
   obtain ⟨z,hz,h⟩:=must_pick h
   obtain ⟨l,hl,h⟩:=must_pick h
   split at h
   ·rename_i hc
    simp only [Bool.and_eq_true] at hc
    have hzl : z.length = size:=Nat.eq_of_beq_eq_true hc.1
    have hlim : len * size <= 16777216:=Nat.le_of_ble_eq_true hc.2
    obtain ⟨cs,hfill,h⟩:=must_pick h
    obtain ⟨i,v,hi,hzv,hzz⟩:=zeroA_ok (ρ:=ρ) (β:=β) hR.tm.ok hz
    have hzs:=hzz.length
    simp only [Array.length_toList] at hzs
    have hzeros : All2 (AT.Is ρ β) ((List.replicate len z).flatten) ((Array.range (len * size)).map fun i=>v.cells[i % v.cells.size]!).toList:=by
     by_cases h0 : 0 < v.cells.size
     ·rw [show size = v.cells.size by omega,zeros_eq len h0]; exact replicate_all2 hzz len
     ·have : size = 0:=by omega
      have hz0 : z = []:=List.eq_nil_of_length_eq_zero (by omega)
      subst this; subst hz0
      simp [All2]
    obtain ⟨B,hB,hBB⟩:=fillA_ok (fillB_ok hfill) hzeros (partsOf_ok hR.tm hl)
    refine newCase hBB (leaf_eq h) ⟨_,hnew,rfl⟩ (ty:=elem) ?_
    unfold execOp
    rw [hop]
    have hB' : Instr.fill (fun i=>some (i * size,size)) ((Array.range (len * size)).map fun i=>v.cells[i % v.cells.size]!) (ps.map fun (i,y)=>(i,a.eval y)).toList = some B:=by
     rw [← hB]; simp
    have hlim' : ¬ (len * size > 2 ^ 24):=by omega
    by_cases h0 : len * size = 0
    ·have hE : ∀ g : Nat -> Value,(Array.range (len * size)).map g = #[]:=fun g=>by rw [h0]; simp
     rw [hE] at hB'
     simp only [Instr.buildSlice,Sem.run_bind,run_underlying (hR.tm.ok.un hu),Result.andThen_ok,size_run hR.tm.ok hsz,if_neg hlim',if_pos h0,Sem.run_pure,hE,hB']
     simp [newRow]
    ·have hzr : (zeroValue elem).run cx.P w = .ok v w:=by simp [zeroValue,typeInfo,hi,hzv]
     simp only [Instr.buildSlice,Sem.run_bind,run_underlying (hR.tm.ok.un hu),Result.andThen_ok,size_run hR.tm.ok hsz,if_neg hlim',if_neg h0,Sem.run_pure,hzr,hB']
     simp [newRow]
   ·simp [Tr.pick] at h
  ·simp [Tr.pick] at h
 ·-- call
  rename_i y args argTypes hop
  obtain ⟨f,hf,h⟩:=must_pick h
  obtain ⟨l,hl,h⟩:=must_pick h
  obtain ⟨⟨r,heap',pc'⟩,hr,h⟩:=Tr.pick_bind_some h
  cases leaf_eq h
  have hfv : a.eval y = .func (.func f) #[] #[]:=by
   unfold calleeOf at hf
   dsimp only at hf
   split at hf
   ·rename_i g first captured hy
    split at hf
    ·rename_i hc
     simp only [Bool.and_eq_true,Array.isEmpty_iff] at hc
     cases hf
     obtain ⟨he,_⟩:=hR.tm.ev hy
     rw [he,hc.1,hc.2]
    ·cases hf
   ·cases hf
  obtain ⟨hent,hcall⟩:=evCall_ok hR.tm.ok hih hs hR.tm.glob hR.heap hR.fr hR.pc hR.j (asArgs_ok hR.tm hl) hr
  have hrun : (execOp a.eval o).run cx.P w = .ok (.enter f (args.toList.map a.eval).toArray) w:=by
   unfold execOp
   rw [hop]
   have e1 : args.map a.eval = (args.toList.map a.eval).toArray:=by rw [← Array.toList_map,Array.toArray_toList]
   rw [← e1]
   simp only [resolve,hfv,Deferred.ofValue,Sem.run_bind,Sem.run_pure,Result.andThen_ok,invoke]
   simp only [Array.empty_append,Array.append_empty]
   exact hent _ w
  rw [hrun]
  refine hcall.mono fun e w' hpost=>?_
  obtain ⟨v,β',rfl,hb,hvi,hhp,hfr,hj,hpc⟩:=hpost
  exact ⟨v,rfl,β',hb,⟨(hR.tm.mono hb).of rfl rfl,hhp,hfr,hpc,hj⟩,hvi⟩
 ·obtain ⟨⟨z,pc'⟩,hz,h⟩:=Tr.pick_bind_some h
  exact pureCase z pc' hz (leaf_eq h)
end
end Go.Proofs.YtnbngokbamifbaaGreatDoor.Ev
namespace Go.Proofs.YtnbngokbamifbaaGreatDoor.Ev
open Go Go.RowKit
section
variable {P : Program} {cx : Cx} {jx : Jx} {ρ : Env} {W : World} {wr : List Nat} {β β' : Pl} {heap : List Blk} {w w' : World}
theorem guard_ok {ops : Array Oper} {s : St} {a : Act} {o : Oper} (hT : Tmps cx ρ β s a) {g : Option (E × Bool)} (h : guardE ops s o = some g) :
  match g with
  | none=>Region.wanted o (yielded ops a.tmps) = true
  | some (e,want)=>Region.wanted o (yielded ops a.tmps) = (tb (e.den ρ) == want):=by
 unfold guardE at h
 cases hg : o.guard with
 | none=>rw [hg] at h; cases h; simp [Region.wanted,hg]
 | some jw =>
  obtain ⟨j,want⟩:=jw
  rw [hg] at h
  simp only at h
  split at h
  ·rename_i e he
   cases h
   rw [Option.bind_eq_some_iff] at he
   obtain ⟨t,ht,hf⟩:=he
   obtain ⟨v,hv,hi⟩:=hT.get t _ hf
   have hy : yielded ops a.tmps j = some (tb (e.den ρ)):=by
    simp only [AV.Is,A1.Is,AT.Is] at hi
    subst hi
    unfold yielded
    rw [Option.bind_eq_some_iff.2 ⟨t,ht,hv⟩]
   simp [Region.wanted,hg,hy]
  ·rename_i he
   cases h
   rw [Option.bind_eq_some_iff] at he
   obtain ⟨t,ht,hf⟩:=he
   obtain ⟨v,hv,hi⟩:=hT.get t _ hf
   have hy : yielded ops a.tmps j = none:=by
    obtain ⟨vs,rfl,_⟩:=hi
    unfold yielded
    rw [Option.bind_eq_some_iff.2 ⟨t,ht,hv⟩]
   simp only [Region.wanted,hg,hy,E.den,tb_truth]
   cases want <;> rfl
  ·cases h
theorem Rel.put {s s' : St} {a : Act} (h : Rel cx jx ρ W wr β s a w) {dst : Option Tmp} {x : AV} {v : Value} (hx : x.Is ρ β v) (hp : s.put dst x = some s') : Rel cx jx ρ W wr β s' (a.put dst v) w:=by
 obtain ⟨h1,h2,h3⟩:=put_heap hp
 exact ⟨h.tm.put hx hp,by rw [h1]; exact h.heap,h.fr,by rw [h2]; exact h.pc,h.j⟩
theorem Rel.pcs {s : St} {a : Act} (h : Rel cx jx ρ W wr β s a w) {pc : PC} (hp : pcOk ρ pc) : Rel cx jx ρ W wr β { s with pc:=pc } a w:=⟨h.tm.of rfl rfl,h.heap,h.fr,hp,h.j⟩
theorem undef_is : AV.Is ρ β (.t []) undef:=⟨#[],rfl,trivial⟩
theorem evOps_ok {ih : Code -> St -> Tr (X × St)} (hih : IhOk cx jx ρ ih) (hs : ∀ m ∈ cx.sums,SumOk cx.P jx ρ m) {ops : Array Oper} {Q : Exit -> Act -> World -> Prop} {x : X} {s' : St} :
  ∀ (l : List Oper) {s : St} {a : Act} {β : Pl} {w : World},(evOps cx ih ops l s).pick ρ = some (x,s') -> Rel cx jx ρ W wr β s a w ->
   (∀ β' a' w',β <+: β' -> Rel cx jx ρ W wr β' s' a' w' -> QX Q x a' w') -> wpList cx.P ops Q l a w
 | [],s,a,β,w,h,hR,hQ=>by
  cases leaf_eq h
  exact hQ β a w (List.prefix_refl _) hR
 | o :: l,s,a,β,w,h,hR,hQ=>by
  simp only [evOps] at h
  obtain ⟨g,hg,h⟩:=must_pick h
  have hgo:=guard_ok hR.tm hg
  have run : ∀ {s1 : St},Rel cx jx ρ W wr β s1 a w -> ((evOp cx ih s1 o).bind fun r=>must (r.2.put o.dst r.1) "put" (evOps cx ih ops l)).pick ρ = some (x,s') -> o.wp cx.P a w (wpList cx.P ops Q l) Q:=by
   intro s1 hR1 h1
   obtain ⟨⟨y,s2⟩,h2,h3⟩:=Tr.pick_bind_some h1
   obtain ⟨s3,h4,h5⟩:=must_pick h3
   refine resE_wp (evOp_ok hih hs hR1 h2) fun v w' ⟨β',hb,hR2,hx⟩=>?_
   exact evOps_ok hih hs l h5 (hR2.put hx h4) fun β'' a' w'' hb' hR'=>hQ β'' a' w'' (hb.trans hb') hR'
  unfold wpList
  cases g with
  | none =>
   rw [if_pos hgo]
   exact .inl (run hR h)
  | some ew =>
   obtain ⟨e,want⟩:=ew
   simp only at h hgo
   obtain ⟨v,pc1,hv,hp1,h⟩:=branch_pick hR.pc h
   have htb : tb (e.den ρ) = v:=by
    cases v with
    | true=>exact tb_one (hv.2 rfl)
    | false=>exact tb_zero (by simpa using hv)
   rw [htb] at hgo
   rw [hgo]
   by_cases hvw : (v == want) = true
   ·rw [if_pos hvw]
    rw [if_pos hvw] at h
    exact .inl (run (hR.pcs hp1) h)
   ·rw [if_neg hvw]
    rw [if_neg hvw] at h
    obtain ⟨s3,h4,h5⟩:=must_pick h
    exact evOps_ok hih hs l h5 ((hR.pcs hp1).put undef_is h4) hQ
def Closed (S : World -> Prop) : Prop:=∀ w w',S w -> Below w.heap.size w w' -> S w'
def YieldsK (P : Program) (ops : Array Oper) (S : World -> Prop) (o : Oper) (v : Value) (a : Act) : Prop :=
 (Region.wanted o (yielded ops a.tmps) = true /\ ∀ w,S w -> resE P (fun u w'=>u = v /\ Below w.heap.size w w') ((execOp a.eval o).run P w)) \/
 (Region.wanted o (yielded ops a.tmps) = false /\ v = undef)
theorem YieldsK.mono {ops : Array Oper} {S S' : World -> Prop} {o : Oper} {v : Value} {a : Act} (hS : ∀ w,S' w -> S w) (h : YieldsK P ops S o v a) : YieldsK P ops S' o v a :=
 h.imp (fun ⟨h1,h2⟩=>⟨h1,fun w hw=>h2 w (hS w hw)⟩) id
theorem YieldsK.of_same {ops : Array Oper} {S : World -> Prop} {o : Oper} {v : Value} {a a' : Act} (hy : YieldsK P ops S o v a) (he : execOp a'.eval o = execOp a.eval o)
  (hw : Region.wanted o (yielded ops a'.tmps) = Region.wanted o (yielded ops a.tmps)) : YieldsK P ops S o v a':=by
 unfold YieldsK at *; rw [he,hw]; exact hy
def Does (P : Program) (ops : Array Oper) (o : Oper) (a : Act) (w : World) (K : Value -> World -> Prop) : Prop :=
 (Region.wanted o (yielded ops a.tmps) = true /\ resE P K ((execOp a.eval o).run P w)) \/ (Region.wanted o (yielded ops a.tmps) = false /\ K undef w)
theorem Does.mono {ops : Array Oper} {o : Oper} {a : Act} {K K' : Value -> World -> Prop} (hK : ∀ v w,K v w -> K' v w) (h : Does P ops o a w K) : Does P ops o a w K' :=
 h.imp (fun ⟨h1,h2⟩=>⟨h1,resE_mono hK h2⟩) (fun ⟨h1,h2⟩=>⟨h1,hK _ _ h2⟩)
def Any (P : Program) (ops : Array Oper) (Q : Exit -> Act -> World -> Prop) : Nat -> Array Bool -> Act -> (World -> Prop) -> Prop
 | 0,l,a,S=>Region.ready .any ops l = [] /\ ∀ w,S w -> Q .normal a w
 | f + 1,l,a,S=>(Region.ready .any ops l = [] -> ∀ w,S w -> Q .normal a w) /\ ∀ i ∈ Region.ready .any ops l,∀ o,ops[i]? = some o ->
   (level o.op = 0 -> ∃ v,YieldsK P ops S o v a /\ Any P ops Q f (l.setIfInBounds i true) (a.put o.dst v) S) /\
   (level o.op ≠ 0 -> ∀ w,S w -> Does P ops o a w fun v w'=>∃ S',Closed S' /\ (level o.op = 1 -> ∀ w,S' w -> S w) /\ S' w' /\ Any P ops Q f (l.setIfInBounds i true) (a.put o.dst v) S')
theorem ready_op {ops : Array Oper} {l : Array Bool} {i : Nat} (h : i ∈ Region.ready .any ops l) : ∃ o,ops[i]? = some o:=by
 obtain ⟨_,o,ho,_⟩:=mem_ready.1 h; exact ⟨o,ho⟩
theorem Any.sound {ops : Array Oper} {Q : Exit -> Act -> World -> Prop} : ∀ (f : Nat) (l : Array Bool) (a : Act) (S : World -> Prop) (w : World),Closed S -> Any P ops Q f l a S -> S w -> wpAny P .any ops Q f l a w
 | 0,l,a,S,w,_,h,hw=>⟨h.1,h.2 w hw⟩
 | f + 1,l,a,S,w,hc,h,hw=>by
  refine ⟨fun h0=>h.1 h0 w hw,fun i hi=>?_⟩
  obtain ⟨o,ho⟩:=ready_op hi
  obtain ⟨h0,h1⟩:=h.2 i hi o ho
  unfold wpOp
  rw [ho]
  simp only
  by_cases hl : level o.op = 0
  ·obtain ⟨v,hy,hn⟩:=h0 hl
   rcases hy with ⟨hwant,hy⟩ | ⟨hwant,rfl⟩
   ·rw [if_pos hwant]
    refine .inl (resE_wp (hy w hw) fun u w' ⟨hu,hb⟩=>?_)
    subst hu
    exact Any.sound f _ _ S w' hc hn (hc w w' hw hb)
   ·rw [if_neg (by rw [hwant]; simp)]
    exact Any.sound f _ _ S w hc hn hw
  ·rcases h1 hl w hw with ⟨hwant,hd⟩ | ⟨hwant,S',hc',_,hS',hn⟩
   ·rw [if_pos hwant]
    refine .inl (resE_wp hd fun u w' ⟨S',hc',_,hS',hn⟩=>?_)
    exact Any.sound f _ _ S' w' hc' hn hS'
   ·rw [if_neg (by rw [hwant]; simp)]
    exact Any.sound f _ _ S' w hc' hn hS'
theorem Any.first {ops : Array Oper} {Q : Exit -> Act -> World -> Prop} {i : Nat} {oi : Oper} {v : Value} (hi : ops[i]? = some oi) (hli : level oi.op = 0) (hsel : Region.noSelect ops = true) :
  ∀ (f : Nat) (l : Array Bool) (a : Act) (S : World -> Prop),
   (∀ j oj,ops[j]? = some oj -> j ≠ i -> l.getD j true = false -> (∀ e ∈ oj.after,Region.binds .any e = true -> e.on ≠ i) -> oi.apart ops oj = true) ->
   ((∀ S,YieldsK P ops S oi v a) \/ (YieldsK P ops S oi v a /\ ∀ j oj,ops[j]? = some oj -> j ≠ i -> l.getD j true = false -> (∀ e ∈ oj.after,Region.binds .any e = true -> e.on ≠ i) -> level oj.op <= 1)) ->
   i ∈ Region.ready .any ops l -> Any P ops Q f (l.setIfInBounds i true) (a.put oi.dst v) S -> Any P ops Q (f + 1) l a S:=by
 intro f
 induction f with
 | zero =>
  intro l a S _ hY hr H
  refine ⟨fun h0=>(by rw [h0] at hr; cases hr),fun j hj o ho=>?_⟩
  by_cases hji : j = i
  ·subst hji
   rw [hi] at ho; cases ho
   exact ⟨fun _=>⟨v,hY.elim (fun h=>h S) And.left,H⟩,fun h=>absurd hli h⟩
  ·have:=ready_mono hj hji
   rw [H.1] at this
   cases this
 | succ f ih =>
  intro l a S hfree hY hr H
  refine ⟨fun h0=>(by rw [h0] at hr; cases hr),fun j hj oj hoj=>?_⟩
  by_cases hji : j = i
  ·subst hji
   rw [hi] at hoj; cases hoj
   exact ⟨fun _=>⟨v,hY.elim (fun h=>h S) And.left,H⟩,fun h=>absurd hli h⟩
  ·obtain ⟨hjun,oj',hoj',hall⟩:=mem_ready.1 hj
   rw [hoj] at hoj'; cases hoj'
   have hnot : ∀ e ∈ oj.after,Region.binds .any e = true -> e.on ≠ i:=fun e he hb heq=>by
    have h1:=hall e he hb
    have h0:=(mem_ready.1 hr).1
    rw [heq] at h1
    rcases Nat.lt_or_ge i l.size with h' | h'
    ·simp [h'] at h0 h1; rw [h0] at h1; cases h1
    ·simp [Array.getElem?_eq_none h'] at h1
   have hap:=hfree j oj hoj hji hjun hnot
   obtain ⟨a1,a2,a3⟩:=Oper.apart_spec hap
   have hsi:=fun cs b=>Region.noSelect_spec hsel i oi cs b hi
   have hsj:=fun cs b=>Region.noSelect_spec hsel j oj cs b hoj
   have ej : execOp (a.put oi.dst v).eval oj = execOp a.eval oj:=execOp_put oj hsj a oi.dst v a1
   have wj : Region.wanted oj (yielded ops (a.put oi.dst v).tmps) = Region.wanted oj (yielded ops a.tmps):=wanted_put oj a oi.dst v a1
   have ei : ∀ u,execOp (a.put oj.dst u).eval oi = execOp a.eval oi:=fun u=>execOp_put oi hsi a oj.dst u a3
   have wi : ∀ u,Region.wanted oi (yielded ops (a.put oj.dst u).tmps) = Region.wanted oi (yielded ops a.tmps):=fun u=>wanted_put oi a oj.dst u a3
   have hfree' : ∀ k ok,ops[k]? = some ok -> k ≠ i -> (l.setIfInBounds j true).getD k true = false -> (∀ e ∈ ok.after,Region.binds .any e = true -> e.on ≠ i) -> oi.apart ops ok = true:=fun k ok hk hki hun hno=>by
    refine hfree k ok hk hki ?_ hno
    by_cases hjk : j = k
    ·subst hjk; exact hjun
    ·rw [getD_set_ne true hjk] at hun; exact hun
   have hY' : ∀ (u : Value) (S' : World -> Prop),(level oj.op <= 1 -> ∀ w,S' w -> S w) -> ((∀ S,YieldsK P ops S oi v (a.put oj.dst u)) \/ (YieldsK P ops S' oi v (a.put oj.dst u) /\ ∀ k ok,ops[k]? = some ok -> k ≠ i -> (l.setIfInBounds j true).getD k true = false -> (∀ e ∈ ok.after,Region.binds .any e = true -> e.on ≠ i) -> level ok.op <= 1)):=by
    intro u S' hSS
    rcases hY with hY | ⟨hY,hlev⟩
    ·exact .inl fun S=>(hY S).of_same (ei u) (wi u)
    ·refine .inr ⟨(hY.mono (hSS (hlev j oj hoj hji hjun hnot))).of_same (ei u) (wi u),fun k ok hk hki hun hno=>hlev k ok hk hki ?_ hno⟩
     by_cases hjk : j = k
     ·subst hjk; exact hjun
     ·rw [getD_set_ne true hjk] at hun; exact hun
   obtain ⟨h0,h1⟩:=H.2 j (ready_mono hj hji) oj hoj
   refine ⟨fun hl=>?_,fun hl w hw=>?_⟩
   ·obtain ⟨u,hu,hn⟩:=h0 hl
    refine ⟨u,hu.of_same ej.symm wj.symm,?_⟩
    refine ih (l.setIfInBounds j true) (a.put oj.dst u) S hfree' (hY' u S fun _ w hw=>hw) (ready_mono hr (Ne.symm hji)) ?_
    rw [Array.setIfInBounds_comm _ _ hji,← Act.put_comm a v u a2]
    exact hn
   ·have hd:=h1 hl w hw
    unfold Does at hd ⊢
    rw [ej,wj] at hd
    have step : ∀ u w',(∃ S',Closed S' /\ (level oj.op = 1 -> ∀ w,S' w -> S w) /\ S' w' /\ Any P ops Q f ((l.setIfInBounds i true).setIfInBounds j true) ((a.put oi.dst v).put oj.dst u) S') ->
      ∃ S',Closed S' /\ (level oj.op = 1 -> ∀ w,S' w -> S w) /\ S' w' /\ Any P ops Q (f + 1) (l.setIfInBounds j true) (a.put oj.dst u) S':=by
     rintro u w' ⟨S',hc,hsub,hS',hn⟩
     refine ⟨S',hc,hsub,hS',ih (l.setIfInBounds j true) (a.put oj.dst u) S' hfree' (hY' u S' fun hle=>hsub (by omega)) (ready_mono hr (Ne.symm hji)) ?_⟩
     rw [Array.setIfInBounds_comm _ _ hji,← Act.put_comm a v u a2]
     exact hn
    rcases hd with ⟨hw1,hd⟩ | ⟨hw1,hd⟩
    ·exact .inl ⟨hw1,resE_mono step hd⟩
    ·exact .inr ⟨hw1,step _ _ hd⟩
end
end Go.Proofs.YtnbngokbamifbaaGreatDoor.Ev

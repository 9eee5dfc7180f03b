/- What a law is proved with. -/
import Derived.Test.YtnbngokbamifbaaGreatDoorNi8
set_option linter.unusedVariables false
set_option linter.unusedSimpArgs false
namespace Go.Proofs.YtnbngokbamifbaaGreatDoor.Pw
open Go Go.RowKit
section
variable {w w' : World} {I I' : Nat -> Prop} {β β' : Places} {cx : Ev.Cx} {G : Gx} {P : Program} {s : PSt} {a : Act} {st st' : List PBlk}
def RowIs (w : World) (I : Nat -> Prop) (es : List PV) (n : Nat) (xs : List Value) : Prop :=
 xs.length = es.length * n /\ ∀ i e,es[i]? = some e -> e.cells.length = n /\ ∀ j c,e.cells[j]? = some c -> ∃ v,xs[i * n + j]? = some v /\ c.Is w I (fun _=>none) v /\ v.oneCell' = true
def CellsIs (w : World) (I : Nat -> Prop) (β : Places) (cs : List PV) (xs : List Value) : Prop:=xs.length = cs.length /\ ∀ (j : Nat) (c : PV),cs[j]? = some c -> ∃ v : Value,xs[j]? = some v /\ c.Is w I β v /\ v.oneCell' = true
def SrcIs (w : World) (I : Nat -> Prop) (β : Places) (n : Nat) : Src -> List Value -> Prop
 | .stat cs,xs=>CellsIs w I β cs xs
 | .told es,xs=>RowIs w I es n xs
theorem RowIs.append {es fs : List PV} {n : Nat} {xs ys : List Value} (h : RowIs w I es n xs) (k : RowIs w I fs n ys) : RowIs w I (es ++ fs) n (xs ++ ys):=by
 refine ⟨by rw [List.length_append,List.length_append,h.1,k.1,Nat.add_mul],fun i e he=>?_⟩
 by_cases hi : i < es.length
 ·rw [List.getElem?_append_left hi] at he
  obtain ⟨h1,h2⟩:=h.2 i e he
  refine ⟨h1,fun j c hc=>?_⟩
  obtain ⟨v,hv,h3⟩:=h2 j c hc
  have:=(List.getElem?_eq_some_iff.1 hv).1
  exact ⟨v,by rw [List.getElem?_append_left this]; exact hv,h3⟩
 ·rw [List.getElem?_append_right (by omega)] at he
  obtain ⟨h1,h2⟩:=k.2 _ e he
  refine ⟨h1,fun j c hc=>?_⟩
  obtain ⟨v,hv,h3⟩:=h2 j c hc
  have e1 : es.length * n <= i * n:=Nat.mul_le_mul_right _ (by omega)
  refine ⟨v,?_,h3⟩
  rw [List.getElem?_append_right (by rw [h.1]; omega),h.1,show i * n + j - es.length * n = (i - es.length) * n + j by rw [Nat.sub_mul]; omega]
  exact hv
theorem CellsIs.append {cs ds : List PV} {xs ys : List Value} (h : CellsIs w I β cs xs) (k : CellsIs w I β ds ys) : CellsIs w I β (cs ++ ds) (xs ++ ys):=by
 refine ⟨by rw [List.length_append,List.length_append,h.1,k.1],fun j c hc=>?_⟩
 by_cases hj : j < cs.length
 ·rw [List.getElem?_append_left hj] at hc
  rw [List.getElem?_append_left (by rw [h.1]; exact hj)]
  exact h.2 j c hc
 ·rw [List.getElem?_append_right (by omega)] at hc
  rw [List.getElem?_append_right (by rw [h.1]; omega),h.1]
  exact k.2 _ c hc
theorem RowIs.mono {es : List PV} {n : Nat} {xs : List Value} (hI : ∀ g,I g -> I' g) (hw : ∀ g,I g -> w'.heap[g]? = w.heap[g]?) (h : RowIs w I es n xs) : RowIs w' I' es n xs :=
 ⟨h.1,fun i e he=>⟨(h.2 i e he).1,fun j c hc=>let ⟨v,h1,h2,h3⟩:=(h.2 i e he).2 j c hc; ⟨v,h1,PV.Is.mono hI hw c _ _ v (fun _ _ _ h=>h) h2,h3⟩⟩⟩
theorem CellsIs.mono {cs : List PV} {xs : List Value} (hI : ∀ g,I g -> I' g) (hw : ∀ g,I g -> w'.heap[g]? = w.heap[g]?) (hb : ∀ l p,β l = some p -> β' l = some p) (h : CellsIs w I β cs xs) : CellsIs w' I' β' cs xs :=
 ⟨h.1,fun j c hc=>let ⟨v,h1,h2,h3⟩:=h.2 j c hc; ⟨v,h1,PV.Is.mono hI hw c _ _ v (fun l p _=>hb l p) h2,h3⟩⟩
theorem IsEs.row : ∀ {es : List PV} {n g o : Nat},IsEs w I es n g o -> ∃ xs,RowIs w I es n xs /\ ∀ j v,xs[j]? = some v -> w.cell? ⟨g,o + j,none⟩ = some v
 | [],n,g,o,_=>⟨[],⟨by simp,fun i e he=>by simp at he⟩,fun j v h=>by simp at h⟩
 | e :: es,n,g,o,h=>by
  rw [IsEs.cons] at h
  obtain ⟨⟨hl,hc⟩,h⟩:=h
  obtain ⟨xs,hx,hy⟩:=IsEs.row h
  have key : ∀ (cs : List PV) (o : Nat),IsAt w I cs g o -> ∃ ys : List Value,ys.length = cs.length /\ (∀ (j : Nat) (c : PV),cs[j]? = some c -> ∃ v : Value,ys[j]? = some v /\ c.Is w I (fun _=>none) v /\ v.oneCell' = true) /\ ∀ (j : Nat) (v : Value),ys[j]? = some v -> w.cell? ⟨g,o + j,none⟩ = some v:=by
   intro cs
   induction cs with
   | nil=>intro o _; exact ⟨[],rfl,fun j c h=>by simp at h,fun j v h=>by simp at h⟩
   | cons c cs ih =>
    intro o h
    simp only [IsAt] at h
    obtain ⟨⟨v,h1,h2⟩,h3⟩:=h
    obtain ⟨ys,g1,g2,g3⟩:=ih (o + 1) h3
    refine ⟨v :: ys,by simp [g1],fun j c' hc'=>?_,fun j u hu=>?_⟩
    ·cases j with
     | zero=>simp at hc'; subst hc'; exact ⟨v,rfl,h2⟩
     | succ j=>simpa using g2 j c' (by simpa using hc')
    ·cases j with
     | zero=>simp at hu; subst hu; exact h1
     | succ j=>rw [show o + (j + 1) = o + 1 + j by omega]; exact g3 j u (by simpa using hu)
  obtain ⟨ys,g1,g2,g3⟩:=key e.cells o hc
  have hyl : ys.length = n:=by omega
  refine ⟨ys ++ xs,?_,fun j v hv=>?_⟩
  ·refine ⟨by rw [List.length_append,hx.1,List.length_cons,hyl,Nat.succ_mul]; omega,fun i e' he'=>?_⟩
   cases i with
   | zero =>
    simp at he'; subst he'
    refine ⟨hl,fun j c hj=>?_⟩
    obtain ⟨v,hv,h2⟩:=g2 j c hj
    have:=(List.getElem?_eq_some_iff.1 hv).1
    exact ⟨v,by rw [Nat.zero_mul,Nat.zero_add,List.getElem?_append_left this]; exact hv,h2⟩
   | succ i =>
    obtain ⟨h1,h2⟩:=hx.2 i e' (by simpa using he')
    refine ⟨h1,fun j c hj=>?_⟩
    obtain ⟨v,hv,h3⟩:=h2 j c hj
    refine ⟨v,?_,h3⟩
    rw [Nat.succ_mul,List.getElem?_append_right (by omega),show i * n + n + j - ys.length = i * n + j by omega]
    exact hv
  ·by_cases hj : j < ys.length
   ·rw [List.getElem?_append_left hj] at hv; exact g3 j v hv
   ·rw [List.getElem?_append_right (by omega)] at hv
    have:=hy _ v hv
    rw [show o + n + (j - ys.length) = o + j by omega] at this
    exact this
theorem RowIs.at {es : List PV} {n g : Nat} {xs : List Value} (h : RowIs w I es n xs) (hc : ∀ j v,xs[j]? = some v -> w'.cell? ⟨g,j,none⟩ = some v) (hI : ∀ g,I g -> I' g) (hw : ∀ g,I g -> w'.heap[g]? = w.heap[g]?) : IsEs w' I' es n g 0:=IsEs.of fun i e he=>by
 obtain ⟨h1,h2⟩:=h.2 i e he
 refine ⟨h1,IsAt.of fun j c hj=>?_⟩
 obtain ⟨v,hv,h3,h4⟩:=h2 j c hj
 exact ⟨v,by rw [Nat.zero_add]; exact hc _ v hv,PV.Is.mono hI hw c _ _ v (fun _ _ _ h=>h) h3,h4⟩
theorem RowIs.ones {es : List PV} {n : Nat} {xs : List Value} (h : RowIs w I es n xs) : ∀ v ∈ xs,v.oneCell' = true:=by
 intro v hv
 obtain ⟨k,hk,rfl⟩:=List.getElem_of_mem hv
 have hk' : k < es.length * n:=by rw [← h.1]; exact hk
 have hn : 0 < n:=by
  rcases Nat.eq_zero_or_pos n with h0 | h0
  ·rw [h0] at hk'; omega
  ·exact h0
 have hi : k / n < es.length:=Nat.div_lt_of_lt_mul (by rw [Nat.mul_comm]; exact hk')
 obtain ⟨h1,h2⟩:=h.2 _ _ (List.getElem?_eq_getElem hi)
 have hm : k % n < n:=Nat.mod_lt _ hn
 obtain ⟨u,hu,_,h3⟩:=h2 (k % n) _ (List.getElem?_eq_getElem (by omega))
 rw [show k / n * n + k % n = k by rw [Nat.mul_comm]; exact Nat.div_add_mod k n,List.getElem?_eq_getElem hk] at hu
 cases hu; exact h3
theorem CellsIs.ones {cs : List PV} {xs : List Value} (h : CellsIs w I β cs xs) : ∀ v ∈ xs,v.oneCell' = true:=by
 intro v hv
 obtain ⟨k,hk,rfl⟩:=List.getElem_of_mem hv
 have hk' : k < cs.length:=by rw [← h.1]; exact hk
 obtain ⟨u,hu,_,h3⟩:=h.2 _ _ (List.getElem?_eq_getElem hk')
 rw [List.getElem?_eq_getElem hk] at hu
 cases hu; exact h3
theorem SrcIs.ones {n : Nat} {x : Src} {xs : List Value} (h : SrcIs w I β n x xs) : ∀ v ∈ xs,v.oneCell' = true:=by
 cases x with
 | stat cs=>exact CellsIs.ones h
 | told es=>exact RowIs.ones h
theorem chunk_ok {ag : Bool} {n : Nat} (hn : 0 < n) (hag : ag = true \/ n = 1) : ∀ (k : Nat) {cs : List PV} {xs : List Value},cs.length = k * n -> CellsIs w I β cs xs -> (chunk ag n k cs).all PV.elem = true -> (chunk ag n k cs).length = k /\ RowIs w I (chunk ag n k cs) n xs
 | 0,cs,xs,hl,h,_=>by
  have : xs = []:=List.eq_nil_of_length_eq_zero (by rw [h.1,hl,Nat.zero_mul])
  subst this
  exact ⟨rfl,by simp [chunk],fun i e he=>by simp [chunk] at he⟩
 | k + 1,cs,xs,hl,h,hall=>by
  simp only [chunk,List.all_cons,Bool.and_eq_true] at hall
  obtain ⟨he,hall⟩:=hall
  have hlk : (cs.drop n).length = k * n:=by rw [List.length_drop,hl,Nat.succ_mul]; omega
  have hdrop : CellsIs w I β (cs.drop n) (xs.drop n):=⟨by rw [List.length_drop,List.length_drop,h.1],fun j c hc=>by
   rw [List.getElem?_drop] at hc ⊢; exact h.2 _ c hc⟩
  obtain ⟨ih1,ih2⟩:=chunk_ok hn hag k hlk hdrop hall
  have hcn : n <= cs.length:=by rw [hl,Nat.succ_mul]; omega
  have nr : ∀ {c : PV} {y : Value},c.noRef = true -> c.Is w I β y -> c.Is w I (fun _=>none) y:=fun {c y} hc hi=>by
   refine PV.Is.mono (fun _ h=>h) (fun _ _=>rfl) _ β _ _ (fun l p hl=>?_) hi
   cases c <;> simp_all [PV.uses,PV.noRef]
  refine ⟨by simp [chunk,ih1],by rw [h.1,hl]; simp only [chunk,List.length_cons,ih1],fun i e hi=>?_⟩
  cases i with
  | zero =>
   simp only [chunk,List.getElem?_cons_zero,Option.some.injEq] at hi
   subst hi
   cases ag with
   | true =>
    simp only [if_true,PV.elem,List.all_eq_true] at he
    simp only [if_true,PV.cells]
    refine ⟨by rw [List.length_take]; omega,fun j c hj=>?_⟩
    rw [List.getElem?_take] at hj
    split at hj
    ·obtain ⟨v,hv,h2,h3⟩:=h.2 j c hj
     refine ⟨v,by rw [Nat.zero_mul,Nat.zero_add]; exact hv,nr (he c ?_) h2,h3⟩
     refine List.mem_of_getElem? (i:=j) ?_
     rw [List.getElem?_take,if_pos ‹_›]; exact hj
    ·cases hj
   | false =>
    have hn1 : n = 1:=by simpa using hag
    subst hn1
    cases cs with
    | nil=>simp at hcn
    | cons c cs =>
     simp only [Bool.false_eq_true,if_false] at he ⊢
     obtain ⟨v,hv,h2,h3⟩:=h.2 0 c rfl
     have hc1 : c.cells = [c]:=by
      cases c <;> first | rfl | (simp only [PV.Is] at h2; obtain ⟨vs,rfl,_⟩:=h2; simp [Value.oneCell'] at h3)
     rw [hc1]
     refine ⟨rfl,fun j c' hj=>?_⟩
     cases j with
     | zero =>
      simp at hj; subst hj
      refine ⟨v,by simpa using hv,nr ?_ h2,h3⟩
      cases c <;> first | exact he | (exfalso; simp only [PV.Is] at h2; obtain ⟨vs,rfl,_⟩:=h2; simp [Value.oneCell'] at h3)
     | succ j=>simp at hj
  | succ i =>
   simp only [chunk,List.getElem?_cons_succ] at hi
   obtain ⟨h1,h2⟩:=ih2.2 i e hi
   refine ⟨h1,fun j c hj=>?_⟩
   obtain ⟨v,hv,h3⟩:=h2 j c hj
   refine ⟨v,?_,h3⟩
   rw [List.getElem?_drop] at hv
   rw [Nat.succ_mul,show i * n + n + j = n + (i * n + j) by omega]
   exact hv
theorem norm_is {x : PV} {v : Value} (h : x.Is w I β v) : x.norm.Is w I β v:=by
 cases x <;> first | exact h | (simp only [PV.norm,PV.Is] at h ⊢; exact h)
theorem norm_cells {cs : List PV} {xs : List Value} (h : CellsIs w I β cs xs) : CellsIs w I β (cs.map PV.norm) xs:=by
 refine ⟨by rw [List.length_map]; exact h.1,fun j c hj=>?_⟩
 rw [List.getElem?_map,Option.map_eq_some_iff] at hj
 obtain ⟨d,hd,rfl⟩:=hj
 obtain ⟨v,h1,h2,h3⟩:=h.2 j d hd
 exact ⟨v,h1,norm_is h2,h3⟩
theorem elemsOf_ok {ag : Bool} {n : Nat} (hn : 0 < n) (hag : ag = true \/ n = 1) {x : Src} {es : List PV} {xs : List Value} {len : Nat} (h : elemsOf ag n x = some es) (hx : SrcIs w I β n x xs) (hl : xs.length = len * n) : es.length = len /\ RowIs w I es n xs:=by
 have hc : ∀ {a b : Nat},a * n = b * n -> a = b:=fun h=>Nat.eq_of_mul_eq_mul_right hn h
 cases x with
 | told es' =>
  simp only [elemsOf,Option.some.injEq] at h
  subst h
  exact ⟨hc (by rw [← hx.1,hl]),hx⟩
 | stat cs =>
  simp only [elemsOf,lenO_eq,Nat.zero_add] at h
  split at h
  ·rename_i hall
   cases h
   have hcl : cs.length = len * n:=by rw [← hx.1,hl]
   have hd : cs.length / n = len:=by rw [hcl]; exact Nat.mul_div_cancel _ hn
   rw [hd] at hall ⊢
   exact chunk_ok hn hag len (by rw [List.length_map]; exact hcl) (norm_cells hx) hall
  ·cases h
theorem take_at {arr : Array Value} {g : Nat} {ty : TypeId} {fr : Nat × Nat} (hh : w.heap[g]? = some (.cells arr ty fr)) (o k : Nat) : ∀ (j : Nat) (v : Value),((arr.toList.drop o).take k)[j]? = some v -> w.cell? ⟨g,o + j,none⟩ = some v:=fun j v hv=>by
 rw [List.getElem?_take] at hv
 split at hv
 ·rw [List.getElem?_drop] at hv
  rw [Ev.cells_of hh]; simpa using hv
 ·cases hv
theorem srcK_ok (hO : Ev.CxOk cx) (hh : HeapOk I β st w) {n : Nat} (hn : 0 < n) {x : PV} {u : Value} {q : Src -> Prop} (h : srcK cx st n x q) (hx : x.Is w I β u) :
  ∃ src ad len c news,q src /\ u = .slice ad len c /\ SrcIs w I β n src news /\ news.length = len * n /\ (len = 0 \/ ∃ g o,ad = some ⟨g,o,none⟩) /\ ∀ g o,ad = some ⟨g,o,none⟩ -> ∀ j v,news[j]? = some v -> w.cell? ⟨g,o + j,none⟩ = some v:=by
 unfold srcK at h
 split at h <;> try simp only [PV.Is] at hx
 ·exact ⟨_,none,0,0,[],h,hx,⟨by simp,fun i e he=>by simp at he⟩,by simp,.inl rfl,fun _ _ _ j v hv=>by simp at hv⟩
 ·rename_i m es
  replace h:=bif_ok h
  obtain ⟨hm,h⟩:=h
  have hm:=Nat.eq_of_beq_eq_true hm
  obtain ⟨ad,cap,rfl,_,_,h4,h5⟩:=hx
  by_cases h0 : es.length = 0
  ·have : es = []:=List.eq_nil_of_length_eq_zero h0
   subst this
   exact ⟨_,ad,0,cap,[],h,rfl,⟨by simp,fun i e he=>by simp at he⟩,by simp,.inl rfl,fun _ _ _ j v hv=>by simp at hv⟩
  ·obtain ⟨g,o,rfl,hg,_⟩:=h5 h0
   obtain ⟨xs,h6,h7⟩:=(h4 g o rfl).row
   rw [hm] at h6
   exact ⟨_,_,es.length,cap,xs,h,rfl,h6,h6.1,(.inr ⟨_,_,rfl⟩),fun g' o' e=>by cases e; exact h7⟩
 ·rename_i l off len
  replace h:=need_ok h
  obtain ⟨b,hb,h⟩:=h
  replace h:=bif_ok h
  obtain ⟨hc,h⟩:=h
  simp only [Bool.and_eq_true] at hc
  have hle:=Nat.le_of_ble_eq_true hc.2
  obtain ⟨p,g,o,cap,hp,ha,rfl,_⟩:=hx
  obtain ⟨arr,ty,fr,hhg,hca,_⟩:=mem_cells hh hb hc.1 hp ha
  have hsz : 0 < len * n -> o + off + len * n <= arr.size:=fun h0=>by
   obtain ⟨z,hz,_⟩:=hca _ _ (List.getElem?_eq_getElem (show off + len * n - 1 < b.cs.length by omega))
   have:=(Array.getElem?_eq_some_iff.1 hz).1
   omega
  have hnl : ((arr.toList.drop (o + off)).take (len * n)).length = len * n:=by
   rw [List.length_take,List.length_drop,Array.length_toList]
   rcases Nat.eq_zero_or_pos (len * n) with h0 | h0
   ·omega
   ·have:=hsz h0; omega
  refine ⟨_,_,len,cap,_,forceL_ok h,rfl,⟨?_,fun j c hj=>?_⟩,hnl,(.inr ⟨_,_,rfl⟩),fun g' o' e=>by cases e; exact take_at hhg _ _⟩
  ·rw [hnl,List.length_take,List.length_drop]; omega
  ·rw [List.getElem?_take] at hj
   split at hj
   ·rename_i hj'
    rw [List.getElem?_drop] at hj
    obtain ⟨v,hv,h1,h2⟩:=hca _ _ hj
    exact ⟨v,by rw [List.getElem?_take,if_pos hj',List.getElem?_drop]; simpa [Nat.add_assoc] using hv,h1,h2⟩
   ·cases hj
 ·rename_i l
  replace h:=need_ok h
  obtain ⟨b,hb,h⟩:=h
  replace h:=bif_ok h
  obtain ⟨hc,h⟩:=h
  simp only [Bool.and_eq_true] at hc
  have hbn:=Nat.eq_of_beq_eq_true hc.2
  obtain ⟨p,hp,rfl⟩:=hx
  split at h
  ·rename_i hk
   obtain ⟨g,arr,fr,ha,hw,hhg,hca,_,hlen,hle,_,has,_⟩:=whole_arr hh hb hc.1 hk hp
   rw [hbn] at hlen has
   have hsz : p.len * n <= arr.size:=by rw [has]; exact Nat.mul_le_mul_right _ hle
   refine ⟨_,_,p.len,p.cap,(arr.toList.drop 0).take (p.len * n),h,hw,⟨?_,fun j c hj=>?_⟩,?_,(.inr ⟨_,_,rfl⟩),fun g' o' e=>by cases e; exact take_at hhg _ _⟩
   ·rw [List.length_take,List.length_drop,Array.length_toList]; omega
   ·obtain ⟨v,hv,h1,h2⟩:=hca _ _ hj
    have hj' : j < p.len * n:=by rw [← hlen]; exact (List.getElem?_eq_some_iff.1 hj).1
    exact ⟨v,by rw [List.getElem?_take,if_pos hj',List.getElem?_drop]; simpa using hv,h1,h2⟩
   ·rw [List.length_take,List.length_drop,Array.length_toList]; omega
  ·rename_i hk
   obtain ⟨_,hlen,hle,_,hor⟩:=whole_dyn hh hb hc.1 hk hp
   rcases hor with ⟨_,hc0,hw⟩ | ⟨g,arr,fr,ha,hw,hhg,hes,_,has⟩
   ·have hb0 : b.cs = []:=List.eq_nil_of_length_eq_zero (by omega)
    rw [hb0] at h
    exact ⟨_,none,0,0,[],h,hw,⟨by simp,fun i e he=>by simp at he⟩,by simp,.inl rfl,fun _ _ _ j v hv=>by simp at hv⟩
   ·obtain ⟨xs,h6,h7⟩:=hes.row
    rw [hbn] at h6
    exact ⟨_,_,p.len,p.cap,xs,h,hw,h6,by rw [h6.1,hlen],(.inr ⟨_,_,rfl⟩),fun g' o' e=>by cases e; exact h7⟩
  ·exact h.elim
 ·exact h.elim
theorem killB_ok {l : Nat} {b : PBlk} {q : List PBlk -> Prop} (hb : st[l]? = some b) (h : killB st l q) : ∃ b',b'.live = false /\ q (st.set l b'):=by
 replace h:=need_ok h
 obtain ⟨b2,hb2,h⟩:=h
 cases b2
 exact ⟨_,rfl,(setB_ok h).2⟩
theorem destK_ok (hh : HeapOk I β st w) {n : Nat} (hn : 0 < n) {elem : TypeId} {x : PV} {v : Value} {q : Src -> List PBlk -> Prop} (h : destK st elem n x q) (hx : x.Is w I β v) :
  ∃ dst st' xs len,q dst st' /\ w.ownsRow 0 elem n v len xs /\ SrcIs w I β n dst xs /\ xs.length = len * n /\ HeapOk I β st' w /\ st'.length = st.length /\ Ext I β st w I β st' w /\ (∀ g,v.ownBlock = some g -> Wr β st g /\ ¬ I g /\ ¬ Lives β st' g) /\ (v = .slice none 0 0 \/ ∃ ad m c,v = .slice (some ad) m c):=by
 unfold destK at h
 split at h <;> try simp only [PV.Is] at hx
 ·subst hx
  exact ⟨_,st,[],0,h,World.ownsRow_nil _ _ _ _,⟨by simp,fun j c hj=>by simp at hj⟩,by simp,hh,rfl,Ext.refl,fun g e=>by simp [Value.ownBlock] at e,.inl rfl⟩
 ·rename_i l
  replace h:=need_ok h
  obtain ⟨b,hb,h⟩:=h
  replace h:=bif_ok h
  obtain ⟨hc,h⟩:=h
  simp only [Bool.and_eq_true] at hc
  obtain ⟨hlive,hm⟩:=can_ok hc.1.1
  have hbn:=Nat.eq_of_beq_eq_true hc.1.2
  have hty:=Nat.eq_of_beq_eq_true hc.2
  obtain ⟨p,hp,rfl⟩:=hx
  have dead : ∀ {g o : Nat} {b' : PBlk},p.a = some (g,o) -> b'.live = false -> (Own I β st l g (0,0) b \/ ∃ fr,Own I β st l g fr b) -> Wr β st g /\ ¬ I g /\ ¬ Lives β (st.set l b') g:=by
   intro g o b' ha hb' ho
   have ho : ∃ fr,Own I β st l g fr b:=ho.elim (fun h=>⟨_,h⟩) id
   obtain ⟨fr,ho⟩:=ho
   refine ⟨⟨l,b,p,o,hb,hlive,hm,hp,ha⟩,(ho.1 (by rw [hm]; decide)).2.1,fun ⟨l2,b2,p2,o2,h1,h2,h3,h4⟩=>?_⟩
   by_cases hne : l2 = l
   ·subst hne
    rw [List.getElem?_set_self (by simpa using (List.getElem?_eq_some_iff.1 h1).1)] at h1
    cases h1; rw [hb'] at h2; cases h2
   ·rw [List.getElem?_set_ne (fun e=>hne e.symm)] at h1
    exact (ho.1 (by rw [hm]; decide)).2.2 l2 b2 hne h1 h2 p2 g o2 h3 h4 rfl
  split at h
  ·rename_i hk
   obtain ⟨b',hb',h⟩:=killB_ok hb h
   obtain ⟨g,arr,fr,ha,hw,hhg,hca,hown,hlen,hle,hmx,has,_⟩:=whole_arr hh hb hlive hk hp
   rw [hbn] at hlen has
   have hfr : fr = (0,0):=(hown.1 (by rw [hm]; decide)).1
   subst hfr
   have hsz : p.len * n <= arr.size:=by rw [has]; exact Nat.mul_le_mul_right _ hle
   have hxl : (arr.toList.take (p.len * n)).length = p.len * n:=by rw [List.length_take,Array.length_toList]; omega
   refine ⟨_,_,arr.toList.take (p.len * n),p.len,h,⟨hxl,.inr ⟨g,p.cap,arr,hw,Nat.zero_le _,by rw [← hty]; exact hhg,hle,hmx,has,rfl⟩⟩,⟨by rw [hxl,hlen],fun j c hj=>?_⟩,hxl,hh.kill l hb',by simp,Ext.kill hb',fun g' e=>?_,.inr ⟨_,_,_,hw⟩⟩
   ·obtain ⟨u,hu,h1,h2⟩:=hca _ _ hj
    have hj' : j < p.len * n:=by rw [← hlen]; exact (List.getElem?_eq_some_iff.1 hj).1
    exact ⟨u,by rw [List.getElem?_take,if_pos hj']; simpa using hu,h1,h2⟩
   ·rw [hw] at e
    simp only [Value.ownBlock,Option.some.injEq] at e
    subst e
    exact dead ha hb' (.inl hown)
  ·rename_i hk
   obtain ⟨b',hb',h⟩:=killB_ok hb h
   obtain ⟨_,hlen,hle,hmx,hor⟩:=whole_dyn hh hb hlive hk hp
   rcases hor with ⟨_,hc0,hw⟩ | ⟨g,arr,fr,ha,hw,hhg,hes,hown,has⟩
   ·have hb0 : b.cs = []:=List.eq_nil_of_length_eq_zero (by omega)
    rw [hb0] at h
    rw [hw]
    exact ⟨_,_,[],0,h,World.ownsRow_nil _ _ _ _,⟨by simp,fun i e he=>by simp at he⟩,by simp,hh.kill l hb',by simp,Ext.kill hb',fun g e=>by simp [Value.ownBlock] at e,.inl rfl⟩
   ·rw [hbn] at hes has
    have hfr : fr = (0,0):=(hown.1 (by rw [hm]; decide)).1
    subst hfr
    obtain ⟨xs,h6,h7⟩:=hes.row
    have hsz : p.len * n <= arr.size:=by rw [has]; exact Nat.mul_le_mul_right _ hle
    have hxl : xs.length = p.len * n:=by rw [h6.1,hlen]
    refine ⟨_,_,xs,p.len,h,⟨hxl,.inr ⟨g,p.cap,arr,hw,Nat.zero_le _,by rw [← hty]; exact hhg,hle,hmx,has,?_⟩⟩,h6,hxl,hh.kill l hb',by simp,Ext.kill hb',fun g' e=>?_,.inr ⟨_,_,_,hw⟩⟩
    ·apply List.ext_getElem?
     intro j
     rw [List.getElem?_take]
     split
     ·rename_i hj
      have hj2 : j < xs.length:=by omega
      have:=h7 j _ (List.getElem?_eq_getElem hj2)
      rw [Ev.cells_of hhg,Nat.zero_add] at this
      rw [List.getElem?_eq_getElem hj2]; simpa using this
     ·rename_i hj
      rw [List.getElem?_eq_none (by omega)]
    ·rw [hw] at e
     simp only [Value.ownBlock,Option.some.injEq] at e
     subst e
     exact dead ha hb' (.inl hown)
  ·exact h.elim
 ·exact h.elim
theorem run_append_none (t ty e : TypeId) (i : TypeInfo) (ht : P.underlying t = some (.slice e)) (hi : P.info? e = some i) (b : Option Addr) (n cap c : Nat) (hle : n <= cap) : (Builtin.append_ #[t,t] ty #[.slice b n cap,.slice none 0 c]).run P w = .ok (.slice b n cap) w:=by
 cases b <;> simp [Builtin.append_,run_underlying ht,sizeOf,typeInfo,hi,Builtin.lenOf,Builtin.firstCells,hle,storeCells]
end
end Go.Proofs.YtnbngokbamifbaaGreatDoor.Pw
namespace Go.Proofs.YtnbngokbamifbaaGreatDoor.Pw
open Go Go.RowKit
section
variable {w w' : World} {I I' : Nat -> Prop} {β β' : Places} {cx : Ev.Cx} {G : Gx} {P : Program} {s : PSt} {a : Act} {st st' : List PBlk}
theorem store_store (s : PSt) (x y : List PBlk) : (s.store x).store y = s.store y:=by cases s; rfl
theorem Ext.add2 {st1 : List PBlk} (h : HeapOk I β st1 w) (hsub : ∀ g,Wr β st1 g -> Wr β st g) (hos : w'.os = w.os) (htape : w'.tape = w.tape) (hout : w'.output = w.output) (hsz : w.heap.size <= w'.heap.size) {b : PBlk} {p : Plc} (hw : ∀ g,g < w.heap.size -> ¬ Wr β st g -> w'.heap[g]? = w.heap[g]?)
  (hp : ∀ g o,p.a = some (g,o) -> g < w.heap.size -> Wr β st g) : Ext I β st w I (β.set st1.length p) (st1 ++ [b]) w' :=
 ⟨hos,htape,hout,hsz,hw,fun g hg ⟨l,b',q,o,h1,h2,h3,h4,h5⟩=>by
  unfold Places.set at h4
  split at h4
  ·cases h4
   exact hp g o h5 hg
  ·have:=h.lt h4
   rw [List.getElem?_append_left this] at h1
   exact hsub g ⟨l,b',q,o,h1,h2,h3,h4,h5⟩,fun _ h=>h,fun _ _ h=>.inl h⟩
theorem append_new (hR : Rel G I β s a w) {st1 : List PBlk} (hk : HeapOk I β st1 w) (hsub : ∀ g,Wr β st1 g -> Wr β s.st g) (hlen : st1.length = s.st.length) {v : Value} (hv : ∀ g,v.ownBlock = some g -> Wr β s.st g /\ ¬ I g /\ ¬ Lives β st1 g)
  (hg : w.grownBy w' v.ownBlock) {b : PBlk} {p : Plc} {q : PV -> PSt -> Prop} (h : pnewS (s.store st1) b q) (hp : ∀ g o,p.a = some (g,o) -> v.ownBlock = some g \/ g = w.heap.size) (hm : b.m = .w)
  (hb : (∀ g,p.a = some (g,0) -> Own I (β.set st1.length p) (st1 ++ [b]) st1.length g (0,0) b) -> (∀ g,I g -> w'.heap[g]? = w.heap[g]?) -> BlkOk I (β.set st1.length p) (st1 ++ [b]) w' st1.length b) : OpPost G s I β w a q p.whole w':=by
 have hst : (s.store st1).st = st1:=(PSt.store_eq s st1).2.2.1
 unfold pnewS at h
 rw [hst] at h
 replace h:=addB_ok (lenK_ok h)
 rw [Nat.zero_add,store_store] at h
 have hset:=Places.set_mono hk p
 have hown : ∀ g,Lives β st1 g \/ I g -> w'.heap[g]? = w.heap[g]?:=fun g hgl=>by
  refine hg.block g (hgl.elim hk.lives_lt (hR.imm.imm g)) fun e=>?_
  obtain ⟨_,h1,h2⟩:=hv g e.symm
  exact hgl.elim h2 h1
 have hfresh : ∀ g o,p.a = some (g,o) -> ¬ I g /\ ¬ Lives β st1 g:=fun g o ha=>by
  rcases hp g o ha with e | e
  ·exact (hv g e).2
  ·subst e
   exact ⟨fun h=>by have:=hR.imm.imm _ h; omega,fun h=>by have:=hk.lives_lt h; omega⟩
 have hO : ∀ g,p.a = some (g,0) -> Own I (β.set st1.length p) (st1 ++ [b]) st1.length g (0,0) b:=fun g ha=>by
  refine ⟨fun _=>⟨rfl,(hfresh g 0 ha).1,fun l' b' hne hl' hlive' p' g' o' hp' ha' e=>?_⟩,fun hr=>by rw [hm] at hr; cases hr⟩
  subst e
  unfold Places.set at hp'
  rw [if_neg hne] at hp'
  have:=hk.lt hp'
  rw [List.getElem?_append_left this] at hl'
  exact (hfresh _ _ ha).2 ⟨l',b',p',o',hl',hlive',hp',ha'⟩
 have hH:=hk.add hown hfresh (hb hO fun g hg=>hown g (.inr hg))
 have hE : Ext I β s.st w I (β.set st1.length p) (st1 ++ [b]) w':=Ext.add2 hk hsub hg.os hg.tape hg.output hg.size (fun g hlt hn=>hg.block g hlt fun e=>hn (hv g e.symm).1) fun g o ha hlt=>by
  rcases hp g o ha with e | e
  ·exact (hv g e).1
  ·omega
 refine OpPost.mk' hR h hH hE hset (by simp; omega) (fun l hl=>if_neg (by omega)) ?_
 simp only [PV.Is]; exact ⟨_,Places.set_self ..,rfl⟩
theorem pappend_ok (hG : GOk G) (hR : Rel G I β s a w) {t ty : TypeId} {d x : PV} {u v : Value} {q : PV -> PSt -> Prop} (h : pappend G s t d x q) (hd : d.Is w I β v) (hx : x.Is w I β u) :
  ∃ r w',(Builtin.append_ #[t,t] ty #[v,u]).run G.cx.P w = .ok r w' /\ OpPost G s I β w a q r w':=by
 replace h:=need_ok h
 obtain ⟨td,hu,h⟩:=h
 split at h
 ·rename_i elem
  replace h:=need_ok h
  obtain ⟨n,hn,h⟩:=h
  replace h:=need_ok h
  obtain ⟨ag,hag,h⟩:=h
  replace h:=need_ok h
  obtain ⟨by_,hby,h⟩:=h
  replace h:=zerosO_ok (w:=w) (I:=I) (β:=β) hG.ok h
  obtain ⟨z,i,zv,h,hi,hzv,hzz⟩:=h
  replace h:=bif_ok h
  obtain ⟨hc,h⟩:=h
  simp only [Bool.and_eq_true,Bool.or_eq_true] at hc
  have hn0 : 0 < n:=Nat.le_of_ble_eq_true hc.1.1
  have hzn : z.length = n:=Nat.eq_of_beq_eq_true hc.1.2
  have hagn : ag = true \/ n = 1:=hc.2.imp id Nat.eq_of_beq_eq_true
  obtain ⟨i1,hi1,hi2⟩:=Ev.size_inf hG.ok hn
  rw [hi] at hi1
  cases hi1
  obtain ⟨i3,hi3,hi4⟩:=hG.by_ _ (Ev.lkT_mem hby)
  simp only at hi3 hi4
  rw [hi] at hi3
  cases hi3
  have hzl:=hzz.length
  simp only [Array.length_toList] at hzl
  replace h:=srcK_ok hG.ok hR.heap hn0 h hx
  obtain ⟨src,ad,len,c,news,h,rfl,hsrc,hnl,had,hnews⟩:=h
  replace h:=destK_ok hR.heap hn0 h hd
  obtain ⟨dst,st1,xs,dlen,h,hown,hdst,hxl,hk,hstl,hext,hv,hvf⟩:=h
  have hsub : ∀ g,Wr β st1 g -> Wr β s.st g:=fun g hw=>by
   have:=hext.wr g
   rcases Nat.lt_or_ge g w.heap.size with hlt | hge
   ·exact this hlt hw
   ·obtain ⟨l,b,p,o,h1,h2,h3,h4,h5⟩:=hw
    have:=hk.lives_lt ⟨l,b,p,o,h1,h2,h4,h5⟩
    omega
  have hones:=hsrc.ones
  have run : (dlen + len) <= maxLen -> (dlen + len) * by_ <= 140737488355328 -> ∃ r w',(Builtin.append_ #[t,t] ty #[v,.slice ad len c]).run G.cx.P w = .ok r w' /\ w'.ownsRow 0 elem n r (dlen + len) (xs ++ news) /\ w.grownBy w' v.ownBlock /\ (r.ownBlock = v.ownBlock \/ r.ownBlock = some w.heap.size):=by
   intro h1 h2
   cases ad with
   | none =>
    have hl0 : len = 0:=by rcases had with h | ⟨g,o,h⟩ <;> first | exact h | cases h
    subst hl0
    have hn0' : news = []:=List.eq_nil_of_length_eq_zero (by rw [hnl,Nat.zero_mul])
    subst hn0'
    have hvv : ∃ b m c',v = .slice b m c' /\ m <= c':=by
     rcases hown.2 with ⟨rfl,_⟩ | ⟨g,cap,cur,rfl,_,_,hle,_⟩
     ·exact ⟨_,_,_,rfl,Nat.le_refl _⟩
     ·exact ⟨_,_,_,rfl,hle⟩
    obtain ⟨b,m,c',rfl,hle⟩:=hvv
    refine ⟨_,w,run_append_none t ty elem i (hG.ok.un hu) hi b m c' c hle,?_,⟨rfl,rfl,rfl,Nat.le_refl _,fun _ _ _=>rfl⟩,.inl rfl⟩
    rw [List.append_nil]; exact hown
   | some ad =>
    obtain ⟨r,w',hr,h3,h4,_,h5⟩:=run_append_own_at (P:=G.cx.P) w 0 t ty elem i zv n by_ (hG.ok.un hu) hi hzv hi2 hi4 (by omega) hn0 v dlen xs hown ad len c news hnl (fun j u hj=>by
     rcases had with h0 | ⟨g,o,e⟩
     ·rw [h0,Nat.zero_mul] at hnl
      have:=List.eq_nil_of_length_eq_zero hnl
      subst this; simp at hj
     ·cases e
      rw [Ev.addr_add]; exact hnews g o rfl j u hj) hones h1 h2 (Nat.zero_le _)
    exact ⟨r,w',hr,h3,h4,h5⟩
  have fin_ : ∀ {r : Value} {w' : World} {b : PBlk},w'.ownsRow 0 elem n r (dlen + len) (xs ++ news) -> w.grownBy w' v.ownBlock -> (r.ownBlock = v.ownBlock \/ r.ownBlock = some w.heap.size) -> pnewS (s.store st1) b q -> b.m = .w ->
    (∀ (p : Plc),((p.a = none /\ p.len = 0 /\ p.cap = 0 /\ dlen + len = 0) \/ ∃ g cur,p.a = some (g,0) /\ p.len = dlen + len /\ w'.heap[g]? = some (.cells cur elem (0,0)) /\ p.len <= p.cap /\ p.cap <= maxLen /\ cur.size = p.cap * n /\ (∀ (j : Nat) (v : Value),(xs ++ news)[j]? = some v -> cur[j]? = some v)) ->
     (∀ g,p.a = some (g,0) -> Own I (β.set st1.length p) (st1 ++ [b]) st1.length g (0,0) b) -> (∀ g,I g -> w'.heap[g]? = w.heap[g]?) -> BlkOk I (β.set st1.length p) (st1 ++ [b]) w' st1.length b) -> OpPost G s I β w a q r w':=by
   intro r w' b hown' hg hblk h hm hb
   rcases hown'.2 with ⟨rfl,h0⟩ | ⟨g,cap,cur,rfl,_,hg1,hle,hmx,hcs,htake⟩
   ·have:=append_new (p:=⟨none,0,0⟩) hR hk hsub hstl hv hg h (fun g o e=>by cases e) hm (hb ⟨none,0,0⟩ (.inl ⟨rfl,rfl,rfl,h0⟩))
    exact this
   ·have:=append_new (p:=⟨some (g,0),dlen + len,cap⟩) hR hk hsub hstl hv hg h (fun g' o e=>by
     cases e
     simp only [Value.ownBlock] at hblk
     exact hblk.imp (fun e=>e.symm) (fun e=>by cases e; rfl)) hm (hb ⟨some (g,0),dlen + len,cap⟩ (.inr ⟨g,cur,rfl,rfl,hg1,hle,hmx,hcs,fun j v hj=>by
      rw [← htake,List.getElem?_take] at hj
      split at hj
      ·simpa using hj
      ·cases hj⟩))
    exact this
  have keep : ∀ {w' : World},w.grownBy w' v.ownBlock -> ∀ g,I g -> w'.heap[g]? = w.heap[g]?:=fun hg g hI=>hg.block g (hR.imm.imm g hI) fun e=>(hv g e.symm).2.1 hI
  have hlenE : (xs ++ news).length = (dlen + len) * n:=by rw [List.length_append,hxl,hnl,Nat.add_mul]
  have told : (need (elemsOf ag n dst) fun es=>need (elemsOf ag n src) fun fs=>es.length + fs.length <= maxLen /\ (es.length + fs.length) * by_ <= 140737488355328 /\ pnewS (s.store st1) ⟨.dyn,elem,n,.w,true,es ++ fs⟩ q) -> ∃ r w',(Builtin.append_ #[t,t] ty #[v,.slice ad len c]).run G.cx.P w = .ok r w' /\ OpPost G s I β w a q r w':=by
   intro h
   replace h:=need_ok h
   obtain ⟨es,hes,h⟩:=h
   replace h:=need_ok h
   obtain ⟨fs,hfs,h⟩:=h
   obtain ⟨he1,he2⟩:=elemsOf_ok hn0 hagn hes hdst hxl
   obtain ⟨hf1,hf2⟩:=elemsOf_ok hn0 hagn hfs hsrc hnl
   obtain ⟨h1,h2,h⟩:=h
   rw [he1,hf1] at h1 h2
   obtain ⟨r,w',hr,hown',hg,hblk⟩:=run h1 h2
   refine ⟨r,w',hr,fin_ hown' hg hblk h rfl fun p hp hO hI=>⟨p,Places.set_self ..,?_⟩⟩
   rcases hp with ⟨ha,hl,hcp,h0⟩ | ⟨g,cur,ha,hl,hg1,hle,hmx,hcs,hcell⟩
   ·exact ⟨⟨hn0,by simp only [List.length_append]; omega,by omega,by rw [hcp]; exact Nat.zero_le _⟩,.inl ⟨ha,hcp⟩⟩
   ·refine ⟨⟨hn0,by simp only [List.length_append]; omega,hle,hmx⟩,.inr ⟨g,cur,(0,0),ha,hg1,?_,hO g ha,hcs⟩⟩
    exact (he2.append hf2).at (fun j v hj=>by rw [Ev.cells_of hg1]; exact hcell j v hj) (fun _ h=>h) hI
  split at h
  ·rename_i cs ds
   rw [lenK_eq,lenK_eq,Nat.zero_add,Nat.zero_add] at h
   replace h:=bif_ok h
   obtain ⟨hc2,h⟩:=h
   simp only [Bool.and_eq_true] at hc2
   obtain ⟨⟨⟨hd0,hd1⟩,hd2⟩,hd3⟩:=hc2
   have hd0 : 0 < ds.length:=Nat.le_of_ble_eq_true hd0
   have hd2:=Nat.le_of_ble_eq_true hd2
   have hd3:=Nat.le_of_ble_eq_true hd3
   replace h:=forceL_ok h
   have hcl : cs.length = dlen * n:=by rw [← hdst.1,hxl]
   have hdl : ds.length = len * n:=by rw [← hsrc.1,hnl]
   have e1 : dlen <= dlen * n:=Nat.le_mul_of_pos_right _ hn0
   have e2 : len <= len * n:=Nat.le_mul_of_pos_right _ hn0
   obtain ⟨r,w',hr,hown',hg,hblk⟩:=run (by omega) (Nat.le_trans (Nat.mul_le_mul_right _ (by omega)) hd2)
   have hlen0 : 0 < len:=by
    rcases Nat.eq_zero_or_pos len with h0 | h0
    ·rw [h0,Nat.zero_mul] at hdl; omega
    ·exact h0
   refine ⟨r,w',hr,fin_ hown' hg hblk h rfl fun p hp hO hI=>⟨p,Places.set_self ..,?_⟩⟩
   rcases hp with ⟨ha,hl,hcp,h0⟩ | ⟨g,cur,ha,hl,hg1,hle,hmx,hcs,hcell⟩
   ·omega
   ·refine ⟨g,cur,(0,0),ha,hg1,fun j c hj=>?_,hO g ha,by simp only [List.length_append]; rw [hl,Nat.add_mul]; omega,hle,hmx,hcs,hn0⟩
    obtain ⟨v',h1,h2,h3⟩:=(CellsIs.append hdst hsrc).2 j c hj
    exact ⟨v',by rw [Nat.zero_add]; exact hcell j v' h1,PV.Is.mono (fun _ h=>h) hI c β _ v' (fun l p' _ hp'=>Places.set_mono hk p l p' hp') h2,h3⟩
  ·exact told h
 ·exact h.elim
theorem argsK_ok (hR : Rel G I β s a w) : ∀ {os : List Operand} {q : List PV -> Prop},argsK s os q -> ∃ l,q l /\ IsL w I l β (os.map a.eval)
 | [],q,h=>⟨[],h,by simp only [List.map_nil,IsL]⟩
 | o :: os,q,h=>by
  replace h:=PSt.ev_ok hR h
  obtain ⟨x,h,hx⟩:=h
  obtain ⟨l,h,hl⟩:=argsK_ok hR h
  exact ⟨_,h,by simp only [List.map_cons,IsL]; exact ⟨hx,hl⟩⟩
theorem TM.clear_get {rl : List Nat} : ∀ {t : TM} {n : Nat} {x : PV},(t.clear rl).get n = some x -> t.get n = some x /\ x.leads rl = false
 | .nil,n,x,h=>by cases h
 | .node v l r,n,x,h=>by
  simp only [TM.clear,TM.get] at h ⊢
  cases h0 : Nat.beq n 0 <;> rw [h0] at h
  ·cases h1 : Nat.beq (n % 2) 1 <;> rw [h1] at h
   ·exact TM.clear_get (t:=r) h
   ·exact TM.clear_get (t:=l) h
  ·cases v with
   | none=>cases h
   | some y =>
    simp only [cond_true] at h ⊢
    split at h
    ·cases h
    ·cases h
     rename_i hl
     exact ⟨rfl,by simpa using hl⟩
theorem clearK_ok {rl : List Nat} {t : TM} {q : TM -> Prop} (h : clearK rl t q) : ∃ t',q t' /\ ∀ n x,t'.get n = some x -> t.get n = some x /\ ∀ l ∈ x.uses,l ∉ rl:=by
 unfold clearK at h
 split at h
 ·exact ⟨t,h,fun n x hx=>⟨hx,fun _ _ hl=>by cases hl⟩⟩
 ·refine ⟨_,h,fun n x hx=>?_⟩
  obtain ⟨h1,h2⟩:=TM.clear_get hx
  refine ⟨h1,fun l hl hr=>?_⟩
  unfold PV.leads at h2
  rw [List.any_eq_false] at h2
  refine h2 l hl (List.any_eq_true.2 ⟨l,hr,?_⟩)
  exact Nat.beq_refl l
theorem pcall_ok (hR : Rel G I β s a w) {f : FuncId} {args : List PV} {vals : List Value} {q : PV -> PSt -> Prop} (h : pcall G s f args q) (ha : IsL w I args β vals) :
  Ev.Enters G.cx.P f /\ Calls G.cx.P f vals.toArray w fun e w'=>∃ v,e = .returned v /\ OpPost G s I β w a q v w':=by
 obtain ⟨n,t,st,b,rl0⟩:=s
 obtain ⟨rl,hrl,hs⟩:=h
 unfold Spec at hs
 obtain ⟨he,hs⟩:=hs
 refine ⟨he,(hs I β w vals hR.heap hR.imm ha).mono fun e w' ⟨v,r,S',I',β',he,hk,hr,hH,hM,hE,hlen,hβ⟩=>⟨v,he,?_⟩⟩
 obtain ⟨t',hq,ht'⟩:=clearK_ok hk
 refine ⟨r,_,I',β',hq,⟨hR.small,hR.defers,hR.size,Nat.le_trans hR.base hlen,fun m x hx=>?_,hH,hM⟩,hr,hE,rfl,rfl,rfl,fun l hl hn=>?_,fun l b' hb' hm=>hβ l (List.getElem?_eq_some_iff.1 hb').1 fun hr=>(hrl l hr).2 b' hb' hm⟩
 ·obtain ⟨h1,h2⟩:=ht' m x hx
  obtain ⟨u,hu,hi⟩:=hR.get m x h1
  refine ⟨u,hu,PV.Is.mono hE.imm (hE.keeps hR.heap hR.imm.imm) x β β' u (fun l p hl hp=>?_) hi⟩
  rw [hβ l (hR.heap.lt hp) (h2 l hl)]; exact hp
 ·have hl' : l < b:=hl
  refine hβ l (Nat.lt_of_lt_of_le hl' hR.base) fun hr=>?_
  rcases (hrl l hr).1 with h | h
  ·omega
  ·exact hn h
set_option maxHeartbeats 1000000 in
theorem pop_ok (hG : GOk G) (hR : Rel G I β s a w) {o : Oper} {q : PV -> PSt -> Prop} (h : pop G s o q) : Ev.resE G.cx.P (OpPost G s I β w a q) ((execOp a.eval o).run G.cx.P w):=by
 have pureCase : ∀ {q' : PV -> Prop},ppure G.cx s o.op q' -> (∀ v,q' v -> q v s) -> Ev.resE G.cx.P (OpPost G s I β w a q) ((execOp a.eval o).run G.cx.P w):=by
  intro q' h hq
  obtain ⟨x,r,hx,hi,hr⟩:=ppure_ok hG.ok hR h
  rw [hr w]
  exact OpPost.same hR (hq x hx) hi
 unfold pop at h
 split at h
 ·-- load
  rename_i t ad hop
  replace h:=PSt.ev_ok hR h
  obtain ⟨x,h,hx⟩:=h
  obtain ⟨z,v,g,h,hz,_,hrun⟩:=pload_ok hG.ok hR.heap hR.imm h hx
  replace hrun:=hrun w rfl
  unfold execOp
  rw [hop]
  simp only [Sem.run_bind,hrun,Result.andThen_ok,Sem.run_pure]
  exact OpPost.same hR h hz
 ·-- store
  rename_i t ad y hop
  replace h:=PSt.ev_ok hR h
  obtain ⟨x,h,hx⟩:=h
  replace h:=PSt.ev_ok hR h
  obtain ⟨v,h,hv⟩:=h
  obtain ⟨w',hrun,hp⟩:=pstore_ok hG hR h hx hv
  unfold execOp
  rw [hop]
  simp only [Sem.run_bind,hrun,Result.andThen_ok,Sem.run_pure]
  exact hp
 ·-- alloc
  rename_i t hop
  replace h:=zerosO_ok (w:=w) (I:=I) (β:=β) hG.ok h
  obtain ⟨z,i,v,h,hi,hzv,hzz⟩:=h
  replace h:=bif_ok (forceL_ok h)
  obtain ⟨hall,h⟩:=h
  rw [List.all_eq_true] at hall
  have hrun : (execOp a.eval o).run G.cx.P w = .ok (.value (.pointer (some ⟨w.heap.size,0,none⟩))) (w.alloc (.cells v.cells t)):=by
   unfold execOp
   rw [hop]
   simp [Instr.alloc,zeroValue,typeInfo,hi,hzv,newVar,newRow]
  rw [hrun]
  exact pnew_ok hR h hzz hall
 ·-- box
  rename_i t y hop
  replace h:=PSt.ev_ok hR h
  obtain ⟨x,h,hx⟩:=h
  have hrun : (execOp a.eval o).run G.cx.P w = .ok (.value (.pointer (some ⟨w.heap.size,0,none⟩))) (w.alloc (.cells (a.eval y).cells t)):=by
   unfold execOp
   rw [hop]
   simp [Instr.box,newVar,newRow]
  rw [hrun]
  split at h
  ·exact h.elim
  ·rename_i hnt
   replace h:=bif_ok h
   obtain ⟨hall,h⟩:=h
   rw [List.all_eq_true] at hall
   exact pnew_ok hR (forceL_ok h) (hx.cellsL fun vs e=>hnt vs e) hall
 ·-- buildSlice
  rename_i t len ps hop
  replace h:=need_ok h
  obtain ⟨d,hu,h⟩:=h
  split at h
  ·rename_i elem
   replace h:=need_ok h
   obtain ⟨n,hn,h⟩:=h
   replace h:=zerosO_ok (w:=w) (I:=I) (β:=β) hG.ok h
   obtain ⟨z,i,v,h,hi,hzv,hzz⟩:=h
   replace h:=partsK_ok hR h
   obtain ⟨l,h,hl⟩:=h
   replace h:=bif_ok h
   obtain ⟨hc,h⟩:=h
   simp only [Bool.and_eq_true] at hc
   have hzl : z.length = n:=Nat.eq_of_beq_eq_true hc.1.1
   have hlim : len * n <= 16777216:=Nat.le_of_ble_eq_true hc.1.2
   have hn0 : 0 < n:=Nat.le_of_ble_eq_true hc.2
   replace h:=fillF_ok h
   obtain ⟨cs,hfill,h⟩:=h
   replace h:=bif_ok (forceL_ok h)
   obtain ⟨hc2,h⟩:=h
   simp only [Bool.and_eq_true,List.all_eq_true] at hc2
   have hcl:=Nat.eq_of_beq_eq_true hc2.1.2
   have hmx:=Nat.le_of_ble_eq_true hc2.2
   have hzs:=hzz.length
   simp only [Array.length_toList] at hzs
   have rep : ∀ k,IsL w I ((List.replicate k z).flatten) β ((List.replicate k v.cells.toList).flatten):=fun k=>by
    induction k with
    | zero=>simp only [List.replicate_zero,List.flatten_nil,IsL]
    | succ k ih=>simp only [List.replicate_succ,List.flatten_cons]; exact hzz.append ih
   have hzeros : IsL w I ((List.replicate len z).flatten) β ((Array.range (len * n)).map fun i=>v.cells[i % v.cells.size]!).toList:=by
    rw [show n = v.cells.size by omega,Ev.zeros_eq len (by omega)]; exact rep len
   obtain ⟨B,hB,hBB⟩:=fillP_ok hfill hzeros hl
   have hrun : (execOp a.eval o).run G.cx.P w = .ok (.value (.slice (some ⟨w.heap.size,0,none⟩) len len)) (w.alloc (.cells B elem)):=by
    unfold execOp
    rw [hop]
    have hB' : Instr.fill (fun i=>some (i * n,n)) ((Array.range (len * n)).map fun i=>v.cells[i % v.cells.size]!) (ps.map fun (i,y)=>(i,a.eval y)).toList = some B:=by
     rw [← hB]; simp
    have hlim' : ¬ (len * n > 2 ^ 24):=by omega
    by_cases h0 : len * n = 0
    ·have hE : ∀ g : Nat -> Value,(Array.range (len * n)).map g = #[]:=fun g=>by rw [h0]; simp
     rw [hE] at hB'
     simp only [Instr.buildSlice,Sem.run_bind,run_underlying (hG.ok.un hu),Result.andThen_ok,Ev.size_run hG.ok hn,if_neg hlim',if_pos h0,Sem.run_pure,hE,hB']
     simp [newRow]
    ·have hzr : (zeroValue elem).run G.cx.P w = .ok v w:=by simp [zeroValue,typeInfo,hi,hzv]
     simp only [Instr.buildSlice,Sem.run_bind,run_underlying (hG.ok.un hu),Result.andThen_ok,Ev.size_run hG.ok hn,if_neg hlim',if_neg h0,Sem.run_pure,hzr,hB']
     simp [newRow]
   rw [hrun]
   exact pnewS_ok hR h hBB hc2.1.1 hcl hn0 hmx
  ·exact h.elim
 ·-- call
  rename_i y ars argTypes hop
  replace h:=PSt.ev_ok hR h
  obtain ⟨x,h,hx⟩:=h
  split at h
  ·rename_i f caps
   cases hext : G.ext.any (Nat.beq f) with
   | true=>rw [hext] at h; replace h : OpS G s o q:=h; unfold OpS at h; exact h I β a w hR
   | false =>
   rw [hext] at h
   replace h : argsK s ars fun l=>pcall G s f (l ++ caps) q:=h
   simp only [PV.Is] at hx
   obtain ⟨cvs,hfv,hcv⟩:=hx
   replace h:=argsK_ok hR h
   obtain ⟨l,h,hl⟩:=h
   obtain ⟨hent,hcall⟩:=pcall_ok hR h (hl.append hcv)
   have hrun : (execOp a.eval o).run G.cx.P w = .ok (.enter f (ars.map a.eval ++ cvs.toList).toArray) w:=by
    unfold execOp
    rw [hop]
    have e1 : (Array.mk ars).map a.eval ++ cvs = (ars.map a.eval ++ cvs.toList).toArray:=by simp
    simp only [resolve,hfv,Deferred.ofValue,Sem.run_bind,Sem.run_pure,Result.andThen_ok,invoke]
    simp only [Array.empty_append]
    rw [e1]
    exact hent _ w
   rw [hrun]
   exact hcall
  ·exact h.elim
 ·-- append
  rename_i od ox t t' hop
  replace h:=bif_ok h
  obtain ⟨ht,h⟩:=h
  have:=Nat.eq_of_beq_eq_true ht
  subst this
  replace h:=PSt.ev_ok hR h
  obtain ⟨d,h,hd⟩:=h
  replace h:=PSt.ev_ok hR h
  obtain ⟨x,h,hx⟩:=h
  obtain ⟨r,w',hr,hp⟩:=pappend_ok (ty:=o.type) hG hR h hd hx
  have hrun : (execOp a.eval o).run G.cx.P w = .ok (.value r) w':=by
   unfold execOp
   rw [hop]
   simp [resolve,invoke,builtin,hr]
  rw [hrun]
  exact hp
 ·unfold OpS at h; exact h I β a w hR
 ·unfold OpS at h; exact h I β a w hR
 ·unfold OpS at h; exact h I β a w hR
 ·unfold OpS at h; exact h I β a w hR
 ·unfold OpS at h; exact h I β a w hR
 ·unfold OpS at h; exact h I β a w hR
 ·rename_i src dst ox hop
  cases hb : Nat.beq dst 9 with
  | true=>rw [hb] at h; replace h : OpS G s o q:=h; unfold OpS at h; exact h I β a w hR
  | false=>rw [hb] at h; exact pureCase (by rw [hop]; exact h) fun _ h=>h
 ·exact pureCase h fun _ h=>h
end
end Go.Proofs.YtnbngokbamifbaaGreatDoor.Pw
namespace Go.Proofs.YtnbngokbamifbaaGreatDoor.Pw
open Go Go.RowKit
section
variable {w w' : World} {I I' : Nat -> Prop} {β β' : Places} {cx : Ev.Cx} {G : Gx} {P : Program} {s : PSt} {a : Act} {st st' : List PBlk}
theorem TM.setK_ok {v : Option PV} : ∀ {f : Nat} {t : TM} {n : Nat} {k : TM -> Prop},TM.setK v f t n k -> ∃ t',k t' /\ ∀ m,t'.get m = if m = n then v else t.get m
 | 0,_,_,_,h=>h.elim
 | f + 1,t,n,k,h=>by
  have arith : ∀ m,Nat.beq n 0 = false -> (m = n ↔ Nat.beq m 0 = false /\ m % 2 = n % 2 /\ (m - 1) / 2 = (n - 1) / 2):=fun m h0=>by
   have hn : n ≠ 0:=fun e=>by subst e; cases h0
   constructor
   ·rintro rfl; exact ⟨h0,rfl,rfl⟩
   ·rintro ⟨h1,h2,h3⟩
    have hm : m ≠ 0:=fun e=>by subst e; cases h1
    omega
  have key : ∀ (u : Option PV) (l r : TM),(bif Nat.beq n 0 then k (.node v l r) else bif Nat.beq (n % 2) 1 then TM.setK v f l ((n - 1) / 2) (fun t=>k (.node u t r)) else TM.setK v f r ((n - 1) / 2) (fun t=>k (.node u l t))) ->
    ∃ t',k t' /\ ∀ m,t'.get m = if m = n then v else (TM.node u l r).get m:=by
   intro u l r h
   cases h0 : Nat.beq n 0 <;> rw [h0] at h
   ·cases h1 : Nat.beq (n % 2) 1 <;> rw [h1] at h
    ·obtain ⟨t',hk,ht⟩:=TM.setK_ok h
     refine ⟨_,hk,fun m=>?_⟩
     have hp : n % 2 = 0:=by
      have : n % 2 ≠ 1:=fun e=>by rw [e] at h1; cases h1
      omega
     simp only [TM.get]
     cases hm0 : Nat.beq m 0
     ·cases hm1 : Nat.beq (m % 2) 1
      ·have hmp : m % 2 = 0:=by
        have : m % 2 ≠ 1:=fun e=>by rw [e] at hm1; cases hm1
        omega
       simp only [cond_false,ht]
       by_cases e : (m - 1) / 2 = (n - 1) / 2
       ·rw [if_pos e,if_pos ((arith m h0).2 ⟨hm0,by omega,e⟩)]
       ·rw [if_neg e,if_neg fun e'=>e ((arith m h0).1 e').2.2]
      ·have hmp : m % 2 = 1:=Nat.eq_of_beq_eq_true hm1
       simp only [cond_false,cond_true]
       rw [if_neg fun e'=>by rw [e'] at hmp; omega]
     ·have:=Nat.eq_of_beq_eq_true hm0
      subst this
      simp only [cond_true]
      rw [if_neg fun e=>by rw [← e] at h0; cases h0]
    ·obtain ⟨t',hk,ht⟩:=TM.setK_ok h
     refine ⟨_,hk,fun m=>?_⟩
     have hp : n % 2 = 1:=Nat.eq_of_beq_eq_true h1
     simp only [TM.get]
     cases hm0 : Nat.beq m 0
     ·cases hm1 : Nat.beq (m % 2) 1
      ·simp only [cond_false]
       rw [if_neg fun e'=>by rw [e'] at hm1; rw [hm1] at h1; cases h1]
      ·have hmp : m % 2 = 1:=Nat.eq_of_beq_eq_true hm1
       simp only [cond_false,cond_true,ht]
       by_cases e : (m - 1) / 2 = (n - 1) / 2
       ·rw [if_pos e,if_pos ((arith m h0).2 ⟨hm0,by omega,e⟩)]
       ·rw [if_neg e,if_neg fun e'=>e ((arith m h0).1 e').2.2]
     ·have:=Nat.eq_of_beq_eq_true hm0
      subst this
      simp only [cond_true]
      rw [if_neg fun e=>by rw [← e] at h0; cases h0]
   ·have:=Nat.eq_of_beq_eq_true h0
    subst this
    refine ⟨_,h,fun m=>?_⟩
    simp only [TM.get]
    cases hm0 : Nat.beq m 0
    ·rw [if_neg fun e=>by subst e; cases hm0]; rfl
    ·rw [if_pos (Nat.eq_of_beq_eq_true hm0)]; rfl
  cases t with
  | nil =>
   obtain ⟨t',hk,ht⟩:=key none .nil .nil h
   refine ⟨t',hk,fun m=>?_⟩
   rw [ht]
   split
   ·rfl
   ·simp only [TM.get]; cases Nat.beq m 0 <;> cases Nat.beq (m % 2) 1 <;> rfl
  | node u l r=>exact key u l r h
structure SameBut (s s' : PSt) : Prop where
 n : s'.n = s.n
 st : s'.st = s.st
 base : s'.base = s.base
 rl : s'.rl = s.rl
theorem PSt.put_ok {dst : Option Tmp} {x : PV} {k : PSt -> Prop} (h : s.put dst x k) : ∃ s',k s' /\ SameBut s s' /\ ∀ I β a w v,Rel G I β s a w -> x.Is w I β v -> Rel G I β s' (a.put dst v) w:=by
 obtain ⟨n,t,st,b,rl⟩:=s
 unfold PSt.put at h
 simp only at h
 split at h
 ·exact ⟨_,h,⟨rfl,rfl,rfl,rfl⟩,fun I β a w v hR _=>hR⟩
 ·rename_i d
  replace h:=bif_ok h
  obtain ⟨hd,h⟩:=h
  have hd : d < n:=Nat.le_of_ble_eq_true hd
  replace h:=fc_ok h
  obtain ⟨t',hk,ht⟩:=TM.setK_ok h
  refine ⟨_,hk,⟨rfl,rfl,rfl,rfl⟩,fun I β a w v hR hx=>⟨hR.small,hR.defers,by simpa [Act.put] using hR.size,hR.base,fun m y hy=>?_,hR.heap,hR.imm⟩⟩
  have hsz : d < a.tmps.size:=by rw [hR.size]; exact hd
  have hy' : t'.get m = some y:=hy
  rw [ht] at hy'
  by_cases e : m = d
  ·subst e
   rw [if_pos rfl] at hy'
   cases hy'
   exact ⟨v,by simp [Act.put,hsz],hx⟩
  ·rw [if_neg e] at hy'
   obtain ⟨u,hu,hi⟩:=hR.get m y hy'
   exact ⟨u,by simp only [Act.put,Array.getElem?_setIfInBounds_ne (Ne.symm e)]; exact hu,hi⟩
theorem PSt.refine_ok {t : Nat} {x : PV} {v : Value} {k : PSt -> Prop} (hR : Rel G I β s a w) (hv : a.tmps[t]? = some v) (hx : x.Is w I β v) (h : s.put (some t) x k) : ∃ s',k s' /\ SameBut s s' /\ Rel G I β s' a w:=by
 obtain ⟨s',hk,hs,hr⟩:=PSt.put_ok (G:=G) h
 refine ⟨s',hk,hs,?_⟩
 have:=hr I β a w v hR hx
 have e : a.put (some t) v = a:=by
  unfold Act.put
  simp only
  have : a.tmps.setIfInBounds t v = a.tmps:=by
   apply Array.ext_getElem?
   intro i
   rw [Array.getElem?_setIfInBounds]
   split
   ·rename_i hi
    subst hi
    have:=(Array.getElem?_eq_some_iff.1 hv).1
    rw [if_pos this,hv]
   ·rfl
  rw [this]
 rw [e] at this
 exact this
theorem Is.undef : (PV.tup []).Is w I β Go.undef:=by simp only [PV.Is]; exact ⟨#[],rfl,by simp only [IsL]⟩
theorem pguard_ok {ops : Array Oper} {o : Oper} {run skip : PSt -> Prop} (hR : Rel G I β s a w) (h : pguard ops.toList s o run skip) :
  (Region.wanted o (yielded ops a.tmps) = true /\ ∃ s',run s' /\ SameBut s s' /\ Rel G I β s' a w) \/ (Region.wanted o (yielded ops a.tmps) = false /\ ∃ s',skip s' /\ SameBut s s' /\ Rel G I β s' a w):=by
 have same : SameBut s s:=⟨rfl,rfl,rfl,rfl⟩
 unfold pguard at h
 cases hg : o.guard with
 | none =>
  rw [hg] at h
  exact .inl ⟨by simp [Region.wanted,hg],s,h,same,hR⟩
 | some jw =>
  obtain ⟨j,want⟩:=jw
  rw [hg] at h
  simp only at h
  replace h:=need_ok h
  obtain ⟨t,ht,h⟩:=h
  replace h:=need_ok h
  obtain ⟨x,hx,h⟩:=h
  obtain ⟨v,hv,hi⟩:=hR.get t x hx
  have ht' : (ops[j]?).bind (·.dst) = some t:=by simpa using ht
  have hy : ∀ b,v = .bool b -> Region.wanted o (yielded ops a.tmps) = (b == want):=fun b hb=>by
   subst hb
   have : yielded ops a.tmps j = some b:=by unfold yielded; rw [Option.bind_eq_some_iff.2 ⟨t,ht',hv⟩]
   simp [Region.wanted,hg,this]
  split at h <;> try simp only [PV.Is] at hi
  ·cases want
   ·exact .inr ⟨by rw [hy _ hi]; rfl,s,h,same,hR⟩
   ·exact .inl ⟨by rw [hy _ hi]; rfl,s,h,same,hR⟩
  ·cases want
   ·exact .inl ⟨by rw [hy _ hi]; rfl,s,h,same,hR⟩
   ·exact .inr ⟨by rw [hy _ hi]; rfl,s,h,same,hR⟩
  ·rename_i p
   by_cases hp : p
   ·obtain ⟨s',hk,hs,hr⟩:=PSt.refine_ok hR hv (x:=.tt) (by rw [hi,pb_true hp]; exact Is.tt) (h.1 hp)
    cases want
    ·exact .inr ⟨by rw [hy _ hi,pb_true hp]; rfl,s',hk,hs,hr⟩
    ·exact .inl ⟨by rw [hy _ hi,pb_true hp]; rfl,s',hk,hs,hr⟩
   ·obtain ⟨s',hk,hs,hr⟩:=PSt.refine_ok hR hv (x:=.ff) (by rw [hi,pb_false hp]; exact Is.ff) (h.2 hp)
    cases want
    ·exact .inl ⟨by rw [hy _ hi,pb_false hp]; rfl,s',hk,hs,hr⟩
    ·exact .inr ⟨by rw [hy _ hi,pb_false hp]; rfl,s',hk,hs,hr⟩
  ·obtain ⟨vs,rfl,_⟩:=hi
   refine .inr ⟨?_,s,h,same,hR⟩
   have : yielded ops a.tmps j = none:=by unfold yielded; rw [Option.bind_eq_some_iff.2 ⟨t,ht',hv⟩]
   simp [Region.wanted,hg,this]
  ·exact h.elim
structure Goes (I : Nat -> Prop) (β : Places) (s : PSt) (w : World) (I' : Nat -> Prop) (β' : Places) (s' : PSt) (w' : World) : Prop where
 ext : Ext I β s.st w I' β' s'.st w'
 base : s'.base = s.base
 rl : s'.rl = s.rl
 n : s'.n = s.n
 low : ∀ l,l < s.base -> l ∉ s.rl -> β' l = β l
theorem Goes.same {s' : PSt} (h : SameBut s s') : Goes I β s w I β s' w:=⟨by rw [h.st]; exact Ext.refl,h.base,h.rl,h.n,fun _ _ _=>rfl⟩
theorem Goes.trans {I'' : Nat -> Prop} {β'' : Places} {s' s'' : PSt} {w'' : World} (h : Goes I β s w I' β' s' w') (k : Goes I' β' s' w' I'' β'' s'' w'') : Goes I β s w I'' β'' s'' w'' :=
 ⟨h.ext.trans k.ext,k.base.trans h.base,k.rl.trans h.rl,k.n.trans h.n,fun l hl hr=>(k.low l (by rw [h.base]; exact hl) (by rw [h.rl]; exact hr)).trans (h.low l hl hr)⟩
theorem pops_ok (hG : GOk G) {ops : Array Oper} {Q : X -> PSt -> Prop} {Q' : Exit -> Act -> World -> Prop} : ∀ (l : List Oper) {s : PSt} {a : Act} {I : Nat -> Prop} {β : Places} {w : World},pops G ops.toList Q l s -> Rel G I β s a w ->
  (∀ x s' I' β' a' w',Q x s' -> Rel G I' β' s' a' w' -> Goes I β s w I' β' s' w' -> Q' (X.e x) a' w') -> wpList G.cx.P ops Q' l a w
 | [],s,a,I,β,w,h,hR,hQ=>hQ .nml s I β a w h hR (Goes.same ⟨rfl,rfl,rfl,rfl⟩)
 | o :: l,s,a,I,β,w,h,hR,hQ=>by
  unfold wpList
  rcases pguard_ok hR h with ⟨hw,s1,h1,hs1,hR1⟩ | ⟨hw,s1,h1,hs1,hR1⟩
  ·rw [hw,if_pos rfl]
   refine .inl (Ev.resE_wp (pop_ok hG hR1 h1) fun v w' hp=>?_)
   obtain ⟨x,s2,I2,β2,h2,hR2,hx,hE,e1,e2,e3,hlow,_⟩:=hp
   obtain ⟨s3,h3,hs3,hr3⟩:=PSt.put_ok (G:=G) h2
   have g1 : Goes I β s w I2 β2 s2 w':=(Goes.same hs1).trans ⟨hE,e1,e2,e3,hlow⟩
   exact pops_ok hG l h3 (hr3 _ _ _ _ v hR2 hx) fun x s' I' β' a' w'' hq hR' hg=>hQ x s' I' β' a' w'' hq hR' ((g1.trans (Goes.same hs3)).trans hg)
  ·rw [hw,if_neg (by simp)]
   obtain ⟨s3,h3,hs3,hr3⟩:=PSt.put_ok (G:=G) h1
   exact pops_ok hG l h3 (hr3 _ _ _ _ _ hR1 Is.undef) fun x s' I' β' a' w'' hq hR' hg=>hQ x s' I' β' a' w'' hq hR' (((Goes.same hs1).trans (Goes.same hs3)).trans hg)
end
def loadOp : Op -> Bool
 | .load ..=>true
 | _=>false
def eff (op : Op) : Bool:=!(Ev.pureOp op || loadOp op)
structure PinY where
 k : Nat
 D : List Nat
 Y : World -> Prop
section
variable {P : Program} {ops : Array Oper} {Q : Exit -> Act -> World -> Prop}
def Yields (P : Program) (ops : Array Oper) (S : World -> Prop) (o : Oper) (v : Value) (a : Act) : Prop :=
 (Region.wanted o (yielded ops a.tmps) = true /\ ∀ w,S w -> (execOp a.eval o).run P w = .ok (.value v) w) \/ (Region.wanted o (yielded ops a.tmps) = false /\ v = undef)
theorem Yields.mono {S S' : World -> Prop} {o : Oper} {v : Value} {a : Act} (hS : ∀ w,S' w -> S w) (h : Yields P ops S o v a) : Yields P ops S' o v a:=h.imp (fun ⟨h1,h2⟩=>⟨h1,fun w hw=>h2 w (hS w hw)⟩) id
theorem Yields.of_same {S : World -> Prop} {o : Oper} {v : Value} {a a' : Act} (hy : Yields P ops S o v a) (he : execOp a'.eval o = execOp a.eval o) (hw : Region.wanted o (yielded ops a'.tmps) = Region.wanted o (yielded ops a.tmps)) : Yields P ops S o v a':=by
 unfold Yields at *; rw [he,hw]; exact hy
def unpin (i : Nat) (pins : List PinY) : List PinY:=pins.filter fun p=>!p.D.any (Nat.beq i)
def AnyP (P : Program) (ops : Array Oper) (Q : Exit -> Act -> World -> Prop) : Nat -> Array Bool -> Act -> (World -> Prop) -> List PinY -> Prop
 | 0,l,a,S,_=>Region.ready .any ops l = [] /\ ∀ w,S w -> Q .normal a w
 | f + 1,l,a,S,pins=>(Region.ready .any ops l = [] -> ∀ w,S w -> Q .normal a w) /\ ∀ i ∈ Region.ready .any ops l,∀ o,ops[i]? = some o ->
   (eff o.op = false -> ∃ v,Yields P ops S o v a /\ AnyP P ops Q f (l.setIfInBounds i true) (a.put o.dst v) S (unpin i pins)) /\
   (eff o.op = true -> ∀ w,S w -> Ev.Does P ops o a w fun v w'=>∃ S' : World -> Prop,(∀ p ∈ unpin i pins,∀ w,S' w -> p.Y w) /\ S' w' /\ AnyP P ops Q f (l.setIfInBounds i true) (a.put o.dst v) S' (unpin i pins))
theorem AnyP.sound : ∀ (f : Nat) (l : Array Bool) (a : Act) (S : World -> Prop) (pins : List PinY) (w : World),AnyP P ops Q f l a S pins -> S w -> wpAny P .any ops Q f l a w
 | 0,l,a,S,_,w,h,hw=>⟨h.1,h.2 w hw⟩
 | f + 1,l,a,S,pins,w,h,hw=>by
  refine ⟨fun h0=>h.1 h0 w hw,fun i hi=>?_⟩
  obtain ⟨o,ho⟩:=Ev.ready_op hi
  obtain ⟨h0,h1⟩:=h.2 i hi o ho
  unfold wpOp
  rw [ho]
  simp only
  by_cases hl : eff o.op = false
  ·obtain ⟨v,hy,hn⟩:=h0 hl
   rcases hy with ⟨hwant,hy⟩ | ⟨hwant,rfl⟩
   ·rw [if_pos hwant]
    refine .inl (Ev.resE_wp (K:=fun u w'=>u = v /\ w' = w) (by rw [hy w hw]; exact ⟨rfl,rfl⟩) fun u w' ⟨hu,hb⟩=>?_)
    subst hu; subst hb
    exact AnyP.sound f _ _ S _ w' hn hw
   ·rw [if_neg (by rw [hwant]; simp)]
    exact AnyP.sound f _ _ S _ w hn hw
  ·rcases h1 (by simpa using hl) w hw with ⟨hwant,hd⟩ | ⟨hwant,S',_,hS',hn⟩
   ·rw [if_pos hwant]
    refine .inl (Ev.resE_wp hd fun u w' ⟨S',_,hS',hn⟩=>?_)
    exact AnyP.sound f _ _ S' _ w' hn hS'
   ·rw [if_neg (by rw [hwant]; simp)]
    exact AnyP.sound f _ _ S' _ w hn hS'
theorem does_mono {o : Oper} {a : Act} {w : World} {K K' : Value -> World -> Prop} (hK : ∀ v w,K v w -> K' v w) (h : Ev.Does P ops o a w K) : Ev.Does P ops o a w K':=Ev.Does.mono hK h
theorem unpin_sub {i : Nat} {pins pins' : List PinY} (h : ∀ p ∈ pins',p ∈ pins) : ∀ p ∈ unpin i pins',p ∈ unpin i pins:=fun p hp=>by
 unfold unpin at *
 rw [List.mem_filter] at *
 exact ⟨h p hp.1,hp.2⟩
theorem AnyP.sub : ∀ (f : Nat) (l : Array Bool) (a : Act) (S : World -> Prop) (pins pins' : List PinY),(∀ p ∈ pins',p ∈ pins) -> AnyP P ops Q f l a S pins -> AnyP P ops Q f l a S pins'
 | 0,_,_,_,_,_,_,h=>h
 | f + 1,l,a,S,pins,pins',hs,h=>by
  refine ⟨h.1,fun i hi o ho=>?_⟩
  obtain ⟨h0,h1⟩:=h.2 i hi o ho
  refine ⟨fun hl=>?_,fun hl w hw=>does_mono (fun v w' ⟨S',h2,h3,h4⟩=>⟨S',fun p hp=>h2 p (unpin_sub hs p hp),h3,AnyP.sub f _ _ _ _ _ (unpin_sub hs) h4⟩) (h1 hl w hw)⟩
  obtain ⟨v,hy,hn⟩:=h0 hl
  exact ⟨v,hy,AnyP.sub f _ _ _ _ _ (unpin_sub hs) hn⟩
theorem AnyP.first {i : Nat} {oi : Oper} {v : Value} {D : List Nat} {Y : World -> Prop} (hi : ops[i]? = some oi) (hli : eff oi.op = false) (hsel : Region.noSelect ops = true) :
  ∀ (f : Nat) (l : Array Bool) (a : Act) (S : World -> Prop) (pins : List PinY),
   (∀ j oj,ops[j]? = some oj -> j ≠ i -> l.getD j true = false -> (∀ e ∈ oj.after,Region.binds .any e = true -> e.on ≠ i) -> oi.apart ops oj = true) ->
   (∀ j ∈ D,l.getD j false = false /\ ∃ oj,ops[j]? = some oj /\ ∃ e ∈ oj.after,Region.binds .any e = true /\ (e.on = i \/ e.on ∈ D)) ->
   Yields P ops Y oi v a -> (∀ w,S w -> Y w) -> i ∈ Region.ready .any ops l -> AnyP P ops Q f (l.setIfInBounds i true) (a.put oi.dst v) S (⟨i,D,Y⟩ :: pins) -> AnyP P ops Q (f + 1) l a S pins:=by
 intro f
 induction f with
 | zero =>
  intro l a S pins _ _ hY hSY hr H
  refine ⟨fun h0=>(by rw [h0] at hr; cases hr),fun j hj o ho=>?_⟩
  by_cases hji : j = i
  ·subst hji
   rw [hi] at ho; cases ho
   exact ⟨fun _=>⟨v,hY.mono hSY,H⟩,fun h=>by rw [hli] at h; cases h⟩
  ·have:=ready_mono hj hji
   rw [H.1] at this
   cases this
 | succ f ih =>
  intro l a S pins hfree hD hY hSY hr H
  refine ⟨fun h0=>(by rw [h0] at hr; cases hr),fun j hj oj hoj=>?_⟩
  by_cases hji : j = i
  ·subst hji
   rw [hi] at hoj; cases hoj
   refine ⟨fun _=>⟨v,hY.mono hSY,?_⟩,fun h=>by rw [hli] at h; cases h⟩
   refine AnyP.sub _ _ _ _ _ _ (fun p hp=>?_) H
   unfold unpin at hp
   exact List.mem_cons_of_mem _ (List.mem_filter.1 hp).1
  ·obtain ⟨hjun,oj',hoj',hall⟩:=mem_ready.1 hj
   rw [hoj] at hoj'; cases hoj'
   have hiun:=(mem_ready.1 hr).1
   have ilist : l.getD i false = false:=by
    have hlt : i < l.size:=by
     rcases Nat.lt_or_ge i l.size with h' | h'
     ·exact h'
     ·simp [Array.getElem?_eq_none h'] at hiun
    simp [hlt] at hiun ⊢; exact hiun
   have hnot : ∀ e ∈ oj.after,Region.binds .any e = true -> e.on ≠ i:=fun e he hb heq=>by
    have h1:=hall e he hb
    rw [heq,ilist] at h1; cases h1
   have hjD : D.any (Nat.beq j) = false:=by
    rw [List.any_eq_false]
    intro x hx e
    have:=Nat.eq_of_beq_eq_true e
    subst this
    obtain ⟨_,oj2,ho2,ed,he,hb,h3⟩:=hD j hx
    rw [hoj] at ho2; cases ho2
    rcases h3 with h3 | h3
    ·exact hnot ed he hb h3
    ·have h4:=hall ed he hb
     rw [(hD _ h3).1] at h4; cases h4
   have hjD' : j ∉ D:=fun hm=>by
    rw [List.any_eq_false] at hjD
    exact hjD j hm (Nat.beq_refl j)
   have hun : unpin j (⟨i,D,Y⟩ :: pins) = ⟨i,D,Y⟩ :: unpin j pins:=by
    unfold unpin
    rw [List.filter_cons,if_pos (by simp only [hjD]; rfl)]
   have hap:=hfree j oj hoj hji hjun hnot
   obtain ⟨a1,a2,a3⟩:=Oper.apart_spec hap
   have hsi:=fun cs b=>Region.noSelect_spec hsel i oi cs b hi
   have hsj:=fun cs b=>Region.noSelect_spec hsel j oj cs b hoj
   have ej : execOp (a.put oi.dst v).eval oj = execOp a.eval oj:=execOp_put oj hsj a oi.dst v a1
   have wj : Region.wanted oj (yielded ops (a.put oi.dst v).tmps) = Region.wanted oj (yielded ops a.tmps):=wanted_put oj a oi.dst v a1
   have ei : ∀ u,execOp (a.put oj.dst u).eval oi = execOp a.eval oi:=fun u=>execOp_put oi hsi a oj.dst u a3
   have wi : ∀ u,Region.wanted oi (yielded ops (a.put oj.dst u).tmps) = Region.wanted oi (yielded ops a.tmps):=fun u=>wanted_put oi a oj.dst u a3
   have hfree' : ∀ k ok,ops[k]? = some ok -> k ≠ i -> (l.setIfInBounds j true).getD k true = false -> (∀ e ∈ ok.after,Region.binds .any e = true -> e.on ≠ i) -> oi.apart ops ok = true:=fun k ok hk hki hun hno=>by
    refine hfree k ok hk hki ?_ hno
    by_cases hjk : j = k
    ·subst hjk; exact hjun
    ·rw [getD_set_ne true hjk] at hun; exact hun
   have hD' : ∀ k ∈ D,(l.setIfInBounds j true).getD k false = false /\ ∃ oj,ops[k]? = some oj /\ ∃ e ∈ oj.after,Region.binds .any e = true /\ (e.on = i \/ e.on ∈ D):=fun k hk=>by
    refine ⟨?_,(hD k hk).2⟩
    rw [getD_set_ne false (fun e=>hjD' (by rw [e]; exact hk))]
    exact (hD k hk).1
   obtain ⟨h0,h1⟩:=H.2 j (ready_mono hj hji) oj hoj
   rw [hun] at h0 h1
   refine ⟨fun hl=>?_,fun hl w hw=>?_⟩
   ·obtain ⟨u,hu,hn⟩:=h0 hl
    refine ⟨u,hu.of_same ej.symm wj.symm,?_⟩
    refine ih (l.setIfInBounds j true) (a.put oj.dst u) S (unpin j pins) hfree' hD' (hY.of_same (ei u) (wi u)) hSY (ready_mono hr (Ne.symm hji)) ?_
    rw [Array.setIfInBounds_comm _ _ hji,← Act.put_comm a v u a2]
    exact hn
   ·have hd:=h1 hl w hw
    unfold Ev.Does at hd ⊢
    rw [ej,wj] at hd
    have step : ∀ u w',(∃ S' : World -> Prop,(∀ p ∈ ⟨i,D,Y⟩ :: unpin j pins,∀ w,S' w -> p.Y w) /\ S' w' /\ AnyP P ops Q f ((l.setIfInBounds i true).setIfInBounds j true) ((a.put oi.dst v).put oj.dst u) S' (⟨i,D,Y⟩ :: unpin j pins)) ->
      ∃ S' : World -> Prop,(∀ p ∈ unpin j pins,∀ w,S' w -> p.Y w) /\ S' w' /\ AnyP P ops Q (f + 1) (l.setIfInBounds j true) (a.put oj.dst u) S' (unpin j pins):=by
     rintro u w' ⟨S',hS',hw',hn⟩
     refine ⟨S',fun p hp=>hS' p (List.mem_cons_of_mem _ hp),hw',ih (l.setIfInBounds j true) (a.put oj.dst u) S' (unpin j pins) hfree' hD' (hY.of_same (ei u) (wi u)) (hS' _ List.mem_cons_self) (ready_mono hr (Ne.symm hji)) ?_⟩
     rw [Array.setIfInBounds_comm _ _ hji,← Act.put_comm a v u a2]
     exact hn
    rcases hd with ⟨hw1,hd⟩ | ⟨hw1,hd⟩
    ·exact .inl ⟨hw1,Ev.resE_mono step hd⟩
    ·exact .inr ⟨hw1,step _ _ hd⟩
end
end Go.Proofs.YtnbngokbamifbaaGreatDoor.Pw

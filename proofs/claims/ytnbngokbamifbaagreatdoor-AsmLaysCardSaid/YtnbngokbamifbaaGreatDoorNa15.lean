/- What a law is proved with. -/
import Derived.Test.YtnbngokbamifbaaGreatDoorNa11
import Derived.Test.YtnbngokbamifbaaGreatDoorNa12
import Derived.Test.YtnbngokbamifbaaGreatDoorNa13
import Derived.Test.YtnbngokbamifbaaGreatDoorNaImmD
import Derived.Test.YtnbngokbamifbaaGreatDoorNa14
set_option linter.unusedVariables false
set_option linter.unusedSimpArgs false
namespace Go.Proofs.YtnbngokbamifbaaGreatDoor.Pw
open Go Go.RowKit
theorem entersT {f : FuncId} {fn : Func} {c : Code} (hf : Tryz.prog.funcs[f]? = some fn) (hb : fn.body = some c) (hn : (fn.name == "runtime.NumGoroutine") = false) : Ev.Enters gT.cx.P f:=Ev.enters_of hf hb hn
theorem isLn {w : World} {I : Nat -> Prop} {β : Places} : IsL w I [] β []:=by simp only [IsL]
theorem isLc {w : World} {I : Nat -> Prop} {β : Places} {x : PV} {v : Value} {xs : List PV} {vs : List Value} (h : x.Is w I β v) (h' : IsL w I xs β vs) : IsL w I (x :: xs) β (v :: vs):=by simp only [IsL]; exact ⟨h,h'⟩
theorem is_int {w : World} {I : Nat -> Prop} {β : Places} (k : IntKind) (n : Int) : (PV.int k n).Is w I β (.int k n):=by simp only [PV.Is]
theorem is_tup {w : World} {I : Nat -> Prop} {β : Places} {xs : List PV} {vs : Array Value} (h : IsL w I xs β vs.toList) : (PV.tup xs).Is w I β (.tuple vs):=by simp only [PV.Is]; exact ⟨vs,rfl,h⟩
theorem is_agg {w : World} {I : Nat -> Prop} {β : Places} {xs : List PV} {vs : Array Value} (h : IsL w I xs β vs.toList) : (PV.agg xs).Is w I β (.agg vs):=by simp only [PV.Is]; exact ⟨vs,rfl,h⟩
theorem isL0 {w : World} {I : Nat -> Prop} {β : Places} {vals : List Value} (h : IsL w I [] β vals) : vals = []:=by
 cases vals with
 | nil=>rfl
 | cons=>simp only [IsL] at h
theorem isL1 {w : World} {I : Nat -> Prop} {β : Places} {x : PV} {vals : List Value} (h : IsL w I [x] β vals) : ∃ v,vals = [v] /\ x.Is w I β v:=by
 match vals,h with
 | [v],h=>exact ⟨v,rfl,by simpa only [IsL,and_true] using h⟩
theorem tab_row {G : Gx} {I : Nat -> Prop} {w : World} (hM : ImmOk G I w) {g : Nat} {k : IntKind} {l : List Int} (h : (g,l.map (PV.lit k)) ∈ G.tabs) : ∃ ty fr,w.heap[g]? = some (.cells (l.map (Value.int k)).toArray ty fr):=by
 obtain ⟨arr,ty,fr,h1,h2⟩:=hM.row _ _ h
 obtain ⟨_,h3⟩:=hM.tab _ _ h
 refine ⟨ty,fr,?_⟩
 rw [h1]
 congr 2
 refine Array.ext' (List.ext_getElem? fun i=>?_)
 rw [List.length_map] at h2
 by_cases hi : i < l.length
 ·obtain ⟨v,hv,hiv,_⟩:=h3.get (i:=i) (c:=PV.lit k l[i]) (by simp [hi])
  rw [Ev.cells_of h1,Nat.zero_add] at hv
  simp only [PV.Is] at hiv
  subst hiv
  simp only [Array.getElem?_toList,hv,List.getElem?_map,List.getElem?_eq_getElem hi,Option.map_some]
 ·rw [List.getElem?_eq_none (by simp; omega),List.getElem?_eq_none (by simp; omega)]
theorem PureF.of_at {G : Gx} {f : FuncId} {args : List PV} {r : PV} (he : Ev.Enters G.cx.P f)
  (h : ∀ I β w vals,ImmOk G I w -> IsL w I args β vals -> ∃ v,r.Is w I no v /\ (∀ w' I' β',r.Is w' I' β' v) /\ Calls G.cx.P f vals.toArray w fun e w'=>e = .returned v /\ Below w.heap.size w w') : PureF G f args r:=by
 refine Spec.intro he fun I β w vals hH hM hA=>?_
 obtain ⟨v,_,hr,hc⟩:=h I β w vals hM hA
 refine hc.mono fun e w' ⟨he,hB⟩=>⟨v,r,[],I,β,he,rfl,hr _ _ _,hH.none0 _ _,hM.below hB,⟨hB.os,hB.tape,hB.output,hB.size,fun g hg _=>hB.block g hg,fun g _ h=>h,fun _ h=>h,fun _ _ h=>.inl h⟩,Nat.le_refl _,fun _ _ _=>rfl⟩
theorem wr1 : IntKind.i64.wrap (0 + 1) = 1:=by decide
end Go.Proofs.YtnbngokbamifbaaGreatDoor.Pw
namespace Go.Proofs.YtnbngokbamifbaaGreatDoor.Pw
open Go Go.RowKit
structure IN where
 form : Int
 rd : Int
 rn : Int
 rm : Int
 ra : Int
 imm : Int
 kind : Int
 by_ : Int
 set : Int
 cond : Int
 regs : Int
def inFs (i : IN) : List PV:=[.int .i64 i.form,.int .i64 i.rd,.int .i64 i.rn,.int .i64 i.rm,.int .i64 i.ra,.int .i64 i.imm,.int .i64 i.kind,.int .i64 i.by_,.int .i64 i.set,.int .i64 i.cond,.int .i64 i.regs]
def inP (i : IN) : PV:=.agg (inFs i)
def insP (l : List IN) : List PV:=l.map inP
def iZ : IN:=⟨0,0,0,0,0,0,0,0,0,0,0⟩
theorem facOf {I : Nat -> Prop} {w : World} (hM : ImmOk gT I w) : Fac w :=
 tab_row hM (g:=1) (k:=.u32) (l:=[1,65537,16777472,16843009]) (show (1,facP) ∈ gT.tabs from List.mem_cons_self)
end Go.Proofs.YtnbngokbamifbaaGreatDoor.Pw
set_option linter.unusedVariables false
namespace Go.Proofs.YtnbngokbamifbaaGreatDoor.Pw
open Go Go.RowKit
structure AI where
 kind : Int
 inst : IN
 cond : Int
 label : Int
 to_ : Int
def bytesA (x : AI) (w : Bool) (a : Int) : Int :=
 if x.kind = 1 then (if 47 < x.inst.form then 4 else 2) else if x.kind = 2 then (if w then 4 else 2) else if x.kind = 4 then (x.to_ - a % x.to_) % x.to_ else 0
def endA : List AI -> List Bool -> Int -> Int
 | x :: l,w :: W,a=>endA l W (a + bytesA x w a)
 | _,_,a=>a
theorem endA_snoc (x : AI) (w : Bool) : ∀ (l : List AI) (W : List Bool) (a : Int),W.length = l.length -> endA (l ++ [x]) (W ++ [w]) a = endA l W a + bytesA x w (endA l W a):=by
 intro l
 induction l with
 | nil =>
  intro W a h
  obtain rfl : W = []:=List.eq_nil_of_length_eq_zero h
  rfl
 | cons y l ih =>
  intro W a h
  cases W with
  | nil=>cases h
  | cons v W=>exact ih W (a + bytesA y v a) (by simpa using h)
def atA (l : List AI) (W : List Bool) (i : Nat) : Int:=endA (l.take i) (W.take i) 0
theorem atA_zero (l : List AI) (W : List Bool) : atA l W 0 = 0:=rfl
theorem atA_succ {l : List AI} {W : List Bool} {i : Nat} {x : AI} {w : Bool} (hl : W.length = l.length) (hx : l[i]? = some x) (hw : W[i]? = some w) : atA l W (i + 1) = atA l W i + bytesA x w (atA l W i):=by
 unfold atA
 have h1 : l.take (i + 1) = l.take i ++ [x]:=by rw [List.take_add_one,hx]; rfl
 have h2 : W.take (i + 1) = W.take i ++ [w]:=by rw [List.take_add_one,hw]; rfl
 rw [h1,h2]
 exact endA_snoc _ _ _ _ _ (by rw [List.length_take,List.length_take,hl])
theorem atA_end {l : List AI} {W : List Bool} (hl : W.length = l.length) {i : Nat} (h : l.length <= i) : atA l W i = endA l W 0:=by
 unfold atA
 rw [List.take_of_length_le h,List.take_of_length_le (by omega)]
structure ItOk (x : AI) : Prop where
 kind : 1 <= x.kind /\ x.kind <= 4
 to_ : x.kind = 4 -> x.to_ = 4 \/ x.to_ = 8 \/ x.to_ = 16
theorem bytesA_bd {x : AI} (h : ItOk x) (w : Bool) {a : Int} (ha : 0 <= a /\ a % 2 = 0) : 0 <= bytesA x w a /\ bytesA x w a <= 16 /\ bytesA x w a % 2 = 0:=by
 unfold bytesA
 split
 ·split <;> omega
 split
 ·cases w <;> simp
 split
 ·rename_i h4
  rcases h.to_ h4 with e | e | e <;> rw [e] <;> omega
 ·omega
theorem atA_bd {l : List AI} {W : List Bool} (hl : W.length = l.length) (hI : ∀ x ∈ l,ItOk x) : ∀ i,i <= l.length -> 0 <= atA l W i /\ atA l W i <= 16 * i /\ atA l W i % 2 = 0
 | 0,_=>by rw [atA_zero]; omega
 | i + 1,h=>by
  have ih:=atA_bd hl hI i (by omega)
  have hx : l[i]? = some l[i]:=List.getElem?_eq_getElem (by omega)
  have hw : W[i]? = some W[i]:=List.getElem?_eq_getElem (by omega)
  rw [atA_succ hl hx hw]
  have:=bytesA_bd (hI l[i] (List.getElem_mem _)) W[i] ⟨ih.1,ih.2.2⟩
  omega
theorem atA_mono {l : List AI} {W : List Bool} (hl : W.length = l.length) (hI : ∀ x ∈ l,ItOk x) : ∀ i j,i <= j -> j <= l.length -> atA l W i <= atA l W j:=by
 intro i j hij
 induction j with
 | zero =>
  intro _
  obtain rfl : i = 0:=by omega
  exact Int.le_refl _
 | succ j ih =>
  intro hj
  rcases Nat.eq_or_lt_of_le hij with e | e
  ·subst e; exact Int.le_refl _
  ·have h1:=ih (by omega) (by omega)
   have hx : l[j]? = some l[j]:=List.getElem?_eq_getElem (by omega)
   have hw : W[j]? = some W[j]:=List.getElem?_eq_getElem (by omega)
   have h2:=atA_bd hl hI j (by omega)
   rw [atA_succ hl hx hw]
   have:=bytesA_bd (hI l[j] (List.getElem_mem _)) W[j] ⟨h2.1,h2.2.2⟩
   omega
def isMark (k : Int) (y : AI) : Bool:=decide (y.kind = 3) && decide (y.label = k)
def farA (l : List AI) (W : List Bool) (i : Nat) (x : AI) : Int:=match l.findIdx? (isMark x.label) with
 | some k=>atA l W k - atA l W i - 4
 | none=>0
def shortA (cond n : Int) : Bool:=if cond < 0 then decide (-2048 <= n /\ n <= 2047) else decide (-256 <= n /\ n <= 255)
def nextB (l : List AI) (W : List Bool) (i : Nat) (x : AI) (w : Bool) : Bool:=w || (decide (x.kind = 2) && !shortA x.cond (farA l W i x))
def nextA (l : List AI) (W : List Bool) : List Bool:=(List.zip l W).mapIdx fun i p=>nextB l W i p.1 p.2
theorem nextA_len {l : List AI} {W : List Bool} (hl : W.length = l.length) : (nextA l W).length = l.length:=by simp [nextA,hl]
theorem nextA_get {l : List AI} {W : List Bool} {i : Nat} {x : AI} {w : Bool} (hx : l[i]? = some x) (hw : W[i]? = some w) : (nextA l W)[i]? = some (nextB l W i x w):=by
 unfold nextA
 rw [List.getElem?_mapIdx]
 have : (List.zip l W)[i]? = some (x,w):=by rw [List.getElem?_zip_eq_some]; exact ⟨hx,hw⟩
 rw [this]; rfl
def narrowN (W : List Bool) : Nat:=W.count false
theorem count_le : ∀ {V W : List Bool},V.length = W.length -> (∀ i : Nat,W[i]? = some true -> V[i]? = some true) -> V.count false <= W.count false /\ (V.count false = W.count false -> V = W)
 | [],[],_,_=>by simp
 | v :: V,w :: W,hl,h=>by
  have h0 : w = true -> v = true:=fun e=>by simpa using h 0 (by simpa using e)
  obtain ⟨h1,h2⟩:=count_le (V:=V) (W:=W) (by simpa using hl) fun i hi=>by simpa using h (i + 1) (by simpa using hi)
  cases v <;> cases w <;> simp at h0 ⊢
  ·exact ⟨by omega,fun e=>h2 (by omega)⟩
  ·omega
  ·exact ⟨by omega,fun e=>h2 (by omega)⟩
theorem nextA_up {l : List AI} {W : List Bool} (hl : W.length = l.length) : ∀ i : Nat,W[i]? = some true -> (nextA l W)[i]? = some true:=fun i hi=>by
 have hlt : i < l.length:=by rw [← hl]; exact (List.getElem?_eq_some_iff.1 hi).1
 rw [nextA_get (List.getElem?_eq_getElem hlt) hi]; rfl
theorem nextA_less {l : List AI} {W : List Bool} (hl : W.length = l.length) (h : nextA l W ≠ W) : narrowN (nextA l W) < narrowN W:=by
 obtain ⟨h1,h2⟩:=count_le (by rw [nextA_len hl,hl]) (nextA_up hl)
 unfold narrowN
 rcases Nat.lt_or_ge ((nextA l W).count false) (W.count false) with h3 | h3
 ·exact h3
 ·exact absurd (h2 (by omega)) h
def layA (l : List AI) : Nat -> List Bool -> Int -> Option (Option (List Bool × Int))
 | 0,_,_=>none
 | n + 1,W,r=>if 65536 < endA l W 0 then some none else if nextA l W = W then some (some (W,r)) else layA l n (nextA l W) (r + 1)
theorem layA_some (l : List AI) : ∀ (n : Nat) (W : List Bool) (r : Int),W.length = l.length -> narrowN W < n -> (layA l n W r).isSome = true
 | 0,W,r,_,h=>by omega
 | n + 1,W,r,hl,h=>by
  rw [layA]
  split
  ·rfl
  split
  ·rfl
  ·rename_i hne
   have:=nextA_less hl hne
   exact layA_some l n _ _ (nextA_len hl) (by omega)
def marksT (l : List AI) (W : List Bool) : Nat -> List (Int × Int)
 | 0=>[]
 | i + 1=>marksT l W i ++ (match l[i]? with
  | some x=>if x.kind = 3 then [(x.label,atA l W i)] else []
  | none=>[])
theorem marksT_mem {l : List AI} {W : List Bool} {p : Int × Int} : ∀ {i : Nat},p ∈ marksT l W i -> ∃ j x,j < i /\ l[j]? = some x /\ x.kind = 3 /\ p = (x.label,atA l W j)
 | 0,h=>by simp [marksT] at h
 | i + 1,h=>by
  rw [marksT,List.mem_append] at h
  rcases h with h | h
  ·obtain ⟨j,x,h1,h2⟩:=marksT_mem h
   exact ⟨j,x,by omega,h2⟩
  ·split at h
   ·rename_i x hx
    split at h
    ·rename_i hk
     rw [List.mem_singleton] at h
     exact ⟨i,x,by omega,hx,hk,h⟩
    ·simp at h
   ·simp at h
theorem mem_marksT {l : List AI} {W : List Bool} {j : Nat} {x : AI} (hx : l[j]? = some x) (hk : x.kind = 3) : ∀ {i : Nat},j < i -> (x.label,atA l W j) ∈ marksT l W i
 | i + 1,h=>by
  rw [marksT,List.mem_append]
  rcases Nat.lt_or_ge j i with h' | h'
  ·exact .inl (mem_marksT hx hk h')
  ·obtain rfl : j = i:=by omega
   rw [hx]
   simp only
   rw [if_pos hk]
   exact .inr (List.mem_singleton.2 rfl)
theorem marksT_len (l : List AI) (W : List Bool) : ∀ i,(marksT l W i).length <= i
 | 0=>Nat.le_refl _
 | i + 1=>by
  have:=marksT_len l W i
  rw [marksT,List.length_append]
  split
  ·split <;> simp <;> omega
  ·simp; omega
theorem lkM_app {k v : Int} (M : List (Int × Int)) (L : List (Int × Int)) (hm : ∃ p ∈ M,p.1 = k) (hv : ∀ p ∈ M,p.1 = k -> p.2 = v) : lkM (L ++ M) k = v:=by
 unfold lkM
 rw [List.foldl_append]
 have key : ∀ (M : List (Int × Int)) (a : Int),(∀ p ∈ M,p.1 = k -> p.2 = v) -> ((∃ p ∈ M,p.1 = k) \/ a = v) -> M.foldl (fun a x=>if x.1 = k then x.2 else a) a = v:=by
  intro M
  induction M with
  | nil=>intro a _ h; exact h.elim (fun ⟨p,hp,_⟩=>by simp at hp) id
  | cons p M ih =>
   intro a hv h
   rw [List.foldl_cons]
   refine ih _ (fun q hq=>hv q (by simp [hq])) ?_
   by_cases hp : p.1 = k
   ·rw [if_pos hp]; exact .inr (hv p (by simp) hp)
   ·rw [if_neg hp]
    rcases h with ⟨q,hq,hqk⟩ | h
    ·rcases List.mem_cons.1 hq with rfl | hq
     ·exact absurd hqk hp
     ·exact .inl ⟨q,hq,hqk⟩
    ·exact .inr h
 exact key M _ hv (.inl hm)
def cntA (l : List AI) (k : Int) : Nat:=l.countP (isMark k)
theorem one_mark {l : List AI} {k : Int} : ∀ (_ : cntA l k = 1),∃ m x,l.findIdx? (isMark k) = some m /\ l[m]? = some x /\ isMark k x = true /\ ∀ j y,l[j]? = some y -> isMark k y = true -> j = m:=by
 unfold cntA
 induction l with
 | nil=>intro h; simp at h
 | cons x l ih =>
  intro h
  rw [List.countP_cons] at h
  rw [List.findIdx?_cons]
  cases hx : isMark k x with
  | true =>
   rw [hx] at h
   have h0 : l.countP (isMark k) = 0:=by simpa using h
   refine ⟨0,x,by simp,rfl,hx,fun j y hj hy=>?_⟩
   cases j with
   | zero=>rfl
   | succ j =>
    have hm : y ∈ l:=List.mem_of_getElem? (by simpa using hj)
    exact absurd hy (by simpa using List.countP_eq_zero.1 h0 y hm)
  | false =>
   rw [hx] at h
   obtain ⟨m,z,h1,h2,h3,h4⟩:=ih (by simpa using h)
   refine ⟨m + 1,z,by simp [h1],by simpa using h2,h3,fun j y hj hy=>?_⟩
   cases j with
   | zero =>
    have : x = y:=by simpa using hj
    subst this
    rw [hx] at hy; cases hy
   | succ j=>rw [h4 j y (by simpa using hj) hy]
theorem isMark_iff {k : Int} {y : AI} : isMark k y = true ↔ y.kind = 3 /\ y.label = k:=by simp [isMark]
theorem lk_far {l : List AI} {W : List Bool} (L : List (Int × Int)) {i : Nat} {x : AI} (hc : cntA l x.label = 1) : lkM (L ++ marksT l W l.length) x.label - atA l W i - 4 = farA l W i x:=by
 obtain ⟨m,y,h1,h2,h3,h4⟩:=one_mark hc
 obtain ⟨k1,k2⟩:=isMark_iff.1 h3
 unfold farA
 rw [h1]
 simp only
 rw [lkM_app (v:=atA l W m)]
 ·exact ⟨(y.label,atA l W m),mem_marksT h2 k1 (List.getElem?_eq_some_iff.1 h2).1,k2⟩
 ·rintro p hp hpk
  obtain ⟨j,z,hj,hz,hk,rfl⟩:=marksT_mem hp
  rw [h4 j z hz (isMark_iff.2 ⟨hk,hpk⟩)]
end Go.Proofs.YtnbngokbamifbaaGreatDoor.Pw
namespace Go.Proofs.YtnbngokbamifbaaGreatDoor.Pw
open Go Go.RowKit
theorem form_is (f : Int) : PureF gT 131 [.int .i64 f] (.bool (1 <= f /\ f <= 100)):=by
 refine Spec.enter gTok P131 100 Tryz.func131 rfl (by kernel_rfl) ?_
 repeat' ((conv=>whnf); first | (refine (And.intro (fun _=>?_) (fun _=>?_) : (_ -> _) /\ (_ -> _)) <;> (first | (exfalso; first | contradiction | omega) | skip)) | refine Or.inl (And.intro (by first | exact inR_i64 (by omega) | exact inR_u32 (by omega) | exact inR_u64 (by omega) | exact inR_u8 (by omega)) ?_) | (refine And.intro (show (_ : Int) ≠ 0 by omega) (Or.inl (And.intro (show (0 : Int) <= _ by omega) (And.intro (show (0 : Int) < _ by omega) ?_)))) | (refine And.intro (show (_ : Int) ≠ 0 by omega) (Or.inl (And.intro (show (0 : Int) <= _ by omega) (And.intro (by first | exact (show (_ : Int) <= 9223372036854775807 by omega) | exact (show (_ : Int) <= 4294967295 by omega)) (And.intro (show (0 : Int) < _ by omega) ?_))))) | (refine retE ?_; show _ ↔ _; omega) | (refine retE ?_; show ¬ _; omega) | (intro _))
theorem form_wide (f : Int) : PureF gT 85 [.int .i64 f] (.bool (48 <= f /\ f <= 100)):=by
 refine Spec.enter gTok P85 100 Tryz.func85 rfl (by kernel_rfl) ?_
 refine ⟨[],no_rl,(form_is f).use (by repeat' first|exact trivial|exact rfl|exact Iff.rfl|refine And.intro ?_ ?_) rfl rfl ?_⟩
 repeat' ((conv=>whnf); first | (refine (And.intro (fun _=>?_) (fun _=>?_) : (_ -> _) /\ (_ -> _)) <;> (first | (exfalso; first | contradiction | omega) | skip)) | refine Or.inl (And.intro (by first | exact inR_i64 (by omega) | exact inR_u32 (by omega) | exact inR_u64 (by omega) | exact inR_u8 (by omega)) ?_) | (refine And.intro (show (_ : Int) ≠ 0 by omega) (Or.inl (And.intro (show (0 : Int) <= _ by omega) (And.intro (show (0 : Int) < _ by omega) ?_)))) | (refine And.intro (show (_ : Int) ≠ 0 by omega) (Or.inl (And.intro (show (0 : Int) <= _ by omega) (And.intro (by first | exact (show (_ : Int) <= 9223372036854775807 by omega) | exact (show (_ : Int) <= 4294967295 by omega)) (And.intro (show (0 : Int) < _ by omega) ?_))))) | (refine retE ?_; show _ ↔ _; omega) | (refine retE ?_; show ¬ _; omega) | (intro _))
def shL : List Int:=[0,1,1,1,2,2,3,3,4,4,4,4,5,5,5,5,5,5,5,5,5,5,5,5,5,5,5,5,6,6,6,7,8,2,2,9,9,8,8,8,10,10,11,12,13,14,15,16,17,17,18,18,18,18,18,18,18,18,18,18,19,19,20,20,20,20,21,21,21,21,21,21,21,21,21,21,22,22,23,23,23,23,24,24,25,25,26,26,27,27,27,27,28,29,30,31,31,28,32,33,34]
def shapeV (f : Int) : Int:=if 1 <= f /\ f <= 100 then shL.getD f.toNat 0 else 0
theorem shape_at {f : Int} (h : 1 <= f /\ f <= 100) {c : PV} (hc : (shL.map (PV.lit .i64))[f.toNat]? = some c) : c = .lit .i64 (shapeV f):=by
 rw [List.getElem?_map,Option.map_eq_some_iff] at hc
 obtain ⟨z,hz,rfl⟩:=hc
 unfold shapeV
 rw [if_pos h,List.getD_eq_getElem?_getD,hz]; rfl
set_option maxRecDepth 100000 in
theorem shape_pure (f : Int) : PureF gT 149 [.int .i64 f] (.int .i64 (shapeV f)):=by
 refine Spec.enter gTok P149 100 Tryz.func149 rfl (by kernel_rfl) ?_
 refine ⟨[],no_rl,(form_is f).use (by repeat' first|exact trivial|exact rfl|exact Iff.rfl|refine And.intro ?_ ?_) rfl rfl ?_⟩
 refine And.intro (fun h=>?_) (fun h=>?_)
 ·refine retE ?_
  exact (show (0 : Int) = shapeV f by unfold shapeV; rw [if_neg h])
 have h':=Classical.not_not.1 h
 refine ⟨by omega,show f < 101 by omega,.inr ⟨rfl,by omega,show 0 + f.toNat * 1 < 101 by omega,fun c hc=>?_⟩⟩
 have hc' : (shL.map (PV.lit .i64))[f.toNat]? = some c:=by
  have e : 0 + f.toNat * 1 = f.toNat:=by omega
  have h0 : (shL.map (PV.lit .i64))[0 + f.toNat * 1]? = some c:=hc
  rwa [e] at h0
 obtain rfl:=shape_at h' hc'
 exact retE rfl
structure RU where
 rd : Int
 rn : Int
 rm : Int
 ra : Int
 i0 : Int
 i1 : Int
 i2 : Int
 b0 : Int
 b1 : Int
 b2 : Int
 kind : Bool
 set : Bool
 cond : Bool
 regs : Int
def ruF (r : RU) : List PV:=[.int .i64 r.rd,.int .i64 r.rn,.int .i64 r.rm,.int .i64 r.ra,.int .i64 r.i0,.int .i64 r.i1,.int .i64 r.i2,.int .i64 r.b0,.int .i64 r.b1,.int .i64 r.b2,.bool (r.kind = true),.bool (r.set = true),.bool (r.cond = true),.int .i64 r.regs]
def ruP (r : RU) : PV:=.agg (ruF r)
def r0U : RU:=⟨0,0,0,0,0,0,0,0,0,0,false,false,false,0⟩
def ruN (s : Int) : RU :=
 if s = 1 then { r0U with rd:=1,rm:=1,i0:=0,i1:=32,i2:=1 } else if s = 2 then { r0U with rd:=1,rn:=1,rm:=1 } else if s = 3 then { r0U with rd:=1,rn:=1,i1:=7,i2:=1 }
 else if s = 4 then { r0U with rd:=1,i1:=255,i2:=1 } else if s = 5 then { r0U with rd:=1,rm:=1 } else if s = 6 then { r0U with rd:=2,rm:=2 } else if s = 7 then { r0U with rm:=2 }
 else if s = 8 then { r0U with rd:=1,i1:=1020,i2:=4 } else if s = 9 then { r0U with rd:=1,rn:=1,i1:=124,i2:=4 } else if s = 10 then { r0U with i1:=508,i2:=4 } else if s = 11 then { r0U with regs:=16639 } else if s = 12 then { r0U with regs:=33023 }
 else if s = 13 then r0U else if s = 14 then { r0U with i1:=255,i2:=1 } else if s = 15 then { r0U with cond:=true,i0:=-256,i1:=254,i2:=2 } else if s = 16 then { r0U with i0:=-2048,i1:=2046,i2:=2 } else r0U
def ruW (s : Int) : RU :=
 if s = 17 then { r0U with rd:=3,i1:=65535,i2:=1 } else if s = 18 then { r0U with rd:=3,rn:=3,i1:=4095,i2:=1,set:=true } else if s = 19 then { r0U with rd:=3,i1:=4095,i2:=1,set:=true } else if s = 20 then { r0U with rn:=3,i1:=4095,i2:=1 }
 else if s = 21 then { r0U with rd:=3,rn:=3,rm:=3,kind:=true,set:=true } else if s = 22 then { r0U with rd:=3,rm:=3,kind:=true,set:=true } else if s = 23 then { r0U with rn:=3,rm:=3,kind:=true } else if s = 24 then { r0U with rd:=3,rn:=3,i1:=4095,i2:=1 }
 else if s = 25 then { r0U with rd:=3,rn:=2,i1:=4095,i2:=1 } else if s = 26 then { r0U with rd:=3,rn:=2,rm:=3,b1:=3,b2:=1 } else if s = 27 then { r0U with rd:=3,rn:=3,rm:=3,set:=true } else if s = 28 then { r0U with rd:=3,rn:=3,rm:=3 }
 else if s = 29 \/ s = 30 \/ s = 31 then { r0U with rd:=3,rn:=3,rm:=3,ra:=3 } else if s = 32 then { r0U with rd:=3,rm:=3 } else if s = 33 then { r0U with cond:=true,i0:=-1048576,i1:=1048574,i2:=2 } else if s = 34 then { r0U with i0:=-16777216,i1:=16777214,i2:=2 } else ruN s
set_option maxHeartbeats 8000000 in
set_option maxRecDepth 100000 in
theorem narrowRule_pure (s : Int) : PureF gT 188 [.int .i64 s] (ruP (ruN s)):=by
 refine Spec.enter gTok P188 100 Tryz.func188 rfl (by kernel_rfl) ?_
 repeat' ((conv=>whnf); first | (refine (And.intro (fun _=>?_) (fun _=>?_) : (_ -> _) /\ (_ -> _)) <;> (first | (exfalso; first | contradiction | omega) | skip)) | refine Or.inl (And.intro (by first | exact inR_i64 (by omega) | exact inR_u32 (by omega) | exact inR_u64 (by omega) | exact inR_u8 (by omega)) ?_) | (refine And.intro (show (_ : Int) ≠ 0 by omega) (Or.inl (And.intro (show (0 : Int) <= _ by omega) (And.intro (show (0 : Int) < _ by omega) ?_)))) | (refine And.intro (show (_ : Int) ≠ 0 by omega) (Or.inl (And.intro (show (0 : Int) <= _ by omega) (And.intro (by first | exact (show (_ : Int) <= 9223372036854775807 by omega) | exact (show (_ : Int) <= 4294967295 by omega)) (And.intro (show (0 : Int) < _ by omega) ?_))))) | (simp only [ruN, *,if_true,if_false,reduceIte,Int.reduceEq]; refine retE ?_; (repeat' first | exact trivial | exact rfl | exact (show ¬ (false = true) from Bool.false_ne_true) | refine And.intro ?_ ?_)) | (intro _))
set_option maxHeartbeats 8000000 in
set_option maxRecDepth 100000 in
theorem wideRule_pure (s : Int) : PureF gT 148 [.int .i64 s] (ruP (ruW s)):=by
 refine Spec.enter gTok P148 100 Tryz.func148 rfl (by kernel_rfl) ?_
 repeat' ((conv=>whnf); first | (refine (And.intro (fun _=>?_) (fun _=>?_) : (_ -> _) /\ (_ -> _)) <;> (first | (exfalso; first | contradiction | omega) | skip)) | refine Or.inl (And.intro (by first | exact inR_i64 (by omega) | exact inR_u32 (by omega) | exact inR_u64 (by omega) | exact inR_u8 (by omega)) ?_) | (refine And.intro (show (_ : Int) ≠ 0 by omega) (Or.inl (And.intro (show (0 : Int) <= _ by omega) (And.intro (show (0 : Int) < _ by omega) ?_)))) | (refine And.intro (show (_ : Int) ≠ 0 by omega) (Or.inl (And.intro (show (0 : Int) <= _ by omega) (And.intro (by first | exact (show (_ : Int) <= 9223372036854775807 by omega) | exact (show (_ : Int) <= 4294967295 by omega)) (And.intro (show (0 : Int) < _ by omega) ?_))))) | (refine Exists.intro [] (And.intro no_rl ((narrowRule_pure s).use (by repeat' first|exact trivial|exact rfl|exact Iff.rfl|refine And.intro ?_ ?_) rfl rfl ?_))) | (simp only [ruW, *,if_true,if_false,reduceIte,Int.reduceEq,or_true,true_or,or_false,false_or]; refine retE ?_; (repeat' first | exact trivial | exact rfl | exact (show ¬ (false = true) from Bool.false_ne_true) | exact Iff.rfl | refine And.intro ?_ ?_)) | (intro _))
def hasV (c r : Int) : Prop:=(c = 1 /\ 0 <= r /\ r < 8) \/ (c = 2 /\ 0 <= r /\ r < 15) \/ (c = 3 /\ 0 <= r /\ r < 15 /\ r ≠ 13) \/ (c ≠ 1 /\ c ≠ 2 /\ c ≠ 3 /\ r = 0)
theorem low_pure' (r : Int) : PureF gT 189 [.int .i64 r] (.bool (0 <= r /\ r < 8)):=by
 refine Spec.enter gTok P189 100 Tryz.func189 rfl (by kernel_rfl) ?_
 repeat' ((conv=>whnf); first | (refine (And.intro (fun _=>?_) (fun _=>?_) : (_ -> _) /\ (_ -> _)) <;> (first | (exfalso; first | contradiction | omega) | skip)) | refine Or.inl (And.intro (by first | exact inR_i64 (by omega) | exact inR_u32 (by omega) | exact inR_u64 (by omega) | exact inR_u8 (by omega)) ?_) | (refine And.intro (show (_ : Int) ≠ 0 by omega) (Or.inl (And.intro (show (0 : Int) <= _ by omega) (And.intro (show (0 : Int) < _ by omega) ?_)))) | (refine And.intro (show (_ : Int) ≠ 0 by omega) (Or.inl (And.intro (show (0 : Int) <= _ by omega) (And.intro (by first | exact (show (_ : Int) <= 9223372036854775807 by omega) | exact (show (_ : Int) <= 4294967295 by omega)) (And.intro (show (0 : Int) < _ by omega) ?_))))) | (refine retE ?_; show _ ↔ _; omega) | (refine retE ?_; show ¬ _; omega) | (intro _))
set_option maxRecDepth 100000 in
theorem has_pure (c r : Int) : PureF gT 150 [.int .i64 c,.int .i64 r] (.bool (hasV c r)):=by
 refine Spec.enter gTok P150 100 Tryz.func150 rfl (by kernel_rfl) ?_
 repeat' ((conv=>whnf); first | (refine (And.intro (fun _=>?_) (fun _=>?_) : (_ -> _) /\ (_ -> _)) <;> (first | (exfalso; first | contradiction | omega) | skip)) | refine Or.inl (And.intro (by first | exact inR_i64 (by omega) | exact inR_u32 (by omega) | exact inR_u64 (by omega) | exact inR_u8 (by omega)) ?_) | (refine And.intro (show (_ : Int) ≠ 0 by omega) (Or.inl (And.intro (show (0 : Int) <= _ by omega) (And.intro (show (0 : Int) < _ by omega) ?_)))) | (refine And.intro (show (_ : Int) ≠ 0 by omega) (Or.inl (And.intro (show (0 : Int) <= _ by omega) (And.intro (by first | exact (show (_ : Int) <= 9223372036854775807 by omega) | exact (show (_ : Int) <= 4294967295 by omega)) (And.intro (show (0 : Int) < _ by omega) ?_))))) | (refine Exists.intro [] (And.intro no_rl ((low_pure' r).use (by repeat' first|exact trivial|exact rfl|exact Iff.rfl|refine And.intro ?_ ?_) rfl rfl ?_))) | (refine retE ?_; (show _ ↔ hasV c r); unfold hasV; omega) | (refine retE ?_; (show ¬ hasV c r); unfold hasV; omega) | (intro _))
def spanV (f t s n : Int) : Prop:=(s = 0 /\ n = 0) \/ (s ≠ 0 /\ f <= n /\ n <= t /\ n.tmod s = 0)
set_option maxRecDepth 100000 in
theorem span_pure (f t s n : Int) : PureF gT 152 [.agg [.int .i64 f,.int .i64 t,.int .i64 s],.int .i64 n] (.bool (spanV f t s n)):=by
 refine Spec.enter gTok P152 100 Tryz.func152 rfl (by kernel_rfl) ?_
 refine And.intro (fun h=>?_) (fun h=>?_)
 ·refine retE ?_
  exact (show n = 0 ↔ spanV f t s n by unfold spanV; exact ⟨fun e=>.inl ⟨h,e⟩,fun e=>e.elim (fun e=>e.2) (fun e=>absurd h e.1)⟩)
 have h0 : s ≠ 0:=h
 refine And.intro (fun h1=>?_) (fun h1=>?_)
 ·refine And.intro (fun h2=>?_) (fun h2=>?_)
  ·refine ⟨h0,.inr ?_⟩
   refine retE ?_
   exact (show n.tmod s = 0 ↔ spanV f t s n from ⟨fun e=>.inr ⟨h0,h1,h2,e⟩,fun e=>e.elim (fun e=>absurd e.1 h0) (fun e=>e.2.2.2)⟩)
  ·refine retE ?_
   exact (show ¬ spanV f t s n from fun e=>e.elim (fun e=>h0 e.1) (fun e=>h2 e.2.2.1))
 ·refine retE ?_
  exact (show ¬ spanV f t s n from fun e=>e.elim (fun e=>h0 e.1) (fun e=>h1 e.2.1))
theorem may_pure (n : Int) (ok : Prop) : PureF gT 153 [.int .i64 n,.bool ok] (.bool (n = 0 \/ (n = 1 /\ ok))):=by
 refine Spec.enter gTok P153 100 Tryz.func153 rfl (by kernel_rfl) ?_
 refine And.intro (fun h=>?_) (fun h=>And.intro (fun h1=>?_) (fun h1=>?_))
 ·exact retE (show n = 0 \/ (n = 1 /\ ok) from .inl h)
 ·exact retE (show ok ↔ (n = 0 \/ (n = 1 /\ ok)) from ⟨fun k=>.inr ⟨h1,k⟩,fun k=>k.elim (fun e=>absurd e h) (fun e=>e.2)⟩)
 ·exact retE (show ¬ (n = 0 \/ (n = 1 /\ ok)) from fun k=>k.elim h (fun e=>h1 e.1))
end Go.Proofs.YtnbngokbamifbaaGreatDoor.Pw
namespace Go.Proofs.YtnbngokbamifbaaGreatDoor.Pw
open Go Go.RowKit
def I64 (x : Int) : Prop:=-9223372036854775808 <= x /\ x <= 9223372036854775807
theorem immword_pure (n : Int) (h : I64 n) : PureF gT 181 [.int .i64 n] (.tup [.int .u32 (Rm.wordX n),.int .i64 (Rm.wordE n)]) :=
 PureF.of_at (entersT Tryz.func181 rfl (by kernel_rfl)) fun I β w vals hM hA=>by
  obtain ⟨v,rfl,h1⟩:=isL1 hA
  simp only [PV.Is] at h1
  subst h1
  refine ⟨.tuple #[.int .u32 (Rm.wordX n),.int .i64 (Rm.wordE n)],is_tup (isLc (is_int ..) (isLc (is_int ..) isLn)),fun _ _ _=>is_tup (isLc (is_int ..) (isLc (is_int ..) isLn)),?_⟩
  refine (word_any n w (facOf hM) h.1 h.2).mono ?_
  rintro e w' ⟨rfl,rfl⟩
  exact ⟨rfl,Below.refl _ _⟩
def barrelV (k b : Int) : Prop:=(k = 0 /\ 0 <= b /\ b < 32) \/ ((k = 1 \/ k = 2) /\ 1 <= b /\ b <= 32) \/ (k = 3 /\ 1 <= b /\ b < 32)
set_option maxRecDepth 100000 in
theorem barrel_pure (k b : Int) : PureF gT 190 [.int .i64 k,.int .i64 b] (.bool (barrelV k b)):=by
 refine Spec.enter gTok P190 100 Tryz.func190 rfl (by kernel_rfl) ?_
 repeat' ((conv=>whnf); first | (refine (And.intro (fun _=>?_) (fun _=>?_) : (_ -> _) /\ (_ -> _)) <;> (first | (exfalso; first | contradiction | omega) | skip)) | refine Or.inl (And.intro (by first | exact inR_i64 (by omega) | exact inR_u32 (by omega) | exact inR_u64 (by omega) | exact inR_u8 (by omega)) ?_) | (refine And.intro (show (_ : Int) ≠ 0 by omega) (Or.inl (And.intro (show (0 : Int) <= _ by omega) (And.intro (show (0 : Int) < _ by omega) ?_)))) | (refine And.intro (show (_ : Int) ≠ 0 by omega) (Or.inl (And.intro (show (0 : Int) <= _ by omega) (And.intro (by first | exact (show (_ : Int) <= 9223372036854775807 by omega) | exact (show (_ : Int) <= 4294967295 by omega)) (And.intro (show (0 : Int) < _ by omega) ?_))))) | (refine retE ?_; (show _ ↔ barrelV k b); unfold barrelV; omega) | (refine retE ?_; (show ¬ barrelV k b); unfold barrelV; omega) | (intro _))
def shiftV (i : IN) (r : RU) : Prop:=(r.kind = true /\ barrelV i.kind i.by_) \/ (¬ r.kind = true /\ i.kind = 0 /\ spanV r.b0 r.b1 r.b2 i.by_)
set_option maxHeartbeats 4000000 in
set_option maxRecDepth 100000 in
theorem shift_pure (i : IN) (r : RU) : PureF gT 154 [inP i,ruP r] (.bool (shiftV i r)):=by
 refine Spec.enter gTok P154 100 Tryz.func154 rfl (by kernel_rfl) ?_
 refine And.intro (fun h=>?_) (fun h=>?_)
 ·refine ⟨[],no_rl,(barrel_pure i.kind i.by_).use (by repeat' first|exact trivial|exact rfl|exact Iff.rfl|refine And.intro ?_ ?_) rfl rfl ?_⟩
  refine retE ?_
  exact (show barrelV i.kind i.by_ ↔ shiftV i r from ⟨fun k=>.inl ⟨h,k⟩,fun k=>k.elim (fun e=>e.2) (fun e=>absurd h e.1)⟩)
 ·refine And.intro (fun h1=>?_) (fun h1=>?_)
  ·refine ⟨[],no_rl,(span_pure r.b0 r.b1 r.b2 i.by_).use (by repeat' first|exact trivial|exact rfl|exact Iff.rfl|refine And.intro ?_ ?_) rfl rfl ?_⟩
   refine retE ?_
   exact (show spanV r.b0 r.b1 r.b2 i.by_ ↔ shiftV i r from ⟨fun k=>.inr ⟨h,h1,k⟩,fun k=>k.elim (fun e=>absurd e.1 h) (fun e=>e.2.2)⟩)
  ·refine retE ?_
   exact (show ¬ shiftV i r from fun k=>k.elim (fun e=>h e.1) (fun e=>h1 e.2.1))
def listedV (i : IN) (r : RU) : Prop:=(r.regs = 0 /\ i.regs = 0) \/ (¬ r.regs = 0 /\ 0 < i.regs /\ bits .andNot .i64 i.regs r.regs = 0)
set_option maxHeartbeats 4000000 in
set_option maxRecDepth 100000 in
theorem listed_pure (i : IN) (r : RU) : PureF gT 151 [inP i,ruP r] (.bool (listedV i r)):=by
 refine Spec.enter gTok P151 100 Tryz.func151 rfl (by kernel_rfl) ?_
 refine And.intro (fun h=>?_) (fun h=>?_)
 ·refine retE ?_
  exact (show i.regs = 0 ↔ listedV i r from ⟨fun k=>.inl ⟨h,k⟩,fun k=>k.elim (fun e=>e.2) (fun e=>absurd h e.1)⟩)
 ·refine And.intro (fun h1=>?_) (fun h1=>?_)
  ·refine retE ?_
   exact (show bits .andNot .i64 i.regs r.regs = 0 ↔ listedV i r from ⟨fun k=>.inr ⟨h,h1,k⟩,fun k=>k.elim (fun e=>absurd e.1 h) (fun e=>e.2.2)⟩)
  ·refine retE ?_
   exact (show ¬ listedV i r from fun k=>k.elim (fun e=>h e.1) (fun e=>h1 e.2.1))
def apartV (i : IN) : Prop:=(i.form = 1 -> i.imm < 32) /\ (i.form = 2 \/ i.form = 3 -> 0 < i.imm) /\ (i.form = 29 -> ¬ (0 <= i.rd /\ i.rd < 8) \/ ¬ (0 <= i.rm /\ i.rm < 8)) /\ (i.form = 95 \/ i.form = 96 -> i.rd ≠ i.ra) /\ (shapeV i.form = 18 \/ shapeV i.form = 19 \/ shapeV i.form = 20 -> Rm.wordE i.imm = 0)
theorem shape_1 : shapeV 1 = 1 /\ shapeV 2 = 1 /\ shapeV 3 = 1 /\ shapeV 29 = 6 /\ shapeV 95 = 31 /\ shapeV 96 = 31:=by decide
set_option maxHeartbeats 8000000 in
set_option maxRecDepth 100000 in
theorem apart_pure (i : IN) (hi : I64 i.imm) : PureF gT 155 [inP i] (.bool (apartV i)):=by
 obtain ⟨s1,s2,s3,s29,s95,s96⟩:=shape_1
 refine Spec.enter gTok P155 100 Tryz.func155 rfl (by kernel_rfl) ?_
 have e : apartV i ↔ ((i.form = 1 -> i.imm < 32) /\ (i.form = 2 \/ i.form = 3 -> 0 < i.imm) /\ (i.form = 29 -> ¬ (0 <= i.rd /\ i.rd < 8) \/ ¬ (0 <= i.rm /\ i.rm < 8)) /\ (i.form = 95 \/ i.form = 96 -> i.rd ≠ i.ra) /\ (shapeV i.form = 18 \/ shapeV i.form = 19 \/ shapeV i.form = 20 -> Rm.wordE i.imm = 0)):=Iff.rfl
 have f1 : i.form = 1 -> shapeV i.form = 1:=fun h=>by rw [h]; exact s1
 have f2 : i.form = 2 -> shapeV i.form = 1:=fun h=>by rw [h]; exact s2
 have f3 : i.form = 3 -> shapeV i.form = 1:=fun h=>by rw [h]; exact s3
 have f29 : i.form = 29 -> shapeV i.form = 6:=fun h=>by rw [h]; exact s29
 have f95 : i.form = 95 -> shapeV i.form = 31:=fun h=>by rw [h]; exact s95
 have f96 : i.form = 96 -> shapeV i.form = 31:=fun h=>by rw [h]; exact s96
 clear s1 s2 s3 s29 s95 s96
 repeat' ((conv=>whnf); first | (refine (And.intro (fun _=>?_) (fun _=>?_) : (_ -> _) /\ (_ -> _)) <;> (first | (exfalso; first | contradiction | omega) | skip)) | refine Or.inl (And.intro (by first | exact inR_i64 (by omega) | exact inR_u32 (by omega) | exact inR_u64 (by omega) | exact inR_u8 (by omega)) ?_) | (refine And.intro (show (_ : Int) ≠ 0 by omega) (Or.inl (And.intro (show (0 : Int) <= _ by omega) (And.intro (show (0 : Int) < _ by omega) ?_)))) | (refine And.intro (show (_ : Int) ≠ 0 by omega) (Or.inl (And.intro (show (0 : Int) <= _ by omega) (And.intro (by first | exact (show (_ : Int) <= 9223372036854775807 by omega) | exact (show (_ : Int) <= 4294967295 by omega)) (And.intro (show (0 : Int) < _ by omega) ?_))))) | (refine Exists.intro [] (And.intro no_rl ((low_pure' _).use (by repeat' first|exact trivial|exact rfl|exact Iff.rfl|refine And.intro ?_ ?_) rfl rfl ?_))) | (refine Exists.intro [] (And.intro no_rl ((shape_pure i.form).use (by repeat' first|exact trivial|exact rfl|exact Iff.rfl|refine And.intro ?_ ?_) rfl rfl ?_))) | (refine Exists.intro [] (And.intro no_rl ((immword_pure i.imm hi).use (by repeat' first|exact trivial|exact rfl|exact Iff.rfl|refine And.intro ?_ ?_) rfl rfl ?_))) | (refine retE ?_; (show apartV i); rw [e]; clear e; omega) | (refine retE ?_; (show _ ↔ apartV i); rw [e]; clear e; omega) | (refine retE ?_; (show ¬ apartV i); rw [e]; clear e; omega) | (intro _))
def rightR (i : IN) (r : RU) : Prop:=(1 <= i.form /\ i.form <= 100) /\ hasV r.rd i.rd /\ hasV r.rn i.rn /\ hasV r.rm i.rm /\ hasV r.ra i.ra /\ listedV i r /\ (i.cond = 0 \/ (r.cond = true /\ 0 < i.cond /\ i.cond <= 13)) /\ spanV r.i0 r.i1 r.i2 i.imm /\ (i.set = 0 \/ (i.set = 1 /\ r.set = true)) /\ shiftV i r /\ apartV i
def rightV (i : IN) : Prop:=rightR i (ruW (shapeV i.form))
set_option maxHeartbeats 16000000 in
set_option maxRecDepth 100000 in
theorem right_pure (i : IN) (hi : I64 i.imm) : PureF gT 99 [inP i] (.bool (rightV i)):=by
 refine Spec.enter gTok P99 100 Tryz.func99 rfl (by kernel_rfl) ?_
 refine ⟨[],no_rl,(form_is i.form).use (by repeat' first|exact trivial|exact rfl|exact Iff.rfl|refine And.intro ?_ ?_) rfl rfl ?_⟩
 refine And.intro (fun h=>?_) (fun h=>?_)
 ·refine retE ?_
  exact (show ¬ rightV i from fun k=>h k.1)
 have hF:=Classical.not_not.1 h
 clear h
 refine ⟨[],no_rl,(shape_pure i.form).use (by repeat' first|exact trivial|exact rfl|exact Iff.rfl|refine And.intro ?_ ?_) rfl rfl ?_⟩
 refine ⟨[],no_rl,(wideRule_pure _).use (by repeat' first|exact trivial|exact rfl|exact Iff.rfl|refine And.intro ?_ ?_) rfl rfl ?_⟩
 unfold rightV
 generalize ruW (shapeV i.form) = r
 repeat' ((conv=>whnf); first | (refine (And.intro (fun _=>?_) (fun _=>?_) : (_ -> _) /\ (_ -> _)) <;> (first | (exfalso; first | contradiction | omega) | skip)) | refine Or.inl (And.intro (by first | exact inR_i64 (by omega) | exact inR_u32 (by omega) | exact inR_u64 (by omega) | exact inR_u8 (by omega)) ?_) | (refine And.intro (show (_ : Int) ≠ 0 by omega) (Or.inl (And.intro (show (0 : Int) <= _ by omega) (And.intro (show (0 : Int) < _ by omega) ?_)))) | (refine And.intro (show (_ : Int) ≠ 0 by omega) (Or.inl (And.intro (show (0 : Int) <= _ by omega) (And.intro (by first | exact (show (_ : Int) <= 9223372036854775807 by omega) | exact (show (_ : Int) <= 4294967295 by omega)) (And.intro (show (0 : Int) < _ by omega) ?_))))) | (refine Exists.intro [] (And.intro no_rl ((has_pure _ _).use (by repeat' first|exact trivial|exact rfl|exact Iff.rfl|refine And.intro ?_ ?_) rfl rfl ?_))) | (refine Exists.intro [] (And.intro no_rl ((listed_pure i r).use (by repeat' first|exact trivial|exact rfl|exact Iff.rfl|refine And.intro ?_ ?_) rfl rfl ?_))) | (refine Exists.intro [] (And.intro no_rl ((span_pure _ _ _ _).use (by repeat' first|exact trivial|exact rfl|exact Iff.rfl|refine And.intro ?_ ?_) rfl rfl ?_))) | (refine Exists.intro [] (And.intro no_rl ((may_pure _ _).use (by repeat' first|exact trivial|exact rfl|exact Iff.rfl|refine And.intro ?_ ?_) rfl rfl ?_))) | (refine Exists.intro [] (And.intro no_rl ((shift_pure i r).use (by repeat' first|exact trivial|exact rfl|exact Iff.rfl|refine And.intro ?_ ?_) rfl rfl ?_))) | (refine Exists.intro [] (And.intro no_rl ((apart_pure i hi).use (by repeat' first|exact trivial|exact rfl|exact Iff.rfl|refine And.intro ?_ ?_) rfl rfl ?_))) | (refine retE ?_; (show apartV i ↔ rightR i r); (exact ⟨fun k=>⟨hF,by assumption,by assumption,by assumption,by assumption,by assumption,by first | exact Or.inl (by assumption) | exact Or.inr ⟨by assumption,by assumption,by assumption⟩,by assumption,by assumption,by assumption,k⟩,fun k=>k.2.2.2.2.2.2.2.2.2.2⟩)) | (refine retE ?_; (show ¬ rightR i r); (rintro ⟨a0,a1,a2,a3,a4,a5,a6,a7,a8,a9,a10⟩; first | contradiction | (rcases a6 with a6 | ⟨b1,b2,b3⟩ <;> first | contradiction | omega))) | (intro _))
end Go.Proofs.YtnbngokbamifbaaGreatDoor.Pw
set_option linter.unusedVariables false
namespace Go.Proofs.YtnbngokbamifbaaGreatDoor.Pw
open Go Go.RowKit
def aiFs (x : AI) : List PV:=[.int .i64 x.kind,.int .i64 x.inst.form,.int .i64 x.inst.rd,.int .i64 x.inst.rn,.int .i64 x.inst.rm,.int .i64 x.inst.ra,.int .i64 x.inst.imm,.int .i64 x.inst.kind,.int .i64 x.inst.by_,.int .i64 x.inst.set,.int .i64 x.inst.cond,.int .i64 x.inst.regs,.int .i64 x.cond,.int .i64 x.label,.int .i64 x.to_]
def aiP (x : AI) : PV:=.agg (aiFs x)
def mayV (l : Int) : Prop:=0 <= l /\ l <= 65535
theorem amay_pure (l : Int) : PureF gT 125 [.int .i64 l] (.bool (mayV l)):=by
 refine Spec.enter gTok P125 100 Tryz.func125 rfl (by kernel_rfl) ?_
 repeat' ((conv=>whnf); first | (refine (And.intro (fun _=>?_) (fun _=>?_) : (_ -> _) /\ (_ -> _)) <;> (first | (exfalso; first | contradiction | omega) | skip)) | refine Or.inl (And.intro (by first | exact inR_i64 (by omega) | exact inR_u32 (by omega) | exact inR_u64 (by omega) | exact inR_u8 (by omega)) ?_) | (refine And.intro (show (_ : Int) ≠ 0 by omega) (Or.inl (And.intro (show (0 : Int) <= _ by omega) (And.intro (show (0 : Int) < _ by omega) ?_)))) | (refine And.intro (show (_ : Int) ≠ 0 by omega) (Or.inl (And.intro (show (0 : Int) <= _ by omega) (And.intro (by first | exact (show (_ : Int) <= 9223372036854775807 by omega) | exact (show (_ : Int) <= 4294967295 by omega)) (And.intro (show (0 : Int) < _ by omega) ?_))))) | (refine retE ?_; (show _ ↔ mayV l); unfold mayV; omega) | (refine retE ?_; (show ¬ mayV l); unfold mayV; omega) | (intro _))
set_option maxRecDepth 10000 in
theorem ado_pure (i : IN) : PureF gT 33 [inP i] (aiP ⟨1,i,0,0,0⟩):=by
 refine Spec.enter gTok P33 100 Tryz.func33 rfl (by kernel_rfl) ?_
 refine retE (by repeat' first|exact trivial|exact rfl|exact Iff.rfl|refine And.intro ?_ ?_)
set_option maxRecDepth 10000 in
theorem ago_pure (c l : Int) : PureF gT 34 [.int .i64 c,.int .i64 l] (aiP ⟨2,iZ,c,l,0⟩):=by
 refine Spec.enter gTok P34 100 Tryz.func34 rfl (by kernel_rfl) ?_
 refine retE (by repeat' first|exact trivial|exact rfl|exact Iff.rfl|refine And.intro ?_ ?_)
set_option maxRecDepth 10000 in
theorem ahere_pure (l : Int) : PureF gT 32 [.int .i64 l] (aiP ⟨3,iZ,0,l,0⟩):=by
 refine Spec.enter gTok P32 100 Tryz.func32 rfl (by kernel_rfl) ?_
 refine retE (by repeat' first|exact trivial|exact rfl|exact Iff.rfl|refine And.intro ?_ ?_)
set_option maxRecDepth 10000 in
theorem apad_pure (t : Int) : PureF gT 126 [.int .i64 t] (aiP ⟨4,iZ,0,0,t⟩):=by
 refine Spec.enter gTok P126 100 Tryz.func126 rfl (by kernel_rfl) ?_
 refine retE (by repeat' first|exact trivial|exact rfl|exact Iff.rfl|refine And.intro ?_ ?_)
def branchV (f : Int) : Prop:=f = 46 \/ f = 47 \/ f = 99 \/ f = 100 \/ f = 31
theorem branch_pure (i : IN) : PureF gT 124 [inP i] (.bool (branchV i.form)):=by
 refine Spec.enter gTok P124 100 Tryz.func124 rfl (by kernel_rfl) ?_
 unfold branchV
 repeat' ((conv=>whnf); first | (refine (And.intro (fun _=>?_) (fun _=>?_) : (_ -> _) /\ (_ -> _)) <;> (first | (exfalso; first | contradiction | omega) | skip)) | refine Or.inl (And.intro (by first | exact inR_i64 (by omega) | exact inR_u32 (by omega) | exact inR_u64 (by omega) | exact inR_u8 (by omega)) ?_) | (refine And.intro (show (_ : Int) ≠ 0 by omega) (Or.inl (And.intro (show (0 : Int) <= _ by omega) (And.intro (show (0 : Int) < _ by omega) ?_)))) | (refine And.intro (show (_ : Int) ≠ 0 by omega) (Or.inl (And.intro (show (0 : Int) <= _ by omega) (And.intro (by first | exact (show (_ : Int) <= 9223372036854775807 by omega) | exact (show (_ : Int) <= 4294967295 by omega)) (And.intro (show (0 : Int) < _ by omega) ?_))))) | (refine retE ?_; (show (_ = 46 \/ _ = 47 \/ _ = 99 \/ _ = 100 \/ _ = 31)); omega) | (refine retE ?_; show ¬ _; omega) | (intro _))
def zI (i : IN) : Prop:=i.form = 0 /\ i.rd = 0 /\ i.rn = 0 /\ i.rm = 0 /\ i.ra = 0 /\ i.imm = 0 /\ i.kind = 0 /\ i.by_ = 0 /\ i.set = 0 /\ i.cond = 0 /\ i.regs = 0
def rightA (x : AI) : Prop :=
 (x.kind = 1 /\ (x.cond = 0 /\ x.label = 0 /\ x.to_ = 0) /\ rightV x.inst /\ ¬ (x.inst.form = 46 \/ x.inst.form = 47 \/ x.inst.form = 99 \/ x.inst.form = 100)) \/
 (x.kind = 2 /\ zI x.inst /\ x.to_ = 0 /\ (-1 <= x.cond /\ x.cond <= 13) /\ mayV x.label) \/
 (x.kind = 3 /\ zI x.inst /\ (x.cond = 0 /\ x.to_ = 0) /\ mayV x.label) \/
 (x.kind = 4 /\ zI x.inst /\ (x.cond = 0 /\ x.label = 0) /\ (x.to_ = 4 \/ x.to_ = 8 \/ x.to_ = 16))
theorem and_pow : ∀ t : Int,4 <= t -> t <= 16 -> (bits .and .i64 t (t - 1) = 0 ↔ t = 4 \/ t = 8 \/ t = 16):=by
 intro t h1 h2
 have : t = 4 \/ t = 5 \/ t = 6 \/ t = 7 \/ t = 8 \/ t = 9 \/ t = 10 \/ t = 11 \/ t = 12 \/ t = 13 \/ t = 14 \/ t = 15 \/ t = 16:=by omega
 rcases this with rfl | rfl | rfl | rfl | rfl | rfl | rfl | rfl | rfl | rfl | rfl | rfl | rfl <;> decide
theorem rightA_1 {x : AI} (h : x.kind = 1) : rightA x ↔ (x.cond = 0 /\ x.label = 0 /\ x.to_ = 0) /\ rightV x.inst /\ ¬ (x.inst.form = 46 \/ x.inst.form = 47 \/ x.inst.form = 99 \/ x.inst.form = 100):=by
 unfold rightA
 exact ⟨fun k=>k.elim (fun k=>k.2) fun k=>k.elim (fun k=>absurd k.1 (by omega)) fun k=>k.elim (fun k=>absurd k.1 (by omega)) fun k=>absurd k.1 (by omega),fun k=>.inl ⟨h,k⟩⟩
theorem rightA_2 {x : AI} (h : x.kind = 2) : rightA x ↔ zI x.inst /\ x.to_ = 0 /\ (-1 <= x.cond /\ x.cond <= 13) /\ mayV x.label:=by
 unfold rightA
 exact ⟨fun k=>k.elim (fun k=>absurd k.1 (by omega)) fun k=>k.elim (fun k=>k.2) fun k=>k.elim (fun k=>absurd k.1 (by omega)) fun k=>absurd k.1 (by omega),fun k=>.inr (.inl ⟨h,k⟩)⟩
theorem rightA_3 {x : AI} (h : x.kind = 3) : rightA x ↔ zI x.inst /\ (x.cond = 0 /\ x.to_ = 0) /\ mayV x.label:=by
 unfold rightA
 exact ⟨fun k=>k.elim (fun k=>absurd k.1 (by omega)) fun k=>k.elim (fun k=>absurd k.1 (by omega)) fun k=>k.elim (fun k=>k.2) fun k=>absurd k.1 (by omega),fun k=>.inr (.inr (.inl ⟨h,k⟩))⟩
theorem rightA_4 {x : AI} (h : x.kind = 4) : rightA x ↔ zI x.inst /\ (x.cond = 0 /\ x.label = 0) /\ (x.to_ = 4 \/ x.to_ = 8 \/ x.to_ = 16):=by
 unfold rightA
 exact ⟨fun k=>k.elim (fun k=>absurd k.1 (by omega)) fun k=>k.elim (fun k=>absurd k.1 (by omega)) fun k=>k.elim (fun k=>absurd k.1 (by omega)) fun k=>k.2,fun k=>.inr (.inr (.inr ⟨h,k⟩))⟩
theorem rightA_kind {x : AI} (h : rightA x) : 1 <= x.kind /\ x.kind <= 4:=by
 unfold rightA at h
 rcases h with h | h | h | h <;> omega
set_option maxHeartbeats 4000000 in
set_option maxRecDepth 10000 in
theorem iright_pure (x : AI) (hi : I64 x.inst.imm) (ht : I64 x.to_) : PureF gT 70 [aiP x] (.bool (rightA x)):=by
 have hr:=right_pure x.inst hi
 have hb:=branch_pure x.inst
 have hm:=amay_pure x.label
 refine Spec.enter gTok P70 100 Tryz.func70 rfl (by kernel_rfl) ?_
 refine And.intro (fun k1=>?_) (fun k1=>?_)
 ·have k1' : x.kind = 1:=k1
  rw [rightA_1 k1']
  refine ⟨[],no_rl,(ado_pure x.inst).use (by repeat' first|exact trivial|exact rfl|exact Iff.rfl|refine And.intro ?_ ?_) rfl rfl ?_⟩
  refine And.intro (fun hp=>?_) (fun hp=>?_)
  ·have q : x.cond = 0 /\ x.label = 0 /\ x.to_ = 0:=by obtain ⟨_,_,e2,e3,e4,_⟩:=hp; exact ⟨e2,e3,e4⟩
   refine ⟨[],no_rl,hr.use (by repeat' first|exact trivial|exact rfl|exact Iff.rfl|refine And.intro ?_ ?_) rfl rfl ?_⟩
   refine And.intro (fun h2=>?_) (fun h2=>?_)
   ·refine ⟨[],no_rl,hb.use (by repeat' first|exact trivial|exact rfl|exact Iff.rfl|refine And.intro ?_ ?_) rfl rfl ?_⟩
    refine And.intro (fun h3=>?_) (fun h3=>?_)
    ·refine retE ?_
     have h3' : ¬ branchV x.inst.form:=h3
     unfold branchV at h3'
     exact (show _ from ⟨q,h2,fun k=>h3' (by omega)⟩)
    ·refine retE ?_
     have h3' : branchV x.inst.form:=Classical.not_not.1 h3
     unfold branchV at h3'
     exact (show x.inst.form = 31 ↔ _ from ⟨fun k=>⟨q,h2,by omega⟩,fun k=>by have:=k.2.2; omega⟩)
   ·refine retE ?_
    exact (show ¬ _ from fun k=>h2 k.2.1)
  ·refine retE ?_
   exact (show ¬ _ from fun k=>hp (by obtain ⟨⟨a,b,c⟩,_⟩:=k; repeat' first | exact trivial | exact rfl | assumption | refine And.intro ?_ ?_))
 refine And.intro (fun k2=>?_) (fun k2=>?_)
 ·have k2' : x.kind = 2:=k2
  rw [rightA_2 k2']
  refine ⟨[],no_rl,(ago_pure x.cond x.label).use (by repeat' first|exact trivial|exact rfl|exact Iff.rfl|refine And.intro ?_ ?_) rfl rfl ?_⟩
  refine And.intro (fun hp=>?_) (fun hp=>?_)
  ·have q : zI x.inst /\ x.to_ = 0:=by
    obtain ⟨_,⟨a0,a1,a2,a3,a4,a5,a6,a7,a8,a9,a10,_⟩,_,_,e4,_⟩:=hp
    exact ⟨⟨a0,a1,a2,a3,a4,a5,a6,a7,a8,a9,a10⟩,e4⟩
   refine And.intro (fun h1=>?_) (fun h1=>?_)
   ·refine And.intro (fun h2=>?_) (fun h2=>?_)
    ·refine ⟨[],no_rl,hm.use (by repeat' first|exact trivial|exact rfl|exact Iff.rfl|refine And.intro ?_ ?_) rfl rfl ?_⟩
     refine retE ?_
     exact (show mayV x.label ↔ _ from ⟨fun k=>⟨q.1,q.2,⟨h1,h2⟩,k⟩,fun k=>k.2.2.2⟩)
    ·refine retE ?_
     exact (show ¬ _ from fun k=>h2 k.2.2.1.2)
   ·refine retE ?_
    exact (show ¬ _ from fun k=>h1 k.2.2.1.1)
  ·refine retE ?_
   exact (show ¬ _ from fun k=>hp (by obtain ⟨⟨a0,a1,a2,a3,a4,a5,a6,a7,a8,a9,a10⟩,b,_⟩:=k; repeat' first | exact trivial | exact rfl | assumption | refine And.intro ?_ ?_))
 refine And.intro (fun k3=>?_) (fun k3=>?_)
 ·have k3' : x.kind = 3:=k3
  rw [rightA_3 k3']
  refine ⟨[],no_rl,(ahere_pure x.label).use (by repeat' first|exact trivial|exact rfl|exact Iff.rfl|refine And.intro ?_ ?_) rfl rfl ?_⟩
  refine And.intro (fun hp=>?_) (fun hp=>?_)
  ·have q : zI x.inst /\ x.cond = 0 /\ x.to_ = 0:=by
    obtain ⟨_,⟨a0,a1,a2,a3,a4,a5,a6,a7,a8,a9,a10,_⟩,e2,_,e4,_⟩:=hp
    exact ⟨⟨a0,a1,a2,a3,a4,a5,a6,a7,a8,a9,a10⟩,e2,e4⟩
   refine ⟨[],no_rl,hm.use (by repeat' first|exact trivial|exact rfl|exact Iff.rfl|refine And.intro ?_ ?_) rfl rfl ?_⟩
   refine retE ?_
   exact (show mayV x.label ↔ _ from ⟨fun k=>⟨q.1,q.2,k⟩,fun k=>k.2.2⟩)
  ·refine retE ?_
   exact (show ¬ _ from fun k=>hp (by obtain ⟨⟨a0,a1,a2,a3,a4,a5,a6,a7,a8,a9,a10⟩,⟨b,c⟩,_⟩:=k; repeat' first | exact trivial | exact rfl | assumption | refine And.intro ?_ ?_))
 refine And.intro (fun k4=>?_) (fun k4=>?_)
 ·have k4' : x.kind = 4:=k4
  rw [rightA_4 k4']
  refine ⟨[],no_rl,(apad_pure x.to_).use (by repeat' first|exact trivial|exact rfl|exact Iff.rfl|refine And.intro ?_ ?_) rfl rfl ?_⟩
  refine And.intro (fun hp=>?_) (fun hp=>?_)
  ·have q : zI x.inst /\ x.cond = 0 /\ x.label = 0:=by
    obtain ⟨_,⟨a0,a1,a2,a3,a4,a5,a6,a7,a8,a9,a10,_⟩,e2,e3,_,_⟩:=hp
    exact ⟨⟨a0,a1,a2,a3,a4,a5,a6,a7,a8,a9,a10⟩,e2,e3⟩
   refine And.intro (fun h1=>?_) (fun h1=>?_)
   ·refine And.intro (fun h2=>?_) (fun h2=>?_)
    ·have h1' : 4 <= x.to_:=h1
     have h2' : x.to_ <= 16:=h2
     refine .inl ⟨inR_i64 (show _ <= x.to_ - 1 /\ x.to_ - 1 <= _ by omega),?_⟩
     refine retE ?_
     exact (show bits .and .i64 x.to_ (x.to_ - 1) = 0 ↔ _ from ⟨fun k=>⟨q.1,q.2,(and_pow _ h1' h2').1 k⟩,fun k=>(and_pow _ h1' h2').2 k.2.2⟩)
    ·refine retE ?_
     exact (show ¬ _ from fun k=>h2 (show x.to_ <= 16 by have:=k.2.2; omega))
   ·refine retE ?_
    exact (show ¬ _ from fun k=>h1 (show 4 <= x.to_ by have:=k.2.2; omega))
  ·refine retE ?_
   exact (show ¬ _ from fun k=>hp (by obtain ⟨⟨a0,a1,a2,a3,a4,a5,a6,a7,a8,a9,a10⟩,⟨b,c⟩,_⟩:=k; repeat' first | exact trivial | exact rfl | assumption | refine And.intro ?_ ?_))
 ·refine retE ?_
  have q1 : ¬ x.kind = 1:=k1
  have q2 : ¬ x.kind = 2:=k2
  have q3 : ¬ x.kind = 3:=k3
  have q4 : ¬ x.kind = 4:=k4
  exact (show ¬ rightA x from fun k=>by have:=rightA_kind k; omega)
end Go.Proofs.YtnbngokbamifbaaGreatDoor.Pw
namespace Go.Proofs.YtnbngokbamifbaaGreatDoor.Pw
open Go Go.RowKit
def cutV (x : Int) (l w : Nat) : Int:=x / 2 ^ l % 2 ^ w
theorem and_mask (x : Int) (w : Nat) (h0 : 0 <= x) (h1 : x <= 4294967295) (hw : w <= 31) : bits .and .u32 x (2 ^ w - 1) = x % 2 ^ w:=by
 have hp : (2 : Int) ^ w <= 2 ^ 31:=by
  have:=Nat.pow_le_pow_right (n:=2) (by omega) hw
  exact_mod_cast this
 have hp0 : (1 : Int) <= 2 ^ w:=by
  have:=Nat.one_le_two_pow (n:=w)
  exact_mod_cast this
 rw [u32_and x (2 ^ w - 1) h0 (by omega) (by omega) (by omega)]
 have e : x.toNat &&& ((2 : Int) ^ w - 1).toNat = x.toNat % 2 ^ w:=by
  have : ((2 : Int) ^ w - 1).toNat = 2 ^ w - 1:=by
   have e2 : ((2 ^ w : Nat) : Int) = (2 : Int) ^ w:=by norm_cast
   omega
  rw [this]
  exact Nat.and_two_pow_sub_one_eq_mod x.toNat w
 rw [e]
 have : ((x.toNat % 2 ^ w : Nat) : Int) = (x.toNat : Int) % ((2 ^ w : Nat) : Int):=by norm_cast
 rw [this,Int.toNat_of_nonneg h0]
 norm_cast
theorem pow2_u32 (n : Nat) (h : n <= 32) : Ev.pow2 .u32 (n : Int) = 2 ^ n:=by
 unfold Ev.pow2
 rw [Int.toNat_natCast,show min n (IntKind.bits .u32) = n from Nat.min_eq_left h]
 norm_cast
theorem pow_cast (w : Nat) : ((2 ^ w : Nat) : Int) = (2 : Int) ^ w:=by norm_cast
theorem pow_bd (w : Nat) (hw : w <= 31) : (1 : Int) <= 2 ^ w /\ (2 : Int) ^ w <= 2147483648:=by
 have h1:=Nat.one_le_two_pow (n:=w)
 have h2 : (2 ^ w : Nat) <= 2147483648:=Nat.le_trans (Nat.pow_le_pow_right (n:=2) (by omega) hw) (by decide)
 have e:=pow_cast w
 omega
theorem div_bd (x p : Int) (h0 : 0 <= x) (h1 : x <= 4294967295) (hp : 1 <= p) : 0 <= x / p /\ x / p <= 4294967295 :=
 ⟨Int.ediv_nonneg h0 (by omega),Int.le_trans (Int.ediv_le_self _ h0) h1⟩
theorem cut_pure (x : Int) (l w : Nat) (hx : 0 <= x /\ x <= 4294967295) (hw : 1 <= w /\ w <= 31) (hl : l <= 31) : PureF gT 195 [.int .u32 x,.int .i64 ((l : Int) + w - 1),.int .i64 l] (.int .u32 (cutV x l w)):=by
 have p1:=pow2_u32 l (by omega)
 have p2:=pow2_u32 w (by omega)
 have b1:=pow_bd l hl
 have b2:=pow_bd w hw.2
 have d:=div_bd x (2 ^ l) hx.1 hx.2 b1.1
 have e : ((l : Int) + w - 1) - l + 1 = w:=by omega
 refine Spec.enter gTok P195 100 Tryz.func195 rfl (by kernel_rfl) ?_
 refine ⟨by omega,.inl ⟨inR_i64 (by omega),.inl ⟨inR_i64 (by omega),?_⟩⟩⟩
 refine ⟨by omega,.inl ⟨inR_u32 (show 0 <= 1 * Ev.pow2 .u32 (((l : Int) + w - 1) - l + 1) /\ 1 * Ev.pow2 .u32 (((l : Int) + w - 1) - l + 1) <= 4294967295 by rw [e,p2]; omega),?_⟩⟩
 refine .inl ⟨inR_u32 (show 0 <= 1 * Ev.pow2 .u32 (((l : Int) + w - 1) - l + 1) - 1 /\ 1 * Ev.pow2 .u32 (((l : Int) + w - 1) - l + 1) - 1 <= 4294967295 by rw [e,p2]; omega),?_⟩
 refine retE ?_
 show bits .and .u32 (x / Ev.pow2 .u32 l) (1 * Ev.pow2 .u32 (((l : Int) + w - 1) - l + 1) - 1) = cutV x l w
 rw [e,p1,p2,Int.one_mul,and_mask _ w d.1 d.2 hw.2]; rfl
end Go.Proofs.YtnbngokbamifbaaGreatDoor.Pw
namespace Go.Proofs.YtnbngokbamifbaaGreatDoor.Pw
open Go Go.RowKit
theorem pow_bd62 (w : Nat) (hw : w <= 62) : (1 : Int) <= 2 ^ w /\ (2 : Int) ^ w <= 4611686018427387904:=by
 have h1:=Nat.one_le_two_pow (n:=w)
 have h2 : (2 ^ w : Nat) <= 4611686018427387904:=Nat.le_trans (Nat.pow_le_pow_right (n:=2) (by omega) hw) (by decide)
 have e:=pow_cast w
 omega
set_option maxRecDepth 100000 in
theorem power_pure (n : Nat) (hn : n <= 62) : PureF gT 83 [.int .i64 n] (.int .i64 (2 ^ n)):=by
 refine Spec.enter gTok P83 100 Tryz.func83 rfl (by kernel_rfl) ?_
 refine SW.loopS gTok P83 (by kernel_rfl) (α:={i : Nat // i <= n}) (fun i=>[(4,.int .i64 i.1),(3,.int .i64 (2 ^ i.1))]) (fun i=>n - i.1) ⟨0,Nat.zero_le _⟩ 60 ?_ ?_
 ·repeat' first | exact Iff.rfl | exact trivial | exact rfl | refine And.intro ?_ ?_
 rintro ⟨i,hi⟩
 have b:=pow_bd62 i (by omega)
 refine And.intro (fun h=>?_) (fun h=>?_)
 ·have h' : (i : Int) < (n : Int):=h
  have b2:=pow_bd62 (i + 1) (by omega)
  have e : (2 : Int) ^ i * 2 = 2 ^ (i + 1):=(Int.pow_succ 2 i).symm
  refine .inl ⟨inR_i64 (show _ <= (2 : Int) ^ i * 2 /\ (2 : Int) ^ i * 2 <= _ by omega),?_⟩
  refine .inl ⟨inR_i64 (show _ <= (i : Int) + 1 /\ (i : Int) + 1 <= _ by omega),⟨⟨i + 1,by omega⟩,show n - (i + 1) < n - i by omega,?_⟩⟩
  repeat' first | exact Iff.rfl | exact trivial | exact rfl | refine And.intro ?_ ?_
 ·have h' : ¬ (i : Int) < (n : Int):=h
  refine retE ?_
  exact (show (2 : Int) ^ i = 2 ^ n by rw [show i = n by omega])
def bitsV (n : Int) (l w : Nat) : Int:=(if n < 0 then n + 1099511627776 else n) / 2 ^ l % 2 ^ w
set_option maxRecDepth 100000 in
theorem bits_pure (n : Int) (l w : Nat) (hn : -1099511627776 <= n /\ n <= 9223372036854775807) (hl : l <= 62) (hw : w <= 62) : PureF gT 78 [.int .i64 n,.int .i64 l,.int .i64 w] (.int .i64 (bitsV n l w)):=by
 have b1:=pow_bd62 l hl
 have b2:=pow_bd62 w hw
 have p40 : (2 : Int) ^ 40 = 1099511627776:=by decide
 have key : ∀ m : Int,0 <= m -> 0 <= m / 2 ^ l:=fun m h=>Int.ediv_nonneg h (by omega)
 refine Spec.enter gTok P78 100 Tryz.func78 rfl (by kernel_rfl) ?_
 refine And.intro (fun h=>?_) (fun h=>?_)
 ·refine ⟨[],no_rl,(power_pure 40 (by omega)).use (by repeat' first|exact trivial|exact rfl|exact Iff.rfl|refine And.intro ?_ ?_) rfl rfl ?_⟩
  refine .inl ⟨inR_i64 (show _ <= n + (2 : Int) ^ 40 /\ n + (2 : Int) ^ 40 <= _ by rw [p40]; omega),?_⟩
  refine ⟨[],no_rl,(power_pure l hl).use (by repeat' first|exact trivial|exact rfl|exact Iff.rfl|refine And.intro ?_ ?_) rfl rfl ?_⟩
  have h0 : 0 <= n + (2 : Int) ^ 40:=by rw [p40]; omega
  refine ⟨show (2 : Int) ^ l ≠ 0 by omega,.inl ⟨h0,show n + (2 : Int) ^ 40 <= 9223372036854775807 by rw [p40]; omega,show (0 : Int) < 2 ^ l by omega,?_⟩⟩
  refine ⟨[],no_rl,(power_pure w hw).use (by repeat' first|exact trivial|exact rfl|exact Iff.rfl|refine And.intro ?_ ?_) rfl rfl ?_⟩
  refine ⟨show (2 : Int) ^ w ≠ 0 by omega,.inl ⟨key _ h0,show (0 : Int) < 2 ^ w by omega,?_⟩⟩
  refine retE ?_
  exact (show (n + (2 : Int) ^ 40) / 2 ^ l % 2 ^ w = bitsV n l w by unfold bitsV; rw [if_pos h,p40])
 ·have h0 : 0 <= n:=Int.not_lt.1 h
  refine ⟨[],no_rl,(power_pure l hl).use (by repeat' first|exact trivial|exact rfl|exact Iff.rfl|refine And.intro ?_ ?_) rfl rfl ?_⟩
  refine ⟨show (2 : Int) ^ l ≠ 0 by omega,.inl ⟨h0,show n <= 9223372036854775807 from hn.2,show (0 : Int) < 2 ^ l by omega,?_⟩⟩
  refine ⟨[],no_rl,(power_pure w hw).use (by repeat' first|exact trivial|exact rfl|exact Iff.rfl|refine And.intro ?_ ?_) rfl rfl ?_⟩
  refine ⟨show (2 : Int) ^ w ≠ 0 by omega,.inl ⟨key _ h0,show (0 : Int) < 2 ^ w by omega,?_⟩⟩
  refine retE ?_
  exact (show n / 2 ^ l % 2 ^ w = bitsV n l w by unfold bitsV; rw [if_neg h])
end Go.Proofs.YtnbngokbamifbaaGreatDoor.Pw

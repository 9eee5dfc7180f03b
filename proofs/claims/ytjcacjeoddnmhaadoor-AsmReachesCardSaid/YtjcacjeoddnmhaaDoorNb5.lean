/- What the laws of this claim are proved with, joined (join.py) of 26 texts: no condition. -/
import Derived.Test.YtjcacjeoddnmhaaDoorNb3
import Derived.Test.YtjcacjeoddnmhaaDoorNb4
import Derived.Test.YtjcacjeoddnmhaaDoorNbImmD
import Derived.Test.YtjcacjeoddnmhaaDoorNbInstU
import Derived.Lib.Agree
import Derived.Laws.BitsLemmas
set_option linter.unusedVariables false
set_option linter.unusedSimpArgs false

/- General words for walks over values: values that are what they say; arguments one by one. No program in sight but its numbers. -/
namespace Go.Proofs.YtjcacjeoddnmhaaDoor.Pw
open Go Go.RowKit

theorem entersT {f : FuncId} {fn : Func} {c : Code} (hf : Tryd.prog.funcs[f]? = some fn) (hb : fn.body = some c) (hn : (fn.name == "runtime.NumGoroutine") = false) : Ev.Enters gT.cx.P f := Ev.enters_of hf hb hn

theorem isLn {w : World} {I : Nat → Prop} {β : Places} : IsL w I [] β [] := by simp only [IsL]
theorem isLc {w : World} {I : Nat → Prop} {β : Places} {x : PV} {v : Value} {xs : List PV} {vs : List Value} (h : x.Is w I β v) (h' : IsL w I xs β vs) : IsL w I (x :: xs) β (v :: vs) := by simp only [IsL]; exact ⟨h, h'⟩
theorem is_int {w : World} {I : Nat → Prop} {β : Places} (k : IntKind) (n : Int) : (PV.int k n).Is w I β (.int k n) := by simp only [PV.Is]
theorem is_tup {w : World} {I : Nat → Prop} {β : Places} {xs : List PV} {vs : Array Value} (h : IsL w I xs β vs.toList) : (PV.tup xs).Is w I β (.tuple vs) := by simp only [PV.Is]; exact ⟨vs, rfl, h⟩
theorem isL1 {w : World} {I : Nat → Prop} {β : Places} {x : PV} {vals : List Value} (h : IsL w I [x] β vals) : ∃ v, vals = [v] ∧ x.Is w I β v := by
  match vals, h with
  | [v], h => exact ⟨v, rfl, by simpa only [IsL, and_true] using h⟩
/-- a table of numbers, as the row that it is -/
theorem tab_row {G : Gx} {I : Nat → Prop} {w : World} (hM : ImmOk G I w) {g : Nat} {k : IntKind} {l : List Int} (h : (g, l.map (PV.lit k)) ∈ G.tabs) : ∃ ty fr, w.heap[g]? = some (.cells (l.map (Value.int k)).toArray ty fr) := by
  obtain ⟨arr, ty, fr, h1, h2⟩ := hM.row _ _ h
  obtain ⟨_, h3⟩ := hM.tab _ _ h
  refine ⟨ty, fr, ?_⟩
  rw [h1]
  congr 2
  refine Array.ext' (List.ext_getElem? fun i => ?_)
  rw [List.length_map] at h2
  by_cases hi : i < l.length
  · obtain ⟨v, hv, hiv, _⟩ := h3.get (i := i) (c := PV.lit k l[i]) (by simp [hi])
    rw [Ev.cells_of h1, Nat.zero_add] at hv
    simp only [PV.Is] at hiv
    subst hiv
    simp only [Array.getElem?_toList, hv, List.getElem?_map, List.getElem?_eq_getElem hi, Option.map_some]
  · rw [List.getElem?_eq_none (by simp; omega), List.getElem?_eq_none (by simp; omega)]
/-- a function that is told over worlds, where the tables are laid -/
theorem PureF.of_at {G : Gx} {f : FuncId} {args : List PV} {r : PV} (he : Ev.Enters G.cx.P f)
    (h : ∀ I β w vals, ImmOk G I w → IsL w I args β vals → ∃ v, r.Is w I no v ∧ (∀ w' I' β', r.Is w' I' β' v) ∧ Calls G.cx.P f vals.toArray w fun e w' => e = .returned v ∧ Below w.heap.size w w') : PureF G f args r := by
  refine Spec.intro he fun I β w vals hH hM hA => ?_
  obtain ⟨v, _, hr, hc⟩ := h I β w vals hM hA
  refine hc.mono fun e w' ⟨he, hB⟩ => ⟨v, r, [], I, β, he, rfl, hr _ _ _, hH.none0 _ _, hM.below hB, ⟨hB.os, hB.tape, hB.output, hB.size, fun g hg _ => hB.block g hg, fun g _ h => h, fun _ h => h, fun _ _ h => .inl h⟩, Nat.le_refl _, fun _ _ _ => rfl⟩
theorem wr1 : IntKind.i64.wrap (0 + 1) = 1 := by decide
end Go.Proofs.YtjcacjeoddnmhaaDoor.Pw

/- Instructions as values; the table of factors as the old contracts want it. -/
namespace Go.Proofs.YtjcacjeoddnmhaaDoor.Pw
open Go Go.RowKit

/-- an instruction -/
structure IN where
  form : Int
  rd : Int
  rn : Int
  rm : Int
  ra : Int
  imm : Int
  kind : Int
  by_ : Int
  set : Int
  cond : Int
  regs : Int
def inFs (i : IN) : List PV := [.int .i64 i.form, .int .i64 i.rd, .int .i64 i.rn, .int .i64 i.rm, .int .i64 i.ra, .int .i64 i.imm, .int .i64 i.kind, .int .i64 i.by_, .int .i64 i.set, .int .i64 i.cond, .int .i64 i.regs]
def inP (i : IN) : PV := .agg (inFs i)
def insP (l : List IN) : List PV := l.map inP

def iZ : IN := ⟨0, 0, 0, 0, 0, 0, 0, 0, 0, 0, 0⟩
theorem facOf {I : Nat → Prop} {w : World} (hM : ImmOk gT I w) : Fac w :=
  tab_row hM (g := 1) (k := .u32) (l := [1, 65537, 16777472, 16843009]) (show (1, facP) ∈ gT.tabs from List.mem_cons_self)

end Go.Proofs.YtjcacjeoddnmhaaDoor.Pw

/- Chapter 8, plain: how items are laid. -/
set_option linter.unusedVariables false
namespace Go.Proofs.YtjcacjeoddnmhaaDoor.Pw
open Go Go.RowKit

/-- an item of a program -/
structure AI where
  kind : Int
  inst : IN
  cond : Int
  label : Int
  to_ : Int

/-- how many bytes an item has, at an offset -/
def bytesA (x : AI) (w : Bool) (a : Int) : Int :=
  if x.kind = 1 then (if 47 < x.inst.form then 4 else 2) else if x.kind = 2 then (if w then 4 else 2) else if x.kind = 4 then (x.to_ - a % x.to_) % x.to_ else 0
/-- where items end that begin at an offset -/
def endA : List AI → List Bool → Int → Int
  | x :: l, w :: W, a => endA l W (a + bytesA x w a)
  | _, _, a => a
theorem endA_snoc (x : AI) (w : Bool) : ∀ (l : List AI) (W : List Bool) (a : Int), W.length = l.length → endA (l ++ [x]) (W ++ [w]) a = endA l W a + bytesA x w (endA l W a) := by
  intro l
  induction l with
  | nil =>
    intro W a h
    obtain rfl : W = [] := List.eq_nil_of_length_eq_zero h
    rfl
  | cons y l ih =>
    intro W a h
    cases W with
    | nil => cases h
    | cons v W => exact ih W (a + bytesA y v a) (by simpa using h)
/-- where an item stands -/
def atA (l : List AI) (W : List Bool) (i : Nat) : Int := endA (l.take i) (W.take i) 0
theorem atA_zero (l : List AI) (W : List Bool) : atA l W 0 = 0 := rfl
theorem atA_succ {l : List AI} {W : List Bool} {i : Nat} {x : AI} {w : Bool} (hl : W.length = l.length) (hx : l[i]? = some x) (hw : W[i]? = some w) : atA l W (i + 1) = atA l W i + bytesA x w (atA l W i) := by
  unfold atA
  have h1 : l.take (i + 1) = l.take i ++ [x] := by rw [List.take_add_one, hx]; rfl
  have h2 : W.take (i + 1) = W.take i ++ [w] := by rw [List.take_add_one, hw]; rfl
  rw [h1, h2]
  exact endA_snoc _ _ _ _ _ (by rw [List.length_take, List.length_take, hl])
theorem atA_end {l : List AI} {W : List Bool} (hl : W.length = l.length) {i : Nat} (h : l.length ≤ i) : atA l W i = endA l W 0 := by
  unfold atA
  rw [List.take_of_length_le h, List.take_of_length_le (by omega)]

/-- what items may be -/
structure ItOk (x : AI) : Prop where
  kind : 1 ≤ x.kind ∧ x.kind ≤ 4
  to_ : x.kind = 4 → x.to_ = 4 ∨ x.to_ = 8 ∨ x.to_ = 16
theorem bytesA_bd {x : AI} (h : ItOk x) (w : Bool) {a : Int} (ha : 0 ≤ a ∧ a % 2 = 0) : 0 ≤ bytesA x w a ∧ bytesA x w a ≤ 16 ∧ bytesA x w a % 2 = 0 := by
  unfold bytesA
  split
  · split <;> omega
  split
  · cases w <;> simp
  split
  · rename_i h4
    rcases h.to_ h4 with e | e | e <;> rw [e] <;> omega
  · omega
theorem atA_bd {l : List AI} {W : List Bool} (hl : W.length = l.length) (hI : ∀ x ∈ l, ItOk x) : ∀ i, i ≤ l.length → 0 ≤ atA l W i ∧ atA l W i ≤ 16 * i ∧ atA l W i % 2 = 0
  | 0, _ => by rw [atA_zero]; omega
  | i + 1, h => by
    have ih := atA_bd hl hI i (by omega)
    have hx : l[i]? = some l[i] := List.getElem?_eq_getElem (by omega)
    have hw : W[i]? = some W[i] := List.getElem?_eq_getElem (by omega)
    rw [atA_succ hl hx hw]
    have := bytesA_bd (hI l[i] (List.getElem_mem _)) W[i] ⟨ih.1, ih.2.2⟩
    omega
theorem atA_mono {l : List AI} {W : List Bool} (hl : W.length = l.length) (hI : ∀ x ∈ l, ItOk x) : ∀ i j, i ≤ j → j ≤ l.length → atA l W i ≤ atA l W j := by
  intro i j hij
  induction j with
  | zero => intro _; obtain rfl : i = 0 := by omega
            exact Int.le_refl _
  | succ j ih =>
    intro hj
    rcases Nat.eq_or_lt_of_le hij with e | e
    · subst e; exact Int.le_refl _
    · have h1 := ih (by omega) (by omega)
      have hx : l[j]? = some l[j] := List.getElem?_eq_getElem (by omega)
      have hw : W[j]? = some W[j] := List.getElem?_eq_getElem (by omega)
      have h2 := atA_bd hl hI j (by omega)
      rw [atA_succ hl hx hw]
      have := bytesA_bd (hI l[j] (List.getElem_mem _)) W[j] ⟨h2.1, h2.2.2⟩
      omega

/-- the place of a label's mark -/
def isMark (k : Int) (y : AI) : Bool := decide (y.kind = 3) && decide (y.label = k)
def farA (l : List AI) (W : List Bool) (i : Nat) (x : AI) : Int := match l.findIdx? (isMark x.label) with
  | some k => atA l W k - atA l W i - 4
  | none => 0
/-- can a narrow one go so far? -/
def shortA (cond n : Int) : Bool := if cond < 0 then decide (-2048 ≤ n ∧ n ≤ 2047) else decide (-256 ≤ n ∧ n ≤ 255)
def nextB (l : List AI) (W : List Bool) (i : Nat) (x : AI) (w : Bool) : Bool := w || (decide (x.kind = 2) && !shortA x.cond (farA l W i x))
def nextA (l : List AI) (W : List Bool) : List Bool := (List.zip l W).mapIdx fun i p => nextB l W i p.1 p.2
theorem nextA_len {l : List AI} {W : List Bool} (hl : W.length = l.length) : (nextA l W).length = l.length := by simp [nextA, hl]
theorem nextA_get {l : List AI} {W : List Bool} {i : Nat} {x : AI} {w : Bool} (hx : l[i]? = some x) (hw : W[i]? = some w) : (nextA l W)[i]? = some (nextB l W i x w) := by
  unfold nextA
  rw [List.getElem?_mapIdx]
  have : (List.zip l W)[i]? = some (x, w) := by rw [List.getElem?_zip_eq_some]; exact ⟨hx, hw⟩
  rw [this]; rfl
/-- how many are narrow -/
def narrowN (W : List Bool) : Nat := W.count false
theorem count_le : ∀ {V W : List Bool}, V.length = W.length → (∀ i : Nat, W[i]? = some true → V[i]? = some true) → V.count false ≤ W.count false ∧ (V.count false = W.count false → V = W)
  | [], [], _, _ => by simp
  | v :: V, w :: W, hl, h => by
    have h0 : w = true → v = true := fun e => by simpa using h 0 (by simpa using e)
    obtain ⟨h1, h2⟩ := count_le (V := V) (W := W) (by simpa using hl) fun i hi => by simpa using h (i + 1) (by simpa using hi)
    cases v <;> cases w <;> simp at h0 ⊢
    · exact ⟨by omega, fun e => h2 (by omega)⟩
    · omega
    · exact ⟨by omega, fun e => h2 (by omega)⟩
theorem nextA_up {l : List AI} {W : List Bool} (hl : W.length = l.length) : ∀ i : Nat, W[i]? = some true → (nextA l W)[i]? = some true := fun i hi => by
  have hlt : i < l.length := by rw [← hl]; exact (List.getElem?_eq_some_iff.1 hi).1
  rw [nextA_get (List.getElem?_eq_getElem hlt) hi]; rfl
theorem nextA_less {l : List AI} {W : List Bool} (hl : W.length = l.length) (h : nextA l W ≠ W) : narrowN (nextA l W) < narrowN W := by
  obtain ⟨h1, h2⟩ := count_le (by rw [nextA_len hl, hl]) (nextA_up hl)
  unfold narrowN
  rcases Nat.lt_or_ge ((nextA l W).count false) (W.count false) with h3 | h3
  · exact h3
  · exact absurd (h2 (by omega)) h
/-- a program is laid again and again: too great, or which jumps are wide, and how often it was laid -/
def layA (l : List AI) : Nat → List Bool → Int → Option (Option (List Bool × Int))
  | 0, _, _ => none
  | n + 1, W, r => if 65536 < endA l W 0 then some none else if nextA l W = W then some (some (W, r)) else layA l n (nextA l W) (r + 1)
theorem layA_some (l : List AI) : ∀ (n : Nat) (W : List Bool) (r : Int), W.length = l.length → narrowN W < n → (layA l n W r).isSome = true
  | 0, W, r, _, h => by omega
  | n + 1, W, r, hl, h => by
    rw [layA]
    split
    · rfl
    split
    · rfl
    · rename_i hne
      have := nextA_less hl hne
      exact layA_some l n _ _ (nextA_len hl) (by omega)
/-- the marks of the first items, with where they stand -/
def marksT (l : List AI) (W : List Bool) : Nat → List (Int × Int)
  | 0 => []
  | i + 1 => marksT l W i ++ (match l[i]? with
    | some x => if x.kind = 3 then [(x.label, atA l W i)] else []
    | none => [])
theorem marksT_mem {l : List AI} {W : List Bool} {p : Int × Int} : ∀ {i : Nat}, p ∈ marksT l W i → ∃ j x, j < i ∧ l[j]? = some x ∧ x.kind = 3 ∧ p = (x.label, atA l W j)
  | 0, h => by simp [marksT] at h
  | i + 1, h => by
    rw [marksT, List.mem_append] at h
    rcases h with h | h
    · obtain ⟨j, x, h1, h2⟩ := marksT_mem h
      exact ⟨j, x, by omega, h2⟩
    · split at h
      · rename_i x hx
        split at h
        · rename_i hk
          rw [List.mem_singleton] at h
          exact ⟨i, x, by omega, hx, hk, h⟩
        · simp at h
      · simp at h
theorem mem_marksT {l : List AI} {W : List Bool} {j : Nat} {x : AI} (hx : l[j]? = some x) (hk : x.kind = 3) : ∀ {i : Nat}, j < i → (x.label, atA l W j) ∈ marksT l W i
  | i + 1, h => by
    rw [marksT, List.mem_append]
    rcases Nat.lt_or_ge j i with h' | h'
    · exact .inl (mem_marksT hx hk h')
    · obtain rfl : j = i := by omega
      rw [hx]
      simp only
      rw [if_pos hk]
      exact .inr (List.mem_singleton.2 rfl)
theorem marksT_len (l : List AI) (W : List Bool) : ∀ i, (marksT l W i).length ≤ i
  | 0 => Nat.le_refl _
  | i + 1 => by
    have := marksT_len l W i
    rw [marksT, List.length_append]
    split
    · split <;> simp <;> omega
    · simp; omega
theorem lkM_app {k v : Int} (M : List (Int × Int)) (L : List (Int × Int)) (hm : ∃ p ∈ M, p.1 = k) (hv : ∀ p ∈ M, p.1 = k → p.2 = v) : lkM (L ++ M) k = v := by
  unfold lkM
  rw [List.foldl_append]
  have key : ∀ (M : List (Int × Int)) (a : Int), (∀ p ∈ M, p.1 = k → p.2 = v) → ((∃ p ∈ M, p.1 = k) ∨ a = v) → M.foldl (fun a x => if x.1 = k then x.2 else a) a = v := by
    intro M
    induction M with
    | nil => intro a _ h; exact h.elim (fun ⟨p, hp, _⟩ => by simp at hp) id
    | cons p M ih =>
      intro a hv h
      rw [List.foldl_cons]
      refine ih _ (fun q hq => hv q (by simp [hq])) ?_
      by_cases hp : p.1 = k
      · rw [if_pos hp]; exact .inr (hv p (by simp) hp)
      · rw [if_neg hp]
        rcases h with ⟨q, hq, hqk⟩ | h
        · rcases List.mem_cons.1 hq with rfl | hq
          · exact absurd hqk hp
          · exact .inl ⟨q, hq, hqk⟩
        · exact .inr h
  exact key M _ hv (.inl hm)
def cntA (l : List AI) (k : Int) : Nat := l.countP (isMark k)
/-- a label that is marked once -/
theorem one_mark {l : List AI} {k : Int} : ∀ (_ : cntA l k = 1), ∃ m x, l.findIdx? (isMark k) = some m ∧ l[m]? = some x ∧ isMark k x = true ∧ ∀ j y, l[j]? = some y → isMark k y = true → j = m := by
  unfold cntA
  induction l with
  | nil => intro h; simp at h
  | cons x l ih =>
    intro h
    rw [List.countP_cons] at h
    rw [List.findIdx?_cons]
    cases hx : isMark k x with
    | true =>
      rw [hx] at h
      have h0 : l.countP (isMark k) = 0 := by simpa using h
      refine ⟨0, x, by simp, rfl, hx, fun j y hj hy => ?_⟩
      cases j with
      | zero => rfl
      | succ j =>
        have hm : y ∈ l := List.mem_of_getElem? (by simpa using hj)
        exact absurd hy (by simpa using List.countP_eq_zero.1 h0 y hm)
    | false =>
      rw [hx] at h
      obtain ⟨m, z, h1, h2, h3, h4⟩ := ih (by simpa using h)
      refine ⟨m + 1, z, by simp [h1], by simpa using h2, h3, fun j y hj hy => ?_⟩
      cases j with
      | zero =>
        have : x = y := by simpa using hj
        subst this
        rw [hx] at hy; cases hy
      | succ j => rw [h4 j y (by simpa using hj) hy]
theorem isMark_iff {k : Int} {y : AI} : isMark k y = true ↔ y.kind = 3 ∧ y.label = k := by simp [isMark]
/-- the map of labels tells where a label stands that is marked once -/
theorem lk_far {l : List AI} {W : List Bool} (L : List (Int × Int)) {i : Nat} {x : AI} (hc : cntA l x.label = 1) : lkM (L ++ marksT l W l.length) x.label - atA l W i - 4 = farA l W i x := by
  obtain ⟨m, y, h1, h2, h3, h4⟩ := one_mark hc
  obtain ⟨k1, k2⟩ := isMark_iff.1 h3
  unfold farA
  rw [h1]
  simp only
  rw [lkM_app (v := atA l W m)]
  · exact ⟨(y.label, atA l W m), mem_marksT h2 k1 (List.getElem?_eq_some_iff.1 h2).1, k2⟩
  · rintro p hp hpk
    obtain ⟨j, z, hj, hz, hk, rfl⟩ := marksT_mem hp
    rw [h4 j z hz (isMark_iff.2 ⟨hk, hpk⟩)]

end Go.Proofs.YtjcacjeoddnmhaaDoor.Pw

/- Chapter 3 over values: which instructions may be: the rules. -/
namespace Go.Proofs.YtjcacjeoddnmhaaDoor.Pw
open Go Go.RowKit

theorem form_is (f : Int) : PureF gT 33 [.int .i64 f] (.bool (1 ≤ f ∧ f ≤ 100)) := by
  refine Spec.enter gTok P33 100 Tryd.func33 rfl (by kernel_rfl) ?_
  repeat' ((conv => whnf); first | (refine (And.intro (fun _ => ?_) (fun _ => ?_) : (_ → _) ∧ (_ → _)) <;> (first | (exfalso; first | contradiction | omega) | skip)) | refine Or.inl (And.intro (by first | exact inR_i64 (by omega) | exact inR_u32 (by omega) | exact inR_u64 (by omega) | exact inR_u8 (by omega)) ?_) | (refine And.intro (show (_ : Int) ≠ 0 by omega) (Or.inl (And.intro (show (0 : Int) ≤ _ by omega) (And.intro (show (0 : Int) < _ by omega) ?_)))) | (refine And.intro (show (_ : Int) ≠ 0 by omega) (Or.inl (And.intro (show (0 : Int) ≤ _ by omega) (And.intro (by first | exact (show (_ : Int) ≤ 9223372036854775807 by omega) | exact (show (_ : Int) ≤ 4294967295 by omega)) (And.intro (show (0 : Int) < _ by omega) ?_))))) | (refine retE ?_; show _ ↔ _; omega) | (refine retE ?_; show ¬ _; omega) | (intro _))
theorem form_wide (f : Int) : PureF gT 49 [.int .i64 f] (.bool (48 ≤ f ∧ f ≤ 100)) := by
  refine Spec.enter gTok P49 100 Tryd.func49 rfl (by kernel_rfl) ?_
  refine ⟨[], no_rl, (form_is f).use (by repeat' first | exact trivial | exact rfl | exact Iff.rfl | exact Or.inl rfl | refine And.intro ?_ ?_) rfl rfl ?_⟩
  repeat' ((conv => whnf); first | (refine (And.intro (fun _ => ?_) (fun _ => ?_) : (_ → _) ∧ (_ → _)) <;> (first | (exfalso; first | contradiction | omega) | skip)) | refine Or.inl (And.intro (by first | exact inR_i64 (by omega) | exact inR_u32 (by omega) | exact inR_u64 (by omega) | exact inR_u8 (by omega)) ?_) | (refine And.intro (show (_ : Int) ≠ 0 by omega) (Or.inl (And.intro (show (0 : Int) ≤ _ by omega) (And.intro (show (0 : Int) < _ by omega) ?_)))) | (refine And.intro (show (_ : Int) ≠ 0 by omega) (Or.inl (And.intro (show (0 : Int) ≤ _ by omega) (And.intro (by first | exact (show (_ : Int) ≤ 9223372036854775807 by omega) | exact (show (_ : Int) ≤ 4294967295 by omega)) (And.intro (show (0 : Int) < _ by omega) ?_))))) | (refine retE ?_; show _ ↔ _; omega) | (refine retE ?_; show ¬ _; omega) | (intro _))
def shL : List Int := [0, 1, 1, 1, 2, 2, 3, 3, 4, 4, 4, 4, 5, 5, 5, 5, 5, 5, 5, 5, 5, 5, 5, 5, 5, 5, 5, 5, 6, 6, 6, 7, 8, 2, 2, 9, 9, 8, 8, 8, 10, 10, 11, 12, 13, 14, 15, 16, 17, 17, 18, 18, 18, 18, 18, 18, 18, 18, 18, 18, 19, 19, 20, 20, 20, 20, 21, 21, 21, 21, 21, 21, 21, 21, 21, 21, 22, 22, 23, 23, 23, 23, 24, 24, 25, 25, 26, 26, 27, 27, 27, 27, 28, 29, 30, 31, 31, 28, 32, 33, 34]
def shapeV (f : Int) : Int := if 1 ≤ f ∧ f ≤ 100 then shL.getD f.toNat 0 else 0
theorem shape_at {f : Int} (h : 1 ≤ f ∧ f ≤ 100) {c : PV} (hc : (shL.map (PV.lit .i64))[f.toNat]? = some c) : c = .lit .i64 (shapeV f) := by
  rw [List.getElem?_map, Option.map_eq_some_iff] at hc
  obtain ⟨z, hz, rfl⟩ := hc
  unfold shapeV
  rw [if_pos h, List.getD_eq_getElem?_getD, hz]; rfl
set_option maxRecDepth 100000 in
theorem shape_pure (f : Int) : PureF gT 35 [.int .i64 f] (.int .i64 (shapeV f)) := by
  refine Spec.enter gTok P35 100 Tryd.func35 rfl (by kernel_rfl) ?_
  refine ⟨[], no_rl, (form_is f).use (by repeat' first | exact trivial | exact rfl | exact Iff.rfl | exact Or.inl rfl | refine And.intro ?_ ?_) rfl rfl ?_⟩
  refine And.intro (fun h => ?_) (fun h => ?_)
  · refine retE ?_
    exact (show (0 : Int) = shapeV f by unfold shapeV; rw [if_neg h])
  have h' := Classical.not_not.1 h
  refine ⟨by omega, show f < 101 by omega, .inr ⟨rfl, by omega, show 0 + f.toNat * 1 < 101 by omega, fun c hc => ?_⟩⟩
  have hc' : (shL.map (PV.lit .i64))[f.toNat]? = some c := by
    have e : 0 + f.toNat * 1 = f.toNat := by omega
    have h0 : (shL.map (PV.lit .i64))[0 + f.toNat * 1]? = some c := hc
    rwa [e] at h0
  obtain rfl := shape_at h' hc'
  exact retE rfl

/-- what a shape's fields may be -/
structure RU where
  rd : Int
  rn : Int
  rm : Int
  ra : Int
  i0 : Int
  i1 : Int
  i2 : Int
  b0 : Int
  b1 : Int
  b2 : Int
  kind : Bool
  set : Bool
  cond : Bool
  regs : Int
def ruF (r : RU) : List PV := [.int .i64 r.rd, .int .i64 r.rn, .int .i64 r.rm, .int .i64 r.ra, .int .i64 r.i0, .int .i64 r.i1, .int .i64 r.i2, .int .i64 r.b0, .int .i64 r.b1, .int .i64 r.b2, .bool (r.kind = true), .bool (r.set = true), .bool (r.cond = true), .int .i64 r.regs]
def ruP (r : RU) : PV := .agg (ruF r)
def r0U : RU := ⟨0, 0, 0, 0, 0, 0, 0, 0, 0, 0, false, false, false, 0⟩
def ruN (s : Int) : RU :=
  if s = 1 then { r0U with rd := 1, rm := 1, i0 := 0, i1 := 32, i2 := 1 } else if s = 2 then { r0U with rd := 1, rn := 1, rm := 1 } else if s = 3 then { r0U with rd := 1, rn := 1, i1 := 7, i2 := 1 }
  else if s = 4 then { r0U with rd := 1, i1 := 255, i2 := 1 } else if s = 5 then { r0U with rd := 1, rm := 1 } else if s = 6 then { r0U with rd := 2, rm := 2 } else if s = 7 then { r0U with rm := 2 }
  else if s = 8 then { r0U with rd := 1, i1 := 1020, i2 := 4 } else if s = 9 then { r0U with rd := 1, rn := 1, i1 := 124, i2 := 4 } else if s = 10 then { r0U with i1 := 508, i2 := 4 } else if s = 11 then { r0U with regs := 16639 } else if s = 12 then { r0U with regs := 33023 }
  else if s = 13 then r0U else if s = 14 then { r0U with i1 := 255, i2 := 1 } else if s = 15 then { r0U with cond := true, i0 := -256, i1 := 254, i2 := 2 } else if s = 16 then { r0U with i0 := -2048, i1 := 2046, i2 := 2 } else r0U
def ruW (s : Int) : RU :=
  if s = 17 then { r0U with rd := 3, i1 := 65535, i2 := 1 } else if s = 18 then { r0U with rd := 3, rn := 3, i1 := 4095, i2 := 1, set := true } else if s = 19 then { r0U with rd := 3, i1 := 4095, i2 := 1, set := true } else if s = 20 then { r0U with rn := 3, i1 := 4095, i2 := 1 }
  else if s = 21 then { r0U with rd := 3, rn := 3, rm := 3, kind := true, set := true } else if s = 22 then { r0U with rd := 3, rm := 3, kind := true, set := true } else if s = 23 then { r0U with rn := 3, rm := 3, kind := true } else if s = 24 then { r0U with rd := 3, rn := 3, i1 := 4095, i2 := 1 }
  else if s = 25 then { r0U with rd := 3, rn := 2, i1 := 4095, i2 := 1 } else if s = 26 then { r0U with rd := 3, rn := 2, rm := 3, b1 := 3, b2 := 1 } else if s = 27 then { r0U with rd := 3, rn := 3, rm := 3, set := true } else if s = 28 then { r0U with rd := 3, rn := 3, rm := 3 }
  else if s = 29 ∨ s = 30 ∨ s = 31 then { r0U with rd := 3, rn := 3, rm := 3, ra := 3 } else if s = 32 then { r0U with rd := 3, rm := 3 } else if s = 33 then { r0U with cond := true, i0 := -1048576, i1 := 1048574, i2 := 2 } else if s = 34 then { r0U with i0 := -16777216, i1 := 16777214, i2 := 2 } else ruN s
set_option maxHeartbeats 8000000 in
set_option maxRecDepth 100000 in
theorem narrowRule_pure (s : Int) : PureF gT 54 [.int .i64 s] (ruP (ruN s)) := by
  refine Spec.enter gTok P54 100 Tryd.func54 rfl (by kernel_rfl) ?_
  repeat' ((conv => whnf); first | (refine (And.intro (fun _ => ?_) (fun _ => ?_) : (_ → _) ∧ (_ → _)) <;> (first | (exfalso; first | contradiction | omega) | skip)) | refine Or.inl (And.intro (by first | exact inR_i64 (by omega) | exact inR_u32 (by omega) | exact inR_u64 (by omega) | exact inR_u8 (by omega)) ?_) | (refine And.intro (show (_ : Int) ≠ 0 by omega) (Or.inl (And.intro (show (0 : Int) ≤ _ by omega) (And.intro (show (0 : Int) < _ by omega) ?_)))) | (refine And.intro (show (_ : Int) ≠ 0 by omega) (Or.inl (And.intro (show (0 : Int) ≤ _ by omega) (And.intro (by first | exact (show (_ : Int) ≤ 9223372036854775807 by omega) | exact (show (_ : Int) ≤ 4294967295 by omega)) (And.intro (show (0 : Int) < _ by omega) ?_))))) | (simp only [ruN, *, if_true, if_false, reduceIte, Int.reduceEq]; refine retE ?_; (repeat' first | exact trivial | exact rfl | exact (show ¬ (false = true) from Bool.false_ne_true) | refine And.intro ?_ ?_)) | (intro _))
set_option maxHeartbeats 8000000 in
set_option maxRecDepth 100000 in
theorem wideRule_pure (s : Int) : PureF gT 34 [.int .i64 s] (ruP (ruW s)) := by
  refine Spec.enter gTok P34 100 Tryd.func34 rfl (by kernel_rfl) ?_
  repeat' ((conv => whnf); first | (refine (And.intro (fun _ => ?_) (fun _ => ?_) : (_ → _) ∧ (_ → _)) <;> (first | (exfalso; first | contradiction | omega) | skip)) | refine Or.inl (And.intro (by first | exact inR_i64 (by omega) | exact inR_u32 (by omega) | exact inR_u64 (by omega) | exact inR_u8 (by omega)) ?_) | (refine And.intro (show (_ : Int) ≠ 0 by omega) (Or.inl (And.intro (show (0 : Int) ≤ _ by omega) (And.intro (show (0 : Int) < _ by omega) ?_)))) | (refine And.intro (show (_ : Int) ≠ 0 by omega) (Or.inl (And.intro (show (0 : Int) ≤ _ by omega) (And.intro (by first | exact (show (_ : Int) ≤ 9223372036854775807 by omega) | exact (show (_ : Int) ≤ 4294967295 by omega)) (And.intro (show (0 : Int) < _ by omega) ?_))))) | (refine Exists.intro [] (And.intro no_rl ((narrowRule_pure s).use (by repeat' first | exact trivial | exact rfl | exact Iff.rfl | exact Or.inl rfl | refine And.intro ?_ ?_) rfl rfl ?_))) | (simp only [ruW, *, if_true, if_false, reduceIte, Int.reduceEq, or_true, true_or, or_false, false_or]; refine retE ?_; (repeat' first | exact trivial | exact rfl | exact (show ¬ (false = true) from Bool.false_ne_true) | exact Iff.rfl | refine And.intro ?_ ?_)) | (intro _))

/-! ### what rules ask -/
def hasV (c r : Int) : Prop := (c = 1 ∧ 0 ≤ r ∧ r < 8) ∨ (c = 2 ∧ 0 ≤ r ∧ r < 15) ∨ (c = 3 ∧ 0 ≤ r ∧ r < 15 ∧ r ≠ 13) ∨ (c ≠ 1 ∧ c ≠ 2 ∧ c ≠ 3 ∧ r = 0)
theorem low_pure' (r : Int) : PureF gT 55 [.int .i64 r] (.bool (0 ≤ r ∧ r < 8)) := by
  refine Spec.enter gTok P55 100 Tryd.func55 rfl (by kernel_rfl) ?_
  repeat' ((conv => whnf); first | (refine (And.intro (fun _ => ?_) (fun _ => ?_) : (_ → _) ∧ (_ → _)) <;> (first | (exfalso; first | contradiction | omega) | skip)) | refine Or.inl (And.intro (by first | exact inR_i64 (by omega) | exact inR_u32 (by omega) | exact inR_u64 (by omega) | exact inR_u8 (by omega)) ?_) | (refine And.intro (show (_ : Int) ≠ 0 by omega) (Or.inl (And.intro (show (0 : Int) ≤ _ by omega) (And.intro (show (0 : Int) < _ by omega) ?_)))) | (refine And.intro (show (_ : Int) ≠ 0 by omega) (Or.inl (And.intro (show (0 : Int) ≤ _ by omega) (And.intro (by first | exact (show (_ : Int) ≤ 9223372036854775807 by omega) | exact (show (_ : Int) ≤ 4294967295 by omega)) (And.intro (show (0 : Int) < _ by omega) ?_))))) | (refine retE ?_; show _ ↔ _; omega) | (refine retE ?_; show ¬ _; omega) | (intro _))
set_option maxRecDepth 100000 in
theorem has_pure (c r : Int) : PureF gT 36 [.int .i64 c, .int .i64 r] (.bool (hasV c r)) := by
  refine Spec.enter gTok P36 100 Tryd.func36 rfl (by kernel_rfl) ?_
  repeat' ((conv => whnf); first | (refine (And.intro (fun _ => ?_) (fun _ => ?_) : (_ → _) ∧ (_ → _)) <;> (first | (exfalso; first | contradiction | omega) | skip)) | refine Or.inl (And.intro (by first | exact inR_i64 (by omega) | exact inR_u32 (by omega) | exact inR_u64 (by omega) | exact inR_u8 (by omega)) ?_) | (refine And.intro (show (_ : Int) ≠ 0 by omega) (Or.inl (And.intro (show (0 : Int) ≤ _ by omega) (And.intro (show (0 : Int) < _ by omega) ?_)))) | (refine And.intro (show (_ : Int) ≠ 0 by omega) (Or.inl (And.intro (show (0 : Int) ≤ _ by omega) (And.intro (by first | exact (show (_ : Int) ≤ 9223372036854775807 by omega) | exact (show (_ : Int) ≤ 4294967295 by omega)) (And.intro (show (0 : Int) < _ by omega) ?_))))) | (refine Exists.intro [] (And.intro no_rl ((low_pure' r).use (by repeat' first | exact trivial | exact rfl | exact Iff.rfl | exact Or.inl rfl | refine And.intro ?_ ?_) rfl rfl ?_))) | (refine retE ?_; (show _ ↔ hasV c r); unfold hasV; omega) | (refine retE ?_; (show ¬ hasV c r); unfold hasV; omega) | (intro _))
def spanV (f t s n : Int) : Prop := (s = 0 ∧ n = 0) ∨ (s ≠ 0 ∧ f ≤ n ∧ n ≤ t ∧ n.tmod s = 0)
set_option maxRecDepth 100000 in
theorem span_pure (f t s n : Int) : PureF gT 38 [.agg [.int .i64 f, .int .i64 t, .int .i64 s], .int .i64 n] (.bool (spanV f t s n)) := by
  refine Spec.enter gTok P38 100 Tryd.func38 rfl (by kernel_rfl) ?_
  refine And.intro (fun h => ?_) (fun h => ?_)
  · refine retE ?_
    exact (show n = 0 ↔ spanV f t s n by unfold spanV; exact ⟨fun e => .inl ⟨h, e⟩, fun e => e.elim (fun e => e.2) (fun e => absurd h e.1)⟩)
  have h0 : s ≠ 0 := h
  refine And.intro (fun h1 => ?_) (fun h1 => ?_)
  · refine And.intro (fun h2 => ?_) (fun h2 => ?_)
    · refine ⟨h0, .inr ?_⟩
      refine retE ?_
      exact (show n.tmod s = 0 ↔ spanV f t s n from ⟨fun e => .inr ⟨h0, h1, h2, e⟩, fun e => e.elim (fun e => absurd e.1 h0) (fun e => e.2.2.2)⟩)
    · refine retE ?_
      exact (show ¬ spanV f t s n from fun e => e.elim (fun e => h0 e.1) (fun e => h2 e.2.2.1))
  · refine retE ?_
    exact (show ¬ spanV f t s n from fun e => e.elim (fun e => h0 e.1) (fun e => h1 e.2.1))
theorem may_pure (n : Int) (ok : Prop) : PureF gT 39 [.int .i64 n, .bool ok] (.bool (n = 0 ∨ (n = 1 ∧ ok))) := by
  refine Spec.enter gTok P39 100 Tryd.func39 rfl (by kernel_rfl) ?_
  refine And.intro (fun h => ?_) (fun h => And.intro (fun h1 => ?_) (fun h1 => ?_))
  · exact retE (show n = 0 ∨ (n = 1 ∧ ok) from .inl h)
  · exact retE (show ok ↔ (n = 0 ∨ (n = 1 ∧ ok)) from ⟨fun k => .inr ⟨h1, k⟩, fun k => k.elim (fun e => absurd e h) (fun e => e.2)⟩)
  · exact retE (show ¬ (n = 0 ∨ (n = 1 ∧ ok)) from fun k => k.elim h (fun e => h1 e.1))

end Go.Proofs.YtjcacjeoddnmhaaDoor.Pw

/- Chapter 3 over values: which instructions may be. -/
namespace Go.Proofs.YtjcacjeoddnmhaaDoor.Pw
open Go Go.RowKit

def I64 (x : Int) : Prop := -9223372036854775808 ≤ x ∧ x ≤ 9223372036854775807
theorem immword_pure (n : Int) (h : I64 n) : PureF gT 57 [.int .i64 n] (.tup [.int .u32 (Rm.wordX n), .int .i64 (Rm.wordE n)]) :=
  PureF.of_at (entersT Tryd.func57 rfl (by kernel_rfl)) fun I β w vals hM hA => by
    obtain ⟨v, rfl, h1⟩ := isL1 hA
    simp only [PV.Is] at h1
    subst h1
    refine ⟨.tuple #[.int .u32 (Rm.wordX n), .int .i64 (Rm.wordE n)], is_tup (isLc (is_int ..) (isLc (is_int ..) isLn)), fun _ _ _ => is_tup (isLc (is_int ..) (isLc (is_int ..) isLn)), ?_⟩
    refine (word_any n w (facOf hM) h.1 h.2).mono ?_
    rintro e w' ⟨rfl, rfl⟩
    exact ⟨rfl, Below.refl _ _⟩

def barrelV (k b : Int) : Prop := (k = 0 ∧ 0 ≤ b ∧ b < 32) ∨ ((k = 1 ∨ k = 2) ∧ 1 ≤ b ∧ b ≤ 32) ∨ (k = 3 ∧ 1 ≤ b ∧ b < 32)
set_option maxRecDepth 100000 in
theorem barrel_pure (k b : Int) : PureF gT 56 [.int .i64 k, .int .i64 b] (.bool (barrelV k b)) := by
  refine Spec.enter gTok P56 100 Tryd.func56 rfl (by kernel_rfl) ?_
  repeat' ((conv => whnf); first | (refine (And.intro (fun _ => ?_) (fun _ => ?_) : (_ → _) ∧ (_ → _)) <;> (first | (exfalso; first | contradiction | omega) | skip)) | refine Or.inl (And.intro (by first | exact inR_i64 (by omega) | exact inR_u32 (by omega) | exact inR_u64 (by omega) | exact inR_u8 (by omega)) ?_) | (refine And.intro (show (_ : Int) ≠ 0 by omega) (Or.inl (And.intro (show (0 : Int) ≤ _ by omega) (And.intro (show (0 : Int) < _ by omega) ?_)))) | (refine And.intro (show (_ : Int) ≠ 0 by omega) (Or.inl (And.intro (show (0 : Int) ≤ _ by omega) (And.intro (by first | exact (show (_ : Int) ≤ 9223372036854775807 by omega) | exact (show (_ : Int) ≤ 4294967295 by omega)) (And.intro (show (0 : Int) < _ by omega) ?_))))) | (refine retE ?_; (show _ ↔ barrelV k b); unfold barrelV; omega) | (refine retE ?_; (show ¬ barrelV k b); unfold barrelV; omega) | (intro _))
def shiftV (i : IN) (r : RU) : Prop := (r.kind = true ∧ barrelV i.kind i.by_) ∨ (¬ r.kind = true ∧ i.kind = 0 ∧ spanV r.b0 r.b1 r.b2 i.by_)
set_option maxHeartbeats 4000000 in
set_option maxRecDepth 100000 in
theorem shift_pure (i : IN) (r : RU) : PureF gT 40 [inP i, ruP r] (.bool (shiftV i r)) := by
  refine Spec.enter gTok P40 100 Tryd.func40 rfl (by kernel_rfl) ?_
  refine And.intro (fun h => ?_) (fun h => ?_)
  · refine ⟨[], no_rl, (barrel_pure i.kind i.by_).use (by repeat' first | exact trivial | exact rfl | exact Iff.rfl | exact Or.inl rfl | refine And.intro ?_ ?_) rfl rfl ?_⟩
    refine retE ?_
    exact (show barrelV i.kind i.by_ ↔ shiftV i r from ⟨fun k => .inl ⟨h, k⟩, fun k => k.elim (fun e => e.2) (fun e => absurd h e.1)⟩)
  · refine And.intro (fun h1 => ?_) (fun h1 => ?_)
    · refine ⟨[], no_rl, (span_pure r.b0 r.b1 r.b2 i.by_).use (by repeat' first | exact trivial | exact rfl | exact Iff.rfl | exact Or.inl rfl | refine And.intro ?_ ?_) rfl rfl ?_⟩
      refine retE ?_
      exact (show spanV r.b0 r.b1 r.b2 i.by_ ↔ shiftV i r from ⟨fun k => .inr ⟨h, h1, k⟩, fun k => k.elim (fun e => absurd e.1 h) (fun e => e.2.2)⟩)
    · refine retE ?_
      exact (show ¬ shiftV i r from fun k => k.elim (fun e => h e.1) (fun e => h1 e.2.1))
def listedV (i : IN) (r : RU) : Prop := (r.regs = 0 ∧ i.regs = 0) ∨ (¬ r.regs = 0 ∧ 0 < i.regs ∧ bits .andNot .i64 i.regs r.regs = 0)
set_option maxHeartbeats 4000000 in
set_option maxRecDepth 100000 in
theorem listed_pure (i : IN) (r : RU) : PureF gT 37 [inP i, ruP r] (.bool (listedV i r)) := by
  refine Spec.enter gTok P37 100 Tryd.func37 rfl (by kernel_rfl) ?_
  refine And.intro (fun h => ?_) (fun h => ?_)
  · refine retE ?_
    exact (show i.regs = 0 ↔ listedV i r from ⟨fun k => .inl ⟨h, k⟩, fun k => k.elim (fun e => e.2) (fun e => absurd h e.1)⟩)
  · refine And.intro (fun h1 => ?_) (fun h1 => ?_)
    · refine retE ?_
      exact (show bits .andNot .i64 i.regs r.regs = 0 ↔ listedV i r from ⟨fun k => .inr ⟨h, h1, k⟩, fun k => k.elim (fun e => absurd e.1 h) (fun e => e.2.2)⟩)
    · refine retE ?_
      exact (show ¬ listedV i r from fun k => k.elim (fun e => h e.1) (fun e => h1 e.2.1))
def apartV (i : IN) : Prop := (i.form = 1 → i.imm < 32) ∧ (i.form = 2 ∨ i.form = 3 → 0 < i.imm) ∧ (i.form = 29 → ¬ (0 ≤ i.rd ∧ i.rd < 8) ∨ ¬ (0 ≤ i.rm ∧ i.rm < 8)) ∧ (i.form = 95 ∨ i.form = 96 → i.rd ≠ i.ra) ∧ (shapeV i.form = 18 ∨ shapeV i.form = 19 ∨ shapeV i.form = 20 → Rm.wordE i.imm = 0)
theorem shape_1 : shapeV 1 = 1 ∧ shapeV 2 = 1 ∧ shapeV 3 = 1 ∧ shapeV 29 = 6 ∧ shapeV 95 = 31 ∧ shapeV 96 = 31 := by decide
set_option maxHeartbeats 8000000 in
set_option maxRecDepth 100000 in
theorem apart_pure (i : IN) (hi : I64 i.imm) : PureF gT 41 [inP i] (.bool (apartV i)) := by
  obtain ⟨s1, s2, s3, s29, s95, s96⟩ := shape_1
  refine Spec.enter gTok P41 100 Tryd.func41 rfl (by kernel_rfl) ?_
  have e : apartV i ↔ ((i.form = 1 → i.imm < 32) ∧ (i.form = 2 ∨ i.form = 3 → 0 < i.imm) ∧ (i.form = 29 → ¬ (0 ≤ i.rd ∧ i.rd < 8) ∨ ¬ (0 ≤ i.rm ∧ i.rm < 8)) ∧ (i.form = 95 ∨ i.form = 96 → i.rd ≠ i.ra) ∧ (shapeV i.form = 18 ∨ shapeV i.form = 19 ∨ shapeV i.form = 20 → Rm.wordE i.imm = 0)) := Iff.rfl
  have f1 : i.form = 1 → shapeV i.form = 1 := fun h => by rw [h]; exact s1
  have f2 : i.form = 2 → shapeV i.form = 1 := fun h => by rw [h]; exact s2
  have f3 : i.form = 3 → shapeV i.form = 1 := fun h => by rw [h]; exact s3
  have f29 : i.form = 29 → shapeV i.form = 6 := fun h => by rw [h]; exact s29
  have f95 : i.form = 95 → shapeV i.form = 31 := fun h => by rw [h]; exact s95
  have f96 : i.form = 96 → shapeV i.form = 31 := fun h => by rw [h]; exact s96
  clear s1 s2 s3 s29 s95 s96
  repeat' ((conv => whnf); first | (refine (And.intro (fun _ => ?_) (fun _ => ?_) : (_ → _) ∧ (_ → _)) <;> (first | (exfalso; first | contradiction | omega) | skip)) | refine Or.inl (And.intro (by first | exact inR_i64 (by omega) | exact inR_u32 (by omega) | exact inR_u64 (by omega) | exact inR_u8 (by omega)) ?_) | (refine And.intro (show (_ : Int) ≠ 0 by omega) (Or.inl (And.intro (show (0 : Int) ≤ _ by omega) (And.intro (show (0 : Int) < _ by omega) ?_)))) | (refine And.intro (show (_ : Int) ≠ 0 by omega) (Or.inl (And.intro (show (0 : Int) ≤ _ by omega) (And.intro (by first | exact (show (_ : Int) ≤ 9223372036854775807 by omega) | exact (show (_ : Int) ≤ 4294967295 by omega)) (And.intro (show (0 : Int) < _ by omega) ?_))))) | (refine Exists.intro [] (And.intro no_rl ((low_pure' _).use (by repeat' first | exact trivial | exact rfl | exact Iff.rfl | exact Or.inl rfl | refine And.intro ?_ ?_) rfl rfl ?_))) | (refine Exists.intro [] (And.intro no_rl ((shape_pure i.form).use (by repeat' first | exact trivial | exact rfl | exact Iff.rfl | exact Or.inl rfl | refine And.intro ?_ ?_) rfl rfl ?_))) | (refine Exists.intro [] (And.intro no_rl ((immword_pure i.imm hi).use (by repeat' first | exact trivial | exact rfl | exact Iff.rfl | exact Or.inl rfl | refine And.intro ?_ ?_) rfl rfl ?_))) | (refine retE ?_; (show apartV i); rw [e]; clear e; omega) | (refine retE ?_; (show _ ↔ apartV i); rw [e]; clear e; omega) | (refine retE ?_; (show ¬ apartV i); rw [e]; clear e; omega) | (intro _))

/-- may an instruction be? -/
def rightR (i : IN) (r : RU) : Prop := (1 ≤ i.form ∧ i.form ≤ 100) ∧ hasV r.rd i.rd ∧ hasV r.rn i.rn ∧ hasV r.rm i.rm ∧ hasV r.ra i.ra ∧ listedV i r ∧ (i.cond = 0 ∨ (r.cond = true ∧ 0 < i.cond ∧ i.cond ≤ 13)) ∧ spanV r.i0 r.i1 r.i2 i.imm ∧ (i.set = 0 ∨ (i.set = 1 ∧ r.set = true)) ∧ shiftV i r ∧ apartV i
def rightV (i : IN) : Prop := rightR i (ruW (shapeV i.form))
set_option maxHeartbeats 16000000 in
set_option maxRecDepth 100000 in
theorem right_pure (i : IN) (hi : I64 i.imm) : PureF gT 21 [inP i] (.bool (rightV i)) := by
  refine Spec.enter gTok P21 100 Tryd.func21 rfl (by kernel_rfl) ?_
  refine ⟨[], no_rl, (form_is i.form).use (by repeat' first | exact trivial | exact rfl | exact Iff.rfl | exact Or.inl rfl | refine And.intro ?_ ?_) rfl rfl ?_⟩
  refine And.intro (fun h => ?_) (fun h => ?_)
  · refine retE ?_
    exact (show ¬ rightV i from fun k => h k.1)
  have hF := Classical.not_not.1 h
  clear h
  refine ⟨[], no_rl, (shape_pure i.form).use (by repeat' first | exact trivial | exact rfl | exact Iff.rfl | exact Or.inl rfl | refine And.intro ?_ ?_) rfl rfl ?_⟩
  refine ⟨[], no_rl, (wideRule_pure _).use (by repeat' first | exact trivial | exact rfl | exact Iff.rfl | exact Or.inl rfl | refine And.intro ?_ ?_) rfl rfl ?_⟩
  unfold rightV
  generalize ruW (shapeV i.form) = r
  repeat' ((conv => whnf); first | (refine (And.intro (fun _ => ?_) (fun _ => ?_) : (_ → _) ∧ (_ → _)) <;> (first | (exfalso; first | contradiction | omega) | skip)) | refine Or.inl (And.intro (by first | exact inR_i64 (by omega) | exact inR_u32 (by omega) | exact inR_u64 (by omega) | exact inR_u8 (by omega)) ?_) | (refine And.intro (show (_ : Int) ≠ 0 by omega) (Or.inl (And.intro (show (0 : Int) ≤ _ by omega) (And.intro (show (0 : Int) < _ by omega) ?_)))) | (refine And.intro (show (_ : Int) ≠ 0 by omega) (Or.inl (And.intro (show (0 : Int) ≤ _ by omega) (And.intro (by first | exact (show (_ : Int) ≤ 9223372036854775807 by omega) | exact (show (_ : Int) ≤ 4294967295 by omega)) (And.intro (show (0 : Int) < _ by omega) ?_))))) | (refine Exists.intro [] (And.intro no_rl ((has_pure _ _).use (by repeat' first | exact trivial | exact rfl | exact Iff.rfl | exact Or.inl rfl | refine And.intro ?_ ?_) rfl rfl ?_))) | (refine Exists.intro [] (And.intro no_rl ((listed_pure i r).use (by repeat' first | exact trivial | exact rfl | exact Iff.rfl | exact Or.inl rfl | refine And.intro ?_ ?_) rfl rfl ?_))) | (refine Exists.intro [] (And.intro no_rl ((span_pure _ _ _ _).use (by repeat' first | exact trivial | exact rfl | exact Iff.rfl | exact Or.inl rfl | refine And.intro ?_ ?_) rfl rfl ?_))) | (refine Exists.intro [] (And.intro no_rl ((may_pure _ _).use (by repeat' first | exact trivial | exact rfl | exact Iff.rfl | exact Or.inl rfl | refine And.intro ?_ ?_) rfl rfl ?_))) | (refine Exists.intro [] (And.intro no_rl ((shift_pure i r).use (by repeat' first | exact trivial | exact rfl | exact Iff.rfl | exact Or.inl rfl | refine And.intro ?_ ?_) rfl rfl ?_))) | (refine Exists.intro [] (And.intro no_rl ((apart_pure i hi).use (by repeat' first | exact trivial | exact rfl | exact Iff.rfl | exact Or.inl rfl | refine And.intro ?_ ?_) rfl rfl ?_))) | (refine retE ?_; (show apartV i ↔ rightR i r); (exact ⟨fun k => ⟨hF, by assumption, by assumption, by assumption, by assumption, by assumption, by first | exact Or.inl (by assumption) | exact Or.inr ⟨by assumption, by assumption, by assumption⟩, by assumption, by assumption, by assumption, k⟩, fun k => k.2.2.2.2.2.2.2.2.2.2⟩)) | (refine retE ?_; (show ¬ rightR i r); (rintro ⟨a0, a1, a2, a3, a4, a5, a6, a7, a8, a9, a10⟩; first | contradiction | (rcases a6 with a6 | ⟨b1, b2, b3⟩ <;> first | contradiction | omega))) | (intro _))

end Go.Proofs.YtjcacjeoddnmhaaDoor.Pw

/- Chapter 8 over values: items; which may be, by the program and by the document. -/
set_option linter.unusedVariables false
namespace Go.Proofs.YtjcacjeoddnmhaaDoor.Pw
open Go Go.RowKit

def aiFs (x : AI) : List PV := [.int .i64 x.kind, .int .i64 x.inst.form, .int .i64 x.inst.rd, .int .i64 x.inst.rn, .int .i64 x.inst.rm, .int .i64 x.inst.ra, .int .i64 x.inst.imm, .int .i64 x.inst.kind, .int .i64 x.inst.by_, .int .i64 x.inst.set, .int .i64 x.inst.cond, .int .i64 x.inst.regs, .int .i64 x.cond, .int .i64 x.label, .int .i64 x.to_]
def aiP (x : AI) : PV := .agg (aiFs x)
def mayV (l : Int) : Prop := 0 ≤ l ∧ l ≤ 65535
theorem amay_pure (l : Int) : PureF gT 22 [.int .i64 l] (.bool (mayV l)) := by
  refine Spec.enter gTok P22 100 Tryd.func22 rfl (by kernel_rfl) ?_
  repeat' ((conv => whnf); first | (refine (And.intro (fun _ => ?_) (fun _ => ?_) : (_ → _) ∧ (_ → _)) <;> (first | (exfalso; first | contradiction | omega) | skip)) | refine Or.inl (And.intro (by first | exact inR_i64 (by omega) | exact inR_u32 (by omega) | exact inR_u64 (by omega) | exact inR_u8 (by omega)) ?_) | (refine And.intro (show (_ : Int) ≠ 0 by omega) (Or.inl (And.intro (show (0 : Int) ≤ _ by omega) (And.intro (show (0 : Int) < _ by omega) ?_)))) | (refine And.intro (show (_ : Int) ≠ 0 by omega) (Or.inl (And.intro (show (0 : Int) ≤ _ by omega) (And.intro (by first | exact (show (_ : Int) ≤ 9223372036854775807 by omega) | exact (show (_ : Int) ≤ 4294967295 by omega)) (And.intro (show (0 : Int) < _ by omega) ?_))))) | (refine retE ?_; (show _ ↔ mayV l); unfold mayV; omega) | (refine retE ?_; (show ¬ mayV l); unfold mayV; omega) | (intro _))
set_option maxRecDepth 10000 in
theorem ado_pure (i : IN) : PureF gT 11 [inP i] (aiP ⟨1, i, 0, 0, 0⟩) := by
  refine Spec.enter gTok P11 100 Tryd.func11 rfl (by kernel_rfl) ?_
  refine retE (by repeat' first | exact trivial | exact rfl | exact Iff.rfl | exact Or.inl rfl | refine And.intro ?_ ?_)
set_option maxRecDepth 10000 in
theorem ago_pure (c l : Int) : PureF gT 12 [.int .i64 c, .int .i64 l] (aiP ⟨2, iZ, c, l, 0⟩) := by
  refine Spec.enter gTok P12 100 Tryd.func12 rfl (by kernel_rfl) ?_
  refine retE (by repeat' first | exact trivial | exact rfl | exact Iff.rfl | exact Or.inl rfl | refine And.intro ?_ ?_)
set_option maxRecDepth 10000 in
theorem ahere_pure (l : Int) : PureF gT 13 [.int .i64 l] (aiP ⟨3, iZ, 0, l, 0⟩) := by
  refine Spec.enter gTok P13 100 Tryd.func13 rfl (by kernel_rfl) ?_
  refine retE (by repeat' first | exact trivial | exact rfl | exact Iff.rfl | exact Or.inl rfl | refine And.intro ?_ ?_)
set_option maxRecDepth 10000 in
theorem apad_pure (t : Int) : PureF gT 14 [.int .i64 t] (aiP ⟨4, iZ, 0, 0, t⟩) := by
  refine Spec.enter gTok P14 100 Tryd.func14 rfl (by kernel_rfl) ?_
  refine retE (by repeat' first | exact trivial | exact rfl | exact Iff.rfl | exact Or.inl rfl | refine And.intro ?_ ?_)
def branchV (f : Int) : Prop := f = 46 ∨ f = 47 ∨ f = 99 ∨ f = 100 ∨ f = 31
theorem branch_pure (i : IN) : PureF gT 20 [inP i] (.bool (branchV i.form)) := by
  refine Spec.enter gTok P20 100 Tryd.func20 rfl (by kernel_rfl) ?_
  unfold branchV
  repeat' ((conv => whnf); first | (refine (And.intro (fun _ => ?_) (fun _ => ?_) : (_ → _) ∧ (_ → _)) <;> (first | (exfalso; first | contradiction | omega) | skip)) | refine Or.inl (And.intro (by first | exact inR_i64 (by omega) | exact inR_u32 (by omega) | exact inR_u64 (by omega) | exact inR_u8 (by omega)) ?_) | (refine And.intro (show (_ : Int) ≠ 0 by omega) (Or.inl (And.intro (show (0 : Int) ≤ _ by omega) (And.intro (show (0 : Int) < _ by omega) ?_)))) | (refine And.intro (show (_ : Int) ≠ 0 by omega) (Or.inl (And.intro (show (0 : Int) ≤ _ by omega) (And.intro (by first | exact (show (_ : Int) ≤ 9223372036854775807 by omega) | exact (show (_ : Int) ≤ 4294967295 by omega)) (And.intro (show (0 : Int) < _ by omega) ?_))))) | (refine retE ?_; (show (_ = 46 ∨ _ = 47 ∨ _ = 99 ∨ _ = 100 ∨ _ = 31)); omega) | (refine retE ?_; show ¬ _; omega) | (intro _))
/-- no instruction -/
def zI (i : IN) : Prop := i.form = 0 ∧ i.rd = 0 ∧ i.rn = 0 ∧ i.rm = 0 ∧ i.ra = 0 ∧ i.imm = 0 ∧ i.kind = 0 ∧ i.by_ = 0 ∧ i.set = 0 ∧ i.cond = 0 ∧ i.regs = 0
/-- may an item be? -/
def rightA (x : AI) : Prop :=
  (x.kind = 1 ∧ (x.cond = 0 ∧ x.label = 0 ∧ x.to_ = 0) ∧ rightV x.inst ∧ ¬ (x.inst.form = 46 ∨ x.inst.form = 47 ∨ x.inst.form = 99 ∨ x.inst.form = 100)) ∨
  (x.kind = 2 ∧ zI x.inst ∧ x.to_ = 0 ∧ (-1 ≤ x.cond ∧ x.cond ≤ 13) ∧ mayV x.label) ∨
  (x.kind = 3 ∧ zI x.inst ∧ (x.cond = 0 ∧ x.to_ = 0) ∧ mayV x.label) ∨
  (x.kind = 4 ∧ zI x.inst ∧ (x.cond = 0 ∧ x.label = 0) ∧ (x.to_ = 4 ∨ x.to_ = 8 ∨ x.to_ = 16))
theorem and_pow : ∀ t : Int, 4 ≤ t → t ≤ 16 → (bits .and .i64 t (t - 1) = 0 ↔ t = 4 ∨ t = 8 ∨ t = 16) := by
  intro t h1 h2
  have : t = 4 ∨ t = 5 ∨ t = 6 ∨ t = 7 ∨ t = 8 ∨ t = 9 ∨ t = 10 ∨ t = 11 ∨ t = 12 ∨ t = 13 ∨ t = 14 ∨ t = 15 ∨ t = 16 := by omega
  rcases this with rfl | rfl | rfl | rfl | rfl | rfl | rfl | rfl | rfl | rfl | rfl | rfl | rfl <;> decide
theorem rightA_1 {x : AI} (h : x.kind = 1) : rightA x ↔ (x.cond = 0 ∧ x.label = 0 ∧ x.to_ = 0) ∧ rightV x.inst ∧ ¬ (x.inst.form = 46 ∨ x.inst.form = 47 ∨ x.inst.form = 99 ∨ x.inst.form = 100) := by
  unfold rightA
  exact ⟨fun k => k.elim (fun k => k.2) fun k => k.elim (fun k => absurd k.1 (by omega)) fun k => k.elim (fun k => absurd k.1 (by omega)) fun k => absurd k.1 (by omega), fun k => .inl ⟨h, k⟩⟩
theorem rightA_2 {x : AI} (h : x.kind = 2) : rightA x ↔ zI x.inst ∧ x.to_ = 0 ∧ (-1 ≤ x.cond ∧ x.cond ≤ 13) ∧ mayV x.label := by
  unfold rightA
  exact ⟨fun k => k.elim (fun k => absurd k.1 (by omega)) fun k => k.elim (fun k => k.2) fun k => k.elim (fun k => absurd k.1 (by omega)) fun k => absurd k.1 (by omega), fun k => .inr (.inl ⟨h, k⟩)⟩
theorem rightA_3 {x : AI} (h : x.kind = 3) : rightA x ↔ zI x.inst ∧ (x.cond = 0 ∧ x.to_ = 0) ∧ mayV x.label := by
  unfold rightA
  exact ⟨fun k => k.elim (fun k => absurd k.1 (by omega)) fun k => k.elim (fun k => absurd k.1 (by omega)) fun k => k.elim (fun k => k.2) fun k => absurd k.1 (by omega), fun k => .inr (.inr (.inl ⟨h, k⟩))⟩
theorem rightA_4 {x : AI} (h : x.kind = 4) : rightA x ↔ zI x.inst ∧ (x.cond = 0 ∧ x.label = 0) ∧ (x.to_ = 4 ∨ x.to_ = 8 ∨ x.to_ = 16) := by
  unfold rightA
  exact ⟨fun k => k.elim (fun k => absurd k.1 (by omega)) fun k => k.elim (fun k => absurd k.1 (by omega)) fun k => k.elim (fun k => absurd k.1 (by omega)) fun k => k.2, fun k => .inr (.inr (.inr ⟨h, k⟩))⟩
theorem rightA_kind {x : AI} (h : rightA x) : 1 ≤ x.kind ∧ x.kind ≤ 4 := by
  unfold rightA at h
  rcases h with h | h | h | h <;> omega
set_option maxHeartbeats 4000000 in
set_option maxRecDepth 10000 in
theorem iright_pure (x : AI) (hi : I64 x.inst.imm) (ht : I64 x.to_) : PureF gT 8 [aiP x] (.bool (rightA x)) := by
  have hr := right_pure x.inst hi
  have hb := branch_pure x.inst
  have hm := amay_pure x.label
  refine Spec.enter gTok P8 100 Tryd.func8 rfl (by kernel_rfl) ?_
  refine And.intro (fun k1 => ?_) (fun k1 => ?_)
  · have k1' : x.kind = 1 := k1
    rw [rightA_1 k1']
    refine ⟨[], no_rl, (ado_pure x.inst).use (by repeat' first | exact trivial | exact rfl | exact Iff.rfl | exact Or.inl rfl | refine And.intro ?_ ?_) rfl rfl ?_⟩
    refine And.intro (fun hp => ?_) (fun hp => ?_)
    · have q : x.cond = 0 ∧ x.label = 0 ∧ x.to_ = 0 := by obtain ⟨_, _, e2, e3, e4, _⟩ := hp; exact ⟨e2, e3, e4⟩
      refine ⟨[], no_rl, hr.use (by repeat' first | exact trivial | exact rfl | exact Iff.rfl | exact Or.inl rfl | refine And.intro ?_ ?_) rfl rfl ?_⟩
      refine And.intro (fun h2 => ?_) (fun h2 => ?_)
      · refine ⟨[], no_rl, hb.use (by repeat' first | exact trivial | exact rfl | exact Iff.rfl | exact Or.inl rfl | refine And.intro ?_ ?_) rfl rfl ?_⟩
        refine And.intro (fun h3 => ?_) (fun h3 => ?_)
        · refine retE ?_
          have h3' : ¬ branchV x.inst.form := h3
          unfold branchV at h3'
          exact (show _ from ⟨q, h2, fun k => h3' (by omega)⟩)
        · refine retE ?_
          have h3' : branchV x.inst.form := Classical.not_not.1 h3
          unfold branchV at h3'
          exact (show x.inst.form = 31 ↔ _ from ⟨fun k => ⟨q, h2, by omega⟩, fun k => by have := k.2.2; omega⟩)
      · refine retE ?_
        exact (show ¬ _ from fun k => h2 k.2.1)
    · refine retE ?_
      exact (show ¬ _ from fun k => hp (by obtain ⟨⟨a, b, c⟩, _⟩ := k; repeat' first | exact trivial | exact rfl | assumption | refine And.intro ?_ ?_))
  refine And.intro (fun k2 => ?_) (fun k2 => ?_)
  · have k2' : x.kind = 2 := k2
    rw [rightA_2 k2']
    refine ⟨[], no_rl, (ago_pure x.cond x.label).use (by repeat' first | exact trivial | exact rfl | exact Iff.rfl | exact Or.inl rfl | refine And.intro ?_ ?_) rfl rfl ?_⟩
    refine And.intro (fun hp => ?_) (fun hp => ?_)
    · have q : zI x.inst ∧ x.to_ = 0 := by
        obtain ⟨_, ⟨a0, a1, a2, a3, a4, a5, a6, a7, a8, a9, a10, _⟩, _, _, e4, _⟩ := hp
        exact ⟨⟨a0, a1, a2, a3, a4, a5, a6, a7, a8, a9, a10⟩, e4⟩
      refine And.intro (fun h1 => ?_) (fun h1 => ?_)
      · refine And.intro (fun h2 => ?_) (fun h2 => ?_)
        · refine ⟨[], no_rl, hm.use (by repeat' first | exact trivial | exact rfl | exact Iff.rfl | exact Or.inl rfl | refine And.intro ?_ ?_) rfl rfl ?_⟩
          refine retE ?_
          exact (show mayV x.label ↔ _ from ⟨fun k => ⟨q.1, q.2, ⟨h1, h2⟩, k⟩, fun k => k.2.2.2⟩)
        · refine retE ?_
          exact (show ¬ _ from fun k => h2 k.2.2.1.2)
      · refine retE ?_
        exact (show ¬ _ from fun k => h1 k.2.2.1.1)
    · refine retE ?_
      exact (show ¬ _ from fun k => hp (by obtain ⟨⟨a0, a1, a2, a3, a4, a5, a6, a7, a8, a9, a10⟩, b, _⟩ := k; repeat' first | exact trivial | exact rfl | assumption | refine And.intro ?_ ?_))
  refine And.intro (fun k3 => ?_) (fun k3 => ?_)
  · have k3' : x.kind = 3 := k3
    rw [rightA_3 k3']
    refine ⟨[], no_rl, (ahere_pure x.label).use (by repeat' first | exact trivial | exact rfl | exact Iff.rfl | exact Or.inl rfl | refine And.intro ?_ ?_) rfl rfl ?_⟩
    refine And.intro (fun hp => ?_) (fun hp => ?_)
    · have q : zI x.inst ∧ x.cond = 0 ∧ x.to_ = 0 := by
        obtain ⟨_, ⟨a0, a1, a2, a3, a4, a5, a6, a7, a8, a9, a10, _⟩, e2, _, e4, _⟩ := hp
        exact ⟨⟨a0, a1, a2, a3, a4, a5, a6, a7, a8, a9, a10⟩, e2, e4⟩
      refine ⟨[], no_rl, hm.use (by repeat' first | exact trivial | exact rfl | exact Iff.rfl | exact Or.inl rfl | refine And.intro ?_ ?_) rfl rfl ?_⟩
      refine retE ?_
      exact (show mayV x.label ↔ _ from ⟨fun k => ⟨q.1, q.2, k⟩, fun k => k.2.2⟩)
    · refine retE ?_
      exact (show ¬ _ from fun k => hp (by obtain ⟨⟨a0, a1, a2, a3, a4, a5, a6, a7, a8, a9, a10⟩, ⟨b, c⟩, _⟩ := k; repeat' first | exact trivial | exact rfl | assumption | refine And.intro ?_ ?_))
  refine And.intro (fun k4 => ?_) (fun k4 => ?_)
  · have k4' : x.kind = 4 := k4
    rw [rightA_4 k4']
    refine ⟨[], no_rl, (apad_pure x.to_).use (by repeat' first | exact trivial | exact rfl | exact Iff.rfl | exact Or.inl rfl | refine And.intro ?_ ?_) rfl rfl ?_⟩
    refine And.intro (fun hp => ?_) (fun hp => ?_)
    · have q : zI x.inst ∧ x.cond = 0 ∧ x.label = 0 := by
        obtain ⟨_, ⟨a0, a1, a2, a3, a4, a5, a6, a7, a8, a9, a10, _⟩, e2, e3, _, _⟩ := hp
        exact ⟨⟨a0, a1, a2, a3, a4, a5, a6, a7, a8, a9, a10⟩, e2, e3⟩
      refine And.intro (fun h1 => ?_) (fun h1 => ?_)
      · refine And.intro (fun h2 => ?_) (fun h2 => ?_)
        · have h1' : 4 ≤ x.to_ := h1
          have h2' : x.to_ ≤ 16 := h2
          refine .inl ⟨inR_i64 (show _ ≤ x.to_ - 1 ∧ x.to_ - 1 ≤ _ by omega), ?_⟩
          refine retE ?_
          exact (show bits .and .i64 x.to_ (x.to_ - 1) = 0 ↔ _ from ⟨fun k => ⟨q.1, q.2, (and_pow _ h1' h2').1 k⟩, fun k => (and_pow _ h1' h2').2 k.2.2⟩)
        · refine retE ?_
          exact (show ¬ _ from fun k => h2 (show x.to_ ≤ 16 by have := k.2.2; omega))
      · refine retE ?_
        exact (show ¬ _ from fun k => h1 (show 4 ≤ x.to_ by have := k.2.2; omega))
    · refine retE ?_
      exact (show ¬ _ from fun k => hp (by obtain ⟨⟨a0, a1, a2, a3, a4, a5, a6, a7, a8, a9, a10⟩, ⟨b, c⟩, _⟩ := k; repeat' first | exact trivial | exact rfl | assumption | refine And.intro ?_ ?_))
  · refine retE ?_
    have q1 : ¬ x.kind = 1 := k1
    have q2 : ¬ x.kind = 2 := k2
    have q3 : ¬ x.kind = 3 := k3
    have q4 : ¬ x.kind = 4 := k4
    exact (show ¬ rightA x from fun k => by have := rightA_kind k; omega)

end Go.Proofs.YtjcacjeoddnmhaaDoor.Pw

/- Chapter 3 over values: the document's Right is the program's. -/
namespace Go.Proofs.YtjcacjeoddnmhaaDoor.Pw
open Go Go.RowKit

def inLs (i : IN) : List Int := [i.form, i.rd, i.rn, i.rm, i.ra, i.imm, i.kind, i.by_, i.set, i.cond, i.regs]
/-- all of an instruction's numbers are ints -/
def IOk (i : IN) : Prop := ∀ x ∈ inLs i, I64 x
end Go.Proofs.YtjcacjeoddnmhaaDoor.Pw

/- Chapter 8 over values: the document's: may an item be? -/
set_option linter.unusedVariables false
namespace Go.Proofs.YtjcacjeoddnmhaaDoor.Pw
open Go Go.RowKit

set_option maxRecDepth 10000 in
theorem aof_pure (x : AI) : PureF gT 9 [aiP x] (aiP x) := by
  refine Spec.enter gTok P9 100 Tryd.func9 rfl (by kernel_rfl) ?_
  refine retE (by repeat' first | exact trivial | exact rfl | exact Iff.rfl | exact Or.inl rfl | refine And.intro ?_ ?_)
end Go.Proofs.YtjcacjeoddnmhaaDoor.Pw

/- Chapter 4 over values: bits of numbers. -/
namespace Go.Proofs.YtjcacjeoddnmhaaDoor.Pw
open Go Go.RowKit

/-- w bits of a number, from l on -/
def cutV (x : Int) (l w : Nat) : Int := x / 2 ^ l % 2 ^ w
theorem and_mask (x : Int) (w : Nat) (h0 : 0 ≤ x) (h1 : x ≤ 4294967295) (hw : w ≤ 31) : bits .and .u32 x (2 ^ w - 1) = x % 2 ^ w := by
  have hp : (2 : Int) ^ w ≤ 2 ^ 31 := by
    have := Nat.pow_le_pow_right (n := 2) (by omega) hw
    exact_mod_cast this
  have hp0 : (1 : Int) ≤ 2 ^ w := by
    have := Nat.one_le_two_pow (n := w)
    exact_mod_cast this
  rw [u32_and x (2 ^ w - 1) h0 (by omega) (by omega) (by omega)]
  have e : x.toNat &&& ((2 : Int) ^ w - 1).toNat = x.toNat % 2 ^ w := by
    have : ((2 : Int) ^ w - 1).toNat = 2 ^ w - 1 := by
      have e2 : ((2 ^ w : Nat) : Int) = (2 : Int) ^ w := by norm_cast
      omega
    rw [this]
    exact Nat.and_two_pow_sub_one_eq_mod x.toNat w
  rw [e]
  have : ((x.toNat % 2 ^ w : Nat) : Int) = (x.toNat : Int) % ((2 ^ w : Nat) : Int) := by norm_cast
  rw [this, Int.toNat_of_nonneg h0]
  norm_cast

theorem pow2_u32 (n : Nat) (h : n ≤ 32) : Ev.pow2 .u32 (n : Int) = 2 ^ n := by
  unfold Ev.pow2
  rw [Int.toNat_natCast, show min n (IntKind.bits .u32) = n from Nat.min_eq_left h]
  norm_cast
theorem pow_cast (w : Nat) : ((2 ^ w : Nat) : Int) = (2 : Int) ^ w := by norm_cast
theorem pow_bd (w : Nat) (hw : w ≤ 31) : (1 : Int) ≤ 2 ^ w ∧ (2 : Int) ^ w ≤ 2147483648 := by
  have h1 := Nat.one_le_two_pow (n := w)
  have h2 : (2 ^ w : Nat) ≤ 2147483648 := Nat.le_trans (Nat.pow_le_pow_right (n := 2) (by omega) hw) (by decide)
  have e := pow_cast w
  omega
theorem div_bd (x p : Int) (h0 : 0 ≤ x) (h1 : x ≤ 4294967295) (hp : 1 ≤ p) : 0 ≤ x / p ∧ x / p ≤ 4294967295 :=
  ⟨Int.ediv_nonneg h0 (by omega), Int.le_trans (Int.ediv_le_self _ h0) h1⟩
theorem cut_pure (x : Int) (l w : Nat) (hx : 0 ≤ x ∧ x ≤ 4294967295) (hw : 1 ≤ w ∧ w ≤ 31) (hl : l ≤ 31) : PureF gT 83 [.int .u32 x, .int .i64 ((l : Int) + w - 1), .int .i64 l] (.int .u32 (cutV x l w)) := by
  have p1 := pow2_u32 l (by omega)
  have p2 := pow2_u32 w (by omega)
  have b1 := pow_bd l hl
  have b2 := pow_bd w hw.2
  have d := div_bd x (2 ^ l) hx.1 hx.2 b1.1
  have e : ((l : Int) + w - 1) - l + 1 = w := by omega
  refine Spec.enter gTok P83 100 Tryd.func83 rfl (by kernel_rfl) ?_
  refine ⟨by omega, .inl ⟨inR_i64 (by omega), .inl ⟨inR_i64 (by omega), ?_⟩⟩⟩
  refine ⟨by omega, .inl ⟨inR_u32 (show 0 ≤ 1 * Ev.pow2 .u32 (((l : Int) + w - 1) - l + 1) ∧ 1 * Ev.pow2 .u32 (((l : Int) + w - 1) - l + 1) ≤ 4294967295 by rw [e, p2]; omega), ?_⟩⟩
  refine .inl ⟨inR_u32 (show 0 ≤ 1 * Ev.pow2 .u32 (((l : Int) + w - 1) - l + 1) - 1 ∧ 1 * Ev.pow2 .u32 (((l : Int) + w - 1) - l + 1) - 1 ≤ 4294967295 by rw [e, p2]; omega), ?_⟩
  refine retE ?_
  show bits .and .u32 (x / Ev.pow2 .u32 l) (1 * Ev.pow2 .u32 (((l : Int) + w - 1) - l + 1) - 1) = cutV x l w
  rw [e, p1, p2, Int.one_mul, and_mask _ w d.1 d.2 hw.2]; rfl

end Go.Proofs.YtjcacjeoddnmhaaDoor.Pw

/- Chapter 4 over values: the document's powers and bits. -/
namespace Go.Proofs.YtjcacjeoddnmhaaDoor.Pw
open Go Go.RowKit

theorem pow_bd62 (w : Nat) (hw : w ≤ 62) : (1 : Int) ≤ 2 ^ w ∧ (2 : Int) ^ w ≤ 4611686018427387904 := by
  have h1 := Nat.one_le_two_pow (n := w)
  have h2 : (2 ^ w : Nat) ≤ 4611686018427387904 := Nat.le_trans (Nat.pow_le_pow_right (n := 2) (by omega) hw) (by decide)
  have e := pow_cast w
  omega

/-- the document's bits of a number -/
def bitsV (n : Int) (l w : Nat) : Int := (if n < 0 then n + 1099511627776 else n) / 2 ^ l % 2 ^ w

end Go.Proofs.YtjcacjeoddnmhaaDoor.Pw

/- Chapter 4 over values: the document's fields of a shape; a field of an instruction. -/
namespace Go.Proofs.YtjcacjeoddnmhaaDoor.Pw
open Go Go.RowKit

def fieldsV (s : Int) : List (Nat × Nat × Nat × Nat) :=
  if s = 1 then [(4, 0, 6, 5), (2, 0, 3, 3), (0, 0, 0, 3)]
  else if s = 2 then [(2, 0, 6, 3), (1, 0, 3, 3), (0, 0, 0, 3)]
  else if s = 3 then [(4, 0, 6, 3), (1, 0, 3, 3), (0, 0, 0, 3)]
  else if s = 4 then [(0, 0, 8, 3), (4, 0, 0, 8)]
  else if s = 5 then [(2, 0, 3, 3), (0, 0, 0, 3)]
  else if s = 6 then [(0, 3, 7, 1), (2, 0, 3, 4), (0, 0, 0, 3)]
  else if s = 7 then [(2, 0, 3, 4)]
  else if s = 8 then [(0, 0, 8, 3), (4, 2, 0, 8)]
  else if s = 9 then [(4, 2, 6, 5), (1, 0, 3, 3), (0, 0, 0, 3)]
  else if s = 10 then [(4, 2, 0, 7)]
  else if s = 11 then [(9, 14, 8, 1), (9, 0, 0, 8)]
  else if s = 12 then [(9, 15, 8, 1), (9, 0, 0, 8)]
  else if s = 14 then [(4, 0, 0, 8)]
  else if s = 15 then [(8, 0, 8, 4), (4, 1, 0, 8)]
  else if s = 16 then [(4, 1, 0, 11)]
  else if s = 17 then [(4, 11, 26, 1), (4, 12, 16, 4), (4, 8, 12, 3), (4, 0, 0, 8), (0, 0, 8, 4)]
  else if s = 18 then [(4, 11, 26, 1), (4, 8, 12, 3), (4, 0, 0, 8), (7, 0, 20, 1), (1, 0, 16, 4), (0, 0, 8, 4)]
  else if s = 19 then [(4, 11, 26, 1), (4, 8, 12, 3), (4, 0, 0, 8), (7, 0, 20, 1), (0, 0, 8, 4)]
  else if s = 20 then [(4, 11, 26, 1), (4, 8, 12, 3), (4, 0, 0, 8), (1, 0, 16, 4)]
  else if s = 21 then [(6, 2, 12, 3), (6, 0, 6, 2), (5, 0, 4, 2), (7, 0, 20, 1), (1, 0, 16, 4), (0, 0, 8, 4), (2, 0, 0, 4)]
  else if s = 22 then [(6, 2, 12, 3), (6, 0, 6, 2), (5, 0, 4, 2), (7, 0, 20, 1), (0, 0, 8, 4), (2, 0, 0, 4)]
  else if s = 23 then [(6, 2, 12, 3), (6, 0, 6, 2), (5, 0, 4, 2), (1, 0, 16, 4), (2, 0, 0, 4)]
  else if s = 24 then [(4, 11, 26, 1), (4, 8, 12, 3), (4, 0, 0, 8), (1, 0, 16, 4), (0, 0, 8, 4)]
  else if s = 25 then [(1, 0, 16, 4), (0, 0, 12, 4), (4, 0, 0, 12)]
  else if s = 26 then [(1, 0, 16, 4), (0, 0, 12, 4), (6, 0, 4, 2), (2, 0, 0, 4)]
  else if s = 27 then [(7, 0, 20, 1), (1, 0, 16, 4), (0, 0, 8, 4), (2, 0, 0, 4)]
  else if s = 28 then [(1, 0, 16, 4), (0, 0, 8, 4), (2, 0, 0, 4)]
  else if s = 29 then [(1, 0, 16, 4), (3, 0, 12, 4), (0, 0, 8, 4), (2, 0, 0, 4)]
  else if s = 30 then [(1, 0, 16, 4), (3, 0, 12, 4), (0, 0, 8, 4), (2, 0, 0, 4)]
  else if s = 31 then [(1, 0, 16, 4), (0, 0, 12, 4), (3, 0, 8, 4), (2, 0, 0, 4)]
  else if s = 32 then [(2, 0, 16, 4), (0, 0, 8, 4), (2, 0, 0, 4)]
  else if s = 33 then [(4, 20, 26, 1), (8, 0, 22, 4), (4, 12, 16, 6), (4, 18, 13, 1), (4, 19, 11, 1), (4, 1, 0, 11)]
  else if s = 34 then [(4, 24, 26, 1), (4, 12, 16, 10), (4, 23, 13, 1), (4, 22, 11, 1), (4, 1, 0, 11)]
  else []
def getV (i : IN) (f : Nat) : Int := [i.rd, i.rn, i.rm, i.ra, i.imm, i.kind, i.by_, i.set, i.cond, i.regs].getD f 0

end Go.Proofs.YtjcacjeoddnmhaaDoor.Pw

/- Chapter 4, plain: words as fields that are or-ed together. -/
namespace Go.Proofs.YtjcacjeoddnmhaaDoor.Pw
open Go Go.RowKit

theorem or_low (a b k : Nat) (h : b < 2 ^ k) : 2 ^ k * a + b = 2 ^ k * a ||| b := Nat.two_pow_add_eq_or_of_lt h a
/-- n's first b bits, or-ed to w from a place on -/
def plus (w n at_ b : Nat) : Nat := w ||| (n % 2 ^ b) <<< at_
end Go.Proofs.YtjcacjeoddnmhaaDoor.Pw

/- Chapters 3 and 4 over values: shapes and bits of forms. -/
namespace Go.Proofs.YtjcacjeoddnmhaaDoor.Pw
open Go Go.RowKit

def fbL : List Int := [0, 2048, 4096, 6144, 6656, 7168, 7680, 8192, 10240, 12288, 14336, 16384, 16448, 16512, 16576, 16640, 16704, 16768, 16832, 16896, 16960, 17024, 17088, 17152, 17216, 17280, 17344, 17408, 17664, 17920, 18176, 18432, 20480, 22528, 24576, 26624, 36864, 38912, 43008, 45056, 45184, 46080, 48128, 48896, 48640, 53248, 57344, 4064280576, 4072669184, 4026531840, 4028628992, 4030726144, 4032823296, 4034920448, 4043309056, 4047503360, 4049600512, 4053794816, 4055891968, 4031709184, 4033806336, 4027584256, 4035972864, 4044361472, 4054847232, 3925868544, 3927965696, 3930062848, 3932160000, 3934257152, 3942645760, 3946840064, 3948937216, 3953131520, 3955228672, 3931045888, 3933143040, 3926920960, 3935309568, 3943698176, 3954183936, 4060086272, 4070572032, 4173332480, 4174381056, 4164943872, 4165992448, 4194365440, 4196462592, 4198559744, 4200656896, 4211142656, 4211081216, 4211081232, 4221566976, 4225761280, 4222677232, 4205899904, 4026564608, 4026568704]
/-- a form's bits -/
def fbV (f : Int) : Int := if 1 ≤ f ∧ f ≤ 100 then fbL.getD (f - 1).toNat 0 else 0
theorem at_lit {k : IntKind} {l : List Int} {n : Nat} {c : PV} (hc : (l.map (PV.lit k))[n]? = some c) : c = .lit k (l.getD n 0) := by
  rw [List.getElem?_map, Option.map_eq_some_iff] at hc
  obtain ⟨z, hz, rfl⟩ := hc
  rw [List.getD_eq_getElem?_getD, hz]; rfl
end Go.Proofs.YtjcacjeoddnmhaaDoor.Pw

/- Chapters 3 and 4 over values: the program's bits of forms. -/
namespace Go.Proofs.YtjcacjeoddnmhaaDoor.Pw
open Go Go.RowKit

set_option maxHeartbeats 4000000 in
set_option maxRecDepth 100000 in
theorem bitsOf_pure (f : Int) (hF : 1 ≤ f ∧ f ≤ 100) : PureF gT 68 [.int .i64 f] (.int .u32 (fbV f)) := by
  refine Spec.enter gTok P68 100 Tryd.func68 rfl (by kernel_rfl) ?_
  refine ⟨by omega, show f < 101 by omega, .inr ⟨rfl, by omega, show 0 + f.toNat * 1 < 101 by omega, fun c hc => ?_⟩⟩
  have hc' : ((0 :: fbL).map (PV.lit .u32))[f.toNat]? = some c := by
    have e : 0 + f.toNat * 1 = f.toNat := by omega
    have h0 : ((0 :: fbL).map (PV.lit .u32))[0 + f.toNat * 1]? = some c := hc
    rwa [e] at h0
  obtain rfl := at_lit hc'
  refine retE (show (0 :: fbL).getD f.toNat 0 = fbV f from ?_)
  unfold fbV
  rw [if_pos hF, show f.toNat = (f - 1).toNat + 1 by omega]
  rfl
theorem formBits_pure (f : Int) : PureF gT 50 [.int .i64 f] (.int .u32 (fbV f)) := by
  refine Spec.enter gTok P50 100 Tryd.func50 rfl (by kernel_rfl) ?_
  refine ⟨[], no_rl, (form_is f).use (by repeat' first | exact trivial | exact rfl | exact Iff.rfl | exact Or.inl rfl | refine And.intro ?_ ?_) rfl rfl ?_⟩
  refine And.intro (fun h => ?_) (fun h => ?_)
  · exact retE (show (0 : Int) = fbV f by unfold fbV; rw [if_neg h])
  refine ⟨[], no_rl, (bitsOf_pure f (Classical.not_not.1 h)).use (by repeat' first | exact trivial | exact rfl | exact Iff.rfl | exact Or.inl rfl | refine And.intro ?_ ?_) rfl rfl ?_⟩
  exact retE rfl

end Go.Proofs.YtjcacjeoddnmhaaDoor.Pw

/- Chapter 4 over values: the document's bits of an instruction. -/
namespace Go.Proofs.YtjcacjeoddnmhaaDoor.Pw
open Go Go.RowKit

def fdOk (x : Nat × Nat × Nat × Nat) : Prop := x.1 < 10 ∧ x.2.1 ≤ 40 ∧ 1 ≤ x.2.2.2 ∧ x.2.2.1 + x.2.2.2 ≤ 32
theorem fields_none (s : Int) (h : s < 1 ∨ 34 < s) : fieldsV s = [] := by
  unfold fieldsV
  repeat rw [if_neg (by omega)]
def fdB (l : List (Nat × Nat × Nat × Nat)) : Bool := l.all (fun x => decide (x.1 < 10 ∧ x.2.1 ≤ 40 ∧ 1 ≤ x.2.2.2 ∧ x.2.2.1 + x.2.2.2 ≤ 32)) && decide (l.length ≤ 7)
theorem fields_tab : ∀ k : Fin 35, fdB (fieldsV ((k.1 : Nat) : Int)) = true := by decide
theorem fields_fd (s : Int) : fdB (fieldsV s) = true := by
  by_cases h : s < 1 ∨ 34 < s
  · rw [fields_none s h]; rfl
  · have h1 := fields_tab ⟨s.toNat, by omega⟩
    rwa [show (((⟨s.toNat, by omega⟩ : Fin 35).1 : Nat) : Int) = s by simp only []; omega] at h1
theorem fields_all (s : Int) : (fieldsV s).all (fun x => decide (x.1 < 10 ∧ x.2.1 ≤ 40 ∧ 1 ≤ x.2.2.2 ∧ x.2.2.1 + x.2.2.2 ≤ 32)) = true :=
  ((Bool.and_eq_true ..).mp (fields_fd s)).1
theorem fields_ok (s : Int) : ∀ x ∈ fieldsV s, fdOk x := fun x hx => by
  have := List.all_eq_true.1 (fields_all s) x hx
  exact (of_decide_eq_true (p := x.1 < 10 ∧ x.2.1 ≤ 40 ∧ 1 ≤ x.2.2.2 ∧ x.2.2.1 + x.2.2.2 ≤ 32) this)
theorem fields_len (s : Int) : (fieldsV s).length ≤ 7 :=
  of_decide_eq_true ((Bool.and_eq_true ..).mp (fields_fd s)).2
/-- what a field adds to a word -/
def putF (i : IN) (w : Nat) (x : Nat × Nat × Nat × Nat) : Nat := plus w (bitsV (getV i x.1) x.2.1 x.2.2.2).toNat x.2.2.1 x.2.2.2
/-- the bits of an instruction -/
def wordF (i : IN) (l : List (Nat × Nat × Nat × Nat)) : Nat := l.foldl (putF i) (fbV i.form).toNat

theorem plus_lt (w n a b : Nat) (hw : w < 2 ^ 32) (h : a + b ≤ 32) : plus w n a b < 2 ^ 32 := by
  unfold plus
  refine Nat.or_lt_two_pow hw ?_
  rw [Nat.shiftLeft_eq]
  have h1 : n % 2 ^ b < 2 ^ b := Nat.mod_lt _ (Nat.two_pow_pos b)
  calc n % 2 ^ b * 2 ^ a < 2 ^ b * 2 ^ a := Nat.mul_lt_mul_of_pos_right h1 (Nat.two_pow_pos a)
    _ = 2 ^ (b + a) := (Nat.pow_add ..).symm
    _ ≤ 2 ^ 32 := Nat.pow_le_pow_right (by omega) (by omega)
theorem bitsV_bd (n : Int) (l w : Nat) : 0 ≤ bitsV n l w ∧ bitsV n l w < 2 ^ w := by
  have hp : (0 : Int) < 2 ^ w := by have := pow_cast w; have := Nat.two_pow_pos w; omega
  exact ⟨Int.emod_nonneg _ (by omega), Int.emod_lt_of_pos _ hp⟩
theorem bitsV_nat (n l w : Nat) : bitsV n l w = ((n / 2 ^ l % 2 ^ w : Nat) : Int) := by
  unfold bitsV
  rw [if_neg (by omega), ← pow_cast, ← pow_cast]
  norm_cast

end Go.Proofs.YtjcacjeoddnmhaaDoor.Pw

/- Chapter 4 over values: the document's turn and least. -/
namespace Go.Proofs.YtjcacjeoddnmhaaDoor.Pw
open Go Go.RowKit

/-- a round of turn: bit k is flipped to the agreement of bit k and s -/
def turn1 (s n : Int) (k : Nat) : Int := n + ((if bitsV n k 1 = s then 1 else 0) - bitsV n k 1) * 2 ^ k
def turnN (n : Int) : Nat → Int
  | 0 => n
  | k + 1 => turn1 (bitsV n 24 1) (turnN n k) (22 + k)
theorem bit_bd (n : Int) (k : Nat) : bitsV n k 1 = 0 ∨ bitsV n k 1 = 1 := by
  have := bitsV_bd n k 1
  have e : (2 : Int) ^ 1 = 2 := rfl
  omega
theorem turn1_bd (s n : Int) (k : Nat) (hk : k = 22 ∨ k = 23) : n - 8388608 ≤ turn1 s n k ∧ turn1 s n k ≤ n + 8388608 := by
  have hb := bit_bd n k
  have p : (2 : Int) ^ 22 = 4194304 := by decide
  have q : (2 : Int) ^ 23 = 8388608 := by decide
  unfold turn1
  rcases hk with rfl | rfl <;> rcases hb with h | h <;> rw [h] <;> split <;> omega
theorem turnN_bd (n : Int) (k : Nat) (hk : k ≤ 2) : n - 16777216 ≤ turnN n k ∧ turnN n k ≤ n + 16777216 := by
  have h0 := turn1_bd (bitsV n 24 1) (turnN n 0) 22 (.inl rfl)
  have h1 := turn1_bd (bitsV n 24 1) (turnN n 1) 23 (.inr rfl)
  have e0 : turnN n 0 = n := rfl
  have e1 : turnN n 1 = turn1 (bitsV n 24 1) (turnN n 0) 22 := rfl
  have e2 : turnN n 2 = turn1 (bitsV n 24 1) (turnN n 1) 23 := rfl
  match k, hk with
  | 0, _ => omega
  | 1, _ => omega
  | 2, _ => omega

end Go.Proofs.YtjcacjeoddnmhaaDoor.Pw

/- Chapter 4 over values: least; the document's word of an instruction. -/
namespace Go.Proofs.YtjcacjeoddnmhaaDoor.Pw
open Go Go.RowKit

def leastV (n : Int) (w : Nat) : Int := if bitsV n (w - 1) 1 = 1 then n - 2 ^ w else n

end Go.Proofs.YtjcacjeoddnmhaaDoor.Pw

/- Chapter 4 over values: the document's word of an instruction. -/
namespace Go.Proofs.YtjcacjeoddnmhaaDoor.Pw
open Go Go.RowKit

/-- the instruction whose fields are laid: a jump's number is turned -/
def turnI (i : IN) : IN := if shapeV i.form = 34 then {i with imm := turnN (bitsV i.imm 0 25) 2} else i
def wordV (i : IN) : Int := ((wordF (turnI i) (fieldsV (shapeV i.form)) : Nat) : Int)
theorem fb_all : fbL.all (fun z => decide (0 ≤ z ∧ z < 4294967296)) = true := by decide
theorem fb_bd (f : Int) : 0 ≤ fbV f ∧ fbV f < 4294967296 := by
  unfold fbV
  split
  · rw [List.getD_eq_getElem?_getD]
    cases h : fbL[(f - 1).toNat]? with
    | none => exact ⟨Int.le_refl 0, by decide⟩
    | some z => exact of_decide_eq_true (List.all_eq_true.1 fb_all z (List.mem_of_getElem? h))
  · omega
theorem foldl_lt (i : IN) (l : List (Nat × Nat × Nat × Nat)) (h : ∀ y ∈ l, fdOk y) : ∀ w, w < 2 ^ 32 → l.foldl (putF i) w < 2 ^ 32 := by
  induction l with
  | nil => exact fun w hw => hw
  | cons y l ih => exact fun w hw => ih (fun z hz => h z (List.mem_cons_of_mem _ hz)) _ (plus_lt w _ _ _ hw (h y List.mem_cons_self).2.2.2)
theorem wordF_lt (i : IN) (l : List (Nat × Nat × Nat × Nat)) (h : ∀ y ∈ l, fdOk y) : wordF i l < 2 ^ 32 :=
  foldl_lt i l h _ (by have := fb_bd i.form; omega)
end Go.Proofs.YtjcacjeoddnmhaaDoor.Pw

/- Chapter 4, plain: fields that stand apart: each can be read again; which forms can have the same bits. -/
namespace Go.Proofs.YtjcacjeoddnmhaaDoor.Pw
open Go Go.RowKit

/-- which bits a field covers -/
def vF (i : IN) (x : Nat × Nat × Nat × Nat) : Nat := (bitsV (getV i x.1) x.2.1 x.2.2.2).toNat
theorem vF_lt (i : IN) (x : Nat × Nat × Nat × Nat) : vF i x < 2 ^ x.2.2.2 := by
  have := bitsV_bd (getV i x.1) x.2.1 x.2.2.2
  have e := pow_cast x.2.2.2
  unfold vF; omega
theorem plus_test (w n a b p : Nat) : (plus w n a b).testBit p = (w.testBit p || (decide (a ≤ p) && decide (p < a + b) && n.testBit (p - a))) := by
  unfold plus
  rw [Nat.testBit_or, Nat.testBit_shiftLeft, Nat.testBit_mod_two_pow]
  congr 1
  by_cases h : a ≤ p
  · by_cases h2 : p < a + b
    · rw [decide_eq_true h2, decide_eq_true (show p - a < b by omega)]; simp [h]
    · rw [decide_eq_false h2, decide_eq_false (show ¬ p - a < b by omega)]; simp
  · simp [h]
def inF (p : Nat) (x : Nat × Nat × Nat × Nat) : Bool := decide (x.2.2.1 ≤ p) && decide (p < x.2.2.1 + x.2.2.2)
theorem fold_test (i : IN) (p : Nat) : ∀ (l : List (Nat × Nat × Nat × Nat)) (W : Nat), (l.foldl (putF i) W).testBit p = (W.testBit p || l.any fun x => inF p x && (vF i x).testBit (p - x.2.2.1))
  | [], W => by simp
  | x :: l, W => by
    rw [List.foldl_cons, fold_test i p l, List.any_cons, ← Bool.or_assoc]
    congr 1
    exact plus_test W (vF i x) x.2.2.1 x.2.2.2 p
/-- fields that stand apart, and where nothing else stands -/
def apartB (l : List (Nat × Nat × Nat × Nat)) : Bool := l.all fun x => l.all fun y => decide (x = y) || decide (x.2.2.1 + x.2.2.2 ≤ y.2.2.1) || decide (y.2.2.1 + y.2.2.2 ≤ x.2.2.1)
def freeB (W : Nat) (l : List (Nat × Nat × Nat × Nat)) : Bool := l.all fun x => decide (W / 2 ^ x.2.2.1 % 2 ^ x.2.2.2 = 0)
theorem apart_tab : ∀ k : Fin 35, apartB (fieldsV ((k.1 : Nat) : Int)) = true := by decide
theorem fields_apart (s : Int) : apartB (fieldsV s) = true := by
  by_cases h : s < 1 ∨ 34 < s
  · rw [fields_none s h]; rfl
  · have h1 := apart_tab ⟨s.toNat, by omega⟩
    rwa [show (((⟨s.toNat, by omega⟩ : Fin 35).1 : Nat) : Int) = s by simp only []; omega] at h1
theorem free_tab : (List.range 101).all (fun k => freeB (fbV (k : Int)).toNat (fieldsV (shapeV (k : Int)))) = true := by decide +kernel
theorem fields_free (f : Int) : freeB (fbV f).toNat (fieldsV (shapeV f)) = true := by
  by_cases h : 1 ≤ f ∧ f ≤ 100
  · have h1 := List.all_eq_true.1 free_tab f.toNat (List.mem_range.2 (by omega))
    rwa [show ((f.toNat : Nat) : Int) = f by omega] at h1
  · unfold shapeV; rw [if_neg h, fields_none 0 (by omega)]; rfl
theorem fold_field (i : IN) {l : List (Nat × Nat × Nat × Nat)} {W : Nat} (ha : apartB l = true) (hf : freeB W l = true) {x : Nat × Nat × Nat × Nat} (hx : x ∈ l) : (l.foldl (putF i) W) / 2 ^ x.2.2.1 % 2 ^ x.2.2.2 = vF i x := by
  apply Nat.eq_of_testBit_eq
  intro p
  rw [Nat.testBit_mod_two_pow, Nat.testBit_div_two_pow]
  by_cases hp : p < x.2.2.2
  · rw [decide_eq_true hp, Bool.true_and, fold_test]
    have h0 : W.testBit (p + x.2.2.1) = false := by
      have h1 := of_decide_eq_true (List.all_eq_true.1 hf x hx)
      have h2 : (W / 2 ^ x.2.2.1 % 2 ^ x.2.2.2).testBit p = false := by rw [h1]; simp
      rw [Nat.testBit_mod_two_pow, Nat.testBit_div_two_pow, decide_eq_true hp, Bool.true_and] at h2
      exact h2
    rw [h0, Bool.false_or, Bool.eq_iff_iff, List.any_eq_true]
    constructor
    · rintro ⟨y, hy, hb⟩
      simp only [Bool.and_eq_true, inF, decide_eq_true_eq] at hb
      have h3 := List.all_eq_true.1 (List.all_eq_true.1 ha x hx) y hy
      simp only [Bool.or_eq_true, decide_eq_true_eq] at h3
      rcases h3 with (rfl | h3) | h3
      · have := hb.2; rwa [show p + x.2.2.1 - x.2.2.1 = p by omega] at this
      · omega
      · omega
    · intro hb
      refine ⟨x, hx, ?_⟩
      simp only [Bool.and_eq_true, inF, decide_eq_true_eq]
      exact ⟨⟨by omega, by omega⟩, by rwa [show p + x.2.2.1 - x.2.2.1 = p by omega]⟩
  · rw [decide_eq_false hp, Bool.false_and]
    exact (Nat.testBit_lt_two_pow (Nat.lt_of_lt_of_le (vF_lt i x) (Nat.pow_le_pow_right (by decide) (by omega)))).symm
/-- a bit is fixed where no field has it -/
def fxd (l : List (Nat × Nat × Nat × Nat)) (p : Nat) : Bool := l.all fun x => !inF p x
theorem fold_fixed (i : IN) {l : List (Nat × Nat × Nat × Nat)} {W p : Nat} (h : fxd l p = true) : (l.foldl (putF i) W).testBit p = W.testBit p := by
  rw [fold_test]
  have : (l.any fun x => inF p x && (vF i x).testBit (p - x.2.2.1)) = false := by
    rw [List.any_eq_false]
    intro x hx
    have := List.all_eq_true.1 h x hx
    simp only [Bool.not_eq_true'] at this
    rw [this]; simp
  rw [this, Bool.or_false]
def fbN (f : Nat) : Nat := (fbV (f : Int)).toNat
def fdN (f : Nat) : List (Nat × Nat × Nat × Nat) := fieldsV (shapeV (f : Int))
/-- a register's field of the one where the other one has four ones -/
def sideB (f g : Nat) : Bool := (fdN f).any fun x => decide (x.1 < 4) && decide (x.2.1 = 0) && decide (x.2.2.2 = 4) && ([0, 1, 2, 3].all fun k => fxd (fdN g) (x.2.2.1 + k) && (fbN g).testBit (x.2.2.1 + k))
def pairB (f g : Nat) : Bool := decide (f = g) || ((List.range 32).any fun p => fxd (fdN f) p && fxd (fdN g) p && ((fbN f).testBit p != (fbN g).testBit p)) || sideB f g || sideB g f
theorem pairs_narrow : ((List.range 47).all fun f => (List.range 47).all fun g => pairB (f + 1) (g + 1)) = true := by decide +kernel
theorem pairs_wide : ((List.range 53).all fun f => (List.range 53).all fun g => pairB (f + 48) (g + 48)) = true := by decide +kernel

end Go.Proofs.YtjcacjeoddnmhaaDoor.Pw

/- Chapter 4, plain: right instructions with the same bits have the same form. -/
namespace Go.Proofs.YtjcacjeoddnmhaaDoor.Pw
open Go Go.RowKit

theorem has_bd {c r : Int} (h : hasV c r) : 0 ≤ r ∧ r < 15 := by unfold hasV at h; omega
theorem right_regs {i : IN} (h : rightV i) : (0 ≤ i.rd ∧ i.rd < 15) ∧ (0 ≤ i.rn ∧ i.rn < 15) ∧ (0 ≤ i.rm ∧ i.rm < 15) ∧ (0 ≤ i.ra ∧ i.ra < 15) := by
  obtain ⟨_, h1, h2, h3, h4, _⟩ := h
  exact ⟨has_bd h1, has_bd h2, has_bd h3, has_bd h4⟩
theorem turnI_form (i : IN) : (turnI i).form = i.form := by unfold turnI; split <;> rfl
theorem turnI_reg (i : IN) (f : Nat) (hf : f < 4) : getV (turnI i) f = getV i f := by
  unfold turnI
  split
  · match f, hf with
    | 0, _ | 1, _ | 2, _ | 3, _ => rfl
  · rfl
theorem word_fixed (i : IN) {p : Nat} (h : fxd (fieldsV (shapeV i.form)) p = true) : (wordV i).toNat.testBit p = (fbV i.form).toNat.testBit p := by
  unfold wordV wordF
  rw [Int.toNat_natCast, fold_fixed _ h, turnI_form]
theorem word_field (i : IN) {x : Nat × Nat × Nat × Nat} (hx : x ∈ fieldsV (shapeV i.form)) : (wordV i).toNat / 2 ^ x.2.2.1 % 2 ^ x.2.2.2 = vF (turnI i) x := by
  unfold wordV wordF
  rw [Int.toNat_natCast]
  have h := fields_free i.form
  rw [← turnI_form i] at h
  refine fold_field (turnI i) (fields_apart _) ?_ hx
  rw [turnI_form] at h ⊢
  exact h
theorem ones4 : ∀ v : Fin 16, (v.1.testBit 0 = true ∧ v.1.testBit 1 = true ∧ v.1.testBit 2 = true ∧ v.1.testBit 3 = true) → v.1 = 15 := by decide
theorem side_no {a b : IN} (ha : rightV a) (fa : a.form = ((a.form.toNat : Nat) : Int)) (fb : b.form = ((b.form.toNat : Nat) : Int)) (h : sideB a.form.toNat b.form.toNat = true) : wordV a ≠ wordV b := fun e => by
  obtain ⟨x, hx, h⟩ := List.any_eq_true.1 h
  simp only [Bool.and_eq_true, decide_eq_true_eq] at h
  obtain ⟨⟨⟨h1, h2⟩, h3⟩, h4⟩ := h
  have hx' : x ∈ fieldsV (shapeV a.form) := by rw [fa]; exact hx
  have hf := word_field a hx'
  have hr : vF (turnI a) x < 15 := by
    unfold vF
    rw [turnI_reg a x.1 h1, h2, h3]
    obtain ⟨r0, r1, r2, r3⟩ := right_regs ha
    have key : ∀ r : Int, 0 ≤ r ∧ r < 15 → (bitsV r 0 4).toNat < 15 := fun r hr => by
      unfold bitsV; rw [if_neg (by omega)]
      have e0 : (2 : Int) ^ 0 = 1 := rfl
      have e4 : (2 : Int) ^ 4 = 16 := rfl
      rw [e0, e4]; omega
    match x.1, h1 with
    | 0, _ => exact key _ r0
    | 1, _ => exact key _ r1
    | 2, _ => exact key _ r2
    | 3, _ => exact key _ r3
  have hv : ∀ k, k ∈ [0, 1, 2, 3] → (vF (turnI a) x).testBit k = true := fun k hk => by
    have h5 := List.all_eq_true.1 h4 k hk
    simp only [Bool.and_eq_true] at h5
    have hk4 : k < 4 := by simp at hk; omega
    rw [← hf, h3, Nat.testBit_mod_two_pow, Nat.testBit_div_two_pow, decide_eq_true hk4, Bool.true_and, e]
    have h6 : fxd (fieldsV (shapeV b.form)) (x.2.2.1 + k) = true := by rw [fb]; exact h5.1
    rw [Nat.add_comm, word_fixed b h6]
    have h7 := h5.2
    unfold fbN at h7
    rw [← fb] at h7
    exact h7
  have := ones4 ⟨vF (turnI a) x, by omega⟩ ⟨hv 0 (by simp), hv 1 (by simp), hv 2 (by simp), hv 3 (by simp)⟩
  simp only [] at this
  omega
theorem pair_no {a b : IN} (ha : rightV a) (hb : rightV b) (h : pairB a.form.toNat b.form.toNat = true) (e : wordV a = wordV b) : a.form = b.form := by
  have f1 := ha.1
  have f2 := hb.1
  have fa : a.form = ((a.form.toNat : Nat) : Int) := by omega
  have fb : b.form = ((b.form.toNat : Nat) : Int) := by omega
  unfold pairB at h
  simp only [Bool.or_eq_true, decide_eq_true_eq] at h
  rcases h with ((h | h) | h) | h
  · omega
  · obtain ⟨p, _, h⟩ := List.any_eq_true.1 h
    simp only [Bool.and_eq_true] at h
    obtain ⟨⟨h1, h2⟩, h3⟩ := h
    have k1 := word_fixed a (p := p) (by rw [fa]; exact h1)
    have k2 := word_fixed b (p := p) (by rw [fb]; exact h2)
    unfold fbN at h3
    rw [← fa, ← fb, ← k1, ← k2, e] at h3
    simp at h3
  · exact absurd e (side_no ha fa fb h)
  · exact absurd e.symm (side_no hb fb fa h)
/-- right instructions of one length with the same bits have the same form -/
theorem once_form {a b : IN} (ha : rightV a) (hb : rightV b) (hw : 48 ≤ a.form ↔ 48 ≤ b.form) (e : wordV a = wordV b) : a.form = b.form := by
  have f1 := ha.1
  have f2 := hb.1
  by_cases h : 48 ≤ a.form
  · have h1 := List.all_eq_true.1 (List.all_eq_true.1 pairs_wide (a.form.toNat - 48) (List.mem_range.2 (by omega))) (b.form.toNat - 48) (List.mem_range.2 (by have := hw.1 h; omega))
    rw [show a.form.toNat - 48 + 48 = a.form.toNat by omega, show b.form.toNat - 48 + 48 = b.form.toNat by have := hw.1 h; omega] at h1
    exact pair_no ha hb h1 e
  · have h1 := List.all_eq_true.1 (List.all_eq_true.1 pairs_narrow (a.form.toNat - 1) (List.mem_range.2 (by omega))) (b.form.toNat - 1) (List.mem_range.2 (by omega))
    rw [show a.form.toNat - 1 + 1 = a.form.toNat by omega, show b.form.toNat - 1 + 1 = b.form.toNat by omega] at h1
    exact pair_no ha hb h1 e

end Go.Proofs.YtjcacjeoddnmhaaDoor.Pw

/- Chapter 4, plain: the reading of a word; a jump's turned bits. -/
namespace Go.Proofs.YtjcacjeoddnmhaaDoor.Pw
open Go Go.RowKit

/-- what a word's fields give a field of an instruction -/
def xV (s w : Int) (f : Nat) : Int := ((fieldsV s).filter fun x => decide (x.1 = f)).foldl (fun a x => a + bitsV w x.2.2.1 x.2.2.2 * 2 ^ x.2.1) 0
def immA (s f x : Int) : Int := if s = 15 then leastV x 9 else if s = 16 then leastV x 12 else if s = 33 then leastV x 21 else if s = 34 then leastV (turnN x 2) 25 else if s = 1 ∧ 1 < f ∧ x = 0 then 32 else x
def byA (s k x : Int) : Int := if 21 ≤ s ∧ s ≤ 23 ∧ x = 0 ∧ (k = 1 ∨ k = 2) then 32 else x
def rmA (s w x : Int) : Int := if s = 32 then bitsV w 0 4 else x
/-- the document's reading of a word, by a form -/
def readV (f w : Int) : IN := ⟨f, xV (shapeV f) w 0, xV (shapeV f) w 1, rmA (shapeV f) w (xV (shapeV f) w 2), xV (shapeV f) w 3, immA (shapeV f) f (xV (shapeV f) w 4), xV (shapeV f) w 5, byA (shapeV f) (xV (shapeV f) w 5) (xV (shapeV f) w 6), xV (shapeV f) w 7, xV (shapeV f) w 8, xV (shapeV f) w 9⟩
/-- the fields of an instruction itself -/
def xR (s : Int) (i : IN) (f : Nat) : Int := ((fieldsV s).filter fun x => decide (x.1 = f)).foldl (fun a x => a + bitsV (getV i x.1) x.2.1 x.2.2.2 * 2 ^ x.2.1) 0
theorem foldl_cong {α β : Type} {f g : β → α → β} : ∀ {l : List α} {b : β}, (∀ b x, x ∈ l → f b x = g b x) → l.foldl f b = l.foldl g b
  | [], _, _ => rfl
  | x :: l, b, h => by rw [List.foldl_cons, List.foldl_cons, h b x (List.mem_cons_self ..)]; exact foldl_cong fun b y hy => h b y (List.mem_cons_of_mem _ hy)
theorem vF_int (i : IN) (x : Nat × Nat × Nat × Nat) : ((vF i x : Nat) : Int) = bitsV (getV i x.1) x.2.1 x.2.2.2 := Int.toNat_of_nonneg (bitsV_bd ..).1
theorem word_bits (i : IN) {x : Nat × Nat × Nat × Nat} (hx : x ∈ fieldsV (shapeV i.form)) : bitsV (wordV i) x.2.2.1 x.2.2.2 = bitsV (getV (turnI i) x.1) x.2.1 x.2.2.2 := by
  have h := word_field i hx
  have e : wordV i = (((wordV i).toNat : Nat) : Int) := by unfold wordV; rw [Int.toNat_natCast]
  rw [e, bitsV_nat, h, vF_int]
theorem xV_word (i : IN) (f : Nat) : xV (shapeV i.form) (wordV i) f = xR (shapeV i.form) (turnI i) f := by
  unfold xV xR
  refine foldl_cong fun b x hx => ?_
  rw [word_bits i (List.mem_filter.1 hx).1]
theorem shape_bd {f : Int} (h : 1 ≤ f ∧ f ≤ 100) : 1 ≤ shapeV f ∧ shapeV f ≤ 34 := by
  have h1 : ((List.range 100).all fun k => decide (1 ≤ shapeV ((k + 1 : Nat) : Int) ∧ shapeV ((k + 1 : Nat) : Int) ≤ 34)) = true := by decide +kernel
  have h2 := of_decide_eq_true (List.all_eq_true.1 h1 (f.toNat - 1) (List.mem_range.2 (by omega)))
  rwa [show (((f.toNat - 1 + 1 : Nat)) : Int) = f by omega] at h2
theorem shape_one {f : Int} (h : 1 ≤ f ∧ f ≤ 100) : shapeV f = 1 → f = 1 ∨ f = 2 ∨ f = 3 := by
  have h1 : ((List.range 100).all fun k => decide (shapeV ((k + 1 : Nat) : Int) = 1 → k < 3)) = true := by decide +kernel
  have h2 := of_decide_eq_true (List.all_eq_true.1 h1 (f.toNat - 1) (List.mem_range.2 (by omega)))
  rw [show (((f.toNat - 1 + 1 : Nat)) : Int) = f by omega] at h2
  intro h3; have := h2 h3; omega
theorem tm0 {n s : Int} (h : n.tmod s = 0) : n % s = 0 := Int.emod_eq_zero_of_dvd (Int.dvd_of_tmod_eq_zero h)
theorem span_lit {f t s n : Int} (h : spanV f t s n) : (s = 0 ∧ n = 0) ∨ (s ≠ 0 ∧ f ≤ n ∧ n ≤ t ∧ n % s = 0) := h.imp id fun ⟨a, b, c, d⟩ => ⟨a, b, c, tm0 d⟩
theorem and_pow' (x k : Nat) : x &&& 2 ^ k = (x / 2 ^ k % 2) * 2 ^ k := by
  apply Nat.eq_of_testBit_eq
  intro i
  rw [Nat.testBit_and, Nat.testBit_two_pow]
  rcases Nat.mod_two_eq_zero_or_one (x / 2 ^ k) with h | h
  · rw [h, Nat.zero_mul, Nat.zero_testBit]
    by_cases hi : k = i
    · subst hi; rw [Nat.testBit_eq_decide_div_mod_eq]; simp [h]
    · simp [hi]
  · rw [h, Nat.one_mul, Nat.testBit_two_pow]
    by_cases hi : k = i
    · subst hi; rw [Nat.testBit_eq_decide_div_mod_eq]; simp [h]
    · simp [hi]
theorem mask_nat' (k x : Nat) (hk : 8 ≤ k) : x &&& (2 ^ k ||| (2 ^ 8 - 1)) = (x / 2 ^ k % 2) * 2 ^ k + x % 256 := by
  rw [Nat.and_or_distrib_left, Nat.and_two_pow_sub_one_eq_mod, and_pow']
  have hlt : x % 2 ^ 8 < 2 ^ k := Nat.lt_of_lt_of_le (Nat.mod_lt _ (by decide)) (Nat.pow_le_pow_right (by decide) hk)
  have := Nat.two_pow_add_eq_or_of_lt hlt (x / 2 ^ k % 2)
  rw [Nat.mul_comm, ← this]
theorem andNot_zero (a m : Nat) (ha : a < 9223372036854775808) (hm : m < 9223372036854775808) (h : bits .andNot .i64 (a : Int) (m : Int) = 0) : a &&& m = a := by
  have e : ∀ c : Nat, c < 9223372036854775808 → (BitVec.ofInt 64 (c : Int)).toNat = c := fun c hc => by
    rw [BitVec.ofInt_natCast, BitVec.toNat_ofNat]; exact Nat.mod_eq_of_lt (by omega)
  have h1 : IntKind.i64.wrap ((BitVec.ofInt 64 (a : Int) &&& ~~~ BitVec.ofInt 64 (m : Int)).toNat : Int) = 0 := h
  have hlt : (BitVec.ofInt 64 (a : Int) &&& ~~~ BitVec.ofInt 64 (m : Int)).toNat < 9223372036854775808 := by
    rw [BitVec.toNat_and, e a ha]
    exact Nat.lt_of_le_of_lt Nat.and_le_left ha
  rw [IntKind.wrap_i64] at h1
  have h2 : (BitVec.ofInt 64 (a : Int) &&& ~~~ BitVec.ofInt 64 (m : Int)) = 0#64 := BitVec.eq_of_toNat_eq (by rw [BitVec.toNat_ofNat]; omega)
  have h3 : BitVec.ofInt 64 (a : Int) &&& BitVec.ofInt 64 (m : Int) = BitVec.ofInt 64 (a : Int) := by
    apply BitVec.eq_of_getLsbD_eq
    intro i hi
    have h4 := congrArg (fun v => v.getLsbD i) h2
    simp only [BitVec.getLsbD_and, BitVec.getLsbD_not, BitVec.getLsbD_zero, hi, decide_true, Bool.true_and] at h4
    rw [BitVec.getLsbD_and]
    cases ha : (BitVec.ofInt 64 (a : Int)).getLsbD i <;> cases hb : (BitVec.ofInt 64 (m : Int)).getLsbD i <;> simp_all
  have h5 := congrArg BitVec.toNat h3
  rwa [BitVec.toNat_and, e a ha, e m hm] at h5
set_option maxRecDepth 100000 in
theorem regs_of (k : Nat) (hk : 8 ≤ k) (hk2 : k ≤ 15) (r m : Int) (hm : m = 2 ^ k + 255) (h0 : 0 < r) (h1 : r ≤ 9223372036854775807) (h : bits .andNot .i64 r m = 0) : r / 2 ^ k % 2 * 2 ^ k + r % 256 = r := by
  have e := andNot_zero r.toNat (2 ^ k + 255) (by omega) (by have := Nat.pow_le_pow_right (n := 2) (by omega) hk2; omega) (by
    rw [show ((r.toNat : Nat) : Int) = r by omega, show (((2 ^ k + 255 : Nat)) : Int) = m by rw [hm]; push_cast; rfl]; exact h)
  have e2 : 2 ^ k + 255 = 2 ^ k ||| (2 ^ 8 - 1) := by
    have hlt : 255 < 2 ^ k := Nat.lt_of_lt_of_le (show 255 < 2 ^ 8 by decide) (Nat.pow_le_pow_right (by decide) hk)
    have := Nat.two_pow_add_eq_or_of_lt hlt 1
    rwa [Nat.mul_one] at this
  rw [e2, mask_nat' k _ hk] at e
  have e3 : ((r.toNat / 2 ^ k % 2 * 2 ^ k + r.toNat % 256 : Nat) : Int) = ((r.toNat : Nat) : Int) := congrArg _ e
  push_cast at e3
  rw [show ((r.toNat : Nat) : Int) = r by omega] at e3
  exact e3
theorem eights {n : Int} (h : 0 ≤ n ∧ n < 33554432) : ∃ a, 0 ≤ a ∧ a < 4194304 ∧ (n = a ∨ n = 4194304 + a ∨ n = 8388608 + a ∨ n = 12582912 + a ∨ n = 16777216 + a ∨ n = 20971520 + a ∨ n = 25165824 + a ∨ n = 29360128 + a) := ⟨n % 4194304, by omega⟩
theorem turn_all (n : Int) (h : 0 ≤ n ∧ n < 33554432) : turnN n 2 = n + ((if n / 4194304 % 2 = n / 16777216 % 2 then 1 else 0) - n / 4194304 % 2) * 4194304 + ((if n / 8388608 % 2 = n / 16777216 % 2 then 1 else 0) - n / 8388608 % 2) * 8388608 := by
  have p22 : (2 : Int) ^ 22 = 4194304 := by decide
  have p23 : (2 : Int) ^ 23 = 8388608 := by decide
  have p24 : (2 : Int) ^ 24 = 16777216 := by decide
  have p1 : (2 : Int) ^ 1 = 2 := by decide
  have b : ∀ m : Int, 0 ≤ m → ∀ k, bitsV m k 1 = m / 2 ^ k % 2 := fun m hm k => by unfold bitsV; rw [if_neg (by omega), p1]
  obtain ⟨t, ht⟩ : ∃ t, t = turn1 (bitsV n 24 1) n 22 := ⟨_, rfl⟩
  have e : turnN n 2 = turn1 (bitsV n 24 1) t 23 := by rw [ht]; rfl
  unfold turn1 at ht
  rw [b n h.1, b n h.1, p24, p22] at ht
  have ht0 : 0 ≤ t ∧ t < 33554432 ∧ t / 8388608 % 2 = n / 8388608 % 2 := by
    obtain ⟨a, a0, a1, h8⟩ := eights h
    rcases h8 with h8 | h8 | h8 | h8 | h8 | h8 | h8 | h8 <;> split at ht <;> omega
  rw [e]
  unfold turn1
  rw [b n h.1, b t ht0.1, p24, p23, ht0.2.2, ht]
theorem turn_bd {n : Int} (h : 0 ≤ n ∧ n < 33554432) : 0 ≤ turnN n 2 ∧ turnN n 2 < 33554432 := by
  rw [turn_all n h]
  obtain ⟨a, a0, a1, h8⟩ := eights h
  rcases h8 with h8 | h8 | h8 | h8 | h8 | h8 | h8 | h8 <;> split <;> split <;> omega
theorem turn_bits {n : Int} (h : 0 ≤ n ∧ n < 33554432) : turnN n 2 / 16777216 = n / 16777216 ∧ turnN n 2 % 4194304 = n % 4194304 ∧ turnN n 2 / 4194304 % 2 = (if n / 4194304 % 2 = n / 16777216 % 2 then 1 else 0) ∧ turnN n 2 / 8388608 % 2 = (if n / 8388608 % 2 = n / 16777216 % 2 then 1 else 0) := by
  rw [turn_all n h]
  obtain ⟨a, a0, a1, h8⟩ := eights h
  rcases h8 with h8 | h8 | h8 | h8 | h8 | h8 | h8 | h8 <;> split <;> split <;> omega
theorem turn_turn {n : Int} (h : 0 ≤ n ∧ n < 33554432) : turnN (turnN n 2) 2 = n := by
  have c := turn_bits h
  rw [turn_all _ (turn_bd h), c.1, c.2.2.1, c.2.2.2, turn_all n h]
  clear c
  obtain ⟨a, a0, a1, h8⟩ := eights h
  have e24 : n / 16777216 % 2 = n / 16777216 := by omega
  rw [e24]
  rcases h8 with h8 | h8 | h8 | h8 | h8 | h8 | h8 | h8
  · have x : n / 4194304 % 2 = 0 := by omega
    have y : n / 8388608 % 2 = 0 := by omega
    have z : n / 16777216 = 0 := by omega
    rw [x, y, z]; simp <;> omega
  · have x : n / 4194304 % 2 = 1 := by omega
    have y : n / 8388608 % 2 = 0 := by omega
    have z : n / 16777216 = 0 := by omega
    rw [x, y, z]; simp <;> omega
  · have x : n / 4194304 % 2 = 0 := by omega
    have y : n / 8388608 % 2 = 1 := by omega
    have z : n / 16777216 = 0 := by omega
    rw [x, y, z]; simp <;> omega
  · have x : n / 4194304 % 2 = 1 := by omega
    have y : n / 8388608 % 2 = 1 := by omega
    have z : n / 16777216 = 0 := by omega
    rw [x, y, z]; simp <;> omega
  · have x : n / 4194304 % 2 = 0 := by omega
    have y : n / 8388608 % 2 = 0 := by omega
    have z : n / 16777216 = 1 := by omega
    rw [x, y, z]; simp <;> omega
  · have x : n / 4194304 % 2 = 1 := by omega
    have y : n / 8388608 % 2 = 0 := by omega
    have z : n / 16777216 = 1 := by omega
    rw [x, y, z]; simp <;> omega
  · have x : n / 4194304 % 2 = 0 := by omega
    have y : n / 8388608 % 2 = 1 := by omega
    have z : n / 16777216 = 1 := by omega
    rw [x, y, z]; simp <;> omega
  · have x : n / 4194304 % 2 = 1 := by omega
    have y : n / 8388608 % 2 = 1 := by omega
    have z : n / 16777216 = 1 := by omega
    rw [x, y, z]; simp <;> omega

end Go.Proofs.YtjcacjeoddnmhaaDoor.Pw

/- Chapter 4, plain: the reading of an instruction's own bits. -/
namespace Go.Proofs.YtjcacjeoddnmhaaDoor.Pw
open Go Go.RowKit

theorem turnI_not {i : IN} (h : shapeV i.form ≠ 34) : turnI i = i := if_neg h
theorem sh34 {i : IN} (h : shapeV i.form = 34) : turnI i = {i with imm := turnN (bitsV i.imm 0 25) 2} := if_pos h
theorem in_ext {a b : IN} (h0 : a.form = b.form) (h1 : a.rd = b.rd) (h2 : a.rn = b.rn) (h3 : a.rm = b.rm) (h4 : a.ra = b.ra) (h5 : a.imm = b.imm) (h6 : a.kind = b.kind) (h7 : a.by_ = b.by_) (h8 : a.set = b.set) (h9 : a.cond = b.cond) (h10 : a.regs = b.regs) : a = b := by
  cases a; cases b; simp_all
def readX (s : Int) (i : IN) : IN := ⟨i.form, xR s i 0, xR s i 1, if s = 32 then bitsV i.rm 0 4 else xR s i 2, xR s i 3, immA s i.form (xR s i 4), xR s i 5, byA s (xR s i 5) (xR s i 6), xR s i 7, xR s i 8, xR s i 9⟩
theorem read_word (i : IN) (h32 : shapeV i.form = 32 → bitsV (wordV i) 0 4 = bitsV (turnI i).rm 0 4) : readV i.form (wordV i) = {readX (shapeV i.form) (turnI i) with form := i.form} := by
  unfold readV readX
  rw [xV_word, xV_word, xV_word, xV_word, xV_word, xV_word, xV_word, xV_word, xV_word, xV_word, turnI_form]
  unfold rmA
  by_cases h : shapeV i.form = 32
  · rw [if_pos h, if_pos h, h32 h]
  · rw [if_neg h, if_neg h]

end Go.Proofs.YtjcacjeoddnmhaaDoor.Pw

/- Chapter 4, plain: each field of each shape, put together again (written by gen_td.py). -/
namespace Go.Proofs.YtjcacjeoddnmhaaDoor.Pw
open Go Go.RowKit

theorem s_by (k v : Int) (h : barrelV k v) : (if 0 + bitsV v 2 3 * 2 ^ 2 + bitsV v 0 2 * 2 ^ 0 = 0 ∧ (k = 1 ∨ k = 2) then 32 else 0 + bitsV v 2 3 * 2 ^ 2 + bitsV v 0 2 * 2 ^ 0) = v := by
  unfold barrelV at h; unfold bitsV; (repeat' split) <;> omega
theorem kind_bd {k v : Int} (h : barrelV k v) : 0 ≤ k ∧ k < 4 := by unfold barrelV at h; omega
theorem s_1_0 (v : Int) (h : 0 ≤ v ∧ v < 8) : 0 + bitsV v 0 3 * 2 ^ 0 = v := by
  unfold bitsV; (repeat' split) <;> omega
theorem s_1_1 (v : Int) (h : v = 0) : 0 = v := by
  omega
theorem s_1_2 (v : Int) (h : 0 ≤ v ∧ v < 8) : 0 + bitsV v 0 3 * 2 ^ 0 = v := by
  unfold bitsV; (repeat' split) <;> omega
theorem s_1_3 (v : Int) (h : v = 0) : 0 = v := by
  omega
theorem s_1_5 (v : Int) (h : v = 0) : 0 = v := by
  omega
theorem s_1_6 (v : Int) (h : v = 0) : 0 = v := by
  omega
theorem s_1_7 (v : Int) (h : v = 0) : 0 = v := by
  omega
theorem s_1_8 (v : Int) (h : v = 0) : 0 = v := by
  omega
theorem s_1_9 (v : Int) (h : v = 0) : 0 = v := by
  omega
theorem s_1_4 (f v : Int) (h : 0 ≤ v ∧ v ≤ 32) (h1 : f = 1 → v < 32) (h2 : f = 2 ∨ f = 3 → 0 < v) (h3 : f = 1 ∨ f = 2 ∨ f = 3) : (if 1 < f ∧ 0 + bitsV v 0 5 * 2 ^ 0 = 0 then 32 else 0 + bitsV v 0 5 * 2 ^ 0) = v := by
  unfold bitsV; (repeat' split) <;> omega
theorem s_2_0 (v : Int) (h : 0 ≤ v ∧ v < 8) : 0 + bitsV v 0 3 * 2 ^ 0 = v := by
  unfold bitsV; (repeat' split) <;> omega
theorem s_2_1 (v : Int) (h : 0 ≤ v ∧ v < 8) : 0 + bitsV v 0 3 * 2 ^ 0 = v := by
  unfold bitsV; (repeat' split) <;> omega
theorem s_2_2 (v : Int) (h : 0 ≤ v ∧ v < 8) : 0 + bitsV v 0 3 * 2 ^ 0 = v := by
  unfold bitsV; (repeat' split) <;> omega
theorem s_2_3 (v : Int) (h : v = 0) : 0 = v := by
  omega
theorem s_2_4 (v : Int) (h : v = 0) : 0 = v := by
  omega
theorem s_2_5 (v : Int) (h : v = 0) : 0 = v := by
  omega
theorem s_2_6 (v : Int) (h : v = 0) : 0 = v := by
  omega
theorem s_2_7 (v : Int) (h : v = 0) : 0 = v := by
  omega
theorem s_2_8 (v : Int) (h : v = 0) : 0 = v := by
  omega
theorem s_2_9 (v : Int) (h : v = 0) : 0 = v := by
  omega
theorem s_3_0 (v : Int) (h : 0 ≤ v ∧ v < 8) : 0 + bitsV v 0 3 * 2 ^ 0 = v := by
  unfold bitsV; (repeat' split) <;> omega
theorem s_3_1 (v : Int) (h : 0 ≤ v ∧ v < 8) : 0 + bitsV v 0 3 * 2 ^ 0 = v := by
  unfold bitsV; (repeat' split) <;> omega
theorem s_3_2 (v : Int) (h : v = 0) : 0 = v := by
  omega
theorem s_3_3 (v : Int) (h : v = 0) : 0 = v := by
  omega
theorem s_3_4 (v : Int) (h : 0 ≤ v ∧ v ≤ 7 ∧ v % 1 = 0) : 0 + bitsV v 0 3 * 2 ^ 0 = v := by
  unfold bitsV; (repeat' split) <;> omega
theorem s_3_5 (v : Int) (h : v = 0) : 0 = v := by
  omega
theorem s_3_6 (v : Int) (h : v = 0) : 0 = v := by
  omega
theorem s_3_7 (v : Int) (h : v = 0) : 0 = v := by
  omega
theorem s_3_8 (v : Int) (h : v = 0) : 0 = v := by
  omega
theorem s_3_9 (v : Int) (h : v = 0) : 0 = v := by
  omega
theorem s_4_0 (v : Int) (h : 0 ≤ v ∧ v < 8) : 0 + bitsV v 0 3 * 2 ^ 0 = v := by
  unfold bitsV; (repeat' split) <;> omega
theorem s_4_1 (v : Int) (h : v = 0) : 0 = v := by
  omega
theorem s_4_2 (v : Int) (h : v = 0) : 0 = v := by
  omega
theorem s_4_3 (v : Int) (h : v = 0) : 0 = v := by
  omega
theorem s_4_4 (v : Int) (h : 0 ≤ v ∧ v ≤ 255 ∧ v % 1 = 0) : 0 + bitsV v 0 8 * 2 ^ 0 = v := by
  unfold bitsV; (repeat' split) <;> omega
theorem s_4_5 (v : Int) (h : v = 0) : 0 = v := by
  omega
theorem s_4_6 (v : Int) (h : v = 0) : 0 = v := by
  omega
theorem s_4_7 (v : Int) (h : v = 0) : 0 = v := by
  omega
theorem s_4_8 (v : Int) (h : v = 0) : 0 = v := by
  omega
theorem s_4_9 (v : Int) (h : v = 0) : 0 = v := by
  omega
theorem s_5_0 (v : Int) (h : 0 ≤ v ∧ v < 8) : 0 + bitsV v 0 3 * 2 ^ 0 = v := by
  unfold bitsV; (repeat' split) <;> omega
theorem s_5_1 (v : Int) (h : v = 0) : 0 = v := by
  omega
theorem s_5_2 (v : Int) (h : 0 ≤ v ∧ v < 8) : 0 + bitsV v 0 3 * 2 ^ 0 = v := by
  unfold bitsV; (repeat' split) <;> omega
theorem s_5_3 (v : Int) (h : v = 0) : 0 = v := by
  omega
theorem s_5_4 (v : Int) (h : v = 0) : 0 = v := by
  omega
theorem s_5_5 (v : Int) (h : v = 0) : 0 = v := by
  omega
theorem s_5_6 (v : Int) (h : v = 0) : 0 = v := by
  omega
theorem s_5_7 (v : Int) (h : v = 0) : 0 = v := by
  omega
theorem s_5_8 (v : Int) (h : v = 0) : 0 = v := by
  omega
theorem s_5_9 (v : Int) (h : v = 0) : 0 = v := by
  omega
theorem s_6_0 (v : Int) (h : 0 ≤ v ∧ v < 15) : 0 + bitsV v 3 1 * 2 ^ 3 + bitsV v 0 3 * 2 ^ 0 = v := by
  unfold bitsV; (repeat' split) <;> omega
theorem s_6_1 (v : Int) (h : v = 0) : 0 = v := by
  omega
theorem s_6_2 (v : Int) (h : 0 ≤ v ∧ v < 15) : 0 + bitsV v 0 4 * 2 ^ 0 = v := by
  unfold bitsV; (repeat' split) <;> omega
theorem s_6_3 (v : Int) (h : v = 0) : 0 = v := by
  omega
theorem s_6_4 (v : Int) (h : v = 0) : 0 = v := by
  omega
theorem s_6_5 (v : Int) (h : v = 0) : 0 = v := by
  omega
theorem s_6_6 (v : Int) (h : v = 0) : 0 = v := by
  omega
theorem s_6_7 (v : Int) (h : v = 0) : 0 = v := by
  omega
theorem s_6_8 (v : Int) (h : v = 0) : 0 = v := by
  omega
theorem s_6_9 (v : Int) (h : v = 0) : 0 = v := by
  omega
theorem s_7_0 (v : Int) (h : v = 0) : 0 = v := by
  omega
theorem s_7_1 (v : Int) (h : v = 0) : 0 = v := by
  omega
theorem s_7_2 (v : Int) (h : 0 ≤ v ∧ v < 15) : 0 + bitsV v 0 4 * 2 ^ 0 = v := by
  unfold bitsV; (repeat' split) <;> omega
theorem s_7_3 (v : Int) (h : v = 0) : 0 = v := by
  omega
theorem s_7_4 (v : Int) (h : v = 0) : 0 = v := by
  omega
theorem s_7_5 (v : Int) (h : v = 0) : 0 = v := by
  omega
theorem s_7_6 (v : Int) (h : v = 0) : 0 = v := by
  omega
theorem s_7_7 (v : Int) (h : v = 0) : 0 = v := by
  omega
theorem s_7_8 (v : Int) (h : v = 0) : 0 = v := by
  omega
theorem s_7_9 (v : Int) (h : v = 0) : 0 = v := by
  omega
theorem s_8_0 (v : Int) (h : 0 ≤ v ∧ v < 8) : 0 + bitsV v 0 3 * 2 ^ 0 = v := by
  unfold bitsV; (repeat' split) <;> omega
theorem s_8_1 (v : Int) (h : v = 0) : 0 = v := by
  omega
theorem s_8_2 (v : Int) (h : v = 0) : 0 = v := by
  omega
theorem s_8_3 (v : Int) (h : v = 0) : 0 = v := by
  omega
theorem s_8_4 (v : Int) (h : 0 ≤ v ∧ v ≤ 1020 ∧ v % 4 = 0) : 0 + bitsV v 2 8 * 2 ^ 2 = v := by
  unfold bitsV; (repeat' split) <;> omega
theorem s_8_5 (v : Int) (h : v = 0) : 0 = v := by
  omega
theorem s_8_6 (v : Int) (h : v = 0) : 0 = v := by
  omega
theorem s_8_7 (v : Int) (h : v = 0) : 0 = v := by
  omega
theorem s_8_8 (v : Int) (h : v = 0) : 0 = v := by
  omega
theorem s_8_9 (v : Int) (h : v = 0) : 0 = v := by
  omega
theorem s_9_0 (v : Int) (h : 0 ≤ v ∧ v < 8) : 0 + bitsV v 0 3 * 2 ^ 0 = v := by
  unfold bitsV; (repeat' split) <;> omega
theorem s_9_1 (v : Int) (h : 0 ≤ v ∧ v < 8) : 0 + bitsV v 0 3 * 2 ^ 0 = v := by
  unfold bitsV; (repeat' split) <;> omega
theorem s_9_2 (v : Int) (h : v = 0) : 0 = v := by
  omega
theorem s_9_3 (v : Int) (h : v = 0) : 0 = v := by
  omega
theorem s_9_4 (v : Int) (h : 0 ≤ v ∧ v ≤ 124 ∧ v % 4 = 0) : 0 + bitsV v 2 5 * 2 ^ 2 = v := by
  unfold bitsV; (repeat' split) <;> omega
theorem s_9_5 (v : Int) (h : v = 0) : 0 = v := by
  omega
theorem s_9_6 (v : Int) (h : v = 0) : 0 = v := by
  omega
theorem s_9_7 (v : Int) (h : v = 0) : 0 = v := by
  omega
theorem s_9_8 (v : Int) (h : v = 0) : 0 = v := by
  omega
theorem s_9_9 (v : Int) (h : v = 0) : 0 = v := by
  omega
theorem s_10_0 (v : Int) (h : v = 0) : 0 = v := by
  omega
theorem s_10_1 (v : Int) (h : v = 0) : 0 = v := by
  omega
theorem s_10_2 (v : Int) (h : v = 0) : 0 = v := by
  omega
theorem s_10_3 (v : Int) (h : v = 0) : 0 = v := by
  omega
theorem s_10_4 (v : Int) (h : 0 ≤ v ∧ v ≤ 508 ∧ v % 4 = 0) : 0 + bitsV v 2 7 * 2 ^ 2 = v := by
  unfold bitsV; (repeat' split) <;> omega
theorem s_10_5 (v : Int) (h : v = 0) : 0 = v := by
  omega
theorem s_10_6 (v : Int) (h : v = 0) : 0 = v := by
  omega
theorem s_10_7 (v : Int) (h : v = 0) : 0 = v := by
  omega
theorem s_10_8 (v : Int) (h : v = 0) : 0 = v := by
  omega
theorem s_10_9 (v : Int) (h : v = 0) : 0 = v := by
  omega
theorem s_11_0 (v : Int) (h : v = 0) : 0 = v := by
  omega
theorem s_11_1 (v : Int) (h : v = 0) : 0 = v := by
  omega
theorem s_11_2 (v : Int) (h : v = 0) : 0 = v := by
  omega
theorem s_11_3 (v : Int) (h : v = 0) : 0 = v := by
  omega
theorem s_11_4 (v : Int) (h : v = 0) : 0 = v := by
  omega
theorem s_11_5 (v : Int) (h : v = 0) : 0 = v := by
  omega
theorem s_11_6 (v : Int) (h : v = 0) : 0 = v := by
  omega
theorem s_11_7 (v : Int) (h : v = 0) : 0 = v := by
  omega
theorem s_11_8 (v : Int) (h : v = 0) : 0 = v := by
  omega
theorem s_11_9 (v : Int) (h : 0 < v ∧ v / 16384 % 2 * 16384 + v % 256 = v) : 0 + bitsV v 14 1 * 2 ^ 14 + bitsV v 0 8 * 2 ^ 0 = v := by
  unfold bitsV; (repeat' split) <;> omega
theorem s_12_0 (v : Int) (h : v = 0) : 0 = v := by
  omega
theorem s_12_1 (v : Int) (h : v = 0) : 0 = v := by
  omega
theorem s_12_2 (v : Int) (h : v = 0) : 0 = v := by
  omega
theorem s_12_3 (v : Int) (h : v = 0) : 0 = v := by
  omega
theorem s_12_4 (v : Int) (h : v = 0) : 0 = v := by
  omega
theorem s_12_5 (v : Int) (h : v = 0) : 0 = v := by
  omega
theorem s_12_6 (v : Int) (h : v = 0) : 0 = v := by
  omega
theorem s_12_7 (v : Int) (h : v = 0) : 0 = v := by
  omega
theorem s_12_8 (v : Int) (h : v = 0) : 0 = v := by
  omega
theorem s_12_9 (v : Int) (h : 0 < v ∧ v / 32768 % 2 * 32768 + v % 256 = v) : 0 + bitsV v 15 1 * 2 ^ 15 + bitsV v 0 8 * 2 ^ 0 = v := by
  unfold bitsV; (repeat' split) <;> omega
theorem s_13_0 (v : Int) (h : v = 0) : 0 = v := by
  omega
theorem s_13_1 (v : Int) (h : v = 0) : 0 = v := by
  omega
theorem s_13_2 (v : Int) (h : v = 0) : 0 = v := by
  omega
theorem s_13_3 (v : Int) (h : v = 0) : 0 = v := by
  omega
theorem s_13_4 (v : Int) (h : v = 0) : 0 = v := by
  omega
theorem s_13_5 (v : Int) (h : v = 0) : 0 = v := by
  omega
theorem s_13_6 (v : Int) (h : v = 0) : 0 = v := by
  omega
theorem s_13_7 (v : Int) (h : v = 0) : 0 = v := by
  omega
theorem s_13_8 (v : Int) (h : v = 0) : 0 = v := by
  omega
theorem s_13_9 (v : Int) (h : v = 0) : 0 = v := by
  omega
theorem s_14_0 (v : Int) (h : v = 0) : 0 = v := by
  omega
theorem s_14_1 (v : Int) (h : v = 0) : 0 = v := by
  omega
theorem s_14_2 (v : Int) (h : v = 0) : 0 = v := by
  omega
theorem s_14_3 (v : Int) (h : v = 0) : 0 = v := by
  omega
theorem s_14_4 (v : Int) (h : 0 ≤ v ∧ v ≤ 255 ∧ v % 1 = 0) : 0 + bitsV v 0 8 * 2 ^ 0 = v := by
  unfold bitsV; (repeat' split) <;> omega
theorem s_14_5 (v : Int) (h : v = 0) : 0 = v := by
  omega
theorem s_14_6 (v : Int) (h : v = 0) : 0 = v := by
  omega
theorem s_14_7 (v : Int) (h : v = 0) : 0 = v := by
  omega
theorem s_14_8 (v : Int) (h : v = 0) : 0 = v := by
  omega
theorem s_14_9 (v : Int) (h : v = 0) : 0 = v := by
  omega
theorem s_15_0 (v : Int) (h : v = 0) : 0 = v := by
  omega
theorem s_15_1 (v : Int) (h : v = 0) : 0 = v := by
  omega
theorem s_15_2 (v : Int) (h : v = 0) : 0 = v := by
  omega
theorem s_15_3 (v : Int) (h : v = 0) : 0 = v := by
  omega
theorem s_15_4 (v : Int) (h : -256 ≤ v ∧ v ≤ 254 ∧ v % 2 = 0) : leastV (0 + bitsV v 1 8 * 2 ^ 1) 9 = v := by
  unfold leastV bitsV; (repeat' split) <;> omega
theorem s_15_5 (v : Int) (h : v = 0) : 0 = v := by
  omega
theorem s_15_6 (v : Int) (h : v = 0) : 0 = v := by
  omega
theorem s_15_7 (v : Int) (h : v = 0) : 0 = v := by
  omega
theorem s_15_8 (v : Int) (h : 0 ≤ v ∧ v ≤ 13) : 0 + bitsV v 0 4 * 2 ^ 0 = v := by
  unfold bitsV; (repeat' split) <;> omega
theorem s_15_9 (v : Int) (h : v = 0) : 0 = v := by
  omega
theorem s_16_0 (v : Int) (h : v = 0) : 0 = v := by
  omega
theorem s_16_1 (v : Int) (h : v = 0) : 0 = v := by
  omega
theorem s_16_2 (v : Int) (h : v = 0) : 0 = v := by
  omega
theorem s_16_3 (v : Int) (h : v = 0) : 0 = v := by
  omega
theorem s_16_4 (v : Int) (h : -2048 ≤ v ∧ v ≤ 2046 ∧ v % 2 = 0) : leastV (0 + bitsV v 1 11 * 2 ^ 1) 12 = v := by
  unfold leastV bitsV; (repeat' split) <;> omega
theorem s_16_5 (v : Int) (h : v = 0) : 0 = v := by
  omega
theorem s_16_6 (v : Int) (h : v = 0) : 0 = v := by
  omega
theorem s_16_7 (v : Int) (h : v = 0) : 0 = v := by
  omega
theorem s_16_8 (v : Int) (h : v = 0) : 0 = v := by
  omega
theorem s_16_9 (v : Int) (h : v = 0) : 0 = v := by
  omega
theorem s_17_0 (v : Int) (h : 0 ≤ v ∧ v < 15) : 0 + bitsV v 0 4 * 2 ^ 0 = v := by
  unfold bitsV; (repeat' split) <;> omega
theorem s_17_1 (v : Int) (h : v = 0) : 0 = v := by
  omega
theorem s_17_2 (v : Int) (h : v = 0) : 0 = v := by
  omega
theorem s_17_3 (v : Int) (h : v = 0) : 0 = v := by
  omega
theorem s_17_4 (v : Int) (h : 0 ≤ v ∧ v ≤ 65535 ∧ v % 1 = 0) : 0 + bitsV v 11 1 * 2 ^ 11 + bitsV v 12 4 * 2 ^ 12 + bitsV v 8 3 * 2 ^ 8 + bitsV v 0 8 * 2 ^ 0 = v := by
  unfold bitsV; (repeat' split) <;> omega
theorem s_17_5 (v : Int) (h : v = 0) : 0 = v := by
  omega
theorem s_17_6 (v : Int) (h : v = 0) : 0 = v := by
  omega
theorem s_17_7 (v : Int) (h : v = 0) : 0 = v := by
  omega
theorem s_17_8 (v : Int) (h : v = 0) : 0 = v := by
  omega
theorem s_17_9 (v : Int) (h : v = 0) : 0 = v := by
  omega
theorem s_18_0 (v : Int) (h : 0 ≤ v ∧ v < 15) : 0 + bitsV v 0 4 * 2 ^ 0 = v := by
  unfold bitsV; (repeat' split) <;> omega
theorem s_18_1 (v : Int) (h : 0 ≤ v ∧ v < 15) : 0 + bitsV v 0 4 * 2 ^ 0 = v := by
  unfold bitsV; (repeat' split) <;> omega
theorem s_18_2 (v : Int) (h : v = 0) : 0 = v := by
  omega
theorem s_18_3 (v : Int) (h : v = 0) : 0 = v := by
  omega
theorem s_18_4 (v : Int) (h : 0 ≤ v ∧ v ≤ 4095 ∧ v % 1 = 0) : 0 + bitsV v 11 1 * 2 ^ 11 + bitsV v 8 3 * 2 ^ 8 + bitsV v 0 8 * 2 ^ 0 = v := by
  unfold bitsV; (repeat' split) <;> omega
theorem s_18_5 (v : Int) (h : v = 0) : 0 = v := by
  omega
theorem s_18_6 (v : Int) (h : v = 0) : 0 = v := by
  omega
theorem s_18_7 (v : Int) (h : v = 0 ∨ v = 1) : 0 + bitsV v 0 1 * 2 ^ 0 = v := by
  unfold bitsV; (repeat' split) <;> omega
theorem s_18_8 (v : Int) (h : v = 0) : 0 = v := by
  omega
theorem s_18_9 (v : Int) (h : v = 0) : 0 = v := by
  omega
theorem s_19_0 (v : Int) (h : 0 ≤ v ∧ v < 15) : 0 + bitsV v 0 4 * 2 ^ 0 = v := by
  unfold bitsV; (repeat' split) <;> omega
theorem s_19_1 (v : Int) (h : v = 0) : 0 = v := by
  omega
theorem s_19_2 (v : Int) (h : v = 0) : 0 = v := by
  omega
theorem s_19_3 (v : Int) (h : v = 0) : 0 = v := by
  omega
theorem s_19_4 (v : Int) (h : 0 ≤ v ∧ v ≤ 4095 ∧ v % 1 = 0) : 0 + bitsV v 11 1 * 2 ^ 11 + bitsV v 8 3 * 2 ^ 8 + bitsV v 0 8 * 2 ^ 0 = v := by
  unfold bitsV; (repeat' split) <;> omega
theorem s_19_5 (v : Int) (h : v = 0) : 0 = v := by
  omega
theorem s_19_6 (v : Int) (h : v = 0) : 0 = v := by
  omega
theorem s_19_7 (v : Int) (h : v = 0 ∨ v = 1) : 0 + bitsV v 0 1 * 2 ^ 0 = v := by
  unfold bitsV; (repeat' split) <;> omega
theorem s_19_8 (v : Int) (h : v = 0) : 0 = v := by
  omega
theorem s_19_9 (v : Int) (h : v = 0) : 0 = v := by
  omega
theorem s_20_0 (v : Int) (h : v = 0) : 0 = v := by
  omega
theorem s_20_1 (v : Int) (h : 0 ≤ v ∧ v < 15) : 0 + bitsV v 0 4 * 2 ^ 0 = v := by
  unfold bitsV; (repeat' split) <;> omega
theorem s_20_2 (v : Int) (h : v = 0) : 0 = v := by
  omega
theorem s_20_3 (v : Int) (h : v = 0) : 0 = v := by
  omega
theorem s_20_4 (v : Int) (h : 0 ≤ v ∧ v ≤ 4095 ∧ v % 1 = 0) : 0 + bitsV v 11 1 * 2 ^ 11 + bitsV v 8 3 * 2 ^ 8 + bitsV v 0 8 * 2 ^ 0 = v := by
  unfold bitsV; (repeat' split) <;> omega
theorem s_20_5 (v : Int) (h : v = 0) : 0 = v := by
  omega
theorem s_20_6 (v : Int) (h : v = 0) : 0 = v := by
  omega
theorem s_20_7 (v : Int) (h : v = 0) : 0 = v := by
  omega
theorem s_20_8 (v : Int) (h : v = 0) : 0 = v := by
  omega
theorem s_20_9 (v : Int) (h : v = 0) : 0 = v := by
  omega
theorem s_21_0 (v : Int) (h : 0 ≤ v ∧ v < 15) : 0 + bitsV v 0 4 * 2 ^ 0 = v := by
  unfold bitsV; (repeat' split) <;> omega
theorem s_21_1 (v : Int) (h : 0 ≤ v ∧ v < 15) : 0 + bitsV v 0 4 * 2 ^ 0 = v := by
  unfold bitsV; (repeat' split) <;> omega
theorem s_21_2 (v : Int) (h : 0 ≤ v ∧ v < 15) : 0 + bitsV v 0 4 * 2 ^ 0 = v := by
  unfold bitsV; (repeat' split) <;> omega
theorem s_21_3 (v : Int) (h : v = 0) : 0 = v := by
  omega
theorem s_21_4 (v : Int) (h : v = 0) : 0 = v := by
  omega
theorem s_21_5 (v : Int) (h : 0 ≤ v ∧ v < 4) : 0 + bitsV v 0 2 * 2 ^ 0 = v := by
  unfold bitsV; (repeat' split) <;> omega
theorem s_21_7 (v : Int) (h : v = 0 ∨ v = 1) : 0 + bitsV v 0 1 * 2 ^ 0 = v := by
  unfold bitsV; (repeat' split) <;> omega
theorem s_21_8 (v : Int) (h : v = 0) : 0 = v := by
  omega
theorem s_21_9 (v : Int) (h : v = 0) : 0 = v := by
  omega
theorem s_22_0 (v : Int) (h : 0 ≤ v ∧ v < 15) : 0 + bitsV v 0 4 * 2 ^ 0 = v := by
  unfold bitsV; (repeat' split) <;> omega
theorem s_22_1 (v : Int) (h : v = 0) : 0 = v := by
  omega
theorem s_22_2 (v : Int) (h : 0 ≤ v ∧ v < 15) : 0 + bitsV v 0 4 * 2 ^ 0 = v := by
  unfold bitsV; (repeat' split) <;> omega
theorem s_22_3 (v : Int) (h : v = 0) : 0 = v := by
  omega
theorem s_22_4 (v : Int) (h : v = 0) : 0 = v := by
  omega
theorem s_22_5 (v : Int) (h : 0 ≤ v ∧ v < 4) : 0 + bitsV v 0 2 * 2 ^ 0 = v := by
  unfold bitsV; (repeat' split) <;> omega
theorem s_22_7 (v : Int) (h : v = 0 ∨ v = 1) : 0 + bitsV v 0 1 * 2 ^ 0 = v := by
  unfold bitsV; (repeat' split) <;> omega
theorem s_22_8 (v : Int) (h : v = 0) : 0 = v := by
  omega
theorem s_22_9 (v : Int) (h : v = 0) : 0 = v := by
  omega
theorem s_23_0 (v : Int) (h : v = 0) : 0 = v := by
  omega
theorem s_23_1 (v : Int) (h : 0 ≤ v ∧ v < 15) : 0 + bitsV v 0 4 * 2 ^ 0 = v := by
  unfold bitsV; (repeat' split) <;> omega
theorem s_23_2 (v : Int) (h : 0 ≤ v ∧ v < 15) : 0 + bitsV v 0 4 * 2 ^ 0 = v := by
  unfold bitsV; (repeat' split) <;> omega
theorem s_23_3 (v : Int) (h : v = 0) : 0 = v := by
  omega
theorem s_23_4 (v : Int) (h : v = 0) : 0 = v := by
  omega
theorem s_23_5 (v : Int) (h : 0 ≤ v ∧ v < 4) : 0 + bitsV v 0 2 * 2 ^ 0 = v := by
  unfold bitsV; (repeat' split) <;> omega
theorem s_23_7 (v : Int) (h : v = 0) : 0 = v := by
  omega
theorem s_23_8 (v : Int) (h : v = 0) : 0 = v := by
  omega
theorem s_23_9 (v : Int) (h : v = 0) : 0 = v := by
  omega
theorem s_24_0 (v : Int) (h : 0 ≤ v ∧ v < 15) : 0 + bitsV v 0 4 * 2 ^ 0 = v := by
  unfold bitsV; (repeat' split) <;> omega
theorem s_24_1 (v : Int) (h : 0 ≤ v ∧ v < 15) : 0 + bitsV v 0 4 * 2 ^ 0 = v := by
  unfold bitsV; (repeat' split) <;> omega
theorem s_24_2 (v : Int) (h : v = 0) : 0 = v := by
  omega
theorem s_24_3 (v : Int) (h : v = 0) : 0 = v := by
  omega
theorem s_24_4 (v : Int) (h : 0 ≤ v ∧ v ≤ 4095 ∧ v % 1 = 0) : 0 + bitsV v 11 1 * 2 ^ 11 + bitsV v 8 3 * 2 ^ 8 + bitsV v 0 8 * 2 ^ 0 = v := by
  unfold bitsV; (repeat' split) <;> omega
theorem s_24_5 (v : Int) (h : v = 0) : 0 = v := by
  omega
theorem s_24_6 (v : Int) (h : v = 0) : 0 = v := by
  omega
theorem s_24_7 (v : Int) (h : v = 0) : 0 = v := by
  omega
theorem s_24_8 (v : Int) (h : v = 0) : 0 = v := by
  omega
theorem s_24_9 (v : Int) (h : v = 0) : 0 = v := by
  omega
theorem s_25_0 (v : Int) (h : 0 ≤ v ∧ v < 15) : 0 + bitsV v 0 4 * 2 ^ 0 = v := by
  unfold bitsV; (repeat' split) <;> omega
theorem s_25_1 (v : Int) (h : 0 ≤ v ∧ v < 15) : 0 + bitsV v 0 4 * 2 ^ 0 = v := by
  unfold bitsV; (repeat' split) <;> omega
theorem s_25_2 (v : Int) (h : v = 0) : 0 = v := by
  omega
theorem s_25_3 (v : Int) (h : v = 0) : 0 = v := by
  omega
theorem s_25_4 (v : Int) (h : 0 ≤ v ∧ v ≤ 4095 ∧ v % 1 = 0) : 0 + bitsV v 0 12 * 2 ^ 0 = v := by
  unfold bitsV; (repeat' split) <;> omega
theorem s_25_5 (v : Int) (h : v = 0) : 0 = v := by
  omega
theorem s_25_6 (v : Int) (h : v = 0) : 0 = v := by
  omega
theorem s_25_7 (v : Int) (h : v = 0) : 0 = v := by
  omega
theorem s_25_8 (v : Int) (h : v = 0) : 0 = v := by
  omega
theorem s_25_9 (v : Int) (h : v = 0) : 0 = v := by
  omega
theorem s_26_0 (v : Int) (h : 0 ≤ v ∧ v < 15) : 0 + bitsV v 0 4 * 2 ^ 0 = v := by
  unfold bitsV; (repeat' split) <;> omega
theorem s_26_1 (v : Int) (h : 0 ≤ v ∧ v < 15) : 0 + bitsV v 0 4 * 2 ^ 0 = v := by
  unfold bitsV; (repeat' split) <;> omega
theorem s_26_2 (v : Int) (h : 0 ≤ v ∧ v < 15) : 0 + bitsV v 0 4 * 2 ^ 0 = v := by
  unfold bitsV; (repeat' split) <;> omega
theorem s_26_3 (v : Int) (h : v = 0) : 0 = v := by
  omega
theorem s_26_4 (v : Int) (h : v = 0) : 0 = v := by
  omega
theorem s_26_5 (v : Int) (h : v = 0) : 0 = v := by
  omega
theorem s_26_6 (v : Int) (h : 0 ≤ v ∧ v ≤ 3 ∧ v % 1 = 0) : 0 + bitsV v 0 2 * 2 ^ 0 = v := by
  unfold bitsV; (repeat' split) <;> omega
theorem s_26_7 (v : Int) (h : v = 0) : 0 = v := by
  omega
theorem s_26_8 (v : Int) (h : v = 0) : 0 = v := by
  omega
theorem s_26_9 (v : Int) (h : v = 0) : 0 = v := by
  omega
theorem s_27_0 (v : Int) (h : 0 ≤ v ∧ v < 15) : 0 + bitsV v 0 4 * 2 ^ 0 = v := by
  unfold bitsV; (repeat' split) <;> omega
theorem s_27_1 (v : Int) (h : 0 ≤ v ∧ v < 15) : 0 + bitsV v 0 4 * 2 ^ 0 = v := by
  unfold bitsV; (repeat' split) <;> omega
theorem s_27_2 (v : Int) (h : 0 ≤ v ∧ v < 15) : 0 + bitsV v 0 4 * 2 ^ 0 = v := by
  unfold bitsV; (repeat' split) <;> omega
theorem s_27_3 (v : Int) (h : v = 0) : 0 = v := by
  omega
theorem s_27_4 (v : Int) (h : v = 0) : 0 = v := by
  omega
theorem s_27_5 (v : Int) (h : v = 0) : 0 = v := by
  omega
theorem s_27_6 (v : Int) (h : v = 0) : 0 = v := by
  omega
theorem s_27_7 (v : Int) (h : v = 0 ∨ v = 1) : 0 + bitsV v 0 1 * 2 ^ 0 = v := by
  unfold bitsV; (repeat' split) <;> omega
theorem s_27_8 (v : Int) (h : v = 0) : 0 = v := by
  omega
theorem s_27_9 (v : Int) (h : v = 0) : 0 = v := by
  omega
theorem s_28_0 (v : Int) (h : 0 ≤ v ∧ v < 15) : 0 + bitsV v 0 4 * 2 ^ 0 = v := by
  unfold bitsV; (repeat' split) <;> omega
theorem s_28_1 (v : Int) (h : 0 ≤ v ∧ v < 15) : 0 + bitsV v 0 4 * 2 ^ 0 = v := by
  unfold bitsV; (repeat' split) <;> omega
theorem s_28_2 (v : Int) (h : 0 ≤ v ∧ v < 15) : 0 + bitsV v 0 4 * 2 ^ 0 = v := by
  unfold bitsV; (repeat' split) <;> omega
theorem s_28_3 (v : Int) (h : v = 0) : 0 = v := by
  omega
theorem s_28_4 (v : Int) (h : v = 0) : 0 = v := by
  omega
theorem s_28_5 (v : Int) (h : v = 0) : 0 = v := by
  omega
theorem s_28_6 (v : Int) (h : v = 0) : 0 = v := by
  omega
theorem s_28_7 (v : Int) (h : v = 0) : 0 = v := by
  omega
theorem s_28_8 (v : Int) (h : v = 0) : 0 = v := by
  omega
theorem s_28_9 (v : Int) (h : v = 0) : 0 = v := by
  omega
theorem s_29_0 (v : Int) (h : 0 ≤ v ∧ v < 15) : 0 + bitsV v 0 4 * 2 ^ 0 = v := by
  unfold bitsV; (repeat' split) <;> omega
theorem s_29_1 (v : Int) (h : 0 ≤ v ∧ v < 15) : 0 + bitsV v 0 4 * 2 ^ 0 = v := by
  unfold bitsV; (repeat' split) <;> omega
theorem s_29_2 (v : Int) (h : 0 ≤ v ∧ v < 15) : 0 + bitsV v 0 4 * 2 ^ 0 = v := by
  unfold bitsV; (repeat' split) <;> omega
theorem s_29_3 (v : Int) (h : 0 ≤ v ∧ v < 15) : 0 + bitsV v 0 4 * 2 ^ 0 = v := by
  unfold bitsV; (repeat' split) <;> omega
theorem s_29_4 (v : Int) (h : v = 0) : 0 = v := by
  omega
theorem s_29_5 (v : Int) (h : v = 0) : 0 = v := by
  omega
theorem s_29_6 (v : Int) (h : v = 0) : 0 = v := by
  omega
theorem s_29_7 (v : Int) (h : v = 0) : 0 = v := by
  omega
theorem s_29_8 (v : Int) (h : v = 0) : 0 = v := by
  omega
theorem s_29_9 (v : Int) (h : v = 0) : 0 = v := by
  omega
theorem s_30_0 (v : Int) (h : 0 ≤ v ∧ v < 15) : 0 + bitsV v 0 4 * 2 ^ 0 = v := by
  unfold bitsV; (repeat' split) <;> omega
theorem s_30_1 (v : Int) (h : 0 ≤ v ∧ v < 15) : 0 + bitsV v 0 4 * 2 ^ 0 = v := by
  unfold bitsV; (repeat' split) <;> omega
theorem s_30_2 (v : Int) (h : 0 ≤ v ∧ v < 15) : 0 + bitsV v 0 4 * 2 ^ 0 = v := by
  unfold bitsV; (repeat' split) <;> omega
theorem s_30_3 (v : Int) (h : 0 ≤ v ∧ v < 15) : 0 + bitsV v 0 4 * 2 ^ 0 = v := by
  unfold bitsV; (repeat' split) <;> omega
theorem s_30_4 (v : Int) (h : v = 0) : 0 = v := by
  omega
theorem s_30_5 (v : Int) (h : v = 0) : 0 = v := by
  omega
theorem s_30_6 (v : Int) (h : v = 0) : 0 = v := by
  omega
theorem s_30_7 (v : Int) (h : v = 0) : 0 = v := by
  omega
theorem s_30_8 (v : Int) (h : v = 0) : 0 = v := by
  omega
theorem s_30_9 (v : Int) (h : v = 0) : 0 = v := by
  omega
theorem s_31_0 (v : Int) (h : 0 ≤ v ∧ v < 15) : 0 + bitsV v 0 4 * 2 ^ 0 = v := by
  unfold bitsV; (repeat' split) <;> omega
theorem s_31_1 (v : Int) (h : 0 ≤ v ∧ v < 15) : 0 + bitsV v 0 4 * 2 ^ 0 = v := by
  unfold bitsV; (repeat' split) <;> omega
theorem s_31_2 (v : Int) (h : 0 ≤ v ∧ v < 15) : 0 + bitsV v 0 4 * 2 ^ 0 = v := by
  unfold bitsV; (repeat' split) <;> omega
theorem s_31_3 (v : Int) (h : 0 ≤ v ∧ v < 15) : 0 + bitsV v 0 4 * 2 ^ 0 = v := by
  unfold bitsV; (repeat' split) <;> omega
theorem s_31_4 (v : Int) (h : v = 0) : 0 = v := by
  omega
theorem s_31_5 (v : Int) (h : v = 0) : 0 = v := by
  omega
theorem s_31_6 (v : Int) (h : v = 0) : 0 = v := by
  omega
theorem s_31_7 (v : Int) (h : v = 0) : 0 = v := by
  omega
theorem s_31_8 (v : Int) (h : v = 0) : 0 = v := by
  omega
theorem s_31_9 (v : Int) (h : v = 0) : 0 = v := by
  omega
theorem s_32_0 (v : Int) (h : 0 ≤ v ∧ v < 15) : 0 + bitsV v 0 4 * 2 ^ 0 = v := by
  unfold bitsV; (repeat' split) <;> omega
theorem s_32_1 (v : Int) (h : v = 0) : 0 = v := by
  omega
theorem s_32_2 (v : Int) (h : 0 ≤ v ∧ v < 15) : bitsV v 0 4 = v := by
  unfold bitsV; split <;> omega
theorem s_32_3 (v : Int) (h : v = 0) : 0 = v := by
  omega
theorem s_32_4 (v : Int) (h : v = 0) : 0 = v := by
  omega
theorem s_32_5 (v : Int) (h : v = 0) : 0 = v := by
  omega
theorem s_32_6 (v : Int) (h : v = 0) : 0 = v := by
  omega
theorem s_32_7 (v : Int) (h : v = 0) : 0 = v := by
  omega
theorem s_32_8 (v : Int) (h : v = 0) : 0 = v := by
  omega
theorem s_32_9 (v : Int) (h : v = 0) : 0 = v := by
  omega
theorem s_33_0 (v : Int) (h : v = 0) : 0 = v := by
  omega
theorem s_33_1 (v : Int) (h : v = 0) : 0 = v := by
  omega
theorem s_33_2 (v : Int) (h : v = 0) : 0 = v := by
  omega
theorem s_33_3 (v : Int) (h : v = 0) : 0 = v := by
  omega
theorem s_33_4 (v : Int) (h : -1048576 ≤ v ∧ v ≤ 1048574 ∧ v % 2 = 0) : leastV (0 + bitsV v 20 1 * 2 ^ 20 + bitsV v 12 6 * 2 ^ 12 + bitsV v 18 1 * 2 ^ 18 + bitsV v 19 1 * 2 ^ 19 + bitsV v 1 11 * 2 ^ 1) 21 = v := by
  unfold leastV bitsV; (repeat' split) <;> omega
theorem s_33_5 (v : Int) (h : v = 0) : 0 = v := by
  omega
theorem s_33_6 (v : Int) (h : v = 0) : 0 = v := by
  omega
theorem s_33_7 (v : Int) (h : v = 0) : 0 = v := by
  omega
theorem s_33_8 (v : Int) (h : 0 ≤ v ∧ v ≤ 13) : 0 + bitsV v 0 4 * 2 ^ 0 = v := by
  unfold bitsV; (repeat' split) <;> omega
theorem s_33_9 (v : Int) (h : v = 0) : 0 = v := by
  omega
theorem s_34_0 (v : Int) (h : v = 0) : 0 = v := by
  omega
theorem s_34_1 (v : Int) (h : v = 0) : 0 = v := by
  omega
theorem s_34_2 (v : Int) (h : v = 0) : 0 = v := by
  omega
theorem s_34_3 (v : Int) (h : v = 0) : 0 = v := by
  omega
theorem s_34_5 (v : Int) (h : v = 0) : 0 = v := by
  omega
theorem s_34_6 (v : Int) (h : v = 0) : 0 = v := by
  omega
theorem s_34_7 (v : Int) (h : v = 0) : 0 = v := by
  omega
theorem s_34_8 (v : Int) (h : v = 0) : 0 = v := by
  omega
theorem s_34_9 (v : Int) (h : v = 0) : 0 = v := by
  omega

end Go.Proofs.YtjcacjeoddnmhaaDoor.Pw

/- Chapter 4, plain: each shape is read again (written by gen_td.py). -/
namespace Go.Proofs.YtjcacjeoddnmhaaDoor.Pw
open Go Go.RowKit

theorem has_0 {r : Int} (h : hasV 0 r) : r = 0 := by unfold hasV at h; omega
theorem has_1 {r : Int} (h : hasV 1 r) : 0 ≤ r ∧ r < 8 := by unfold hasV at h; omega
theorem has_2 {r : Int} (h : hasV 2 r) : 0 ≤ r ∧ r < 15 := by unfold hasV at h; omega
theorem has_3 {r : Int} (h : hasV 3 r) : 0 ≤ r ∧ r < 15 := by unfold hasV at h; omega
theorem sp_0 {a b n : Int} (h : spanV a b 0 n) : n = 0 := (span_lit h).elim (fun e => e.2) fun e => absurd rfl e.1
theorem sp_s {a b s n : Int} (hs : s ≠ 0) (h : spanV a b s n) : a ≤ n ∧ n ≤ b ∧ n % s = 0 := (span_lit h).elim (fun e => absurd e.1 hs) fun e => e.2
theorem imm_ne {K f x : Int} (h : K ≠ 1 ∧ K ≠ 15 ∧ K ≠ 16 ∧ K ≠ 33 ∧ K ≠ 34) : immA K f x = x := by
  unfold immA; rw [if_neg h.2.1, if_neg h.2.2.1, if_neg h.2.2.2.1, if_neg h.2.2.2.2, if_neg (fun e => h.1 e.1)]
theorem imm_1 {f x : Int} : immA 1 f x = if 1 < f ∧ x = 0 then 32 else x := by
  unfold immA; rw [if_neg (by decide), if_neg (by decide), if_neg (by decide), if_neg (by decide)]
  by_cases h : 1 < f ∧ x = 0
  · rw [if_pos ⟨rfl, h⟩, if_pos h]
  · rw [if_neg (fun e => h e.2), if_neg h]
theorem by_ne {K k x : Int} (h : ¬ (21 ≤ K ∧ K ≤ 23)) : byA K k x = x := if_neg fun e => h ⟨e.1, e.2.1⟩
theorem by_in {K k x : Int} (h : 21 ≤ K ∧ K ≤ 23) : byA K k x = if x = 0 ∧ (k = 1 ∨ k = 2) then 32 else x := by
  unfold byA
  by_cases g : x = 0 ∧ (k = 1 ∨ k = 2)
  · rw [if_pos ⟨h.1, h.2, g⟩, if_pos g]
  · rw [if_neg (fun e => g e.2.2), if_neg g]
theorem lis_0 {i : IN} {r : RU} (hr : r.regs = 0) (h : listedV i r) : i.regs = 0 := h.elim (fun e => e.2) fun e => absurd hr e.1
theorem lis_k {i : IN} {r : RU} (k : Nat) (hk : 8 ≤ k) (hk2 : k ≤ 15) (hr : r.regs = 2 ^ k + 255) (h : listedV i r) (hg : i.regs ≤ 9223372036854775807) : 0 < i.regs ∧ i.regs / 2 ^ k % 2 * 2 ^ k + i.regs % 256 = i.regs := by
  have hp : (0 : Int) < 2 ^ k := by have := pow_cast k; have := Nat.two_pow_pos k; omega
  rcases h with h | h
  · have := hr.symm.trans h.1; omega
  · exact ⟨h.2.1, regs_of k hk hk2 i.regs r.regs hr h.2.1 hg h.2.2⟩
theorem sh_0 {i : IN} {r : RU} (hr : r.kind = false) (h : shiftV i r) : i.kind = 0 ∧ spanV r.b0 r.b1 r.b2 i.by_ := h.elim (fun e => by rw [hr] at e; exact absurd e.1 Bool.false_ne_true) fun e => e.2
theorem sh_1 {i : IN} {r : RU} (hr : r.kind = true) (h : shiftV i r) : barrelV i.kind i.by_ := h.elim (fun e => e.2) fun e => absurd hr e.1
set_option maxRecDepth 100000 in
theorem back_1 (i : IN) (hs : shapeV i.form = 1) (hr : rightR i (ruW 1)) (hg : i.regs ≤ 9223372036854775807) : readX 1 i = i := by
  obtain ⟨hf, h1, h2, h3, h4, h5, h6, h7, h8, h9, h10⟩ := hr
  have g0 := has_1 (r := i.rd) h1
  have g1 := has_0 (r := i.rn) h2
  have g2 := has_1 (r := i.rm) h3
  have g3 := has_0 (r := i.ra) h4
  have g4 : 0 ≤ i.imm ∧ i.imm ≤ 32 ∧ i.imm % 1 = 0 := sp_s (s := 1) (by decide) h7
  have g5 : i.kind = 0 := (sh_0 rfl h9).1
  have g6 : i.by_ = 0 := sp_0 (sh_0 rfl h9).2
  have g7 : i.set = 0 := h8.elim id fun e => absurd (show false = true from e.2) Bool.false_ne_true
  have g8 : i.cond = 0 := h6.elim id fun e => absurd (show false = true from e.1) Bool.false_ne_true
  have g9 : i.regs = 0 := lis_0 rfl h5
  exact in_ext rfl (s_1_0 i.rd g0) (s_1_1 i.rn g1) (s_1_2 i.rm g2) (s_1_3 i.ra g3) (imm_1.trans (s_1_4 i.form i.imm ⟨g4.1, g4.2.1⟩ h10.1 h10.2.1 (shape_one hf hs))) (s_1_5 i.kind g5) ((by_ne (K := 1) (k := xR 1 i 5) (by decide)).trans (s_1_6 i.by_ g6)) (s_1_7 i.set g7) (s_1_8 i.cond g8) (s_1_9 i.regs g9)
set_option maxRecDepth 100000 in
theorem back_2 (i : IN) (hs : shapeV i.form = 2) (hr : rightR i (ruW 2)) (hg : i.regs ≤ 9223372036854775807) : readX 2 i = i := by
  obtain ⟨hf, h1, h2, h3, h4, h5, h6, h7, h8, h9, h10⟩ := hr
  have g0 := has_1 (r := i.rd) h1
  have g1 := has_1 (r := i.rn) h2
  have g2 := has_1 (r := i.rm) h3
  have g3 := has_0 (r := i.ra) h4
  have g4 : i.imm = 0 := sp_0 h7
  have g5 : i.kind = 0 := (sh_0 rfl h9).1
  have g6 : i.by_ = 0 := sp_0 (sh_0 rfl h9).2
  have g7 : i.set = 0 := h8.elim id fun e => absurd (show false = true from e.2) Bool.false_ne_true
  have g8 : i.cond = 0 := h6.elim id fun e => absurd (show false = true from e.1) Bool.false_ne_true
  have g9 : i.regs = 0 := lis_0 rfl h5
  exact in_ext rfl (s_2_0 i.rd g0) (s_2_1 i.rn g1) (s_2_2 i.rm g2) (s_2_3 i.ra g3) ((imm_ne (K := 2) (f := i.form) (by decide)).trans (s_2_4 i.imm g4)) (s_2_5 i.kind g5) ((by_ne (K := 2) (k := xR 2 i 5) (by decide)).trans (s_2_6 i.by_ g6)) (s_2_7 i.set g7) (s_2_8 i.cond g8) (s_2_9 i.regs g9)
set_option maxRecDepth 100000 in
theorem back_3 (i : IN) (hs : shapeV i.form = 3) (hr : rightR i (ruW 3)) (hg : i.regs ≤ 9223372036854775807) : readX 3 i = i := by
  obtain ⟨hf, h1, h2, h3, h4, h5, h6, h7, h8, h9, h10⟩ := hr
  have g0 := has_1 (r := i.rd) h1
  have g1 := has_1 (r := i.rn) h2
  have g2 := has_0 (r := i.rm) h3
  have g3 := has_0 (r := i.ra) h4
  have g4 : 0 ≤ i.imm ∧ i.imm ≤ 7 ∧ i.imm % 1 = 0 := sp_s (s := 1) (by decide) h7
  have g5 : i.kind = 0 := (sh_0 rfl h9).1
  have g6 : i.by_ = 0 := sp_0 (sh_0 rfl h9).2
  have g7 : i.set = 0 := h8.elim id fun e => absurd (show false = true from e.2) Bool.false_ne_true
  have g8 : i.cond = 0 := h6.elim id fun e => absurd (show false = true from e.1) Bool.false_ne_true
  have g9 : i.regs = 0 := lis_0 rfl h5
  exact in_ext rfl (s_3_0 i.rd g0) (s_3_1 i.rn g1) (s_3_2 i.rm g2) (s_3_3 i.ra g3) ((imm_ne (K := 3) (f := i.form) (by decide)).trans (s_3_4 i.imm g4)) (s_3_5 i.kind g5) ((by_ne (K := 3) (k := xR 3 i 5) (by decide)).trans (s_3_6 i.by_ g6)) (s_3_7 i.set g7) (s_3_8 i.cond g8) (s_3_9 i.regs g9)
set_option maxRecDepth 100000 in
theorem back_4 (i : IN) (hs : shapeV i.form = 4) (hr : rightR i (ruW 4)) (hg : i.regs ≤ 9223372036854775807) : readX 4 i = i := by
  obtain ⟨hf, h1, h2, h3, h4, h5, h6, h7, h8, h9, h10⟩ := hr
  have g0 := has_1 (r := i.rd) h1
  have g1 := has_0 (r := i.rn) h2
  have g2 := has_0 (r := i.rm) h3
  have g3 := has_0 (r := i.ra) h4
  have g4 : 0 ≤ i.imm ∧ i.imm ≤ 255 ∧ i.imm % 1 = 0 := sp_s (s := 1) (by decide) h7
  have g5 : i.kind = 0 := (sh_0 rfl h9).1
  have g6 : i.by_ = 0 := sp_0 (sh_0 rfl h9).2
  have g7 : i.set = 0 := h8.elim id fun e => absurd (show false = true from e.2) Bool.false_ne_true
  have g8 : i.cond = 0 := h6.elim id fun e => absurd (show false = true from e.1) Bool.false_ne_true
  have g9 : i.regs = 0 := lis_0 rfl h5
  exact in_ext rfl (s_4_0 i.rd g0) (s_4_1 i.rn g1) (s_4_2 i.rm g2) (s_4_3 i.ra g3) ((imm_ne (K := 4) (f := i.form) (by decide)).trans (s_4_4 i.imm g4)) (s_4_5 i.kind g5) ((by_ne (K := 4) (k := xR 4 i 5) (by decide)).trans (s_4_6 i.by_ g6)) (s_4_7 i.set g7) (s_4_8 i.cond g8) (s_4_9 i.regs g9)
set_option maxRecDepth 100000 in
theorem back_5 (i : IN) (hs : shapeV i.form = 5) (hr : rightR i (ruW 5)) (hg : i.regs ≤ 9223372036854775807) : readX 5 i = i := by
  obtain ⟨hf, h1, h2, h3, h4, h5, h6, h7, h8, h9, h10⟩ := hr
  have g0 := has_1 (r := i.rd) h1
  have g1 := has_0 (r := i.rn) h2
  have g2 := has_1 (r := i.rm) h3
  have g3 := has_0 (r := i.ra) h4
  have g4 : i.imm = 0 := sp_0 h7
  have g5 : i.kind = 0 := (sh_0 rfl h9).1
  have g6 : i.by_ = 0 := sp_0 (sh_0 rfl h9).2
  have g7 : i.set = 0 := h8.elim id fun e => absurd (show false = true from e.2) Bool.false_ne_true
  have g8 : i.cond = 0 := h6.elim id fun e => absurd (show false = true from e.1) Bool.false_ne_true
  have g9 : i.regs = 0 := lis_0 rfl h5
  exact in_ext rfl (s_5_0 i.rd g0) (s_5_1 i.rn g1) (s_5_2 i.rm g2) (s_5_3 i.ra g3) ((imm_ne (K := 5) (f := i.form) (by decide)).trans (s_5_4 i.imm g4)) (s_5_5 i.kind g5) ((by_ne (K := 5) (k := xR 5 i 5) (by decide)).trans (s_5_6 i.by_ g6)) (s_5_7 i.set g7) (s_5_8 i.cond g8) (s_5_9 i.regs g9)
set_option maxRecDepth 100000 in
theorem back_6 (i : IN) (hs : shapeV i.form = 6) (hr : rightR i (ruW 6)) (hg : i.regs ≤ 9223372036854775807) : readX 6 i = i := by
  obtain ⟨hf, h1, h2, h3, h4, h5, h6, h7, h8, h9, h10⟩ := hr
  have g0 := has_2 (r := i.rd) h1
  have g1 := has_0 (r := i.rn) h2
  have g2 := has_2 (r := i.rm) h3
  have g3 := has_0 (r := i.ra) h4
  have g4 : i.imm = 0 := sp_0 h7
  have g5 : i.kind = 0 := (sh_0 rfl h9).1
  have g6 : i.by_ = 0 := sp_0 (sh_0 rfl h9).2
  have g7 : i.set = 0 := h8.elim id fun e => absurd (show false = true from e.2) Bool.false_ne_true
  have g8 : i.cond = 0 := h6.elim id fun e => absurd (show false = true from e.1) Bool.false_ne_true
  have g9 : i.regs = 0 := lis_0 rfl h5
  exact in_ext rfl (s_6_0 i.rd g0) (s_6_1 i.rn g1) (s_6_2 i.rm g2) (s_6_3 i.ra g3) ((imm_ne (K := 6) (f := i.form) (by decide)).trans (s_6_4 i.imm g4)) (s_6_5 i.kind g5) ((by_ne (K := 6) (k := xR 6 i 5) (by decide)).trans (s_6_6 i.by_ g6)) (s_6_7 i.set g7) (s_6_8 i.cond g8) (s_6_9 i.regs g9)
set_option maxRecDepth 100000 in
theorem back_7 (i : IN) (hs : shapeV i.form = 7) (hr : rightR i (ruW 7)) (hg : i.regs ≤ 9223372036854775807) : readX 7 i = i := by
  obtain ⟨hf, h1, h2, h3, h4, h5, h6, h7, h8, h9, h10⟩ := hr
  have g0 := has_0 (r := i.rd) h1
  have g1 := has_0 (r := i.rn) h2
  have g2 := has_2 (r := i.rm) h3
  have g3 := has_0 (r := i.ra) h4
  have g4 : i.imm = 0 := sp_0 h7
  have g5 : i.kind = 0 := (sh_0 rfl h9).1
  have g6 : i.by_ = 0 := sp_0 (sh_0 rfl h9).2
  have g7 : i.set = 0 := h8.elim id fun e => absurd (show false = true from e.2) Bool.false_ne_true
  have g8 : i.cond = 0 := h6.elim id fun e => absurd (show false = true from e.1) Bool.false_ne_true
  have g9 : i.regs = 0 := lis_0 rfl h5
  exact in_ext rfl (s_7_0 i.rd g0) (s_7_1 i.rn g1) (s_7_2 i.rm g2) (s_7_3 i.ra g3) ((imm_ne (K := 7) (f := i.form) (by decide)).trans (s_7_4 i.imm g4)) (s_7_5 i.kind g5) ((by_ne (K := 7) (k := xR 7 i 5) (by decide)).trans (s_7_6 i.by_ g6)) (s_7_7 i.set g7) (s_7_8 i.cond g8) (s_7_9 i.regs g9)
set_option maxRecDepth 100000 in
theorem back_8 (i : IN) (hs : shapeV i.form = 8) (hr : rightR i (ruW 8)) (hg : i.regs ≤ 9223372036854775807) : readX 8 i = i := by
  obtain ⟨hf, h1, h2, h3, h4, h5, h6, h7, h8, h9, h10⟩ := hr
  have g0 := has_1 (r := i.rd) h1
  have g1 := has_0 (r := i.rn) h2
  have g2 := has_0 (r := i.rm) h3
  have g3 := has_0 (r := i.ra) h4
  have g4 : 0 ≤ i.imm ∧ i.imm ≤ 1020 ∧ i.imm % 4 = 0 := sp_s (s := 4) (by decide) h7
  have g5 : i.kind = 0 := (sh_0 rfl h9).1
  have g6 : i.by_ = 0 := sp_0 (sh_0 rfl h9).2
  have g7 : i.set = 0 := h8.elim id fun e => absurd (show false = true from e.2) Bool.false_ne_true
  have g8 : i.cond = 0 := h6.elim id fun e => absurd (show false = true from e.1) Bool.false_ne_true
  have g9 : i.regs = 0 := lis_0 rfl h5
  exact in_ext rfl (s_8_0 i.rd g0) (s_8_1 i.rn g1) (s_8_2 i.rm g2) (s_8_3 i.ra g3) ((imm_ne (K := 8) (f := i.form) (by decide)).trans (s_8_4 i.imm g4)) (s_8_5 i.kind g5) ((by_ne (K := 8) (k := xR 8 i 5) (by decide)).trans (s_8_6 i.by_ g6)) (s_8_7 i.set g7) (s_8_8 i.cond g8) (s_8_9 i.regs g9)
set_option maxRecDepth 100000 in
theorem back_9 (i : IN) (hs : shapeV i.form = 9) (hr : rightR i (ruW 9)) (hg : i.regs ≤ 9223372036854775807) : readX 9 i = i := by
  obtain ⟨hf, h1, h2, h3, h4, h5, h6, h7, h8, h9, h10⟩ := hr
  have g0 := has_1 (r := i.rd) h1
  have g1 := has_1 (r := i.rn) h2
  have g2 := has_0 (r := i.rm) h3
  have g3 := has_0 (r := i.ra) h4
  have g4 : 0 ≤ i.imm ∧ i.imm ≤ 124 ∧ i.imm % 4 = 0 := sp_s (s := 4) (by decide) h7
  have g5 : i.kind = 0 := (sh_0 rfl h9).1
  have g6 : i.by_ = 0 := sp_0 (sh_0 rfl h9).2
  have g7 : i.set = 0 := h8.elim id fun e => absurd (show false = true from e.2) Bool.false_ne_true
  have g8 : i.cond = 0 := h6.elim id fun e => absurd (show false = true from e.1) Bool.false_ne_true
  have g9 : i.regs = 0 := lis_0 rfl h5
  exact in_ext rfl (s_9_0 i.rd g0) (s_9_1 i.rn g1) (s_9_2 i.rm g2) (s_9_3 i.ra g3) ((imm_ne (K := 9) (f := i.form) (by decide)).trans (s_9_4 i.imm g4)) (s_9_5 i.kind g5) ((by_ne (K := 9) (k := xR 9 i 5) (by decide)).trans (s_9_6 i.by_ g6)) (s_9_7 i.set g7) (s_9_8 i.cond g8) (s_9_9 i.regs g9)
set_option maxRecDepth 100000 in
theorem back_10 (i : IN) (hs : shapeV i.form = 10) (hr : rightR i (ruW 10)) (hg : i.regs ≤ 9223372036854775807) : readX 10 i = i := by
  obtain ⟨hf, h1, h2, h3, h4, h5, h6, h7, h8, h9, h10⟩ := hr
  have g0 := has_0 (r := i.rd) h1
  have g1 := has_0 (r := i.rn) h2
  have g2 := has_0 (r := i.rm) h3
  have g3 := has_0 (r := i.ra) h4
  have g4 : 0 ≤ i.imm ∧ i.imm ≤ 508 ∧ i.imm % 4 = 0 := sp_s (s := 4) (by decide) h7
  have g5 : i.kind = 0 := (sh_0 rfl h9).1
  have g6 : i.by_ = 0 := sp_0 (sh_0 rfl h9).2
  have g7 : i.set = 0 := h8.elim id fun e => absurd (show false = true from e.2) Bool.false_ne_true
  have g8 : i.cond = 0 := h6.elim id fun e => absurd (show false = true from e.1) Bool.false_ne_true
  have g9 : i.regs = 0 := lis_0 rfl h5
  exact in_ext rfl (s_10_0 i.rd g0) (s_10_1 i.rn g1) (s_10_2 i.rm g2) (s_10_3 i.ra g3) ((imm_ne (K := 10) (f := i.form) (by decide)).trans (s_10_4 i.imm g4)) (s_10_5 i.kind g5) ((by_ne (K := 10) (k := xR 10 i 5) (by decide)).trans (s_10_6 i.by_ g6)) (s_10_7 i.set g7) (s_10_8 i.cond g8) (s_10_9 i.regs g9)
set_option maxRecDepth 100000 in
theorem back_11 (i : IN) (hs : shapeV i.form = 11) (hr : rightR i (ruW 11)) (hg : i.regs ≤ 9223372036854775807) : readX 11 i = i := by
  obtain ⟨hf, h1, h2, h3, h4, h5, h6, h7, h8, h9, h10⟩ := hr
  have g0 := has_0 (r := i.rd) h1
  have g1 := has_0 (r := i.rn) h2
  have g2 := has_0 (r := i.rm) h3
  have g3 := has_0 (r := i.ra) h4
  have g4 : i.imm = 0 := sp_0 h7
  have g5 : i.kind = 0 := (sh_0 rfl h9).1
  have g6 : i.by_ = 0 := sp_0 (sh_0 rfl h9).2
  have g7 : i.set = 0 := h8.elim id fun e => absurd (show false = true from e.2) Bool.false_ne_true
  have g8 : i.cond = 0 := h6.elim id fun e => absurd (show false = true from e.1) Bool.false_ne_true
  have g9 : 0 < i.regs ∧ i.regs / 16384 % 2 * 16384 + i.regs % 256 = i.regs := lis_k 14 (by decide) (by decide) rfl h5 hg
  exact in_ext rfl (s_11_0 i.rd g0) (s_11_1 i.rn g1) (s_11_2 i.rm g2) (s_11_3 i.ra g3) ((imm_ne (K := 11) (f := i.form) (by decide)).trans (s_11_4 i.imm g4)) (s_11_5 i.kind g5) ((by_ne (K := 11) (k := xR 11 i 5) (by decide)).trans (s_11_6 i.by_ g6)) (s_11_7 i.set g7) (s_11_8 i.cond g8) (s_11_9 i.regs g9)
set_option maxRecDepth 100000 in
theorem back_12 (i : IN) (hs : shapeV i.form = 12) (hr : rightR i (ruW 12)) (hg : i.regs ≤ 9223372036854775807) : readX 12 i = i := by
  obtain ⟨hf, h1, h2, h3, h4, h5, h6, h7, h8, h9, h10⟩ := hr
  have g0 := has_0 (r := i.rd) h1
  have g1 := has_0 (r := i.rn) h2
  have g2 := has_0 (r := i.rm) h3
  have g3 := has_0 (r := i.ra) h4
  have g4 : i.imm = 0 := sp_0 h7
  have g5 : i.kind = 0 := (sh_0 rfl h9).1
  have g6 : i.by_ = 0 := sp_0 (sh_0 rfl h9).2
  have g7 : i.set = 0 := h8.elim id fun e => absurd (show false = true from e.2) Bool.false_ne_true
  have g8 : i.cond = 0 := h6.elim id fun e => absurd (show false = true from e.1) Bool.false_ne_true
  have g9 : 0 < i.regs ∧ i.regs / 32768 % 2 * 32768 + i.regs % 256 = i.regs := lis_k 15 (by decide) (by decide) rfl h5 hg
  exact in_ext rfl (s_12_0 i.rd g0) (s_12_1 i.rn g1) (s_12_2 i.rm g2) (s_12_3 i.ra g3) ((imm_ne (K := 12) (f := i.form) (by decide)).trans (s_12_4 i.imm g4)) (s_12_5 i.kind g5) ((by_ne (K := 12) (k := xR 12 i 5) (by decide)).trans (s_12_6 i.by_ g6)) (s_12_7 i.set g7) (s_12_8 i.cond g8) (s_12_9 i.regs g9)
set_option maxRecDepth 100000 in
theorem back_13 (i : IN) (hs : shapeV i.form = 13) (hr : rightR i (ruW 13)) (hg : i.regs ≤ 9223372036854775807) : readX 13 i = i := by
  obtain ⟨hf, h1, h2, h3, h4, h5, h6, h7, h8, h9, h10⟩ := hr
  have g0 := has_0 (r := i.rd) h1
  have g1 := has_0 (r := i.rn) h2
  have g2 := has_0 (r := i.rm) h3
  have g3 := has_0 (r := i.ra) h4
  have g4 : i.imm = 0 := sp_0 h7
  have g5 : i.kind = 0 := (sh_0 rfl h9).1
  have g6 : i.by_ = 0 := sp_0 (sh_0 rfl h9).2
  have g7 : i.set = 0 := h8.elim id fun e => absurd (show false = true from e.2) Bool.false_ne_true
  have g8 : i.cond = 0 := h6.elim id fun e => absurd (show false = true from e.1) Bool.false_ne_true
  have g9 : i.regs = 0 := lis_0 rfl h5
  exact in_ext rfl (s_13_0 i.rd g0) (s_13_1 i.rn g1) (s_13_2 i.rm g2) (s_13_3 i.ra g3) ((imm_ne (K := 13) (f := i.form) (by decide)).trans (s_13_4 i.imm g4)) (s_13_5 i.kind g5) ((by_ne (K := 13) (k := xR 13 i 5) (by decide)).trans (s_13_6 i.by_ g6)) (s_13_7 i.set g7) (s_13_8 i.cond g8) (s_13_9 i.regs g9)
set_option maxRecDepth 100000 in
theorem back_14 (i : IN) (hs : shapeV i.form = 14) (hr : rightR i (ruW 14)) (hg : i.regs ≤ 9223372036854775807) : readX 14 i = i := by
  obtain ⟨hf, h1, h2, h3, h4, h5, h6, h7, h8, h9, h10⟩ := hr
  have g0 := has_0 (r := i.rd) h1
  have g1 := has_0 (r := i.rn) h2
  have g2 := has_0 (r := i.rm) h3
  have g3 := has_0 (r := i.ra) h4
  have g4 : 0 ≤ i.imm ∧ i.imm ≤ 255 ∧ i.imm % 1 = 0 := sp_s (s := 1) (by decide) h7
  have g5 : i.kind = 0 := (sh_0 rfl h9).1
  have g6 : i.by_ = 0 := sp_0 (sh_0 rfl h9).2
  have g7 : i.set = 0 := h8.elim id fun e => absurd (show false = true from e.2) Bool.false_ne_true
  have g8 : i.cond = 0 := h6.elim id fun e => absurd (show false = true from e.1) Bool.false_ne_true
  have g9 : i.regs = 0 := lis_0 rfl h5
  exact in_ext rfl (s_14_0 i.rd g0) (s_14_1 i.rn g1) (s_14_2 i.rm g2) (s_14_3 i.ra g3) ((imm_ne (K := 14) (f := i.form) (by decide)).trans (s_14_4 i.imm g4)) (s_14_5 i.kind g5) ((by_ne (K := 14) (k := xR 14 i 5) (by decide)).trans (s_14_6 i.by_ g6)) (s_14_7 i.set g7) (s_14_8 i.cond g8) (s_14_9 i.regs g9)
set_option maxRecDepth 100000 in
theorem back_15 (i : IN) (hs : shapeV i.form = 15) (hr : rightR i (ruW 15)) (hg : i.regs ≤ 9223372036854775807) : readX 15 i = i := by
  obtain ⟨hf, h1, h2, h3, h4, h5, h6, h7, h8, h9, h10⟩ := hr
  have g0 := has_0 (r := i.rd) h1
  have g1 := has_0 (r := i.rn) h2
  have g2 := has_0 (r := i.rm) h3
  have g3 := has_0 (r := i.ra) h4
  have g4 : -256 ≤ i.imm ∧ i.imm ≤ 254 ∧ i.imm % 2 = 0 := sp_s (s := 2) (by decide) h7
  have g5 : i.kind = 0 := (sh_0 rfl h9).1
  have g6 : i.by_ = 0 := sp_0 (sh_0 rfl h9).2
  have g7 : i.set = 0 := h8.elim id fun e => absurd (show false = true from e.2) Bool.false_ne_true
  have g8 : 0 ≤ i.cond ∧ i.cond ≤ 13 := by rcases h6 with h6 | h6 <;> omega
  have g9 : i.regs = 0 := lis_0 rfl h5
  exact in_ext rfl (s_15_0 i.rd g0) (s_15_1 i.rn g1) (s_15_2 i.rm g2) (s_15_3 i.ra g3) (s_15_4 i.imm g4) (s_15_5 i.kind g5) ((by_ne (K := 15) (k := xR 15 i 5) (by decide)).trans (s_15_6 i.by_ g6)) (s_15_7 i.set g7) (s_15_8 i.cond g8) (s_15_9 i.regs g9)
set_option maxRecDepth 100000 in
theorem back_16 (i : IN) (hs : shapeV i.form = 16) (hr : rightR i (ruW 16)) (hg : i.regs ≤ 9223372036854775807) : readX 16 i = i := by
  obtain ⟨hf, h1, h2, h3, h4, h5, h6, h7, h8, h9, h10⟩ := hr
  have g0 := has_0 (r := i.rd) h1
  have g1 := has_0 (r := i.rn) h2
  have g2 := has_0 (r := i.rm) h3
  have g3 := has_0 (r := i.ra) h4
  have g4 : -2048 ≤ i.imm ∧ i.imm ≤ 2046 ∧ i.imm % 2 = 0 := sp_s (s := 2) (by decide) h7
  have g5 : i.kind = 0 := (sh_0 rfl h9).1
  have g6 : i.by_ = 0 := sp_0 (sh_0 rfl h9).2
  have g7 : i.set = 0 := h8.elim id fun e => absurd (show false = true from e.2) Bool.false_ne_true
  have g8 : i.cond = 0 := h6.elim id fun e => absurd (show false = true from e.1) Bool.false_ne_true
  have g9 : i.regs = 0 := lis_0 rfl h5
  exact in_ext rfl (s_16_0 i.rd g0) (s_16_1 i.rn g1) (s_16_2 i.rm g2) (s_16_3 i.ra g3) (s_16_4 i.imm g4) (s_16_5 i.kind g5) ((by_ne (K := 16) (k := xR 16 i 5) (by decide)).trans (s_16_6 i.by_ g6)) (s_16_7 i.set g7) (s_16_8 i.cond g8) (s_16_9 i.regs g9)
set_option maxRecDepth 100000 in
theorem back_17 (i : IN) (hs : shapeV i.form = 17) (hr : rightR i (ruW 17)) (hg : i.regs ≤ 9223372036854775807) : readX 17 i = i := by
  obtain ⟨hf, h1, h2, h3, h4, h5, h6, h7, h8, h9, h10⟩ := hr
  have g0 := has_3 (r := i.rd) h1
  have g1 := has_0 (r := i.rn) h2
  have g2 := has_0 (r := i.rm) h3
  have g3 := has_0 (r := i.ra) h4
  have g4 : 0 ≤ i.imm ∧ i.imm ≤ 65535 ∧ i.imm % 1 = 0 := sp_s (s := 1) (by decide) h7
  have g5 : i.kind = 0 := (sh_0 rfl h9).1
  have g6 : i.by_ = 0 := sp_0 (sh_0 rfl h9).2
  have g7 : i.set = 0 := h8.elim id fun e => absurd (show false = true from e.2) Bool.false_ne_true
  have g8 : i.cond = 0 := h6.elim id fun e => absurd (show false = true from e.1) Bool.false_ne_true
  have g9 : i.regs = 0 := lis_0 rfl h5
  exact in_ext rfl (s_17_0 i.rd g0) (s_17_1 i.rn g1) (s_17_2 i.rm g2) (s_17_3 i.ra g3) ((imm_ne (K := 17) (f := i.form) (by decide)).trans (s_17_4 i.imm g4)) (s_17_5 i.kind g5) ((by_ne (K := 17) (k := xR 17 i 5) (by decide)).trans (s_17_6 i.by_ g6)) (s_17_7 i.set g7) (s_17_8 i.cond g8) (s_17_9 i.regs g9)
set_option maxRecDepth 100000 in
theorem back_18 (i : IN) (hs : shapeV i.form = 18) (hr : rightR i (ruW 18)) (hg : i.regs ≤ 9223372036854775807) : readX 18 i = i := by
  obtain ⟨hf, h1, h2, h3, h4, h5, h6, h7, h8, h9, h10⟩ := hr
  have g0 := has_3 (r := i.rd) h1
  have g1 := has_3 (r := i.rn) h2
  have g2 := has_0 (r := i.rm) h3
  have g3 := has_0 (r := i.ra) h4
  have g4 : 0 ≤ i.imm ∧ i.imm ≤ 4095 ∧ i.imm % 1 = 0 := sp_s (s := 1) (by decide) h7
  have g5 : i.kind = 0 := (sh_0 rfl h9).1
  have g6 : i.by_ = 0 := sp_0 (sh_0 rfl h9).2
  have g7 : i.set = 0 ∨ i.set = 1 := h8.imp id fun e => e.1
  have g8 : i.cond = 0 := h6.elim id fun e => absurd (show false = true from e.1) Bool.false_ne_true
  have g9 : i.regs = 0 := lis_0 rfl h5
  exact in_ext rfl (s_18_0 i.rd g0) (s_18_1 i.rn g1) (s_18_2 i.rm g2) (s_18_3 i.ra g3) ((imm_ne (K := 18) (f := i.form) (by decide)).trans (s_18_4 i.imm g4)) (s_18_5 i.kind g5) ((by_ne (K := 18) (k := xR 18 i 5) (by decide)).trans (s_18_6 i.by_ g6)) (s_18_7 i.set g7) (s_18_8 i.cond g8) (s_18_9 i.regs g9)
set_option maxRecDepth 100000 in
theorem back_19 (i : IN) (hs : shapeV i.form = 19) (hr : rightR i (ruW 19)) (hg : i.regs ≤ 9223372036854775807) : readX 19 i = i := by
  obtain ⟨hf, h1, h2, h3, h4, h5, h6, h7, h8, h9, h10⟩ := hr
  have g0 := has_3 (r := i.rd) h1
  have g1 := has_0 (r := i.rn) h2
  have g2 := has_0 (r := i.rm) h3
  have g3 := has_0 (r := i.ra) h4
  have g4 : 0 ≤ i.imm ∧ i.imm ≤ 4095 ∧ i.imm % 1 = 0 := sp_s (s := 1) (by decide) h7
  have g5 : i.kind = 0 := (sh_0 rfl h9).1
  have g6 : i.by_ = 0 := sp_0 (sh_0 rfl h9).2
  have g7 : i.set = 0 ∨ i.set = 1 := h8.imp id fun e => e.1
  have g8 : i.cond = 0 := h6.elim id fun e => absurd (show false = true from e.1) Bool.false_ne_true
  have g9 : i.regs = 0 := lis_0 rfl h5
  exact in_ext rfl (s_19_0 i.rd g0) (s_19_1 i.rn g1) (s_19_2 i.rm g2) (s_19_3 i.ra g3) ((imm_ne (K := 19) (f := i.form) (by decide)).trans (s_19_4 i.imm g4)) (s_19_5 i.kind g5) ((by_ne (K := 19) (k := xR 19 i 5) (by decide)).trans (s_19_6 i.by_ g6)) (s_19_7 i.set g7) (s_19_8 i.cond g8) (s_19_9 i.regs g9)
set_option maxRecDepth 100000 in
theorem back_20 (i : IN) (hs : shapeV i.form = 20) (hr : rightR i (ruW 20)) (hg : i.regs ≤ 9223372036854775807) : readX 20 i = i := by
  obtain ⟨hf, h1, h2, h3, h4, h5, h6, h7, h8, h9, h10⟩ := hr
  have g0 := has_0 (r := i.rd) h1
  have g1 := has_3 (r := i.rn) h2
  have g2 := has_0 (r := i.rm) h3
  have g3 := has_0 (r := i.ra) h4
  have g4 : 0 ≤ i.imm ∧ i.imm ≤ 4095 ∧ i.imm % 1 = 0 := sp_s (s := 1) (by decide) h7
  have g5 : i.kind = 0 := (sh_0 rfl h9).1
  have g6 : i.by_ = 0 := sp_0 (sh_0 rfl h9).2
  have g7 : i.set = 0 := h8.elim id fun e => absurd (show false = true from e.2) Bool.false_ne_true
  have g8 : i.cond = 0 := h6.elim id fun e => absurd (show false = true from e.1) Bool.false_ne_true
  have g9 : i.regs = 0 := lis_0 rfl h5
  exact in_ext rfl (s_20_0 i.rd g0) (s_20_1 i.rn g1) (s_20_2 i.rm g2) (s_20_3 i.ra g3) ((imm_ne (K := 20) (f := i.form) (by decide)).trans (s_20_4 i.imm g4)) (s_20_5 i.kind g5) ((by_ne (K := 20) (k := xR 20 i 5) (by decide)).trans (s_20_6 i.by_ g6)) (s_20_7 i.set g7) (s_20_8 i.cond g8) (s_20_9 i.regs g9)
set_option maxRecDepth 100000 in
theorem back_21 (i : IN) (hs : shapeV i.form = 21) (hr : rightR i (ruW 21)) (hg : i.regs ≤ 9223372036854775807) : readX 21 i = i := by
  obtain ⟨hf, h1, h2, h3, h4, h5, h6, h7, h8, h9, h10⟩ := hr
  have g0 := has_3 (r := i.rd) h1
  have g1 := has_3 (r := i.rn) h2
  have g2 := has_3 (r := i.rm) h3
  have g3 := has_0 (r := i.ra) h4
  have g4 : i.imm = 0 := sp_0 h7
  have g6 : barrelV i.kind i.by_ := sh_1 rfl h9
  have g5 := kind_bd g6
  have g7 : i.set = 0 ∨ i.set = 1 := h8.imp id fun e => e.1
  have g8 : i.cond = 0 := h6.elim id fun e => absurd (show false = true from e.1) Bool.false_ne_true
  have g9 : i.regs = 0 := lis_0 rfl h5
  exact in_ext rfl (s_21_0 i.rd g0) (s_21_1 i.rn g1) (s_21_2 i.rm g2) (s_21_3 i.ra g3) ((imm_ne (K := 21) (f := i.form) (by decide)).trans (s_21_4 i.imm g4)) (s_21_5 i.kind g5) ((by_in (K := 21) (k := xR 21 i 5) (by decide)).trans ((congrArg (fun k => if xR 21 i 6 = 0 ∧ (k = 1 ∨ k = 2) then 32 else xR 21 i 6) (s_21_5 i.kind g5)).trans (s_by i.kind i.by_ g6))) (s_21_7 i.set g7) (s_21_8 i.cond g8) (s_21_9 i.regs g9)
set_option maxRecDepth 100000 in
theorem back_22 (i : IN) (hs : shapeV i.form = 22) (hr : rightR i (ruW 22)) (hg : i.regs ≤ 9223372036854775807) : readX 22 i = i := by
  obtain ⟨hf, h1, h2, h3, h4, h5, h6, h7, h8, h9, h10⟩ := hr
  have g0 := has_3 (r := i.rd) h1
  have g1 := has_0 (r := i.rn) h2
  have g2 := has_3 (r := i.rm) h3
  have g3 := has_0 (r := i.ra) h4
  have g4 : i.imm = 0 := sp_0 h7
  have g6 : barrelV i.kind i.by_ := sh_1 rfl h9
  have g5 := kind_bd g6
  have g7 : i.set = 0 ∨ i.set = 1 := h8.imp id fun e => e.1
  have g8 : i.cond = 0 := h6.elim id fun e => absurd (show false = true from e.1) Bool.false_ne_true
  have g9 : i.regs = 0 := lis_0 rfl h5
  exact in_ext rfl (s_22_0 i.rd g0) (s_22_1 i.rn g1) (s_22_2 i.rm g2) (s_22_3 i.ra g3) ((imm_ne (K := 22) (f := i.form) (by decide)).trans (s_22_4 i.imm g4)) (s_22_5 i.kind g5) ((by_in (K := 22) (k := xR 22 i 5) (by decide)).trans ((congrArg (fun k => if xR 22 i 6 = 0 ∧ (k = 1 ∨ k = 2) then 32 else xR 22 i 6) (s_22_5 i.kind g5)).trans (s_by i.kind i.by_ g6))) (s_22_7 i.set g7) (s_22_8 i.cond g8) (s_22_9 i.regs g9)
set_option maxRecDepth 100000 in
theorem back_23 (i : IN) (hs : shapeV i.form = 23) (hr : rightR i (ruW 23)) (hg : i.regs ≤ 9223372036854775807) : readX 23 i = i := by
  obtain ⟨hf, h1, h2, h3, h4, h5, h6, h7, h8, h9, h10⟩ := hr
  have g0 := has_0 (r := i.rd) h1
  have g1 := has_3 (r := i.rn) h2
  have g2 := has_3 (r := i.rm) h3
  have g3 := has_0 (r := i.ra) h4
  have g4 : i.imm = 0 := sp_0 h7
  have g6 : barrelV i.kind i.by_ := sh_1 rfl h9
  have g5 := kind_bd g6
  have g7 : i.set = 0 := h8.elim id fun e => absurd (show false = true from e.2) Bool.false_ne_true
  have g8 : i.cond = 0 := h6.elim id fun e => absurd (show false = true from e.1) Bool.false_ne_true
  have g9 : i.regs = 0 := lis_0 rfl h5
  exact in_ext rfl (s_23_0 i.rd g0) (s_23_1 i.rn g1) (s_23_2 i.rm g2) (s_23_3 i.ra g3) ((imm_ne (K := 23) (f := i.form) (by decide)).trans (s_23_4 i.imm g4)) (s_23_5 i.kind g5) ((by_in (K := 23) (k := xR 23 i 5) (by decide)).trans ((congrArg (fun k => if xR 23 i 6 = 0 ∧ (k = 1 ∨ k = 2) then 32 else xR 23 i 6) (s_23_5 i.kind g5)).trans (s_by i.kind i.by_ g6))) (s_23_7 i.set g7) (s_23_8 i.cond g8) (s_23_9 i.regs g9)
set_option maxRecDepth 100000 in
theorem back_24 (i : IN) (hs : shapeV i.form = 24) (hr : rightR i (ruW 24)) (hg : i.regs ≤ 9223372036854775807) : readX 24 i = i := by
  obtain ⟨hf, h1, h2, h3, h4, h5, h6, h7, h8, h9, h10⟩ := hr
  have g0 := has_3 (r := i.rd) h1
  have g1 := has_3 (r := i.rn) h2
  have g2 := has_0 (r := i.rm) h3
  have g3 := has_0 (r := i.ra) h4
  have g4 : 0 ≤ i.imm ∧ i.imm ≤ 4095 ∧ i.imm % 1 = 0 := sp_s (s := 1) (by decide) h7
  have g5 : i.kind = 0 := (sh_0 rfl h9).1
  have g6 : i.by_ = 0 := sp_0 (sh_0 rfl h9).2
  have g7 : i.set = 0 := h8.elim id fun e => absurd (show false = true from e.2) Bool.false_ne_true
  have g8 : i.cond = 0 := h6.elim id fun e => absurd (show false = true from e.1) Bool.false_ne_true
  have g9 : i.regs = 0 := lis_0 rfl h5
  exact in_ext rfl (s_24_0 i.rd g0) (s_24_1 i.rn g1) (s_24_2 i.rm g2) (s_24_3 i.ra g3) ((imm_ne (K := 24) (f := i.form) (by decide)).trans (s_24_4 i.imm g4)) (s_24_5 i.kind g5) ((by_ne (K := 24) (k := xR 24 i 5) (by decide)).trans (s_24_6 i.by_ g6)) (s_24_7 i.set g7) (s_24_8 i.cond g8) (s_24_9 i.regs g9)
set_option maxRecDepth 100000 in
theorem back_25 (i : IN) (hs : shapeV i.form = 25) (hr : rightR i (ruW 25)) (hg : i.regs ≤ 9223372036854775807) : readX 25 i = i := by
  obtain ⟨hf, h1, h2, h3, h4, h5, h6, h7, h8, h9, h10⟩ := hr
  have g0 := has_3 (r := i.rd) h1
  have g1 := has_2 (r := i.rn) h2
  have g2 := has_0 (r := i.rm) h3
  have g3 := has_0 (r := i.ra) h4
  have g4 : 0 ≤ i.imm ∧ i.imm ≤ 4095 ∧ i.imm % 1 = 0 := sp_s (s := 1) (by decide) h7
  have g5 : i.kind = 0 := (sh_0 rfl h9).1
  have g6 : i.by_ = 0 := sp_0 (sh_0 rfl h9).2
  have g7 : i.set = 0 := h8.elim id fun e => absurd (show false = true from e.2) Bool.false_ne_true
  have g8 : i.cond = 0 := h6.elim id fun e => absurd (show false = true from e.1) Bool.false_ne_true
  have g9 : i.regs = 0 := lis_0 rfl h5
  exact in_ext rfl (s_25_0 i.rd g0) (s_25_1 i.rn g1) (s_25_2 i.rm g2) (s_25_3 i.ra g3) ((imm_ne (K := 25) (f := i.form) (by decide)).trans (s_25_4 i.imm g4)) (s_25_5 i.kind g5) ((by_ne (K := 25) (k := xR 25 i 5) (by decide)).trans (s_25_6 i.by_ g6)) (s_25_7 i.set g7) (s_25_8 i.cond g8) (s_25_9 i.regs g9)
set_option maxRecDepth 100000 in
theorem back_26 (i : IN) (hs : shapeV i.form = 26) (hr : rightR i (ruW 26)) (hg : i.regs ≤ 9223372036854775807) : readX 26 i = i := by
  obtain ⟨hf, h1, h2, h3, h4, h5, h6, h7, h8, h9, h10⟩ := hr
  have g0 := has_3 (r := i.rd) h1
  have g1 := has_2 (r := i.rn) h2
  have g2 := has_3 (r := i.rm) h3
  have g3 := has_0 (r := i.ra) h4
  have g4 : i.imm = 0 := sp_0 h7
  have g5 : i.kind = 0 := (sh_0 rfl h9).1
  have g6 : 0 ≤ i.by_ ∧ i.by_ ≤ 3 ∧ i.by_ % 1 = 0 := sp_s (s := 1) (by decide) (sh_0 rfl h9).2
  have g7 : i.set = 0 := h8.elim id fun e => absurd (show false = true from e.2) Bool.false_ne_true
  have g8 : i.cond = 0 := h6.elim id fun e => absurd (show false = true from e.1) Bool.false_ne_true
  have g9 : i.regs = 0 := lis_0 rfl h5
  exact in_ext rfl (s_26_0 i.rd g0) (s_26_1 i.rn g1) (s_26_2 i.rm g2) (s_26_3 i.ra g3) ((imm_ne (K := 26) (f := i.form) (by decide)).trans (s_26_4 i.imm g4)) (s_26_5 i.kind g5) ((by_ne (K := 26) (k := xR 26 i 5) (by decide)).trans (s_26_6 i.by_ g6)) (s_26_7 i.set g7) (s_26_8 i.cond g8) (s_26_9 i.regs g9)
set_option maxRecDepth 100000 in
theorem back_27 (i : IN) (hs : shapeV i.form = 27) (hr : rightR i (ruW 27)) (hg : i.regs ≤ 9223372036854775807) : readX 27 i = i := by
  obtain ⟨hf, h1, h2, h3, h4, h5, h6, h7, h8, h9, h10⟩ := hr
  have g0 := has_3 (r := i.rd) h1
  have g1 := has_3 (r := i.rn) h2
  have g2 := has_3 (r := i.rm) h3
  have g3 := has_0 (r := i.ra) h4
  have g4 : i.imm = 0 := sp_0 h7
  have g5 : i.kind = 0 := (sh_0 rfl h9).1
  have g6 : i.by_ = 0 := sp_0 (sh_0 rfl h9).2
  have g7 : i.set = 0 ∨ i.set = 1 := h8.imp id fun e => e.1
  have g8 : i.cond = 0 := h6.elim id fun e => absurd (show false = true from e.1) Bool.false_ne_true
  have g9 : i.regs = 0 := lis_0 rfl h5
  exact in_ext rfl (s_27_0 i.rd g0) (s_27_1 i.rn g1) (s_27_2 i.rm g2) (s_27_3 i.ra g3) ((imm_ne (K := 27) (f := i.form) (by decide)).trans (s_27_4 i.imm g4)) (s_27_5 i.kind g5) ((by_ne (K := 27) (k := xR 27 i 5) (by decide)).trans (s_27_6 i.by_ g6)) (s_27_7 i.set g7) (s_27_8 i.cond g8) (s_27_9 i.regs g9)
set_option maxRecDepth 100000 in
theorem back_28 (i : IN) (hs : shapeV i.form = 28) (hr : rightR i (ruW 28)) (hg : i.regs ≤ 9223372036854775807) : readX 28 i = i := by
  obtain ⟨hf, h1, h2, h3, h4, h5, h6, h7, h8, h9, h10⟩ := hr
  have g0 := has_3 (r := i.rd) h1
  have g1 := has_3 (r := i.rn) h2
  have g2 := has_3 (r := i.rm) h3
  have g3 := has_0 (r := i.ra) h4
  have g4 : i.imm = 0 := sp_0 h7
  have g5 : i.kind = 0 := (sh_0 rfl h9).1
  have g6 : i.by_ = 0 := sp_0 (sh_0 rfl h9).2
  have g7 : i.set = 0 := h8.elim id fun e => absurd (show false = true from e.2) Bool.false_ne_true
  have g8 : i.cond = 0 := h6.elim id fun e => absurd (show false = true from e.1) Bool.false_ne_true
  have g9 : i.regs = 0 := lis_0 rfl h5
  exact in_ext rfl (s_28_0 i.rd g0) (s_28_1 i.rn g1) (s_28_2 i.rm g2) (s_28_3 i.ra g3) ((imm_ne (K := 28) (f := i.form) (by decide)).trans (s_28_4 i.imm g4)) (s_28_5 i.kind g5) ((by_ne (K := 28) (k := xR 28 i 5) (by decide)).trans (s_28_6 i.by_ g6)) (s_28_7 i.set g7) (s_28_8 i.cond g8) (s_28_9 i.regs g9)
set_option maxRecDepth 100000 in
theorem back_29 (i : IN) (hs : shapeV i.form = 29) (hr : rightR i (ruW 29)) (hg : i.regs ≤ 9223372036854775807) : readX 29 i = i := by
  obtain ⟨hf, h1, h2, h3, h4, h5, h6, h7, h8, h9, h10⟩ := hr
  have g0 := has_3 (r := i.rd) h1
  have g1 := has_3 (r := i.rn) h2
  have g2 := has_3 (r := i.rm) h3
  have g3 := has_3 (r := i.ra) h4
  have g4 : i.imm = 0 := sp_0 h7
  have g5 : i.kind = 0 := (sh_0 rfl h9).1
  have g6 : i.by_ = 0 := sp_0 (sh_0 rfl h9).2
  have g7 : i.set = 0 := h8.elim id fun e => absurd (show false = true from e.2) Bool.false_ne_true
  have g8 : i.cond = 0 := h6.elim id fun e => absurd (show false = true from e.1) Bool.false_ne_true
  have g9 : i.regs = 0 := lis_0 rfl h5
  exact in_ext rfl (s_29_0 i.rd g0) (s_29_1 i.rn g1) (s_29_2 i.rm g2) (s_29_3 i.ra g3) ((imm_ne (K := 29) (f := i.form) (by decide)).trans (s_29_4 i.imm g4)) (s_29_5 i.kind g5) ((by_ne (K := 29) (k := xR 29 i 5) (by decide)).trans (s_29_6 i.by_ g6)) (s_29_7 i.set g7) (s_29_8 i.cond g8) (s_29_9 i.regs g9)
set_option maxRecDepth 100000 in
theorem back_30 (i : IN) (hs : shapeV i.form = 30) (hr : rightR i (ruW 30)) (hg : i.regs ≤ 9223372036854775807) : readX 30 i = i := by
  obtain ⟨hf, h1, h2, h3, h4, h5, h6, h7, h8, h9, h10⟩ := hr
  have g0 := has_3 (r := i.rd) h1
  have g1 := has_3 (r := i.rn) h2
  have g2 := has_3 (r := i.rm) h3
  have g3 := has_3 (r := i.ra) h4
  have g4 : i.imm = 0 := sp_0 h7
  have g5 : i.kind = 0 := (sh_0 rfl h9).1
  have g6 : i.by_ = 0 := sp_0 (sh_0 rfl h9).2
  have g7 : i.set = 0 := h8.elim id fun e => absurd (show false = true from e.2) Bool.false_ne_true
  have g8 : i.cond = 0 := h6.elim id fun e => absurd (show false = true from e.1) Bool.false_ne_true
  have g9 : i.regs = 0 := lis_0 rfl h5
  exact in_ext rfl (s_30_0 i.rd g0) (s_30_1 i.rn g1) (s_30_2 i.rm g2) (s_30_3 i.ra g3) ((imm_ne (K := 30) (f := i.form) (by decide)).trans (s_30_4 i.imm g4)) (s_30_5 i.kind g5) ((by_ne (K := 30) (k := xR 30 i 5) (by decide)).trans (s_30_6 i.by_ g6)) (s_30_7 i.set g7) (s_30_8 i.cond g8) (s_30_9 i.regs g9)
set_option maxRecDepth 100000 in
theorem back_31 (i : IN) (hs : shapeV i.form = 31) (hr : rightR i (ruW 31)) (hg : i.regs ≤ 9223372036854775807) : readX 31 i = i := by
  obtain ⟨hf, h1, h2, h3, h4, h5, h6, h7, h8, h9, h10⟩ := hr
  have g0 := has_3 (r := i.rd) h1
  have g1 := has_3 (r := i.rn) h2
  have g2 := has_3 (r := i.rm) h3
  have g3 := has_3 (r := i.ra) h4
  have g4 : i.imm = 0 := sp_0 h7
  have g5 : i.kind = 0 := (sh_0 rfl h9).1
  have g6 : i.by_ = 0 := sp_0 (sh_0 rfl h9).2
  have g7 : i.set = 0 := h8.elim id fun e => absurd (show false = true from e.2) Bool.false_ne_true
  have g8 : i.cond = 0 := h6.elim id fun e => absurd (show false = true from e.1) Bool.false_ne_true
  have g9 : i.regs = 0 := lis_0 rfl h5
  exact in_ext rfl (s_31_0 i.rd g0) (s_31_1 i.rn g1) (s_31_2 i.rm g2) (s_31_3 i.ra g3) ((imm_ne (K := 31) (f := i.form) (by decide)).trans (s_31_4 i.imm g4)) (s_31_5 i.kind g5) ((by_ne (K := 31) (k := xR 31 i 5) (by decide)).trans (s_31_6 i.by_ g6)) (s_31_7 i.set g7) (s_31_8 i.cond g8) (s_31_9 i.regs g9)
set_option maxRecDepth 100000 in
theorem back_32 (i : IN) (hs : shapeV i.form = 32) (hr : rightR i (ruW 32)) (hg : i.regs ≤ 9223372036854775807) : readX 32 i = i := by
  obtain ⟨hf, h1, h2, h3, h4, h5, h6, h7, h8, h9, h10⟩ := hr
  have g0 := has_3 (r := i.rd) h1
  have g1 := has_0 (r := i.rn) h2
  have g2 := has_3 (r := i.rm) h3
  have g3 := has_0 (r := i.ra) h4
  have g4 : i.imm = 0 := sp_0 h7
  have g5 : i.kind = 0 := (sh_0 rfl h9).1
  have g6 : i.by_ = 0 := sp_0 (sh_0 rfl h9).2
  have g7 : i.set = 0 := h8.elim id fun e => absurd (show false = true from e.2) Bool.false_ne_true
  have g8 : i.cond = 0 := h6.elim id fun e => absurd (show false = true from e.1) Bool.false_ne_true
  have g9 : i.regs = 0 := lis_0 rfl h5
  exact in_ext rfl (s_32_0 i.rd g0) (s_32_1 i.rn g1) (s_32_2 i.rm g2) (s_32_3 i.ra g3) ((imm_ne (K := 32) (f := i.form) (by decide)).trans (s_32_4 i.imm g4)) (s_32_5 i.kind g5) ((by_ne (K := 32) (k := xR 32 i 5) (by decide)).trans (s_32_6 i.by_ g6)) (s_32_7 i.set g7) (s_32_8 i.cond g8) (s_32_9 i.regs g9)
set_option maxRecDepth 100000 in
theorem back_33 (i : IN) (hs : shapeV i.form = 33) (hr : rightR i (ruW 33)) (hg : i.regs ≤ 9223372036854775807) : readX 33 i = i := by
  obtain ⟨hf, h1, h2, h3, h4, h5, h6, h7, h8, h9, h10⟩ := hr
  have g0 := has_0 (r := i.rd) h1
  have g1 := has_0 (r := i.rn) h2
  have g2 := has_0 (r := i.rm) h3
  have g3 := has_0 (r := i.ra) h4
  have g4 : -1048576 ≤ i.imm ∧ i.imm ≤ 1048574 ∧ i.imm % 2 = 0 := sp_s (s := 2) (by decide) h7
  have g5 : i.kind = 0 := (sh_0 rfl h9).1
  have g6 : i.by_ = 0 := sp_0 (sh_0 rfl h9).2
  have g7 : i.set = 0 := h8.elim id fun e => absurd (show false = true from e.2) Bool.false_ne_true
  have g8 : 0 ≤ i.cond ∧ i.cond ≤ 13 := by rcases h6 with h6 | h6 <;> omega
  have g9 : i.regs = 0 := lis_0 rfl h5
  exact in_ext rfl (s_33_0 i.rd g0) (s_33_1 i.rn g1) (s_33_2 i.rm g2) (s_33_3 i.ra g3) (s_33_4 i.imm g4) (s_33_5 i.kind g5) ((by_ne (K := 33) (k := xR 33 i 5) (by decide)).trans (s_33_6 i.by_ g6)) (s_33_7 i.set g7) (s_33_8 i.cond g8) (s_33_9 i.regs g9)

end Go.Proofs.YtjcacjeoddnmhaaDoor.Pw

/- Chapter 4, plain: a right instruction is read again from its bits. -/
namespace Go.Proofs.YtjcacjeoddnmhaaDoor.Pw
open Go Go.RowKit

theorem s_34_t (t : Int) (h : 0 ≤ t ∧ t < 33554432) (h2 : t % 2 = 0) : 0 + bitsV t 24 1 * 2 ^ 24 + bitsV t 12 10 * 2 ^ 12 + bitsV t 23 1 * 2 ^ 23 + bitsV t 22 1 * 2 ^ 22 + bitsV t 1 11 * 2 ^ 1 = t := by
  unfold bitsV; rw [if_neg (by omega)]; omega
theorem jump_bits (v : Int) (h : -16777216 ≤ v ∧ v ≤ 16777214 ∧ v % 2 = 0) : (0 ≤ bitsV v 0 25 ∧ bitsV v 0 25 < 33554432) ∧ bitsV v 0 25 % 2 = 0 ∧ leastV (bitsV v 0 25) 25 = v := by
  have e : bitsV v 0 25 = if v < 0 then v + 33554432 else v := by unfold bitsV; split <;> omega
  have e2 : ∀ m : Int, 0 ≤ m → bitsV m 24 1 = m / 16777216 % 2 := fun m hm => by unfold bitsV; rw [if_neg (by omega)]; rfl
  have hb : 0 ≤ bitsV v 0 25 ∧ bitsV v 0 25 < 33554432 := by rw [e]; split <;> omega
  refine ⟨hb, by rw [e]; split <;> omega, ?_⟩
  unfold leastV
  rw [show (25 - 1 : Nat) = 24 from rfl, e2 _ hb.1, e]
  have p : (2 : Int) ^ 25 = 33554432 := by decide
  rw [p]
  split <;> split <;> omega
theorem back_34 (i : IN) (hs : shapeV i.form = 34) (hr : rightR i (ruW 34)) : {readX 34 (turnI i) with form := i.form} = i := by
  obtain ⟨hf, h1, h2, h3, h4, h5, h6, h7, h8, h9, h10⟩ := hr
  have g0 := has_0 (r := i.rd) h1
  have g1 := has_0 (r := i.rn) h2
  have g2 := has_0 (r := i.rm) h3
  have g3 := has_0 (r := i.ra) h4
  have g4 : -16777216 ≤ i.imm ∧ i.imm ≤ 16777214 ∧ i.imm % 2 = 0 := sp_s (s := 2) (by decide) h7
  have g5 : i.kind = 0 := (sh_0 rfl h9).1
  have g6 : i.by_ = 0 := sp_0 (sh_0 rfl h9).2
  have g7 : i.set = 0 := h8.elim id fun e => absurd (show false = true from e.2) Bool.false_ne_true
  have g8 : i.cond = 0 := h6.elim id fun e => absurd (show false = true from e.1) Bool.false_ne_true
  have g9 : i.regs = 0 := lis_0 rfl h5
  obtain ⟨hb, he, hl⟩ := jump_bits i.imm g4
  rw [sh34 hs]
  have hn := turn_bd hb
  have h2' : turnN (bitsV i.imm 0 25) 2 % 2 = 0 := by have := (turn_bits hb).2.1; omega
  have e34 : ∀ x : Int, immA 34 i.form x = leastV (turnN x 2) 25 := fun x => by
    unfold immA; rw [if_neg (by decide), if_neg (by decide), if_neg (by decide), if_pos rfl]
  have hi : immA 34 i.form (0 + bitsV (turnN (bitsV i.imm 0 25) 2) 24 1 * 2 ^ 24 + bitsV (turnN (bitsV i.imm 0 25) 2) 12 10 * 2 ^ 12 + bitsV (turnN (bitsV i.imm 0 25) 2) 23 1 * 2 ^ 23 + bitsV (turnN (bitsV i.imm 0 25) 2) 22 1 * 2 ^ 22 + bitsV (turnN (bitsV i.imm 0 25) 2) 1 11 * 2 ^ 1) = i.imm := by
    rw [e34, s_34_t _ hn h2', turn_turn hb, hl]
  exact in_ext rfl (s_34_0 i.rd g0) (s_34_1 i.rn g1) (s_34_2 i.rm g2) (s_34_3 i.ra g3) hi (s_34_5 i.kind g5) ((by_ne (K := 34) (k := 0) (by decide)).trans (s_34_6 i.by_ g6)) (s_34_7 i.set g7) (s_34_8 i.cond g8) (s_34_9 i.regs g9)
theorem cases34 {s : Int} (h : 1 ≤ s ∧ s ≤ 34) : s = 1 ∨ s = 2 ∨ s = 3 ∨ s = 4 ∨ s = 5 ∨ s = 6 ∨ s = 7 ∨ s = 8 ∨ s = 9 ∨ s = 10 ∨ s = 11 ∨ s = 12 ∨ s = 13 ∨ s = 14 ∨ s = 15 ∨ s = 16 ∨ s = 17 ∨ s = 18 ∨ s = 19 ∨ s = 20 ∨ s = 21 ∨ s = 22 ∨ s = 23 ∨ s = 24 ∨ s = 25 ∨ s = 26 ∨ s = 27 ∨ s = 28 ∨ s = 29 ∨ s = 30 ∨ s = 31 ∨ s = 32 ∨ s = 33 ∨ s = 34 := by omega
theorem back_32w (i : IN) (h : shapeV i.form = 32) (hr : 0 ≤ i.rm ∧ i.rm < 15) : bitsV (wordV i) 0 4 = bitsV (turnI i).rm 0 4 := by
  have hx : ((2, 0, 0, 4) : Nat × Nat × Nat × Nat) ∈ fieldsV (shapeV i.form) := by rw [h]; decide
  exact word_bits i hx
/-- a right instruction is read again from its bits -/
theorem back (i : IN) (h : rightV i) (hg : i.regs ≤ 9223372036854775807) : readV i.form (wordV i) = i := by
  rw [read_word i fun h32 => back_32w i h32 (right_regs h).2.2.1]
  have hr := h
  unfold rightV at hr
  rcases cases34 (shape_bd h.1) with hs | hs | hs | hs | hs | hs | hs | hs | hs | hs | hs | hs | hs | hs | hs | hs | hs | hs | hs | hs | hs | hs | hs | hs | hs | hs | hs | hs | hs | hs | hs | hs | hs | hs
  · rw [hs] at hr ⊢; rw [turnI_not (by rw [hs]; decide)]; exact back_1 i hs hr hg
  · rw [hs] at hr ⊢; rw [turnI_not (by rw [hs]; decide)]; exact back_2 i hs hr hg
  · rw [hs] at hr ⊢; rw [turnI_not (by rw [hs]; decide)]; exact back_3 i hs hr hg
  · rw [hs] at hr ⊢; rw [turnI_not (by rw [hs]; decide)]; exact back_4 i hs hr hg
  · rw [hs] at hr ⊢; rw [turnI_not (by rw [hs]; decide)]; exact back_5 i hs hr hg
  · rw [hs] at hr ⊢; rw [turnI_not (by rw [hs]; decide)]; exact back_6 i hs hr hg
  · rw [hs] at hr ⊢; rw [turnI_not (by rw [hs]; decide)]; exact back_7 i hs hr hg
  · rw [hs] at hr ⊢; rw [turnI_not (by rw [hs]; decide)]; exact back_8 i hs hr hg
  · rw [hs] at hr ⊢; rw [turnI_not (by rw [hs]; decide)]; exact back_9 i hs hr hg
  · rw [hs] at hr ⊢; rw [turnI_not (by rw [hs]; decide)]; exact back_10 i hs hr hg
  · rw [hs] at hr ⊢; rw [turnI_not (by rw [hs]; decide)]; exact back_11 i hs hr hg
  · rw [hs] at hr ⊢; rw [turnI_not (by rw [hs]; decide)]; exact back_12 i hs hr hg
  · rw [hs] at hr ⊢; rw [turnI_not (by rw [hs]; decide)]; exact back_13 i hs hr hg
  · rw [hs] at hr ⊢; rw [turnI_not (by rw [hs]; decide)]; exact back_14 i hs hr hg
  · rw [hs] at hr ⊢; rw [turnI_not (by rw [hs]; decide)]; exact back_15 i hs hr hg
  · rw [hs] at hr ⊢; rw [turnI_not (by rw [hs]; decide)]; exact back_16 i hs hr hg
  · rw [hs] at hr ⊢; rw [turnI_not (by rw [hs]; decide)]; exact back_17 i hs hr hg
  · rw [hs] at hr ⊢; rw [turnI_not (by rw [hs]; decide)]; exact back_18 i hs hr hg
  · rw [hs] at hr ⊢; rw [turnI_not (by rw [hs]; decide)]; exact back_19 i hs hr hg
  · rw [hs] at hr ⊢; rw [turnI_not (by rw [hs]; decide)]; exact back_20 i hs hr hg
  · rw [hs] at hr ⊢; rw [turnI_not (by rw [hs]; decide)]; exact back_21 i hs hr hg
  · rw [hs] at hr ⊢; rw [turnI_not (by rw [hs]; decide)]; exact back_22 i hs hr hg
  · rw [hs] at hr ⊢; rw [turnI_not (by rw [hs]; decide)]; exact back_23 i hs hr hg
  · rw [hs] at hr ⊢; rw [turnI_not (by rw [hs]; decide)]; exact back_24 i hs hr hg
  · rw [hs] at hr ⊢; rw [turnI_not (by rw [hs]; decide)]; exact back_25 i hs hr hg
  · rw [hs] at hr ⊢; rw [turnI_not (by rw [hs]; decide)]; exact back_26 i hs hr hg
  · rw [hs] at hr ⊢; rw [turnI_not (by rw [hs]; decide)]; exact back_27 i hs hr hg
  · rw [hs] at hr ⊢; rw [turnI_not (by rw [hs]; decide)]; exact back_28 i hs hr hg
  · rw [hs] at hr ⊢; rw [turnI_not (by rw [hs]; decide)]; exact back_29 i hs hr hg
  · rw [hs] at hr ⊢; rw [turnI_not (by rw [hs]; decide)]; exact back_30 i hs hr hg
  · rw [hs] at hr ⊢; rw [turnI_not (by rw [hs]; decide)]; exact back_31 i hs hr hg
  · rw [hs] at hr ⊢; rw [turnI_not (by rw [hs]; decide)]; exact back_32 i hs hr hg
  · rw [hs] at hr ⊢; rw [turnI_not (by rw [hs]; decide)]; exact back_33 i hs hr hg
  · rw [hs] at hr ⊢; exact back_34 i hs hr

end Go.Proofs.YtjcacjeoddnmhaaDoor.Pw

/- Chapter 4 over values: the program's bits of words, small ones; the readings of each shape, written out (by gen_tt.py). -/
namespace Go.Proofs.YtjcacjeoddnmhaaDoor.Pw
open Go Go.RowKit

def rdI1 (f w : Int) : IN := ⟨f, 0 + bitsV w 0 3 * 2 ^ 0, 0, 0 + bitsV w 3 3 * 2 ^ 0, 0, if 1 < f ∧ 0 + bitsV w 6 5 * 2 ^ 0 = 0 then 32 else 0 + bitsV w 6 5 * 2 ^ 0, 0, 0, 0, 0, 0⟩
theorem rd_1 {f w : Int} (h : shapeV f = 1) : readV f w = rdI1 f w := by
  unfold readV; rw [h]
  exact in_ext rfl rfl rfl rfl rfl (imm_1) rfl (by_ne (K := 1) (k := xV 1 w 5) (by decide)) rfl rfl rfl
def rdI2 (f w : Int) : IN := ⟨f, 0 + bitsV w 0 3 * 2 ^ 0, 0 + bitsV w 3 3 * 2 ^ 0, 0 + bitsV w 6 3 * 2 ^ 0, 0, 0, 0, 0, 0, 0, 0⟩
theorem rd_2 {f w : Int} (h : shapeV f = 2) : readV f w = rdI2 f w := by
  unfold readV; rw [h]
  exact in_ext rfl rfl rfl rfl rfl (imm_ne (K := 2) (f := f) (by decide)) rfl (by_ne (K := 2) (k := xV 2 w 5) (by decide)) rfl rfl rfl
def rdI3 (f w : Int) : IN := ⟨f, 0 + bitsV w 0 3 * 2 ^ 0, 0 + bitsV w 3 3 * 2 ^ 0, 0, 0, 0 + bitsV w 6 3 * 2 ^ 0, 0, 0, 0, 0, 0⟩
theorem rd_3 {f w : Int} (h : shapeV f = 3) : readV f w = rdI3 f w := by
  unfold readV; rw [h]
  exact in_ext rfl rfl rfl rfl rfl (imm_ne (K := 3) (f := f) (by decide)) rfl (by_ne (K := 3) (k := xV 3 w 5) (by decide)) rfl rfl rfl
def rdI4 (f w : Int) : IN := ⟨f, 0 + bitsV w 8 3 * 2 ^ 0, 0, 0, 0, 0 + bitsV w 0 8 * 2 ^ 0, 0, 0, 0, 0, 0⟩
theorem rd_4 {f w : Int} (h : shapeV f = 4) : readV f w = rdI4 f w := by
  unfold readV; rw [h]
  exact in_ext rfl rfl rfl rfl rfl (imm_ne (K := 4) (f := f) (by decide)) rfl (by_ne (K := 4) (k := xV 4 w 5) (by decide)) rfl rfl rfl
def rdI5 (f w : Int) : IN := ⟨f, 0 + bitsV w 0 3 * 2 ^ 0, 0, 0 + bitsV w 3 3 * 2 ^ 0, 0, 0, 0, 0, 0, 0, 0⟩
theorem rd_5 {f w : Int} (h : shapeV f = 5) : readV f w = rdI5 f w := by
  unfold readV; rw [h]
  exact in_ext rfl rfl rfl rfl rfl (imm_ne (K := 5) (f := f) (by decide)) rfl (by_ne (K := 5) (k := xV 5 w 5) (by decide)) rfl rfl rfl
def rdI6 (f w : Int) : IN := ⟨f, 0 + bitsV w 7 1 * 2 ^ 3 + bitsV w 0 3 * 2 ^ 0, 0, 0 + bitsV w 3 4 * 2 ^ 0, 0, 0, 0, 0, 0, 0, 0⟩
theorem rd_6 {f w : Int} (h : shapeV f = 6) : readV f w = rdI6 f w := by
  unfold readV; rw [h]
  exact in_ext rfl rfl rfl rfl rfl (imm_ne (K := 6) (f := f) (by decide)) rfl (by_ne (K := 6) (k := xV 6 w 5) (by decide)) rfl rfl rfl
def rdI7 (f w : Int) : IN := ⟨f, 0, 0, 0 + bitsV w 3 4 * 2 ^ 0, 0, 0, 0, 0, 0, 0, 0⟩
theorem rd_7 {f w : Int} (h : shapeV f = 7) : readV f w = rdI7 f w := by
  unfold readV; rw [h]
  exact in_ext rfl rfl rfl rfl rfl (imm_ne (K := 7) (f := f) (by decide)) rfl (by_ne (K := 7) (k := xV 7 w 5) (by decide)) rfl rfl rfl
def rdI8 (f w : Int) : IN := ⟨f, 0 + bitsV w 8 3 * 2 ^ 0, 0, 0, 0, 0 + bitsV w 0 8 * 2 ^ 2, 0, 0, 0, 0, 0⟩
theorem rd_8 {f w : Int} (h : shapeV f = 8) : readV f w = rdI8 f w := by
  unfold readV; rw [h]
  exact in_ext rfl rfl rfl rfl rfl (imm_ne (K := 8) (f := f) (by decide)) rfl (by_ne (K := 8) (k := xV 8 w 5) (by decide)) rfl rfl rfl
def rdI9 (f w : Int) : IN := ⟨f, 0 + bitsV w 0 3 * 2 ^ 0, 0 + bitsV w 3 3 * 2 ^ 0, 0, 0, 0 + bitsV w 6 5 * 2 ^ 2, 0, 0, 0, 0, 0⟩
theorem rd_9 {f w : Int} (h : shapeV f = 9) : readV f w = rdI9 f w := by
  unfold readV; rw [h]
  exact in_ext rfl rfl rfl rfl rfl (imm_ne (K := 9) (f := f) (by decide)) rfl (by_ne (K := 9) (k := xV 9 w 5) (by decide)) rfl rfl rfl
def rdI10 (f w : Int) : IN := ⟨f, 0, 0, 0, 0, 0 + bitsV w 0 7 * 2 ^ 2, 0, 0, 0, 0, 0⟩
theorem rd_10 {f w : Int} (h : shapeV f = 10) : readV f w = rdI10 f w := by
  unfold readV; rw [h]
  exact in_ext rfl rfl rfl rfl rfl (imm_ne (K := 10) (f := f) (by decide)) rfl (by_ne (K := 10) (k := xV 10 w 5) (by decide)) rfl rfl rfl
def rdI11 (f w : Int) : IN := ⟨f, 0, 0, 0, 0, 0, 0, 0, 0, 0, 0 + bitsV w 8 1 * 2 ^ 14 + bitsV w 0 8 * 2 ^ 0⟩
theorem rd_11 {f w : Int} (h : shapeV f = 11) : readV f w = rdI11 f w := by
  unfold readV; rw [h]
  exact in_ext rfl rfl rfl rfl rfl (imm_ne (K := 11) (f := f) (by decide)) rfl (by_ne (K := 11) (k := xV 11 w 5) (by decide)) rfl rfl rfl
def rdI12 (f w : Int) : IN := ⟨f, 0, 0, 0, 0, 0, 0, 0, 0, 0, 0 + bitsV w 8 1 * 2 ^ 15 + bitsV w 0 8 * 2 ^ 0⟩
theorem rd_12 {f w : Int} (h : shapeV f = 12) : readV f w = rdI12 f w := by
  unfold readV; rw [h]
  exact in_ext rfl rfl rfl rfl rfl (imm_ne (K := 12) (f := f) (by decide)) rfl (by_ne (K := 12) (k := xV 12 w 5) (by decide)) rfl rfl rfl
def rdI13 (f w : Int) : IN := ⟨f, 0, 0, 0, 0, 0, 0, 0, 0, 0, 0⟩
theorem rd_13 {f w : Int} (h : shapeV f = 13) : readV f w = rdI13 f w := by
  unfold readV; rw [h]
  exact in_ext rfl rfl rfl rfl rfl (imm_ne (K := 13) (f := f) (by decide)) rfl (by_ne (K := 13) (k := xV 13 w 5) (by decide)) rfl rfl rfl
def rdI14 (f w : Int) : IN := ⟨f, 0, 0, 0, 0, 0 + bitsV w 0 8 * 2 ^ 0, 0, 0, 0, 0, 0⟩
theorem rd_14 {f w : Int} (h : shapeV f = 14) : readV f w = rdI14 f w := by
  unfold readV; rw [h]
  exact in_ext rfl rfl rfl rfl rfl (imm_ne (K := 14) (f := f) (by decide)) rfl (by_ne (K := 14) (k := xV 14 w 5) (by decide)) rfl rfl rfl
def rdI15 (f w : Int) : IN := ⟨f, 0, 0, 0, 0, leastV (0 + bitsV w 0 8 * 2 ^ 1) 9, 0, 0, 0, 0 + bitsV w 8 4 * 2 ^ 0, 0⟩
theorem rd_15 {f w : Int} (h : shapeV f = 15) : readV f w = rdI15 f w := by
  unfold readV; rw [h]
  exact in_ext rfl rfl rfl rfl rfl (rfl) rfl (by_ne (K := 15) (k := xV 15 w 5) (by decide)) rfl rfl rfl
def rdI16 (f w : Int) : IN := ⟨f, 0, 0, 0, 0, leastV (0 + bitsV w 0 11 * 2 ^ 1) 12, 0, 0, 0, 0, 0⟩
theorem rd_16 {f w : Int} (h : shapeV f = 16) : readV f w = rdI16 f w := by
  unfold readV; rw [h]
  exact in_ext rfl rfl rfl rfl rfl (rfl) rfl (by_ne (K := 16) (k := xV 16 w 5) (by decide)) rfl rfl rfl
def rdI17 (f w : Int) : IN := ⟨f, 0 + bitsV w 8 4 * 2 ^ 0, 0, 0, 0, 0 + bitsV w 26 1 * 2 ^ 11 + bitsV w 16 4 * 2 ^ 12 + bitsV w 12 3 * 2 ^ 8 + bitsV w 0 8 * 2 ^ 0, 0, 0, 0, 0, 0⟩
theorem rd_17 {f w : Int} (h : shapeV f = 17) : readV f w = rdI17 f w := by
  unfold readV; rw [h]
  exact in_ext rfl rfl rfl rfl rfl (imm_ne (K := 17) (f := f) (by decide)) rfl (by_ne (K := 17) (k := xV 17 w 5) (by decide)) rfl rfl rfl
def rdI18 (f w : Int) : IN := ⟨f, 0 + bitsV w 8 4 * 2 ^ 0, 0 + bitsV w 16 4 * 2 ^ 0, 0, 0, 0 + bitsV w 26 1 * 2 ^ 11 + bitsV w 12 3 * 2 ^ 8 + bitsV w 0 8 * 2 ^ 0, 0, 0, 0 + bitsV w 20 1 * 2 ^ 0, 0, 0⟩
theorem rd_18 {f w : Int} (h : shapeV f = 18) : readV f w = rdI18 f w := by
  unfold readV; rw [h]
  exact in_ext rfl rfl rfl rfl rfl (imm_ne (K := 18) (f := f) (by decide)) rfl (by_ne (K := 18) (k := xV 18 w 5) (by decide)) rfl rfl rfl
def rdI19 (f w : Int) : IN := ⟨f, 0 + bitsV w 8 4 * 2 ^ 0, 0, 0, 0, 0 + bitsV w 26 1 * 2 ^ 11 + bitsV w 12 3 * 2 ^ 8 + bitsV w 0 8 * 2 ^ 0, 0, 0, 0 + bitsV w 20 1 * 2 ^ 0, 0, 0⟩
theorem rd_19 {f w : Int} (h : shapeV f = 19) : readV f w = rdI19 f w := by
  unfold readV; rw [h]
  exact in_ext rfl rfl rfl rfl rfl (imm_ne (K := 19) (f := f) (by decide)) rfl (by_ne (K := 19) (k := xV 19 w 5) (by decide)) rfl rfl rfl
def rdI20 (f w : Int) : IN := ⟨f, 0, 0 + bitsV w 16 4 * 2 ^ 0, 0, 0, 0 + bitsV w 26 1 * 2 ^ 11 + bitsV w 12 3 * 2 ^ 8 + bitsV w 0 8 * 2 ^ 0, 0, 0, 0, 0, 0⟩
theorem rd_20 {f w : Int} (h : shapeV f = 20) : readV f w = rdI20 f w := by
  unfold readV; rw [h]
  exact in_ext rfl rfl rfl rfl rfl (imm_ne (K := 20) (f := f) (by decide)) rfl (by_ne (K := 20) (k := xV 20 w 5) (by decide)) rfl rfl rfl
def rdI21 (f w : Int) : IN := ⟨f, 0 + bitsV w 8 4 * 2 ^ 0, 0 + bitsV w 16 4 * 2 ^ 0, 0 + bitsV w 0 4 * 2 ^ 0, 0, 0, 0 + bitsV w 4 2 * 2 ^ 0, if 0 + bitsV w 12 3 * 2 ^ 2 + bitsV w 6 2 * 2 ^ 0 = 0 ∧ (0 + bitsV w 4 2 * 2 ^ 0 = 1 ∨ 0 + bitsV w 4 2 * 2 ^ 0 = 2) then 32 else 0 + bitsV w 12 3 * 2 ^ 2 + bitsV w 6 2 * 2 ^ 0, 0 + bitsV w 20 1 * 2 ^ 0, 0, 0⟩
theorem rd_21 {f w : Int} (h : shapeV f = 21) : readV f w = rdI21 f w := by
  unfold readV; rw [h]
  exact in_ext rfl rfl rfl rfl rfl (imm_ne (K := 21) (f := f) (by decide)) rfl (by_in (K := 21) (by decide)) rfl rfl rfl
def rdI22 (f w : Int) : IN := ⟨f, 0 + bitsV w 8 4 * 2 ^ 0, 0, 0 + bitsV w 0 4 * 2 ^ 0, 0, 0, 0 + bitsV w 4 2 * 2 ^ 0, if 0 + bitsV w 12 3 * 2 ^ 2 + bitsV w 6 2 * 2 ^ 0 = 0 ∧ (0 + bitsV w 4 2 * 2 ^ 0 = 1 ∨ 0 + bitsV w 4 2 * 2 ^ 0 = 2) then 32 else 0 + bitsV w 12 3 * 2 ^ 2 + bitsV w 6 2 * 2 ^ 0, 0 + bitsV w 20 1 * 2 ^ 0, 0, 0⟩
theorem rd_22 {f w : Int} (h : shapeV f = 22) : readV f w = rdI22 f w := by
  unfold readV; rw [h]
  exact in_ext rfl rfl rfl rfl rfl (imm_ne (K := 22) (f := f) (by decide)) rfl (by_in (K := 22) (by decide)) rfl rfl rfl
def rdI23 (f w : Int) : IN := ⟨f, 0, 0 + bitsV w 16 4 * 2 ^ 0, 0 + bitsV w 0 4 * 2 ^ 0, 0, 0, 0 + bitsV w 4 2 * 2 ^ 0, if 0 + bitsV w 12 3 * 2 ^ 2 + bitsV w 6 2 * 2 ^ 0 = 0 ∧ (0 + bitsV w 4 2 * 2 ^ 0 = 1 ∨ 0 + bitsV w 4 2 * 2 ^ 0 = 2) then 32 else 0 + bitsV w 12 3 * 2 ^ 2 + bitsV w 6 2 * 2 ^ 0, 0, 0, 0⟩
theorem rd_23 {f w : Int} (h : shapeV f = 23) : readV f w = rdI23 f w := by
  unfold readV; rw [h]
  exact in_ext rfl rfl rfl rfl rfl (imm_ne (K := 23) (f := f) (by decide)) rfl (by_in (K := 23) (by decide)) rfl rfl rfl
def rdI24 (f w : Int) : IN := ⟨f, 0 + bitsV w 8 4 * 2 ^ 0, 0 + bitsV w 16 4 * 2 ^ 0, 0, 0, 0 + bitsV w 26 1 * 2 ^ 11 + bitsV w 12 3 * 2 ^ 8 + bitsV w 0 8 * 2 ^ 0, 0, 0, 0, 0, 0⟩
theorem rd_24 {f w : Int} (h : shapeV f = 24) : readV f w = rdI24 f w := by
  unfold readV; rw [h]
  exact in_ext rfl rfl rfl rfl rfl (imm_ne (K := 24) (f := f) (by decide)) rfl (by_ne (K := 24) (k := xV 24 w 5) (by decide)) rfl rfl rfl
def rdI25 (f w : Int) : IN := ⟨f, 0 + bitsV w 12 4 * 2 ^ 0, 0 + bitsV w 16 4 * 2 ^ 0, 0, 0, 0 + bitsV w 0 12 * 2 ^ 0, 0, 0, 0, 0, 0⟩
theorem rd_25 {f w : Int} (h : shapeV f = 25) : readV f w = rdI25 f w := by
  unfold readV; rw [h]
  exact in_ext rfl rfl rfl rfl rfl (imm_ne (K := 25) (f := f) (by decide)) rfl (by_ne (K := 25) (k := xV 25 w 5) (by decide)) rfl rfl rfl
def rdI26 (f w : Int) : IN := ⟨f, 0 + bitsV w 12 4 * 2 ^ 0, 0 + bitsV w 16 4 * 2 ^ 0, 0 + bitsV w 0 4 * 2 ^ 0, 0, 0, 0, 0 + bitsV w 4 2 * 2 ^ 0, 0, 0, 0⟩
theorem rd_26 {f w : Int} (h : shapeV f = 26) : readV f w = rdI26 f w := by
  unfold readV; rw [h]
  exact in_ext rfl rfl rfl rfl rfl (imm_ne (K := 26) (f := f) (by decide)) rfl (by_ne (K := 26) (k := xV 26 w 5) (by decide)) rfl rfl rfl
def rdI27 (f w : Int) : IN := ⟨f, 0 + bitsV w 8 4 * 2 ^ 0, 0 + bitsV w 16 4 * 2 ^ 0, 0 + bitsV w 0 4 * 2 ^ 0, 0, 0, 0, 0, 0 + bitsV w 20 1 * 2 ^ 0, 0, 0⟩
theorem rd_27 {f w : Int} (h : shapeV f = 27) : readV f w = rdI27 f w := by
  unfold readV; rw [h]
  exact in_ext rfl rfl rfl rfl rfl (imm_ne (K := 27) (f := f) (by decide)) rfl (by_ne (K := 27) (k := xV 27 w 5) (by decide)) rfl rfl rfl
def rdI28 (f w : Int) : IN := ⟨f, 0 + bitsV w 8 4 * 2 ^ 0, 0 + bitsV w 16 4 * 2 ^ 0, 0 + bitsV w 0 4 * 2 ^ 0, 0, 0, 0, 0, 0, 0, 0⟩
theorem rd_28 {f w : Int} (h : shapeV f = 28) : readV f w = rdI28 f w := by
  unfold readV; rw [h]
  exact in_ext rfl rfl rfl rfl rfl (imm_ne (K := 28) (f := f) (by decide)) rfl (by_ne (K := 28) (k := xV 28 w 5) (by decide)) rfl rfl rfl
def rdI29 (f w : Int) : IN := ⟨f, 0 + bitsV w 8 4 * 2 ^ 0, 0 + bitsV w 16 4 * 2 ^ 0, 0 + bitsV w 0 4 * 2 ^ 0, 0 + bitsV w 12 4 * 2 ^ 0, 0, 0, 0, 0, 0, 0⟩
theorem rd_29 {f w : Int} (h : shapeV f = 29) : readV f w = rdI29 f w := by
  unfold readV; rw [h]
  exact in_ext rfl rfl rfl rfl rfl (imm_ne (K := 29) (f := f) (by decide)) rfl (by_ne (K := 29) (k := xV 29 w 5) (by decide)) rfl rfl rfl
def rdI30 (f w : Int) : IN := ⟨f, 0 + bitsV w 8 4 * 2 ^ 0, 0 + bitsV w 16 4 * 2 ^ 0, 0 + bitsV w 0 4 * 2 ^ 0, 0 + bitsV w 12 4 * 2 ^ 0, 0, 0, 0, 0, 0, 0⟩
theorem rd_30 {f w : Int} (h : shapeV f = 30) : readV f w = rdI30 f w := by
  unfold readV; rw [h]
  exact in_ext rfl rfl rfl rfl rfl (imm_ne (K := 30) (f := f) (by decide)) rfl (by_ne (K := 30) (k := xV 30 w 5) (by decide)) rfl rfl rfl
def rdI31 (f w : Int) : IN := ⟨f, 0 + bitsV w 12 4 * 2 ^ 0, 0 + bitsV w 16 4 * 2 ^ 0, 0 + bitsV w 0 4 * 2 ^ 0, 0 + bitsV w 8 4 * 2 ^ 0, 0, 0, 0, 0, 0, 0⟩
theorem rd_31 {f w : Int} (h : shapeV f = 31) : readV f w = rdI31 f w := by
  unfold readV; rw [h]
  exact in_ext rfl rfl rfl rfl rfl (imm_ne (K := 31) (f := f) (by decide)) rfl (by_ne (K := 31) (k := xV 31 w 5) (by decide)) rfl rfl rfl
def rdI32 (f w : Int) : IN := ⟨f, 0 + bitsV w 8 4 * 2 ^ 0, 0, bitsV w 0 4, 0, 0, 0, 0, 0, 0, 0⟩
theorem rd_32 {f w : Int} (h : shapeV f = 32) : readV f w = rdI32 f w := by
  unfold readV; rw [h]
  exact in_ext rfl rfl rfl rfl rfl (imm_ne (K := 32) (f := f) (by decide)) rfl (by_ne (K := 32) (k := xV 32 w 5) (by decide)) rfl rfl rfl
def rdI33 (f w : Int) : IN := ⟨f, 0, 0, 0, 0, leastV (0 + bitsV w 26 1 * 2 ^ 20 + bitsV w 16 6 * 2 ^ 12 + bitsV w 13 1 * 2 ^ 18 + bitsV w 11 1 * 2 ^ 19 + bitsV w 0 11 * 2 ^ 1) 21, 0, 0, 0, 0 + bitsV w 22 4 * 2 ^ 0, 0⟩
theorem rd_33 {f w : Int} (h : shapeV f = 33) : readV f w = rdI33 f w := by
  unfold readV; rw [h]
  exact in_ext rfl rfl rfl rfl rfl (rfl) rfl (by_ne (K := 33) (k := xV 33 w 5) (by decide)) rfl rfl rfl
def rdI34 (f w : Int) : IN := ⟨f, 0, 0, 0, 0, leastV (turnN (0 + bitsV w 26 1 * 2 ^ 24 + bitsV w 16 10 * 2 ^ 12 + bitsV w 13 1 * 2 ^ 23 + bitsV w 11 1 * 2 ^ 22 + bitsV w 0 11 * 2 ^ 1) 2) 25, 0, 0, 0, 0, 0⟩
theorem rd_34 {f w : Int} (h : shapeV f = 34) : readV f w = rdI34 f w := by
  unfold readV; rw [h]
  exact in_ext rfl rfl rfl rfl rfl (rfl) rfl (by_ne (K := 34) (k := xV 34 w 5) (by decide)) rfl rfl rfl

def U32 (x : Int) : Prop := 0 ≤ x ∧ x ≤ 4294967295
theorem cut_bits {x : Int} (hx : 0 ≤ x) (l w : Nat) : cutV x l w = bitsV x l w := by unfold cutV bitsV; rw [if_neg (by omega)]
theorem pow2_i64 (n : Nat) (h : n ≤ 64) : Ev.pow2 .i64 (n : Int) = 2 ^ n := by
  unfold Ev.pow2
  rw [Int.toNat_natCast, show min n (IntKind.bits .i64) = n from Nat.min_eq_left h]
  norm_cast
theorem q1 : Ev.pow2 .i64 1 = 2 := by decide
theorem q8 : Ev.pow2 .i64 8 = 256 := by decide
theorem q11 : Ev.pow2 .i64 11 = 2048 := by decide
theorem q12 : Ev.pow2 .i64 12 = 4096 := by decide
theorem q18 : Ev.pow2 .i64 18 = 262144 := by decide
theorem q19 : Ev.pow2 .i64 19 = 524288 := by decide
theorem q20 : Ev.pow2 .i64 20 = 1048576 := by decide
theorem q22 : Ev.pow2 .i64 22 = 4194304 := by decide
theorem q23 : Ev.pow2 .i64 23 = 8388608 := by decide
theorem q24 : Ev.pow2 .i64 24 = 16777216 := by decide
theorem q3 : Ev.pow2 .i64 3 = 8 := by decide
theorem r3 : Ev.pow2 .u32 3 = 8 := by decide
theorem r4 : Ev.pow2 .u32 4 = 16 := by decide
theorem r6 : Ev.pow2 .u32 6 = 64 := by decide
theorem r7 : Ev.pow2 .u32 7 = 128 := by decide
theorem r8 : Ev.pow2 .u32 8 = 256 := by decide
theorem r11 : Ev.pow2 .u32 11 = 2048 := by decide
theorem r12 : Ev.pow2 .u32 12 = 4096 := by decide
theorem r13 : Ev.pow2 .u32 13 = 8192 := by decide
theorem r16 : Ev.pow2 .u32 16 = 65536 := by decide
theorem r20 : Ev.pow2 .u32 20 = 1048576 := by decide
theorem r22 : Ev.pow2 .u32 22 = 4194304 := by decide
theorem r26 : Ev.pow2 .u32 26 = 67108864 := by decide
theorem at_pure (x : Int) (l w : Nat) (hx : U32 x) (hw : 1 ≤ w ∧ w ≤ 31) (hl : l ≤ 31) : PureF gT 69 [.int .u32 x, .int .i64 ((l : Int) + w - 1), .int .i64 l] (.int .i64 (bitsV x l w)) := by
  have b := bitsV_bd x l w
  have p := pow_bd w hw.2
  have c := cut_bits hx.1 l w
  refine Spec.enter gTok P69 100 Tryd.func69 rfl (by kernel_rfl) ?_
  refine ⟨[], no_rl, (cut_pure x l w hx hw hl).use (by repeat' first | exact trivial | exact rfl | exact Iff.rfl | exact Or.inl rfl | refine And.intro ?_ ?_) rfl rfl ?_⟩
  rw [c]
  refine .inl ⟨inR_i64 (by omega), ?_⟩
  exact retE rfl
theorem signed_pure (n : Int) (b : Nat) (hb : b ≤ 40) (hn : 0 ≤ n ∧ n < 2 ^ (b + 1)) : PureF gT 72 [.int .i64 n, .int .i64 b] (.int .i64 (leastV n (b + 1))) := by
  have p1 := pow2_i64 b (by omega)
  have p2 := pow2_i64 (b + 1) (by omega)
  have e : (((b + 1 : Nat)) : Int) = (b : Int) + 1 := rfl
  rw [e] at p2
  have d1 := pow_bd62 b (by omega)
  have d2 := pow_bd62 (b + 1) (by omega)
  have ep : (2 : Int) ^ (b + 1) = 2 ^ b * 2 := Int.pow_succ 2 b
  have d3 : (2 : Int) ^ (b + 1) ≤ 2199023255552 := by
    have h1 : (2 ^ (b + 1) : Nat) ≤ 2 ^ 41 := Nat.pow_le_pow_right (by omega) (by omega)
    have h3 := pow_cast (b + 1)
    omega
  obtain ⟨q, hq⟩ : ∃ q, q = n / 2 ^ b := ⟨_, rfl⟩
  have q0 : 0 ≤ q := by rw [hq]; exact Int.ediv_nonneg hn.1 (by omega)
  have q1 : q < 2 := by rw [hq]; exact Int.ediv_lt_of_lt_mul (by omega) (by omega)
  refine Spec.enter gTok P72 100 Tryd.func72 rfl (by kernel_rfl) ?_
  refine ⟨by omega, ?_⟩
  refine .inl ⟨inR_i64 (show _ ≤ (b : Int) + 1 ∧ (b : Int) + 1 ≤ _ by omega), ?_⟩
  have hm : n / 2 ^ b * 2 ^ (b + 1) = 0 ∨ n / 2 ^ b * 2 ^ (b + 1) = 2 ^ (b + 1) := by
    rw [← hq]
    have : q = 0 ∨ q = 1 := by omega
    rcases this with h | h <;> rw [h] <;> omega
  refine ⟨by omega, .inl ⟨inR_i64 (show _ ≤ n / Ev.pow2 .i64 (b : Int) * Ev.pow2 .i64 ((b : Int) + 1) ∧ n / Ev.pow2 .i64 (b : Int) * Ev.pow2 .i64 ((b : Int) + 1) ≤ _ by rw [p1, p2]; omega), ?_⟩⟩
  refine .inl ⟨inR_i64 (show _ ≤ n - n / Ev.pow2 .i64 (b : Int) * Ev.pow2 .i64 ((b : Int) + 1) ∧ n - n / Ev.pow2 .i64 (b : Int) * Ev.pow2 .i64 ((b : Int) + 1) ≤ _ by rw [p1, p2]; omega), ?_⟩
  refine retE ?_
  show n - n / Ev.pow2 .i64 (b : Int) * Ev.pow2 .i64 ((b : Int) + 1) = leastV n (b + 1)
  have eb : bitsV n b 1 = q := by
    unfold bitsV
    rw [if_neg (by omega), ← hq, show (2 : Int) ^ 1 = 2 from rfl]
    omega
  unfold leastV
  rw [p1, p2, Nat.add_sub_cancel, eb, ← hq]
  have : q = 0 ∨ q = 1 := by omega
  rcases this with h | h <;> rw [h]
  · rw [if_neg (by decide)]; omega
  · rw [if_pos rfl]; omega
theorem turned_pure (k b : Int) : PureF gT 70 [.int .i64 k, .int .i64 b] (.int .i64 (if b = 0 ∧ (k = 1 ∨ k = 2) then 32 else b)) := by
  refine Spec.enter gTok P70 100 Tryd.func70 rfl (by kernel_rfl) ?_
  repeat' ((conv => whnf); first | (refine (And.intro (fun _ => ?_) (fun _ => ?_) : (_ → _) ∧ (_ → _)) <;> (first | (exfalso; first | contradiction | omega) | skip)) | refine Or.inl (And.intro (by first | exact inR_i64 (by omega) | exact inR_u32 (by omega) | exact inR_u64 (by omega) | exact inR_u8 (by omega)) ?_) | (refine And.intro (show (_ : Int) ≠ 0 by omega) (Or.inl (And.intro (show (0 : Int) ≤ _ by omega) (And.intro (show (0 : Int) < _ by omega) ?_)))) | (refine And.intro (show (_ : Int) ≠ 0 by omega) (Or.inl (And.intro (show (0 : Int) ≤ _ by omega) (And.intro (by first | exact (show (_ : Int) ≤ 9223372036854775807 by omega) | exact (show (_ : Int) ≤ 4294967295 by omega)) (And.intro (show (0 : Int) < _ by omega) ?_))))) | (refine retE ?_; (show b = _); rw [if_neg (by omega)]) | (refine retE ?_; (show (32 : Int) = _); rw [if_pos (by omega)]) | (intro _))
def placesI (i : IN) (w : Int) : IN := {i with set := bitsV w 20 1, rn := bitsV w 16 4, rd := bitsV w 8 4, rm := bitsV w 0 4}
set_option maxHeartbeats 4000000 in
set_option maxRecDepth 100000 in
theorem places_pure (i : IN) (w : Int) (hw : U32 w) : PureF gT 73 [inP i, .int .u32 w] (inP (placesI i w)) := by
  refine Spec.enter gTok P73 100 Tryd.func73 rfl (by kernel_rfl) ?_
  refine ⟨[], no_rl, (at_pure w 20 1 hw (by decide) (by decide)).use (by repeat' first | exact trivial | exact rfl | exact Iff.rfl | exact Or.inl rfl | refine And.intro ?_ ?_) rfl rfl ?_⟩
  refine ⟨[], no_rl, (at_pure w 16 4 hw (by decide) (by decide)).use (by repeat' first | exact trivial | exact rfl | exact Iff.rfl | exact Or.inl rfl | refine And.intro ?_ ?_) rfl rfl ?_⟩
  refine ⟨[], no_rl, (at_pure w 8 4 hw (by decide) (by decide)).use (by repeat' first | exact trivial | exact rfl | exact Iff.rfl | exact Or.inl rfl | refine And.intro ?_ ?_) rfl rfl ?_⟩
  refine ⟨[], no_rl, (at_pure w 0 4 hw (by decide) (by decide)).use (by repeat' first | exact trivial | exact rfl | exact Iff.rfl | exact Or.inl rfl | refine And.intro ?_ ?_) rfl rfl ?_⟩
  (refine retE ?_; repeat' first | exact trivial | exact rfl | exact Iff.rfl | exact Or.inl rfl | refine And.intro ?_ ?_)
def threeI (i : IN) (w : Int) : IN := {i with rd := bitsV w 0 3, rn := bitsV w 3 3}
set_option maxHeartbeats 4000000 in
set_option maxRecDepth 100000 in
theorem three_pure (i : IN) (w : Int) (hw : U32 w) : PureF gT 71 [inP i, .int .u32 w] (inP (threeI i w)) := by
  refine Spec.enter gTok P71 100 Tryd.func71 rfl (by kernel_rfl) ?_
  refine ⟨[], no_rl, (at_pure w 0 3 hw (by decide) (by decide)).use (by repeat' first | exact trivial | exact rfl | exact Iff.rfl | exact Or.inl rfl | refine And.intro ?_ ?_) rfl rfl ?_⟩
  refine ⟨[], no_rl, (at_pure w 3 3 hw (by decide) (by decide)).use (by repeat' first | exact trivial | exact rfl | exact Iff.rfl | exact Or.inl rfl | refine And.intro ?_ ?_) rfl rfl ?_⟩
  (refine retE ?_; repeat' first | exact trivial | exact rfl | exact Iff.rfl | exact Or.inl rfl | refine And.intro ?_ ?_)
theorem same_pure (a b : Int) (ha : a = 0 ∨ a = 1) (hb : b = 0 ∨ b = 1) : PureF gT 84 [.int .u32 a, .int .u32 b] (.int .u32 (if a = b then 1 else 0)) := by
  refine Spec.enter gTok P84 100 Tryd.func84 rfl (by kernel_rfl) ?_
  refine retE ?_
  show bits .xor .u32 (bits .xor .u32 1 a) b = _
  rcases ha with rfl | rfl <;> rcases hb with rfl | rfl <;> decide
theorem or_comm64 (a b : Int) (ha : 0 ≤ a ∧ a ≤ 4294967295) (hb : 0 ≤ b ∧ b ≤ 4294967295) : bits .or .i64 a b = bits .or .i64 b a := by
  have ea : a = (a.toNat : Int) := by omega
  have eb : b = (b.toNat : Int) := by omega
  rw [ea, eb, Rm.i64_or_ _ _ (by omega) (by omega), Rm.i64_or_ _ _ (by omega) (by omega), Nat.or_comm]
def numT (w : Int) : Int := bitsV w 26 1 * 2048 + bitsV w 12 3 * 256 + bitsV w 0 8
theorem num_bd (w : Int) : 0 ≤ numT w ∧ numT w < 4096 := by
  have b1 := bitsV_bd w 26 1
  have b2 := bitsV_bd w 12 3
  have b3 := bitsV_bd w 0 8
  unfold numT; omega
theorem num_or (w : Int) : bits .or .i64 (bits .or .i64 (bitsV w 26 1 * 2048) (bitsV w 12 3 * 256)) (bitsV w 0 8) = numT w := by
  have b1 := bitsV_bd w 26 1
  have b2 := bitsV_bd w 12 3
  have b3 := bitsV_bd w 0 8
  rw [Rm.i64_join (bitsV w 26 1 * 2048) (bitsV w 12 3 * 256) 11 (by omega) (by omega) (by omega) (by omega) (by omega) (by omega)]
  rw [Rm.i64_join (bitsV w 26 1 * 2048 + bitsV w 12 3 * 256) (bitsV w 0 8) 8 (by omega) (by omega) (by omega) (by omega) (by omega) (by omega)]
  rfl
set_option maxHeartbeats 4000000 in
set_option maxRecDepth 100000 in
theorem number_f (w : Int) (hw : U32 w) : PureF gT 74 [.int .u32 w, .ff] (.int .i64 (numT w)) := by
  have b1 := bitsV_bd w 26 1
  have b2 := bitsV_bd w 12 3
  have b3 := bitsV_bd w 0 8
  refine Spec.enter gTok P74 100 Tryd.func74 rfl (by kernel_rfl) ?_
  refine ⟨[], no_rl, (at_pure w 26 1 hw (by decide) (by decide)).use (by repeat' first | exact trivial | exact rfl | exact Iff.rfl | exact Or.inl rfl | refine And.intro ?_ ?_) rfl rfl ?_⟩
  refine ⟨by decide, .inl ⟨inR_i64 (by rw [q11]; omega), ?_⟩⟩
  refine ⟨[], no_rl, (at_pure w 12 3 hw (by decide) (by decide)).use (by repeat' first | exact trivial | exact rfl | exact Iff.rfl | exact Or.inl rfl | refine And.intro ?_ ?_) rfl rfl ?_⟩
  refine ⟨by decide, .inl ⟨inR_i64 (by rw [q8]; omega), ?_⟩⟩
  refine ⟨[], no_rl, (at_pure w 0 8 hw (by decide) (by decide)).use (by repeat' first | exact trivial | exact rfl | exact Iff.rfl | exact Or.inl rfl | refine And.intro ?_ ?_) rfl rfl ?_⟩
  refine retE ?_
  show bits .or .i64 (bits .or .i64 (bitsV w 26 1 * Ev.pow2 .i64 11) (bitsV w 12 3 * Ev.pow2 .i64 8)) (bitsV w 0 8) = numT w
  rw [q11, q8, num_or]
set_option maxHeartbeats 4000000 in
set_option maxRecDepth 100000 in
theorem number_t (w : Int) (hw : U32 w) : PureF gT 74 [.int .u32 w, .tt] (.int .i64 (numT w + bitsV w 16 4 * 4096)) := by
  have b1 := bitsV_bd w 26 1
  have b2 := bitsV_bd w 12 3
  have b3 := bitsV_bd w 0 8
  have b4 := bitsV_bd w 16 4
  refine Spec.enter gTok P74 100 Tryd.func74 rfl (by kernel_rfl) ?_
  refine ⟨[], no_rl, (at_pure w 26 1 hw (by decide) (by decide)).use (by repeat' first | exact trivial | exact rfl | exact Iff.rfl | exact Or.inl rfl | refine And.intro ?_ ?_) rfl rfl ?_⟩
  refine ⟨by decide, .inl ⟨inR_i64 (by rw [q11]; omega), ?_⟩⟩
  refine ⟨[], no_rl, (at_pure w 12 3 hw (by decide) (by decide)).use (by repeat' first | exact trivial | exact rfl | exact Iff.rfl | exact Or.inl rfl | refine And.intro ?_ ?_) rfl rfl ?_⟩
  refine ⟨by decide, .inl ⟨inR_i64 (by rw [q8]; omega), ?_⟩⟩
  refine ⟨[], no_rl, (at_pure w 0 8 hw (by decide) (by decide)).use (by repeat' first | exact trivial | exact rfl | exact Iff.rfl | exact Or.inl rfl | refine And.intro ?_ ?_) rfl rfl ?_⟩
  refine ⟨[], no_rl, (at_pure w 16 4 hw (by decide) (by decide)).use (by repeat' first | exact trivial | exact rfl | exact Iff.rfl | exact Or.inl rfl | refine And.intro ?_ ?_) rfl rfl ?_⟩
  refine ⟨by decide, .inl ⟨inR_i64 (by rw [q12]; omega), ?_⟩⟩
  refine retE ?_
  show bits .or .i64 (bits .or .i64 (bits .or .i64 (bitsV w 26 1 * Ev.pow2 .i64 11) (bitsV w 12 3 * Ev.pow2 .i64 8)) (bitsV w 0 8)) (bitsV w 16 4 * Ev.pow2 .i64 12) = _
  have nb := num_bd w
  rw [q11, q8, q12, num_or, or_comm64 _ _ (by omega) (by omega), Rm.i64_join (bitsV w 16 4 * 4096) (numT w) 12 (by omega) (by omega) (by omega) (by omega) (by omega) (by omega)]
  omega
def condT (w : Int) : Int := 0 + bitsV w 26 1 * 2 ^ 20 + bitsV w 16 6 * 2 ^ 12 + bitsV w 13 1 * 2 ^ 18 + bitsV w 11 1 * 2 ^ 19 + bitsV w 0 11 * 2 ^ 1
set_option maxHeartbeats 4000000 in
set_option maxRecDepth 100000 in
theorem condOf_pure (w : Int) (hw : U32 w) : PureF gT 77 [.int .u32 w] (.int .i64 (leastV (condT w) 21)) := by
  have b1 := bitsV_bd w 26 1
  have b2 := bitsV_bd w 11 1
  have b3 := bitsV_bd w 13 1
  have b4 := bitsV_bd w 16 6
  have b5 := bitsV_bd w 0 11
  refine Spec.enter gTok P77 100 Tryd.func77 rfl (by kernel_rfl) ?_
  refine ⟨[], no_rl, (at_pure w 26 1 hw (by decide) (by decide)).use (by repeat' first | exact trivial | exact rfl | exact Iff.rfl | exact Or.inl rfl | refine And.intro ?_ ?_) rfl rfl ?_⟩
  refine ⟨by decide, .inl ⟨inR_i64 (by rw [q20]; omega), ?_⟩⟩
  refine ⟨[], no_rl, (at_pure w 11 1 hw (by decide) (by decide)).use (by repeat' first | exact trivial | exact rfl | exact Iff.rfl | exact Or.inl rfl | refine And.intro ?_ ?_) rfl rfl ?_⟩
  refine ⟨by decide, .inl ⟨inR_i64 (by rw [q19]; omega), ?_⟩⟩
  refine ⟨[], no_rl, (at_pure w 13 1 hw (by decide) (by decide)).use (by repeat' first | exact trivial | exact rfl | exact Iff.rfl | exact Or.inl rfl | refine And.intro ?_ ?_) rfl rfl ?_⟩
  refine ⟨by decide, .inl ⟨inR_i64 (by rw [q18]; omega), ?_⟩⟩
  refine ⟨[], no_rl, (at_pure w 16 6 hw (by decide) (by decide)).use (by repeat' first | exact trivial | exact rfl | exact Iff.rfl | exact Or.inl rfl | refine And.intro ?_ ?_) rfl rfl ?_⟩
  refine ⟨by decide, .inl ⟨inR_i64 (by rw [q12]; omega), ?_⟩⟩
  refine ⟨[], no_rl, (at_pure w 0 11 hw (by decide) (by decide)).use (by repeat' first | exact trivial | exact rfl | exact Iff.rfl | exact Or.inl rfl | refine And.intro ?_ ?_) rfl rfl ?_⟩
  refine ⟨by decide, .inl ⟨inR_i64 (by rw [q1]; omega), ?_⟩⟩
  have e : bits .or .i64 (bits .or .i64 (bits .or .i64 (bits .or .i64 (bitsV w 26 1 * Ev.pow2 .i64 20) (bitsV w 11 1 * Ev.pow2 .i64 19)) (bitsV w 13 1 * Ev.pow2 .i64 18)) (bitsV w 16 6 * Ev.pow2 .i64 12)) (bitsV w 0 11 * Ev.pow2 .i64 1) = condT w := by
    rw [q20, q19, q18, q12, q1]
    rw [Rm.i64_join (bitsV w 26 1 * 1048576) (bitsV w 11 1 * 524288) 20 (by omega) (by omega) (by omega) (by omega) (by omega) (by omega)]
    rw [Rm.i64_join (bitsV w 26 1 * 1048576 + bitsV w 11 1 * 524288) (bitsV w 13 1 * 262144) 19 (by omega) (by omega) (by omega) (by omega) (by omega) (by omega)]
    rw [Rm.i64_join (bitsV w 26 1 * 1048576 + bitsV w 11 1 * 524288 + bitsV w 13 1 * 262144) (bitsV w 16 6 * 4096) 18 (by omega) (by omega) (by omega) (by omega) (by omega) (by omega)]
    rw [Rm.i64_join (bitsV w 26 1 * 1048576 + bitsV w 11 1 * 524288 + bitsV w 13 1 * 262144 + bitsV w 16 6 * 4096) (bitsV w 0 11 * 2) 12 (by omega) (by omega) (by omega) (by omega) (by omega) (by omega)]
    unfold condT; omega
  have hb : 0 ≤ condT w ∧ condT w < 2 ^ (20 + 1) := by unfold condT; omega
  refine ⟨[], no_rl, (signed_pure (condT w) 20 (by decide) hb).use (And.intro e (And.intro rfl trivial)) rfl rfl ?_⟩
  exact retE rfl
def jumpT (w : Int) : Int := 0 + bitsV w 26 1 * 2 ^ 24 + bitsV w 16 10 * 2 ^ 12 + bitsV w 13 1 * 2 ^ 23 + bitsV w 11 1 * 2 ^ 22 + bitsV w 0 11 * 2 ^ 1
theorem jumpT_bits (w : Int) : 0 ≤ jumpT w ∧ jumpT w < 33554432 ∧ jumpT w / 16777216 = bitsV w 26 1 ∧ jumpT w / 8388608 % 2 = bitsV w 13 1 ∧ jumpT w / 4194304 % 2 = bitsV w 11 1 ∧ jumpT w % 4194304 = bitsV w 16 10 * 4096 + bitsV w 0 11 * 2 := by
  have b1 := bitsV_bd w 26 1
  have b2 := bitsV_bd w 11 1
  have b3 := bitsV_bd w 13 1
  have b4 := bitsV_bd w 16 10
  have b5 := bitsV_bd w 0 11
  unfold jumpT; omega
theorem jumpT_turn (w : Int) : turnN (jumpT w) 2 = bitsV w 26 1 * 16777216 + (if bitsV w 13 1 = bitsV w 26 1 then 1 else 0) * 8388608 + (if bitsV w 11 1 = bitsV w 26 1 then 1 else 0) * 4194304 + bitsV w 16 10 * 4096 + bitsV w 0 11 * 2 := by
  obtain ⟨h0, h1, h2, h3, h4, h5⟩ := jumpT_bits w
  have b := turn_bits ⟨h0, h1⟩
  have c := turn_bd ⟨h0, h1⟩
  have e : jumpT w / 16777216 % 2 = bitsV w 26 1 := by omega
  rw [h2, h3, h4, h5, ← h2, h2] at b
  have e2 : bitsV w 26 1 % 2 = bitsV w 26 1 := by omega
  rw [e2] at b
  obtain ⟨t, ht⟩ : ∃ t, t = turnN (jumpT w) 2 := ⟨_, rfl⟩
  rw [← ht] at b c ⊢
  clear ht
  obtain ⟨k1, k2, k3, k4⟩ := b
  rw [← k3, ← k4]
  clear k3 k4
  omega
set_option maxHeartbeats 4000000 in
set_option maxRecDepth 100000 in
theorem jumpOf_pure (w : Int) (hw : U32 w) : PureF gT 78 [.int .u32 w] (.int .i64 (leastV (turnN (jumpT w) 2) 25)) := by
  have b1 := bitsV_bd w 26 1
  have b2 := bitsV_bd w 11 1
  have b3 := bitsV_bd w 13 1
  have b4 := bitsV_bd w 16 10
  have b5 := bitsV_bd w 0 11
  have c1 : cutV w 26 1 = bitsV w 26 1 := cut_bits hw.1 26 1
  have c2 : cutV w 13 1 = bitsV w 13 1 := cut_bits hw.1 13 1
  have c3 : cutV w 11 1 = bitsV w 11 1 := cut_bits hw.1 11 1
  have s2 := same_pure (bitsV w 13 1) (bitsV w 26 1) (bit_bd w 13) (bit_bd w 26)
  have s3 := same_pure (bitsV w 11 1) (bitsV w 26 1) (bit_bd w 11) (bit_bd w 26)
  have k2 := cut_pure w 26 1 hw (by decide) (by decide)
  have k3 := cut_pure w 13 1 hw (by decide) (by decide)
  have k4 := cut_pure w 11 1 hw (by decide) (by decide)
  rw [c1] at k2
  rw [c2] at k3
  rw [c3] at k4
  have jt := jumpT_turn w
  obtain ⟨m2, hm2⟩ : ∃ m : Int, m = if bitsV w 13 1 = bitsV w 26 1 then 1 else 0 := ⟨_, rfl⟩
  obtain ⟨m3, hm3⟩ : ∃ m : Int, m = if bitsV w 11 1 = bitsV w 26 1 then 1 else 0 := ⟨_, rfl⟩
  have d2 : 0 ≤ m2 ∧ m2 ≤ 1 := by rw [hm2]; split <;> omega
  have d3 : 0 ≤ m3 ∧ m3 ≤ 1 := by rw [hm3]; split <;> omega
  rw [← hm2] at s2 jt
  rw [← hm3] at s3 jt
  refine Spec.enter gTok P78 100 Tryd.func78 rfl (by kernel_rfl) ?_
  refine ⟨[], no_rl, k2.use (by repeat' first | exact trivial | exact rfl | exact Iff.rfl | exact Or.inl rfl | refine And.intro ?_ ?_) rfl rfl ?_⟩
  refine .inl ⟨inR_i64 (by omega), ?_⟩
  refine ⟨by decide, .inl ⟨inR_i64 (by rw [q24]; omega), ?_⟩⟩
  refine ⟨[], no_rl, k3.use (by repeat' first | exact trivial | exact rfl | exact Iff.rfl | exact Or.inl rfl | refine And.intro ?_ ?_) rfl rfl ?_⟩
  refine ⟨[], no_rl, s2.use (by repeat' first | exact trivial | exact rfl | exact Iff.rfl | exact Or.inl rfl | refine And.intro ?_ ?_) rfl rfl ?_⟩
  refine .inl ⟨inR_i64 (by omega), ?_⟩
  refine ⟨by decide, .inl ⟨inR_i64 (by rw [q23]; omega), ?_⟩⟩
  refine ⟨[], no_rl, k4.use (by repeat' first | exact trivial | exact rfl | exact Iff.rfl | exact Or.inl rfl | refine And.intro ?_ ?_) rfl rfl ?_⟩
  refine ⟨[], no_rl, s3.use (by repeat' first | exact trivial | exact rfl | exact Iff.rfl | exact Or.inl rfl | refine And.intro ?_ ?_) rfl rfl ?_⟩
  refine .inl ⟨inR_i64 (by omega), ?_⟩
  refine ⟨by decide, .inl ⟨inR_i64 (by rw [q22]; omega), ?_⟩⟩
  refine ⟨[], no_rl, (at_pure w 16 10 hw (by decide) (by decide)).use (by repeat' first | exact trivial | exact rfl | exact Iff.rfl | exact Or.inl rfl | refine And.intro ?_ ?_) rfl rfl ?_⟩
  refine ⟨by decide, .inl ⟨inR_i64 (by rw [q12]; omega), ?_⟩⟩
  refine ⟨[], no_rl, (at_pure w 0 11 hw (by decide) (by decide)).use (by repeat' first | exact trivial | exact rfl | exact Iff.rfl | exact Or.inl rfl | refine And.intro ?_ ?_) rfl rfl ?_⟩
  refine ⟨by decide, .inl ⟨inR_i64 (by rw [q1]; omega), ?_⟩⟩
  have e : bits .or .i64 (bits .or .i64 (bits .or .i64 (bits .or .i64 (bitsV w 26 1 * Ev.pow2 .i64 24) (m2 * Ev.pow2 .i64 23)) (m3 * Ev.pow2 .i64 22)) (bitsV w 16 10 * Ev.pow2 .i64 12)) (bitsV w 0 11 * Ev.pow2 .i64 1) = turnN (jumpT w) 2 := by
    rw [q24, q23, q22, q12, q1]
    rw [Rm.i64_join (bitsV w 26 1 * 16777216) (m2 * 8388608) 24 (by omega) (by omega) (by omega) (by omega) (by omega) (by omega)]
    rw [Rm.i64_join (bitsV w 26 1 * 16777216 + m2 * 8388608) (m3 * 4194304) 23 (by omega) (by omega) (by omega) (by omega) (by omega) (by omega)]
    rw [Rm.i64_join (bitsV w 26 1 * 16777216 + m2 * 8388608 + m3 * 4194304) (bitsV w 16 10 * 4096) 22 (by omega) (by omega) (by omega) (by omega) (by omega) (by omega)]
    rw [Rm.i64_join (bitsV w 26 1 * 16777216 + m2 * 8388608 + m3 * 4194304 + bitsV w 16 10 * 4096) (bitsV w 0 11 * 2) 12 (by omega) (by omega) (by omega) (by omega) (by omega) (by omega)]
    rw [jt]
  have hb := turn_bd ⟨(jumpT_bits w).1, (jumpT_bits w).2.1⟩
  refine ⟨[], no_rl, (signed_pure (turnN (jumpT w) 2) 24 (by decide) ⟨hb.1, by omega⟩).use (And.intro e (And.intro rfl trivial)) rfl rfl ?_⟩
  exact retE rfl

end Go.Proofs.YtjcacjeoddnmhaaDoor.Pw

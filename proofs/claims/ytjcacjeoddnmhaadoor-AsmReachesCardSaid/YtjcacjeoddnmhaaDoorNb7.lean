/- What the laws of this claim are proved with, joined (join.py) of 20 texts: no condition. -/
import Derived.Test.YtjcacjeoddnmhaaDoorNb6
import Derived.Test.YtjcacjeoddnmhaaDoorNb3
import Derived.Test.YtjcacjeoddnmhaaDoorRows
import Derived.Test.YtjcacjeoddnmhaaDoorNb5
import Derived.ProofKit
import Derived.LaidMore
import Derived.OpenShut
import Derived.Stop.Joined
import Derived.Lib.LaidTab
import Derived.Test.YtjcacjeoddnmhaaDoorNb4
set_option linter.unusedVariables false
set_option linter.unusedSimpArgs false

/- Chapter 8 over values: all items are laid. -/
set_option linter.unusedVariables false
namespace Go.Proofs.YtjcacjeoddnmhaaDoor.Pw
open Go Go.RowKit

/-- the first ones of a list, then another list's -/
def mixL {α : Type} (new old : List α) (i : Nat) : List α := new.take i ++ old.drop i
theorem mix_len {α : Type} {new old : List α} (h : new.length = old.length) (i : Nat) : (mixL new old i).length = old.length := by
  unfold mixL; rw [List.length_append, List.length_take, List.length_drop]; omega
theorem mix_set {α : Type} {new old : List α} (h : new.length = old.length) {i : Nat} {v : α} (hv : new[i]? = some v) : (mixL new old i).set i v = mixL new old (i + 1) := by
  have hi : i < new.length := (List.getElem?_eq_some_iff.1 hv).1
  unfold mixL
  rw [List.take_add_one, hv, List.set_append_right _ _ (by rw [List.length_take]; omega), List.length_take, Nat.min_eq_left (by omega), Nat.sub_self, List.drop_eq_getElem_cons (show i < old.length by omega), List.set_cons_zero, List.append_assoc]
  rfl
theorem mix_all {α : Type} {new old : List α} (h : new.length = old.length) {i : Nat} (hi : old.length ≤ i) : mixL new old i = new := by
  unfold mixL
  rw [List.take_of_length_le (by omega), List.drop_of_length_le hi, List.append_nil]
theorem mix_none {α : Type} (new old : List α) : mixL new old 0 = old := by unfold mixL; rfl
theorem mix_at {α : Type} {new old : List α} (h : new.length = old.length) {i : Nat} {v : α} (hv : old[i]? = some v) : (mixL new old i)[i]? = some v := by
  have hi := (List.getElem?_eq_some_iff.1 hv).1
  unfold mixL
  rw [List.getElem?_append_right (by rw [List.length_take]; omega), List.length_take, Nat.min_eq_left (by omega), Nat.sub_self, List.getElem?_drop]
  exact hv
theorem mix_same {α : Type} {new old : List α} (h : new.length = old.length) {i : Nat} {v : α} (hv : old[i]? = some v) (hn : new[i]? = some v) : mixL new old (i + 1) = mixL new old i := by
  rw [← mix_set h hn]
  have h1 := mix_at h hv
  obtain ⟨h2, h3⟩ := List.getElem?_eq_some_iff.1 h1
  rw [← h3, List.set_getElem_self]
def atsA (l : List AI) (W : List Bool) : List Int := (List.range l.length).map (atA l W)
def szsA (l : List AI) (W : List Bool) : List Int := (List.range l.length).map fun i => atA l W (i + 1) - atA l W i
theorem atsA_len (l : List AI) (W : List Bool) : (atsA l W).length = l.length := by simp [atsA]
theorem szsA_len (l : List AI) (W : List Bool) : (szsA l W).length = l.length := by simp [szsA]
theorem atsA_get {l : List AI} {W : List Bool} {i : Nat} (h : i < l.length) : (atsA l W)[i]? = some (atA l W i) := by simp [atsA, h]
theorem szsA_get {l : List AI} {W : List Bool} {i : Nat} (h : i < l.length) : (szsA l W)[i]? = some (atA l W (i + 1) - atA l W i) := by simp [szsA, h]
theorem rightA_it {x : AI} (h : rightA x) : ItOk x := ⟨rightA_kind h, fun k => ((rightA_4 k).1 h).2.2⟩
theorem marksT_kvP {l : List AI} {W : List Bool} {L : List (Int × Int)} {i : Nat} {x : AI} (hx : l[i]? = some x) (hk : x.kind = 3) : (L ++ marksT l W i).map kvP ++ [kvP (x.label, atA l W i)] = (L ++ marksT l W (i + 1)).map kvP := by
  rw [marksT, hx]
  simp only
  rw [if_pos hk, ← List.append_assoc, List.map_append (l₂ := [_])]
  rfl
theorem marksT_not {l : List AI} {W : List Bool} {i : Nat} {x : AI} (hx : l[i]? = some x) (hk : ¬ x.kind = 3) : marksT l W (i + 1) = marksT l W i := by
  rw [marksT, hx]
  simp only
  rw [if_neg hk, List.append_nil]
theorem marksT_end {l : List AI} {W : List Bool} : ∀ {i : Nat}, l.length ≤ i → marksT l W i = marksT l W l.length
  | 0, h => by rw [show l.length = 0 by omega]
  | i + 1, h => by
    rcases Nat.eq_or_lt_of_le h with e | e
    · rw [e]
    · rw [marksT, List.getElem?_eq_none (by omega), marksT_end (by omega)]
      simp

set_option maxHeartbeats 4000000 in
set_option maxRecDepth 10000 in
theorem lay_runs {l : List AI} {W : List Bool} {at0 sz0 : List Int} {e0 : Int} {L : List (Int × Int)} (hW : W.length = l.length) (ha0 : at0.length = l.length) (hs0 : sz0.length = l.length) (hr : ∀ x ∈ l, rightA x) (hl : l.length ≤ 10000) (hL : L.length ≤ 1000000000) :
    RunsA 26 [.ptr 5 0] (sLy l W at0 sz0 e0 L) (.tup []) (sLy l W (atsA l W) (szsA l W) (endA l W 0) (L ++ marksT l W l.length)) := by
  have hI : ∀ x ∈ l, ItOk x := fun x hx => rightA_it (hr x hx)
  have la := atsA_len l W
  have ls := szsA_len l W
  have el : (l.map aiP).length = l.length := List.length_map ..
  refine Spec.leS (Spec.enter gTok P26 100 Tryd.func26 rfl (by kernel_rfl) ?_)
  refine fun hm => ?_
  refine SW.loopX gTok P26 (by kernel_rfl) (fun i : Nat => [(0, .ptr 5 0), (2, .int .i64 (atA l W i)), (8, .sl 15 (l.map aiP)), (9, .int .i64 (l.map aiP).length), (10, .int .i64 i)]) (fun i => sLy l W (mixL (atsA l W) at0 i) (mixL (szsA l W) sz0 i) e0 (L ++ marksT l W i)) (fun i => l.length - i) 0 60 [some 0, some 1, some 2, some 3, some 4, some 5] ?_ fun i => ?_
  · repeat' first | exact trivial | exact rfl | exact Iff.rfl | refine And.intro ?_ ?_
    all_goals first | exact (show intsP at0 = intsP _ by rw [mix_none]) | exact (show (L ++ marksT l W 0).map kvP = L.map kvP by rw [marksT, List.append_nil]) | exact (show L.map kvP = (L ++ marksT l W 0).map kvP by rw [marksT, List.append_nil])
  refine And.intro (fun h => ?_) (fun h => ?_)
  · have h' : (i : Int) < ((l.map aiP).length : Nat) := h
    rw [el] at h'
    refine ⟨AI, l, aiP, rfl, show (0 : Int) ≤ (i : Int) by omega, show (i : Int) < (l.length : Int) by omega, fun x hx => ?_⟩
    have hx' : l[i]? = some x := hx
    have hw' : W[i]? = some W[i] := List.getElem?_eq_getElem (by omega)
    have hrx := hr x (List.mem_of_getElem? hx')
    have b1 := atA_bd hW hI i (by omega)
    have b2 := atA_bd hW hI (i + 1) (by omega)
    have es := atA_succ hW hx' hw'
    have hb := bytes_runs .p (W := W) (at_ := mixL (atsA l W) at0 i) (sz := mixL (szsA l W) sz0 i) (e := e0) (L := L ++ marksT l W i) hx' hw' hrx (a := atA l W i) (by omega)
    refine ⟨[], no_rl, hb.useS rfl rfl rfl rfl (by repeat' first | exact trivial | exact rfl | exact Iff.rfl | exact Or.inl rfl | refine And.intro ?_ ?_) (And.intro (by repeat' first | exact trivial | exact rfl | exact Iff.rfl | exact Or.inl rfl | refine And.intro ?_ ?_) (And.intro (by repeat' first | exact trivial | exact rfl | exact Iff.rfl | exact Or.inl rfl | refine And.intro ?_ ?_) (And.intro (by repeat' first | exact trivial | exact rfl | exact Iff.rfl | exact Or.inl rfl | refine And.intro ?_ ?_) (And.intro (by repeat' first | exact trivial | exact rfl | exact Iff.rfl | exact Or.inl rfl | refine And.intro ?_ ?_) (And.intro (by repeat' first | exact trivial | exact rfl | exact Iff.rfl | exact Or.inl rfl | refine And.intro ?_ ?_) (And.intro (by repeat' first | exact trivial | exact rfl | exact Iff.rfl | exact Or.inl rfl | refine And.intro ?_ ?_) ?_))))))⟩
    refine ⟨show (0 : Int) ≤ (i : Int) by omega, show (i : Int) < ((intsP (mixL (atsA l W) at0 i)).length : Nat) by rw [intsP_len, mix_len (by omega)]; omega, show (i : Int).toNat < (intsP (mixL (atsA l W) at0 i)).length by rw [intsP_len, mix_len (by omega)]; omega, ?_⟩
    refine ⟨show (0 : Int) ≤ (i : Int) by omega, show (i : Int) < ((intsP (mixL (szsA l W) sz0 i)).length : Nat) by rw [intsP_len, mix_len (by omega)]; omega, show (i : Int).toNat < (intsP (mixL (szsA l W) sz0 i)).length by rw [intsP_len, mix_len (by omega)]; omega, ?_⟩
    refine And.intro (fun hk3 => ?_) (fun hk3 => ?_)
    · have hk3' : x.kind = 3 := hk3
      have hmay := ((rightA_3 hk3').1 hrx).2.2
      unfold mayV at hmay
      refine pmapPut_ok gTok ?_
      refine ⟨rfl, ?_⟩
      have lm := marksT_len l W i
      refine ⟨show InR .i64 x.label from inR_i64 (by omega), rfl, show InR .i64 (atA l W i) from inR_i64 (by omega), rfl, show ((L ++ marksT l W i).map kvP).length < maxLen by rw [List.length_map, List.length_append]; unfold maxLen; omega, ?_⟩
      refine ⟨show (0 : Int) ≤ (i : Int) by omega, show (i : Int) < (((intsP (mixL (szsA l W) sz0 i)).set i (.int .i64 (bytesA x W[i] (atA l W i)))).length : Nat) by rw [List.length_set, intsP_len, mix_len (by omega)]; omega, Int, (mixL (szsA l W) sz0 i).set i (bytesA x W[i] (atA l W i)), PV.int .i64, show (intsP (mixL (szsA l W) sz0 i)).set i (.int .i64 (bytesA x W[i] (atA l W i))) = _ by unfold intsP; rw [List.map_set], show (i : Int).toNat < ((mixL (szsA l W) sz0 i).set i (bytesA x W[i] (atA l W i))).length by rw [List.length_set, mix_len (by omega)]; omega, fun v hv => ?_⟩
      obtain rfl : bytesA x W[i] (atA l W i) = v := by
        have hv' : ((mixL (szsA l W) sz0 i).set i (bytesA x W[i] (atA l W i)))[i]? = some v := hv
        rw [List.getElem?_set_self (by rw [mix_len (by omega)]; omega)] at hv'
        exact Option.some.inj hv'
      refine .inl ⟨inR_i64 (show _ ≤ atA l W i + bytesA x W[i] (atA l W i) ∧ atA l W i + bytesA x W[i] (atA l W i) ≤ _ by omega), ?_⟩
      refine .inl ⟨inR_i64 (show _ ≤ (i : Int) + 1 ∧ (i : Int) + 1 ≤ _ by omega), ⟨i + 1, [some 0, some 1, some 2, some 3, some 4, some 5], by omega, ?_⟩⟩
      repeat' first | exact trivial | exact rfl | exact Iff.rfl | refine And.intro ?_ ?_
      all_goals first | exact (show atA l W i + bytesA x W[i] (atA l W i) = atA l W (i + 1) by rw [es]) | exact (show (intsP (mixL (atsA l W) at0 i)).set i (.int .i64 (atA l W i)) = intsP (mixL (atsA l W) at0 (i + 1)) by rw [← mix_set (by omega) (atsA_get (by omega))]; unfold intsP; rw [List.map_set]) | exact (show (intsP (mixL (szsA l W) sz0 i)).set i (.int .i64 (bytesA x W[i] (atA l W i))) = intsP (mixL (szsA l W) sz0 (i + 1)) by rw [← mix_set (by omega) (szsA_get (by omega)), es, show atA l W i + bytesA x W[i] (atA l W i) - atA l W i = bytesA x W[i] (atA l W i) by omega]; unfold intsP; rw [List.map_set]) | exact (show (L ++ marksT l W i).map kvP ++ [kvP (x.label, atA l W i)] = (L ++ marksT l W (i + 1)).map kvP by exact marksT_kvP hx' hk3')
    · have hk3' : ¬ x.kind = 3 := hk3
      refine ⟨show (0 : Int) ≤ (i : Int) by omega, show (i : Int) < (((intsP (mixL (szsA l W) sz0 i)).set i (.int .i64 (bytesA x W[i] (atA l W i)))).length : Nat) by rw [List.length_set, intsP_len, mix_len (by omega)]; omega, Int, (mixL (szsA l W) sz0 i).set i (bytesA x W[i] (atA l W i)), PV.int .i64, show (intsP (mixL (szsA l W) sz0 i)).set i (.int .i64 (bytesA x W[i] (atA l W i))) = _ by unfold intsP; rw [List.map_set], show (i : Int).toNat < ((mixL (szsA l W) sz0 i).set i (bytesA x W[i] (atA l W i))).length by rw [List.length_set, mix_len (by omega)]; omega, fun v hv => ?_⟩
      obtain rfl : bytesA x W[i] (atA l W i) = v := by
        have hv' : ((mixL (szsA l W) sz0 i).set i (bytesA x W[i] (atA l W i)))[i]? = some v := hv
        rw [List.getElem?_set_self (by rw [mix_len (by omega)]; omega)] at hv'
        exact Option.some.inj hv'
      refine .inl ⟨inR_i64 (show _ ≤ atA l W i + bytesA x W[i] (atA l W i) ∧ atA l W i + bytesA x W[i] (atA l W i) ≤ _ by omega), ?_⟩
      refine .inl ⟨inR_i64 (show _ ≤ (i : Int) + 1 ∧ (i : Int) + 1 ≤ _ by omega), ⟨i + 1, [some 0, some 1, some 2, some 3, some 4, some 5], by omega, ?_⟩⟩
      repeat' first | exact trivial | exact rfl | exact Iff.rfl | refine And.intro ?_ ?_
      all_goals first | exact (show atA l W i + bytesA x W[i] (atA l W i) = atA l W (i + 1) by rw [es]) | exact (show (intsP (mixL (atsA l W) at0 i)).set i (.int .i64 (atA l W i)) = intsP (mixL (atsA l W) at0 (i + 1)) by rw [← mix_set (by omega) (atsA_get (by omega))]; unfold intsP; rw [List.map_set]) | exact (show (intsP (mixL (szsA l W) sz0 i)).set i (.int .i64 (bytesA x W[i] (atA l W i))) = intsP (mixL (szsA l W) sz0 (i + 1)) by rw [← mix_set (by omega) (szsA_get (by omega)), es, show atA l W i + bytesA x W[i] (atA l W i) - atA l W i = bytesA x W[i] (atA l W i) by omega]; unfold intsP; rw [List.map_set]) | exact (show (L ++ marksT l W i).map kvP = (L ++ marksT l W (i + 1)).map kvP by rw [marksT_not hx' hk3'])
  · have h' : ¬ (i : Int) < ((l.map aiP).length : Nat) := h
    rw [el] at h'
    rw [mix_all (by omega) (show at0.length ≤ i by omega), mix_all (by omega) (show sz0.length ≤ i by omega), marksT_end (show l.length ≤ i by omega), atA_end hW (show l.length ≤ i by omega)]
    (refine retS (by repeat' first | exact trivial | exact rfl | exact Iff.rfl | refine And.intro ?_ ?_) ?_; repeat' first | exact trivial | exact rfl | exact Iff.rfl | exact Or.inl rfl | refine And.intro ?_ ?_)

end Go.Proofs.YtjcacjeoddnmhaaDoor.Pw

/- Chapter 8 over values: jumps that don't reach become wide. -/
set_option linter.unusedVariables false
namespace Go.Proofs.YtjcacjeoddnmhaaDoor.Pw
open Go Go.RowKit

theorem lkM_bd {L : List (Int × Int)} {B : Int} (hB : 0 ≤ B) (h : ∀ p ∈ L, 0 ≤ p.2 ∧ p.2 ≤ B) (k : Int) : 0 ≤ lkM L k ∧ lkM L k ≤ B := by
  unfold lkM
  have key : ∀ (L : List (Int × Int)) (a : Int), (∀ p ∈ L, 0 ≤ p.2 ∧ p.2 ≤ B) → 0 ≤ a ∧ a ≤ B → 0 ≤ L.foldl (fun a x => if x.1 = k then x.2 else a) a ∧ L.foldl (fun a x => if x.1 = k then x.2 else a) a ≤ B := by
    intro L
    induction L with
    | nil => intro a _ h; exact h
    | cons p L ih =>
      intro a h ha
      rw [List.foldl_cons]
      refine ih _ (fun q hq => h q (by simp [hq])) ?_
      split
      · exact h p (by simp)
      · exact ha
  exact key L 0 h ⟨Int.le_refl 0, hB⟩
theorem marksT_bd {l : List AI} {W : List Bool} (hW : W.length = l.length) (hI : ∀ x ∈ l, ItOk x) (hl : l.length ≤ 10000) {i : Nat} (hi : i ≤ l.length) : ∀ p ∈ marksT l W i, 0 ≤ p.2 ∧ p.2 ≤ 1000000 := fun p hp => by
  obtain ⟨j, x, hj, _, _, rfl⟩ := marksT_mem hp
  have := atA_bd hW hI j (by omega)
  show 0 ≤ atA l W j ∧ atA l W j ≤ 1000000
  omega
/-- how many of the first jumps become wide -/
def chgN (l : List AI) (W : List Bool) (i : Nat) : Int := ((W.take i).count false : Nat) - (((nextA l W).take i).count false : Nat)
theorem count_step {V : List Bool} {i : Nat} {v : Bool} (h : V[i]? = some v) : (V.take (i + 1)).count false = (V.take i).count false + (if v then 0 else 1) := by
  rw [List.take_add_one, h, List.count_append]
  cases v <;> simp
theorem chg_step {l : List AI} {W : List Bool} {i : Nat} {v w : Bool} (hv : (nextA l W)[i]? = some v) (hw : W[i]? = some w) : chgN l W (i + 1) = chgN l W i + ((if w then 0 else 1) - (if v then 0 else 1)) := by
  unfold chgN
  rw [count_step hv, count_step hw]
  cases v <;> cases w <;> simp <;> omega
theorem chg_bd {l : List AI} {W : List Bool} (i : Nat) : -(i : Int) ≤ chgN l W i ∧ chgN l W i ≤ i := by
  unfold chgN
  have h1 : (W.take i).count false ≤ i := Nat.le_trans List.count_le_length (by rw [List.length_take]; omega)
  have h2 : ((nextA l W).take i).count false ≤ i := Nat.le_trans List.count_le_length (by rw [List.length_take]; omega)
  omega
theorem chg_end {l : List AI} {W : List Bool} (hl : W.length = l.length) {i : Nat} (hi : l.length ≤ i) : chgN l W i = (narrowN W : Int) - (narrowN (nextA l W) : Int) := by
  unfold chgN narrowN
  rw [List.take_of_length_le (by omega), List.take_of_length_le (by rw [nextA_len hl]; omega)]
set_option maxHeartbeats 4000000 in
set_option maxRecDepth 10000 in
theorem widen_runs {l : List AI} {W : List Bool} {e : Int} {L : List (Int × Int)} (hW : W.length = l.length) (hr : ∀ x ∈ l, rightA x) (hc : ∀ x ∈ l, x.kind = 2 → cntA l x.label = 1) (hl : l.length ≤ 10000) (hL : ∀ p ∈ L, 0 ≤ p.2 ∧ p.2 ≤ 1000000) :
    RunsA 27 [.ptr 5 0] (sLy l W (atsA l W) (szsA l W) e (L ++ marksT l W l.length)) (.int .i64 ((narrowN W : Int) - (narrowN (nextA l W) : Int))) (sLy l (nextA l W) (atsA l W) (szsA l W) e (L ++ marksT l W l.length)) := by
  have hI : ∀ x ∈ l, ItOk x := fun x hx => rightA_it (hr x hx)
  have el : (l.map aiP).length = l.length := List.length_map ..
  have hV := nextA_len hW
  have hO : OffB (L ++ marksT l W l.length) := lkM_bd (by decide) fun p hp => (List.mem_append.1 hp).elim (hL p) (marksT_bd hW hI hl (Nat.le_refl _) p)
  refine Spec.leS (Spec.enter gTok P27 100 Tryd.func27 rfl (by kernel_rfl) ?_)
  refine fun hm => ?_
  refine SW.loopX gTok P27 (by kernel_rfl) (fun i : Nat => [(0, .ptr 5 0), (3, .int .i64 (chgN l W i)), (9, .sl 15 (l.map aiP)), (10, .int .i64 (l.map aiP).length), (11, .int .i64 i)]) (fun i => sLy l (mixL (nextA l W) W i) (atsA l W) (szsA l W) e (L ++ marksT l W l.length)) (fun i => l.length - i) 0 60 [some 0, some 1, some 2, some 3, some 4, some 5] ?_ fun i => ?_
  · repeat' first | exact trivial | exact rfl | exact Iff.rfl | refine And.intro ?_ ?_
    all_goals exact (show intsP (wI W) = intsP (wI (mixL (nextA l W) W 0)) by rw [mix_none])
  refine And.intro (fun h => ?_) (fun h => ?_)
  · have h' : (i : Int) < ((l.map aiP).length : Nat) := h
    rw [el] at h'
    refine ⟨AI, l, aiP, rfl, show (0 : Int) ≤ (i : Int) by omega, show (i : Int) < (l.length : Int) by omega, fun x hx => ?_⟩
    have hx' : l[i]? = some x := hx
    have hw' : W[i]? = some W[i] := List.getElem?_eq_getElem (by omega)
    have hxm := List.mem_of_getElem? hx'
    have hrx := hr x hxm
    have b1 := atA_bd hW hI i (by omega)
    have hv' := nextA_get hx' hw'
    have cs := chg_step hv' hw'
    have cb := chg_bd (l := l) (W := W) i
    have hml := mix_len (hV.trans hW.symm) i
    have hmg := mix_at (hV.trans hW.symm) hw'
    refine And.intro (fun hk => ?_) (fun hk => ?_)
    · have hk' : x.kind = 2 := hk
      have hq := (rightA_2 hk').1 hrx
      have hrc := reaches_runs (W := mixL (nextA l W) W i) (at_ := atsA l W) (sz := szsA l W) (e := e) (L := L ++ marksT l W l.length) hx' hq.2.2.2 hq.2.2.1.1 (atsA_get (by omega)) (by omega) hO
      rw [lk_far L (hc x hxm hk')] at hrc
      generalize hfr : farA l W i x = fr at *
      have hnb : nextB l W i x W[i] = (W[i] || !shortA x.cond fr) := by unfold nextB; rw [decide_eq_true hk', hfr]; simp
      generalize W[i] = w at *
      refine ⟨show (0 : Int) ≤ (i : Int) by omega, show (i : Int) < ((intsP (wI (mixL (nextA l W) W i))).length : Nat) by rw [intsP_len, wI_len, hml]; omega, Int, wI (mixL (nextA l W) W i), PV.int .i64, rfl, show (i : Int).toNat < (wI (mixL (nextA l W) W i)).length by rw [wI_len, hml]; omega, fun v hv => ?_⟩
      obtain rfl : (if w then 1 else 0) = v := Option.some.inj ((wI_get hmg).symm.trans hv)
      refine And.intro (fun h0 => ?_) (fun h0 => ?_)
      · have hw0 : w = false := by cases w <;> simp at h0 ⊢
        subst hw0
        refine ⟨[], no_rl, hrc.useS rfl rfl rfl rfl (by repeat' first | exact trivial | exact rfl | exact Iff.rfl | exact Or.inl rfl | refine And.intro ?_ ?_) (And.intro (by repeat' first | exact trivial | exact rfl | exact Iff.rfl | exact Or.inl rfl | refine And.intro ?_ ?_) (And.intro (by repeat' first | exact trivial | exact rfl | exact Iff.rfl | exact Or.inl rfl | refine And.intro ?_ ?_) (And.intro (by repeat' first | exact trivial | exact rfl | exact Iff.rfl | exact Or.inl rfl | refine And.intro ?_ ?_) (And.intro (by repeat' first | exact trivial | exact rfl | exact Iff.rfl | exact Or.inl rfl | refine And.intro ?_ ?_) (And.intro (by repeat' first | exact trivial | exact rfl | exact Iff.rfl | exact Or.inl rfl | refine And.intro ?_ ?_) (And.intro (by repeat' first | exact trivial | exact rfl | exact Iff.rfl | exact Or.inl rfl | refine And.intro ?_ ?_) ?_))))))⟩
        refine And.intro (fun hns => ?_) (fun hns => ?_)
        · have hns' : ¬ shortA x.cond fr = true := hns
          have hvt : nextB l W i x false = true := by rw [hnb]; simpa using hns'
          rw [hvt] at hv' cs
          have e1 : chgN l W (i + 1) = chgN l W i + 1 := by rw [cs]; simp
          refine ⟨show (0 : Int) ≤ (i : Int) by omega, show (i : Int) < ((intsP (wI (mixL (nextA l W) W i))).length : Nat) by rw [intsP_len, wI_len, hml]; omega, show (i : Int).toNat < (intsP (wI (mixL (nextA l W) W i))).length by rw [intsP_len, wI_len, hml]; omega, ?_⟩
          refine .inl ⟨inR_i64 (show _ ≤ chgN l W i + 1 ∧ chgN l W i + 1 ≤ _ by omega), ?_⟩
          refine .inl ⟨inR_i64 (show _ ≤ (i : Int) + 1 ∧ (i : Int) + 1 ≤ _ by omega), ⟨i + 1, [some 0, some 1, some 2, some 3, some 4, some 5], by omega, ?_⟩⟩
          repeat' first | exact trivial | exact rfl | exact Iff.rfl | refine And.intro ?_ ?_
          all_goals first | exact (show chgN l W i + 1 = chgN l W (i + 1) by rw [e1]) | exact (show (intsP (wI (mixL (nextA l W) W i))).set i (.int .i64 1) = intsP (wI (mixL (nextA l W) W (i + 1))) by rw [← mix_set (hV.trans hW.symm) hv']; unfold wI intsP; rw [List.map_set, List.map_set]; rfl)
        · have hns' : shortA x.cond fr = true := Classical.not_not.1 hns
          have hsame : nextB l W i x false = false := by rw [hnb]; simp [hns']
          rw [hsame] at hv' cs
          have e1 : chgN l W (i + 1) = chgN l W i := by rw [cs]; omega
          have e2 := mix_same (hV.trans hW.symm) hw' hv'
          refine .inl ⟨inR_i64 (show _ ≤ (i : Int) + 1 ∧ (i : Int) + 1 ≤ _ by omega), ⟨i + 1, [some 0, some 1, some 2, some 3, some 4, some 5], by omega, ?_⟩⟩
          repeat' first | exact trivial | exact rfl | exact Iff.rfl | refine And.intro ?_ ?_
          all_goals first | exact (show chgN l W i = chgN l W (i + 1) by rw [e1]) | exact (show intsP (wI (mixL (nextA l W) W i)) = intsP (wI (mixL (nextA l W) W (i + 1))) by rw [e2])
      · have hw0 : w = true := by cases w <;> simp at h0 ⊢
        subst hw0
        have hsame : nextB l W i x true = true := by rw [hnb]; rfl
        rw [hsame] at hv' cs
        have e1 : chgN l W (i + 1) = chgN l W i := by rw [cs]; omega
        have e2 := mix_same (hV.trans hW.symm) hw' hv'
        refine .inl ⟨inR_i64 (show _ ≤ (i : Int) + 1 ∧ (i : Int) + 1 ≤ _ by omega), ⟨i + 1, [some 0, some 1, some 2, some 3, some 4, some 5], by omega, ?_⟩⟩
        repeat' first | exact trivial | exact rfl | exact Iff.rfl | refine And.intro ?_ ?_
        all_goals first | exact (show chgN l W i = chgN l W (i + 1) by rw [e1]) | exact (show intsP (wI (mixL (nextA l W) W i)) = intsP (wI (mixL (nextA l W) W (i + 1))) by rw [e2])
    · have hk' : ¬ x.kind = 2 := hk
      have hsame : nextB l W i x W[i] = W[i] := by unfold nextB; rw [decide_eq_false hk']; simp
      rw [hsame] at hv' cs
      have e1 : chgN l W (i + 1) = chgN l W i := by rw [cs]; omega
      have e2 := mix_same (hV.trans hW.symm) hw' hv'
      refine .inl ⟨inR_i64 (show _ ≤ (i : Int) + 1 ∧ (i : Int) + 1 ≤ _ by omega), ⟨i + 1, [some 0, some 1, some 2, some 3, some 4, some 5], by omega, ?_⟩⟩
      repeat' first | exact trivial | exact rfl | exact Iff.rfl | refine And.intro ?_ ?_
      all_goals first | exact (show chgN l W i = chgN l W (i + 1) by rw [e1]) | exact (show intsP (wI (mixL (nextA l W) W i)) = intsP (wI (mixL (nextA l W) W (i + 1))) by rw [e2])
  · have h' : ¬ (i : Int) < ((l.map aiP).length : Nat) := h
    rw [el] at h'
    rw [mix_all (hV.trans hW.symm) (show W.length ≤ i by omega), chg_end hW (show l.length ≤ i by omega)]
    (refine retS (by repeat' first | exact trivial | exact rfl | exact Iff.rfl | refine And.intro ?_ ?_) ?_; repeat' first | exact trivial | exact rfl | exact Iff.rfl | exact Or.inl rfl | refine And.intro ?_ ?_)

end Go.Proofs.YtjcacjeoddnmhaaDoor.Pw

/- A struct that comes in by value, opened. -/
namespace Go.Proofs.YtjcacjeoddnmhaaDoor.Pw
open Go Go.RowKit

theorem Op.argS {P : Program} {t : TypeId} {S : PV → Prop} (h : Op P t S) (hS : ∀ y, S y → ∃ xs, y = .agg xs) {H : Type} {ec : TypeId × Value → H} {w : World} {base : Nat} {held : Bool} {vs : Array Value} {d : DataW H} {p : List MemPlace} (ht : DataW.Trod ec P w base (fun _ => true) held t (.agg vs) d p) (hwt : ∀ n ∈ d.weights P t, n ≤ reachBytes) :
    ∃ y, S y ∧ y.Is w (In w) no (.agg vs) := by
  obtain ⟨fuel, ht⟩ := ht
  obtain ⟨y, hy, _, hi, _⟩ := h ec w base held fuel _ _ ht hwt
  refine ⟨y, hy, ?_⟩
  obtain ⟨xs, rfl⟩ := hS y hy
  simp only [PV.Is]
  exact ⟨vs, rfl, hi⟩

end Go.Proofs.YtjcacjeoddnmhaaDoor.Pw

/- What comes in to chapter 4's laws, opened; the tables. -/
namespace Go.Proofs.YtjcacjeoddnmhaaDoor.codeLaid
open Go.ChangeShapes Go.WideShapes Go.ChangeAt Go.RowKit Go.Deep

def laidList : List (String × DataW Unit) := [("remontoire/imm.factors", Rows.laid_remontoire_imm_factors), ("remontoire/inst.shapes", Rows.laid_remontoire_inst_shapes)]
def fuel : Nat := 3000
theorem door_met (os : Os) (args : Array Value) : laidMetH Tryd.prog laidList ((World.doorLaid Tryd.prog fuel os).forCall (fun _ _ => 0) ⟨#[], args, []⟩).memory :=
  laidMetH_of_parts3 (fuel := 8) (laidMet_of_run' 8 (by kernel_rfl) (by kernel_rfl)) (by kernel_rfl) (by kernel_rfl)

end Go.Proofs.YtjcacjeoddnmhaaDoor.codeLaid

namespace Go.Proofs.YtjcacjeoddnmhaaDoor.Pw
open Go Go.RowKit

theorem immCode {W : World} (h : laidMetH Tryd.prog codeLaid.laidList W) : ImmOk gT (In W) W :=
  immOk_laid (laid := codeLaid.laidList) (by kernel_rfl) h fun x hx => by
    have hx' : x ∈ [(1, facP), (0, shP)] := hx
    simp only [List.mem_cons, List.not_mem_nil, or_false] at hx'
    rcases hx' with rfl | rfl
    · exact ⟨"remontoire/imm.factors", _, 101, List.mem_cons_self, by kernel_rfl, by kernel_rfl, by kernel_rfl, nofun⟩
    · exact ⟨"remontoire/inst.shapes", _, 86, List.mem_cons_of_mem _ List.mem_cons_self, by kernel_rfl, by kernel_rfl, by kernel_rfl, nofun⟩

theorem inR_i64c {z : Int} (h : InR .i64 z) : I64 z := by unfold InR Ev.kmin Ev.kmax at h; simp only [IntKind.signed, IntKind.bits] at h; unfold I64; simpa using h
theorem opI64c : Op Tryd.prog 3 (SInt .i64) := opInt Tryd.underlying3 (by kernel_rfl)
theorem opIN_ : Op Tryd.prog 24 (SAgg (List.replicate 11 (SInt .i64))) :=
  opAgg (Ss := List.replicate 11 (SInt .i64)) Tryd.underlying24
    ⟨rfl, opInt Tryd.underlying22 (by kernel_rfl), (show _ = _ by kernel_rfl), opI64c, (show _ = _ by kernel_rfl), opI64c, (show _ = _ by kernel_rfl), opI64c, (show _ = _ by kernel_rfl), opI64c, (show _ = _ by kernel_rfl), opI64c, (show _ = _ by kernel_rfl), opI64c, (show _ = _ by kernel_rfl), opI64c, (show _ = _ by kernel_rfl), opI64c, (show _ = _ by kernel_rfl), opI64c, (show _ = _ by kernel_rfl), opI64c, (show _ = _ by kernel_rfl)⟩
theorem in_dec (x : PV) (h : SAgg (List.replicate 11 (SInt .i64)) x) : ∃ i : IN, IOk i ∧ x = inP i := by
  obtain ⟨xs, h, rfl⟩ := h
  obtain ⟨_, _, rfl, ⟨a0, b0, rfl⟩, h_1⟩ := all2_cons (S := SInt .i64) (Ss := List.replicate 10 (SInt .i64)) h
  obtain ⟨_, _, rfl, ⟨a1, b1, rfl⟩, h_2⟩ := all2_cons (S := SInt .i64) (Ss := List.replicate 9 (SInt .i64)) h_1
  obtain ⟨_, _, rfl, ⟨a2, b2, rfl⟩, h_3⟩ := all2_cons (S := SInt .i64) (Ss := List.replicate 8 (SInt .i64)) h_2
  obtain ⟨_, _, rfl, ⟨a3, b3, rfl⟩, h_4⟩ := all2_cons (S := SInt .i64) (Ss := List.replicate 7 (SInt .i64)) h_3
  obtain ⟨_, _, rfl, ⟨a4, b4, rfl⟩, h_5⟩ := all2_cons (S := SInt .i64) (Ss := List.replicate 6 (SInt .i64)) h_4
  obtain ⟨_, _, rfl, ⟨a5, b5, rfl⟩, h_6⟩ := all2_cons (S := SInt .i64) (Ss := List.replicate 5 (SInt .i64)) h_5
  obtain ⟨_, _, rfl, ⟨a6, b6, rfl⟩, h_7⟩ := all2_cons (S := SInt .i64) (Ss := List.replicate 4 (SInt .i64)) h_6
  obtain ⟨_, _, rfl, ⟨a7, b7, rfl⟩, h_8⟩ := all2_cons (S := SInt .i64) (Ss := List.replicate 3 (SInt .i64)) h_7
  obtain ⟨_, _, rfl, ⟨a8, b8, rfl⟩, h_9⟩ := all2_cons (S := SInt .i64) (Ss := List.replicate 2 (SInt .i64)) h_8
  obtain ⟨_, _, rfl, ⟨a9, b9, rfl⟩, h_10⟩ := all2_cons (S := SInt .i64) (Ss := List.replicate 1 (SInt .i64)) h_9
  obtain ⟨_, _, rfl, ⟨a10, b10, rfl⟩, h_11⟩ := all2_cons (S := SInt .i64) (Ss := List.replicate 0 (SInt .i64)) h_10
  obtain rfl := all2_nil h_11
  refine ⟨⟨a0, a1, a2, a3, a4, a5, a6, a7, a8, a9, a10⟩, fun x hx => ?_, rfl⟩
  simp only [inLs, List.mem_cons, List.not_mem_nil, or_false] at hx
  rcases hx with rfl | rfl | rfl | rfl | rfl | rfl | rfl | rfl | rfl | rfl | rfl
  · exact inR_i64c b0
  · exact inR_i64c b1
  · exact inR_i64c b2
  · exact inR_i64c b3
  · exact inR_i64c b4
  · exact inR_i64c b5
  · exact inR_i64c b6
  · exact inR_i64c b7
  · exact inR_i64c b8
  · exact inR_i64c b9
  · exact inR_i64c b10
def SIN (x : PV) : Prop := ∃ i : IN, IOk i ∧ x = inP i
theorem opIN : Op Tryd.prog 24 SIN := opIN_.weak in_dec
end Go.Proofs.YtjcacjeoddnmhaaDoor.Pw

/- Chapter 4 over values: CodeOnce, CodeBegins. -/
namespace Go.Proofs.YtjcacjeoddnmhaaDoor.Pw
open Go Go.RowKit

/-! ### the first half -/
def spanF (l : List (Nat × Nat × Nat × Nat)) : Nat := l.foldl (fun m x => max m (x.2.2.1 + x.2.2.2)) 0
theorem spanF_le : ∀ (l : List (Nat × Nat × Nat × Nat)) (m : Nat), m ≤ l.foldl (fun m x => max m (x.2.2.1 + x.2.2.2)) m ∧ ∀ x ∈ l, x.2.2.1 + x.2.2.2 ≤ l.foldl (fun m x => max m (x.2.2.1 + x.2.2.2)) m
  | [], m => ⟨Nat.le_refl _, fun x hx => by cases hx⟩
  | y :: l, m => by
    have h := spanF_le l (max m (y.2.2.1 + y.2.2.2))
    rw [List.foldl_cons]
    refine ⟨by omega, fun x hx => ?_⟩
    rcases List.mem_cons.1 hx with rfl | hx
    · omega
    · exact h.2 x hx
theorem orF_lt (i : IN) (k : Nat) : ∀ (l : List (Nat × Nat × Nat × Nat)) (V : Nat), V < 2 ^ k → (∀ x ∈ l, x.2.2.1 + x.2.2.2 ≤ k) → l.foldl (fun w x => w ||| B (getV i x.1) x.2.1 x.2.2.2 x.2.2.1) V < 2 ^ k
  | [], V, h, _ => h
  | x :: l, V, h, hl => by
    rw [List.foldl_cons]
    refine orF_lt i k l _ (Nat.or_lt_two_pow h ?_) fun y hy => hl y (List.mem_cons_of_mem _ hy)
    have b := bitsV_bd (getV i x.1) x.2.1 x.2.2.2
    have e := pow_cast x.2.2.2
    have h1 : (bitsV (getV i x.1) x.2.1 x.2.2.2).toNat < 2 ^ x.2.2.2 := by omega
    unfold B
    rw [Nat.shiftLeft_eq]
    calc (bitsV (getV i x.1) x.2.1 x.2.2.2).toNat * 2 ^ x.2.2.1 < 2 ^ x.2.2.2 * 2 ^ x.2.2.1 := Nat.mul_lt_mul_of_pos_right h1 (Nat.two_pow_pos _)
      _ = 2 ^ (x.2.2.2 + x.2.2.1) := (Nat.pow_add ..).symm
      _ ≤ 2 ^ k := Nat.pow_le_pow_right (by omega) (by have := hl x (List.mem_cons_self ..); omega)
theorem or_top_same (a b k : Nat) (h : b < 2 ^ k) : a ||| b < (a / 2 ^ k + 1) * 2 ^ k := by
  have e : (a ||| b) / 2 ^ k = a / 2 ^ k := by
    apply Nat.eq_of_testBit_eq
    intro p
    rw [Nat.testBit_div_two_pow, Nat.testBit_div_two_pow, Nat.testBit_or, Nat.testBit_lt_two_pow (x := b) (Nat.lt_of_lt_of_le h (Nat.pow_le_pow_right (by decide) (by omega))), Bool.or_false]
  have hp := Nat.two_pow_pos k
  have h1 := Nat.lt_mul_div_succ (a ||| b) hp
  rw [e, Nat.mul_comm] at h1
  exact h1
theorem narrow_tab : ((List.range 47).all fun k => decide ((fbN (k + 1) / 2 ^ spanF (fdN (k + 1)) + 1) * 2 ^ spanF (fdN (k + 1)) ≤ 59392)) = true := by decide +kernel
theorem wide_tab : ((List.range 53).all fun k => decide (3892314112 ≤ fbN (k + 48))) = true := by decide +kernel
theorem top_narrow (i : IN) (h : rightV i) (hn : ¬ 48 ≤ i.form) : wordV i < 59392 := by
  have f1 := h.1
  have ef : ((i.form.toNat : Nat) : Int) = i.form := by omega
  have t := of_decide_eq_true (List.all_eq_true.1 narrow_tab (i.form.toNat - 1) (List.mem_range.2 (by omega)))
  rw [show i.form.toNat - 1 + 1 = i.form.toNat by omega] at t
  unfold fbN fdN at t
  rw [ef] at t
  have l := orF_lt (turnI i) (spanF (fieldsV (shapeV i.form))) (fieldsV (shapeV i.form)) 0 (Nat.two_pow_pos _) fun x hx => (spanF_le _ 0).2 x hx
  have o := or_top_same (fbV i.form).toNat _ _ l
  have e : wordV i = (((fbV i.form).toNat ||| orF (turnI i) (fieldsV (shapeV i.form)) : Nat) : Int) := word_or i
  rw [e]
  have o2 : ((fbV i.form).toNat ||| orF (turnI i) (fieldsV (shapeV i.form))) < 59392 := Nat.lt_of_lt_of_le o t
  omega
theorem word_bd (i : IN) : U32 (wordV i) := by
  have := or4_lt (show (fbV i.form).toNat < 4294967296 by have := fb_bd i.form; omega) (orV_lt i)
  rw [word_or]; unfold U32; omega
theorem top_wide (i : IN) (h : rightV i) (hn : 48 ≤ i.form) : 3892314112 ≤ wordV i := by
  have f1 := h.1
  have ef : ((i.form.toNat : Nat) : Int) = i.form := by omega
  have t := of_decide_eq_true (List.all_eq_true.1 wide_tab (i.form.toNat - 48) (List.mem_range.2 (by omega)))
  rw [show i.form.toNat - 48 + 48 = i.form.toNat by omega] at t
  unfold fbN at t
  rw [ef] at t
  have l : (fbV i.form).toNat ≤ (fbV i.form).toNat ||| orF (turnI i) (fieldsV (shapeV i.form)) := Nat.left_le_or
  rw [word_or]; omega

end Go.Proofs.YtjcacjeoddnmhaaDoor.Pw

/- Chapter 4 over values: an instruction's bytes; CodeWords. -/
namespace Go.Proofs.YtjcacjeoddnmhaaDoor.Pw
open Go Go.RowKit

def u8P (l : List Int) : List PV := l.map (PV.int .u8)
/-- an instruction's bytes -/
def byL (i : IN) : List Int := (if 48 ≤ i.form then [wordV i / 65536 % 256, wordV i / 16777216 % 256] else []) ++ [wordV i % 256, wordV i / 256 % 256]
theorem r24 : Ev.pow2 .u32 24 = 16777216 := by decide
set_option maxHeartbeats 4000000 in
set_option maxRecDepth 100000 in
theorem bytes_yes (i : IN) (h : rightV i) (hI : IOk i) : PureF gT 48 [inP i] (.tup [.sl 1 (u8P (byL i)), .int .i64 0]) := by
  have e0 := IntKind.wrap_u8' (wordV i)
  have e1 := IntKind.wrap_u8' (wordV i / Ev.pow2 .u32 8)
  have e2 := IntKind.wrap_u8' (wordV i / Ev.pow2 .u32 16)
  have e3 := IntKind.wrap_u8' (wordV i / Ev.pow2 .u32 24)
  have p8 : Ev.pow2 .u32 8 = 256 := by decide
  have p16 : Ev.pow2 .u32 16 = 65536 := by decide
  refine Spec.enter gTok P48 100 Tryd.func48 rfl (by kernel_rfl) ?_
  refine ⟨[], no_rl, (word_yes i h hI).use (by repeat' first | exact trivial | exact rfl | exact Iff.rfl | exact Or.inl rfl | refine And.intro ?_ ?_) rfl rfl ?_⟩
  refine And.intro (fun h => absurd rfl h) (fun _ => ?_)
  refine .inr ?_
  refine ⟨by decide, .inr ?_⟩
  refine ⟨[], no_rl, (form_wide i.form).use (by repeat' first | exact trivial | exact rfl | exact Iff.rfl | exact Or.inl rfl | refine And.intro ?_ ?_) rfl rfl ?_⟩
  refine And.intro (fun hn => ?_) (fun hn => ?_)
  · have hn' : ¬ 48 ≤ i.form := fun e => hn ⟨e, h.1.2⟩
    refine retE ?_
    refine And.intro ?_ (And.intro rfl trivial)
    show [PV.int .u8 (IntKind.u8.wrap (wordV i)), .int .u8 (IntKind.u8.wrap (wordV i / Ev.pow2 .u32 8))] = u8P (byL i)
    rw [e0, e1, p8]
    unfold byL u8P; rw [if_neg hn']; rfl
  · have hn' : 48 ≤ i.form := (Classical.not_not.1 hn).1
    refine ⟨by decide, .inr ?_⟩
    refine ⟨by decide, .inr ?_⟩
    refine retE ?_
    refine And.intro ?_ (And.intro rfl trivial)
    show [PV.int .u8 (IntKind.u8.wrap (wordV i / Ev.pow2 .u32 16)), .int .u8 (IntKind.u8.wrap (wordV i / Ev.pow2 .u32 24)), PV.int .u8 (IntKind.u8.wrap (wordV i)), .int .u8 (IntKind.u8.wrap (wordV i / Ev.pow2 .u32 8))] = u8P (byL i)
    rw [e0, e1, e2, e3, p8, p16, r24]
    unfold byL u8P; rw [if_pos hn']; rfl
end Go.Proofs.YtjcacjeoddnmhaaDoor.Pw

/- Chapter 8 over values: an item's instructions; a program's bytes. -/
set_option linter.unusedVariables false
namespace Go.Proofs.YtjcacjeoddnmhaaDoor.Pw
open Go Go.RowKit

def nopI : IN := ⟨44, 0, 0, 0, 0, 0, 0, 0, 0, 0, 0⟩
/-- an item's instructions -/
def instsA (x : AI) (w : Bool) (n s : Int) : List IN := if x.kind = 1 then [x.inst] else if x.kind = 2 then [branA x.cond w n] else List.replicate (s / 2).toNat nopI
def nB (k : Nat) : PBlk := ⟨.dyn, 24, 11, .w, true, insP (List.replicate k nopI)⟩
set_option maxHeartbeats 4000000 in
set_option maxRecDepth 10000 in
theorem insts_runs {l : List AI} {W : List Bool} {at_ sz : List Int} {e : Int} {L : List (Int × Int)} {i : Nat} {x : AI} {w : Bool} {a s : Int} (hx : l[i]? = some x) (hw : W[i]? = some w) (hr : rightA x) (hat : at_[i]? = some a) (ha : 0 ≤ a ∧ a ≤ 1000000) (hs : sz[i]? = some s) (hsb : 0 ≤ s ∧ s ≤ 16) (hL : OffB L) :
    RunsA 47 [.ptr 5 0, .int .i64 i] (sLy l W at_ sz e L) (.sl 11 (insP (instsA x w (lkM L x.label - a - 4) s))) (sLy l W at_ sz e L) := by
  have hl := (List.getElem?_eq_some_iff.1 hx).1
  have hsl := (List.getElem?_eq_some_iff.1 hs).1
  refine Spec.leS (Spec.enter gTok P47 100 Tryd.func47 rfl (by kernel_rfl) ?_)
  refine ⟨AI, l, aiP, rfl, show (0 : Int) ≤ (i : Int) by omega, show (i : Int) < (l.length : Int) by omega, fun x' hx' => ?_⟩
  obtain rfl : x = x' := Option.some.inj (hx.symm.trans hx')
  refine And.intro (fun k1 => ?_) (fun k1 => ?_)
  · have k1' : x.kind = 1 := k1
    refine retS ?_ (by repeat' first | exact trivial | exact rfl | exact Iff.rfl | exact Or.inl rfl | refine And.intro ?_ ?_)
    exact (show [inP x.inst] = insP (instsA x w (lkM L x.label - a - 4) s) by unfold instsA; rw [if_pos k1']; rfl)
  refine And.intro (fun k2 => ?_) (fun k2 => ?_)
  · have k1' : ¬ x.kind = 1 := k1
    have k2' : x.kind = 2 := k2
    have hq := (rightA_2 k2').1 hr
    have hb := branch_runs (W := W) (sz := sz) (e := e) hx hw hq.2.2.2 hq.2.2.1.1 hat ha hL
    refine ⟨[], no_rl, hb.useS rfl rfl rfl rfl (by repeat' first | exact trivial | exact rfl | exact Iff.rfl | exact Or.inl rfl | refine And.intro ?_ ?_) (And.intro (by repeat' first | exact trivial | exact rfl | exact Iff.rfl | exact Or.inl rfl | refine And.intro ?_ ?_) (And.intro (by repeat' first | exact trivial | exact rfl | exact Iff.rfl | exact Or.inl rfl | refine And.intro ?_ ?_) (And.intro (by repeat' first | exact trivial | exact rfl | exact Iff.rfl | exact Or.inl rfl | refine And.intro ?_ ?_) (And.intro (by repeat' first | exact trivial | exact rfl | exact Iff.rfl | exact Or.inl rfl | refine And.intro ?_ ?_) (And.intro (by repeat' first | exact trivial | exact rfl | exact Iff.rfl | exact Or.inl rfl | refine And.intro ?_ ?_) (And.intro (by repeat' first | exact trivial | exact rfl | exact Iff.rfl | exact Or.inl rfl | refine And.intro ?_ ?_) ?_))))))⟩
    refine retS ?_ (by repeat' first | exact trivial | exact rfl | exact Iff.rfl | exact Or.inl rfl | refine And.intro ?_ ?_)
    exact (show [inP (branA x.cond w (lkM L x.label - a - 4))] = insP (instsA x w (lkM L x.label - a - 4) s) by unfold instsA; rw [if_neg k1', if_pos k2']; rfl)
  have k1' : ¬ x.kind = 1 := k1
  have k2' : ¬ x.kind = 2 := k2
  have ei : instsA x w (lkM L x.label - a - 4) s = List.replicate (s / 2).toNat nopI := by unfold instsA; rw [if_neg k1', if_neg k2']
  rw [ei]
  refine ⟨show (0 : Int) ≤ (i : Int) by omega, show (i : Int) < ((intsP sz).length : Nat) by rw [intsP_len]; omega, Int, sz, PV.int .i64, rfl, show (i : Int).toNat < sz.length by omega, fun v hv => ?_⟩
  obtain rfl : s = v := Option.some.inj (hs.symm.trans hv)
  refine And.intro (show (2 : Int) ≠ 0 by decide) (.inl ⟨hsb.1, show s ≤ 9223372036854775807 by omega, show (0 : Int) < 2 by decide, ?_⟩)
  refine SW.loopX gTok P47 (by kernel_rfl) (α := {k : Nat // (k : Int) ≤ s / 2}) (fun k => [(6, .wref 6), (34, .int .i64 (s / 2)), (35, .int .i64 k.1)]) (fun k => [zR, dI (intsP (wI W)), dI (intsP at_), dI (intsP sz), mpB L, yB l e, nB k.1]) (fun k => 8 - k.1) ⟨0, show ((0 : Nat) : Int) ≤ s / 2 by omega⟩ 60 [some 0, some 1, some 2, some 3, some 4, some 5, none] ?_ ?_
  · repeat' first | exact trivial | exact rfl | exact Iff.rfl | refine And.intro ?_ ?_
  rintro ⟨k, hk⟩
  refine And.intro (fun h => ?_) (fun h => ?_)
  · have h' : (k : Int) < s / 2 := h
    have ek : (insP (List.replicate k nopI)).length = k := by unfold insP; rw [List.length_map, List.length_replicate]
    refine ⟨show (insP (List.replicate k nopI)).length + 1 ≤ maxLen by unfold maxLen; omega, show ((insP (List.replicate k nopI)).length + 1) * 88 ≤ 140737488355328 by omega, ?_⟩
    refine .inl ⟨inR_i64 (show _ ≤ (k : Int) + 1 ∧ (k : Int) + 1 ≤ _ by omega), ⟨⟨k + 1, show ((k + 1 : Nat) : Int) ≤ s / 2 by omega⟩, [some 0, some 1, some 2, some 3, some 4, some 5, some 8], show 8 - (k + 1) < 8 - k by omega, ?_⟩⟩
    repeat' first | exact trivial | exact rfl | exact Iff.rfl | refine And.intro ?_ ?_
    all_goals exact (show insP (List.replicate k nopI) ++ [inP nopI] = insP (List.replicate (k + 1) nopI) by rw [List.replicate_succ']; unfold insP; rw [List.map_append]; rfl)
  · have h' : ¬ (k : Int) < s / 2 := h
    have ek : (s / 2).toNat = k := by omega
    rw [ek]
    refine retS ?_ (by repeat' first | exact trivial | exact rfl | exact Iff.rfl | exact Or.inl rfl | refine And.intro ?_ ?_)
    exact (show insP (List.replicate k nopI) = insP (List.replicate k nopI) from rfl)

/-- the instructions of the item that stands there -/
def insI (l : List AI) (W : List Bool) (i : Nat) : List IN := match l[i]?, W[i]? with
  | some x, some w => instsA x w (farA l W i x) (bytesA x w (atA l W i))
  | _, _ => []
theorem insI_eq {l : List AI} {W : List Bool} {i : Nat} {x : AI} {w : Bool} (hx : l[i]? = some x) (hw : W[i]? = some w) : insI l W i = instsA x w (farA l W i x) (bytesA x w (atA l W i)) := by unfold insI; rw [hx, hw]
theorem insI_len (l : List AI) (W : List Bool) (hr : ∀ x ∈ l, rightA x) (hW : W.length = l.length) (i : Nat) : (insI l W i).length ≤ 8 := by
  unfold insI
  split
  · rename_i x w hx hw
    have hi := (List.getElem?_eq_some_iff.1 hx).1
    have b1 := atA_bd hW (fun x hx => rightA_it (hr x hx)) i (by omega)
    have b2 := bytesA_bd (rightA_it (hr x (List.mem_of_getElem? hx))) w ⟨b1.1, b1.2.2⟩
    unfold instsA
    split
    · simp
    split
    · simp
    · rw [List.length_replicate]; omega
  · simp
def bytI (l : List IN) : List Int := l.flatMap byL
theorem bytI_app (l m : List IN) : bytI (l ++ m) = bytI l ++ bytI m := List.flatMap_append ..
theorem byL_le (i : IN) : (byL i).length ≤ 4 := by unfold byL; split <;> simp
theorem bytI_len : ∀ l : List IN, (bytI l).length ≤ 4 * l.length
  | [] => by simp [bytI]
  | i :: l => by
    have h1 := byL_le i
    have h2 := bytI_len l
    show (byL i ++ bytI l).length ≤ _
    rw [List.length_append, List.length_cons]; omega
/-- the first items' bytes -/
def bytT (l : List AI) (W : List Bool) : Nat → List Int
  | 0 => []
  | i + 1 => bytT l W i ++ bytI (insI l W i)
theorem bytT_len {l : List AI} {W : List Bool} (hr : ∀ x ∈ l, rightA x) (hW : W.length = l.length) : ∀ i, (bytT l W i).length ≤ 32 * i
  | 0 => Nat.le_refl _
  | i + 1 => by
    have h1 := bytT_len hr hW i
    have h2 := bytI_len (insI l W i)
    have h3 := insI_len l W hr hW i
    rw [bytT, List.length_append]; omega
theorem bytT_end {l : List AI} {W : List Bool} : ∀ {i : Nat}, l.length ≤ i → bytT l W i = bytT l W l.length
  | 0, h => by rw [show l.length = 0 by omega]
  | i + 1, h => by
    rcases Nat.eq_or_lt_of_le h with e | e
    · rw [e]
    · have h0 : insI l W i = [] := by unfold insI; rw [List.getElem?_eq_none (by omega)]
      rw [bytT, bytT_end (by omega), h0]
      simp [bytI]
def oB (cs : List PV) : PBlk := ⟨.dyn, 5, 1, .w, true, cs⟩
theorem u8P_app (l m : List Int) : u8P (l ++ m) = u8P l ++ u8P m := List.map_append ..
theorem u8P_len (l : List Int) : (u8P l).length = l.length := List.length_map ..
set_option maxHeartbeats 4000000 in
set_option maxRecDepth 10000 in
theorem write_runs {l : List AI} {W : List Bool} {e : Int} {L : List (Int × Int)} (hW : W.length = l.length) (hr : ∀ x ∈ l, rightA x) (hc : ∀ x ∈ l, x.kind = 2 → cntA l x.label = 1) (hl : l.length ≤ 10000) (hL : ∀ p ∈ L, 0 ≤ p.2 ∧ p.2 ≤ 1000000) (hir : ∀ i, ∀ y ∈ insI l W i, rightV y ∧ IOk y) :
    RunsA 28 [.ptr 5 0] (sLy l W (atsA l W) (szsA l W) e (L ++ marksT l W l.length)) (.tup [.sl 1 (u8P (bytT l W l.length)), .int .i64 0]) (sLy l W (atsA l W) (szsA l W) e (L ++ marksT l W l.length)) := by
  have hI : ∀ x ∈ l, ItOk x := fun x hx => rightA_it (hr x hx)
  have el : (l.map aiP).length = l.length := List.length_map ..
  have hO : OffB (L ++ marksT l W l.length) := lkM_bd (by decide) fun p hp => (List.mem_append.1 hp).elim (hL p) (marksT_bd hW hI hl (Nat.le_refl _) p)
  refine Spec.leS (Spec.enter gTok P28 100 Tryd.func28 rfl (by kernel_rfl) ?_)
  refine fun hm => ?_
  refine SW.loopX gTok P28 (by kernel_rfl) (fun i : Nat => [(0, .ptr 5 0), (4, .wref 6), (14, .int .i64 (l.map aiP).length), (15, .int .i64 i)]) (fun i => [zR, dI (intsP (wI W)), dI (intsP (atsA l W)), dI (intsP (szsA l W)), mpB (L ++ marksT l W l.length), yB l e, oB (u8P (bytT l W i))]) (fun i => l.length - i) 0 60 [some 0, some 1, some 2, some 3, some 4, some 5, none] ?_ fun i => ?_
  · repeat' first | exact trivial | exact rfl | exact Iff.rfl | refine And.intro ?_ ?_
  refine And.intro (fun h => ?_) (fun h => ?_)
  · have h' : (i : Int) < ((l.map aiP).length : Nat) := h
    rw [el] at h'
    have hx' : l[i]? = some l[i] := List.getElem?_eq_getElem (by omega)
    have hw' : W[i]? = some W[i] := List.getElem?_eq_getElem (by omega)
    have hrx := hr l[i] (List.getElem_mem _)
    have b1 := atA_bd hW hI i (by omega)
    have es := atA_succ hW hx' hw'
    have b2 := bytesA_bd (hI l[i] (List.getElem_mem _)) W[i] ⟨b1.1, b1.2.2⟩
    have hin := insts_runs (W := W) (sz := szsA l W) (e := e) (L := L ++ marksT l W l.length) hx' hw' hrx (atsA_get (l := l) (W := W) (by omega)) (by omega) (szsA_get (l := l) (W := W) (by omega)) (by omega) hO
    have e1 : insP (instsA l[i] W[i] (lkM (L ++ marksT l W l.length) l[i].label - atA l W i - 4) (atA l W (i + 1) - atA l W i)) = insP (insI l W i) := by
      rw [insI_eq hx' hw', es, show atA l W i + bytesA l[i] W[i] (atA l W i) - atA l W i = bytesA l[i] W[i] (atA l W i) by omega]
      unfold instsA
      split
      · rfl
      split
      · rename_i hk
        rw [lk_far L (hc l[i] (List.getElem_mem _) hk)]
      · rfl
    rw [e1] at hin
    have hil := insI_len l W hr hW i
    have hi2 := hir i
    have hbt := bytT_len hr hW i
    have ebt : bytT l W (i + 1) = bytT l W i ++ bytI (insI l W i) := rfl
    generalize insI l W i = li at hin hil hi2 ebt ⊢
    have eli : (insP li).length = li.length := List.length_map ..
    refine ⟨[], no_rl, hin.useS rfl rfl rfl rfl (by repeat' first | exact trivial | exact rfl | exact Iff.rfl | exact Or.inl rfl | refine And.intro ?_ ?_) (And.intro (by repeat' first | exact trivial | exact rfl | exact Iff.rfl | exact Or.inl rfl | refine And.intro ?_ ?_) (And.intro (by repeat' first | exact trivial | exact rfl | exact Iff.rfl | exact Or.inl rfl | refine And.intro ?_ ?_) (And.intro (by repeat' first | exact trivial | exact rfl | exact Iff.rfl | exact Or.inl rfl | refine And.intro ?_ ?_) (And.intro (by repeat' first | exact trivial | exact rfl | exact Iff.rfl | exact Or.inl rfl | refine And.intro ?_ ?_) (And.intro (by repeat' first | exact trivial | exact rfl | exact Iff.rfl | exact Or.inl rfl | refine And.intro ?_ ?_) (And.intro (by repeat' first | exact trivial | exact rfl | exact Iff.rfl | exact Or.inl rfl | refine And.intro ?_ ?_) ?_))))))⟩
    refine fun hm2 => ?_
    refine SW.loopX gTok P28 (by kernel_rfl) (fun k : Nat => [(0, .ptr 5 0), (4, .wref 6), (14, .int .i64 (l.map aiP).length), (15, .int .i64 i), (20, .sl 11 (insP li)), (21, .int .i64 (insP li).length), (22, .int .i64 k)]) (fun k => [zR, dI (intsP (wI W)), dI (intsP (atsA l W)), dI (intsP (szsA l W)), mpB (L ++ marksT l W l.length), yB l e, oB (u8P (bytT l W i ++ bytI (li.take k)))]) (fun k => li.length - k) 0 60 [some 0, some 1, some 2, some 3, some 4, some 5, some 6] ?_ fun k => ?_
    · repeat' first | exact trivial | exact rfl | exact Iff.rfl | refine And.intro ?_ ?_
      all_goals exact (show u8P (bytT l W i) = u8P (bytT l W i ++ bytI (li.take 0)) by rw [List.take_zero]; simp [bytI])
    refine And.intro (fun h => ?_) (fun h => ?_)
    · have hk' : (k : Int) < ((insP li).length : Nat) := h
      rw [eli] at hk'
      refine ⟨IN, li, inP, rfl, show (0 : Int) ≤ (k : Int) by omega, show (k : Int) < (li.length : Int) by omega, fun y hy => ?_⟩
      have hy' : li[k]? = some y := hy
      obtain ⟨ry, iy⟩ := hi2 y (List.mem_of_getElem? hy')
      have etk : bytI (li.take (k + 1)) = bytI (li.take k) ++ byL y := by rw [List.take_add_one, hy', bytI_app]; simp [bytI]
      have hb1 := bytI_len (li.take k)
      rw [List.length_take] at hb1
      have hb2 := byL_le y
      refine ⟨[], no_rl, (bytes_yes y ry iy).use (by repeat' first | exact trivial | exact rfl | exact Iff.rfl | exact Or.inl rfl | refine And.intro ?_ ?_) rfl rfl ?_⟩
      refine And.intro (fun h => absurd rfl h) (fun _ => ?_)
      have elen : (u8P (bytT l W i ++ bytI (li.take k))).length + (u8P (byL y)).length ≤ 1000000 := by rw [u8P_len, u8P_len, List.length_append]; omega
      refine ⟨show (u8P (bytT l W i ++ bytI (li.take k))).length + (u8P (byL y)).length ≤ maxLen by unfold maxLen; omega, show ((u8P (bytT l W i ++ bytI (li.take k))).length + (u8P (byL y)).length) * 1 ≤ 140737488355328 by omega, ?_⟩
      refine .inl ⟨inR_i64 (show _ ≤ (k : Int) + 1 ∧ (k : Int) + 1 ≤ _ by omega), ⟨k + 1, [some 0, some 1, some 2, some 3, some 4, some 5, some 8], by omega, ?_⟩⟩
      repeat' first | exact trivial | exact rfl | exact Iff.rfl | refine And.intro ?_ ?_
      all_goals exact (show u8P (bytT l W i ++ bytI (li.take k)) ++ u8P (byL y) = u8P (bytT l W i ++ bytI (li.take (k + 1))) by rw [etk, ← u8P_app, List.append_assoc])
    · have hk' : ¬ (k : Int) < ((insP li).length : Nat) := h
      rw [eli] at hk'
      refine .inl ⟨inR_i64 (show _ ≤ (i : Int) + 1 ∧ (i : Int) + 1 ≤ _ by omega), ⟨i + 1, [some 0, some 1, some 2, some 3, some 4, some 5, some 6], by omega, ?_⟩⟩
      repeat' first | exact trivial | exact rfl | exact Iff.rfl | refine And.intro ?_ ?_
      all_goals exact (show u8P (bytT l W i ++ bytI (li.take k)) = u8P (bytT l W (i + 1)) by rw [ebt, List.take_of_length_le (by omega)])
  · have h' : ¬ (i : Int) < ((l.map aiP).length : Nat) := h
    rw [el] at h'
    have eb : bytT l W i = bytT l W l.length := bytT_end (by omega)
    refine retS ?_ (by repeat' first | exact trivial | exact rfl | exact Iff.rfl | exact Or.inl rfl | refine And.intro ?_ ?_)
    refine And.intro (show u8P (bytT l W i) = u8P (bytT l W l.length) by rw [eb]) (And.intro rfl trivial)

end Go.Proofs.YtjcacjeoddnmhaaDoor.Pw

/- Chapter 8, plain: the instructions of a program that is laid may be. -/
set_option linter.unusedVariables false
namespace Go.Proofs.YtjcacjeoddnmhaaDoor.Pw
open Go Go.RowKit

theorem right_jump {f s i0 i1 i2 : Int} {cb : Bool} (hs : shapeV f = s) (hr : ruW s = {r0U with cond := cb, i0 := i0, i1 := i1, i2 := i2}) (hf : (1 ≤ f ∧ f ≤ 100) ∧ f ≠ 1 ∧ f ≠ 2 ∧ f ≠ 3 ∧ f ≠ 29 ∧ f ≠ 95 ∧ f ≠ 96) (h18 : s ≠ 18 ∧ s ≠ 19 ∧ s ≠ 20) {n c : Int} (hn : spanV i0 i1 i2 n) (hc : c = 0 ∨ (cb = true ∧ 0 < c ∧ c ≤ 13)) : rightV ⟨f, 0, 0, 0, 0, n, 0, 0, 0, c, 0⟩ := by
  show rightR _ (ruW (shapeV f))
  rw [hs, hr]
  have z : (0 : Int) ≠ 1 ∧ (0 : Int) ≠ 2 ∧ (0 : Int) ≠ 3 ∧ (0 : Int) = 0 := by decide
  refine ⟨hf.1, .inr (.inr (.inr z)), .inr (.inr (.inr z)), .inr (.inr (.inr z)), .inr (.inr (.inr z)), .inl ⟨rfl, rfl⟩, hc, hn, .inl rfl, .inr ⟨Bool.false_ne_true, rfl, .inl ⟨rfl, rfl⟩⟩, ?_⟩
  obtain ⟨_, a1, a2, a3, a4, a5, a6⟩ := hf
  refine ⟨fun e => absurd e a1, fun e => e.elim (fun e => absurd e a2) (fun e => absurd e a3), fun e => absurd e a4, fun e => e.elim (fun e => absurd e a5) (fun e => absurd e a6), ?_⟩
  show shapeV f = 18 ∨ shapeV f = 19 ∨ shapeV f = 20 → _
  rw [hs]
  exact fun h => absurd h (by omega)
theorem span_even {a b n : Int} (h : a ≤ n ∧ n ≤ b) (he : n % 2 = 0) : spanV a b 2 n := .inr ⟨by decide, h.1, h.2, Int.tmod_eq_zero_of_dvd (Int.dvd_of_emod_eq_zero he)⟩
theorem branA_right {c n : Int} {w : Bool} (hc : -1 ≤ c ∧ c ≤ 13) (he : n % 2 = 0) (hb : -1000000 ≤ n ∧ n ≤ 1000000) (hs : w = false → shortA c n = true) : rightV (branA c w n) := by
  unfold branA
  cases w with
  | true =>
    by_cases h : c < 0
    · rw [if_pos h, show max c 0 = 0 by omega]
      exact right_jump (f := 100) (s := 34) (i0 := -16777216) (i1 := 16777214) (i2 := 2) (cb := false) (by decide) rfl (by decide) (by decide) (span_even (by omega) he) (.inl rfl)
    · rw [if_neg h, show max c 0 = c by omega]
      exact right_jump (f := 99) (s := 33) (i0 := -1048576) (i1 := 1048574) (i2 := 2) (cb := true) (by decide) rfl (by decide) (by decide) (span_even (by omega) he) ((Classical.em (c = 0)).elim .inl fun h0 => .inr ⟨rfl, by omega, by omega⟩)
  | false =>
    have hs := hs rfl
    unfold shortA at hs
    by_cases h : c < 0
    · rw [if_pos h] at hs
      have hs := of_decide_eq_true hs
      rw [if_pos h, show max c 0 = 0 by omega]
      exact right_jump (f := 47) (s := 16) (i0 := -2048) (i1 := 2046) (i2 := 2) (cb := false) (by decide) rfl (by decide) (by decide) (span_even (by omega) he) (.inl rfl)
    · rw [if_neg h] at hs
      have hs := of_decide_eq_true hs
      rw [if_neg h, show max c 0 = c by omega]
      exact right_jump (f := 46) (s := 15) (i0 := -256) (i1 := 254) (i2 := 2) (cb := true) (by decide) rfl (by decide) (by decide) (span_even (by omega) he) ((Classical.em (c = 0)).elim .inl fun h0 => .inr ⟨rfl, by omega, by omega⟩)
theorem nop_right : rightV nopI := right_jump (f := 44) (s := 13) (i0 := 0) (i1 := 0) (i2 := 0) (cb := false) (by decide) rfl (by decide) (by decide) (.inl ⟨rfl, rfl⟩) (.inl rfl)
theorem IOk_mk {f n c : Int} (hf : I64 f) (hn : I64 n) (hc : I64 c) : IOk ⟨f, 0, 0, 0, 0, n, 0, 0, 0, c, 0⟩ := by
  have z : I64 0 := by unfold I64; omega
  intro x hx
  simp only [inLs, List.mem_cons, List.not_mem_nil, or_false] at hx
  rcases hx with rfl | rfl | rfl | rfl | rfl | rfl | rfl | rfl | rfl | rfl | rfl <;> assumption
theorem farA_bd {l : List AI} {W : List Bool} (hW : W.length = l.length) (hI : ∀ x ∈ l, ItOk x) (hl : l.length ≤ 10000) {i : Nat} (hi : i ≤ l.length) (x : AI) : farA l W i x % 2 = 0 ∧ -1000000 ≤ farA l W i x ∧ farA l W i x ≤ 1000000 := by
  unfold farA
  split
  · rename_i k hk
    have hkl : k < l.length := (List.findIdx?_eq_some_iff_getElem.1 hk).1
    have b1 := atA_bd hW hI i hi
    have b2 := atA_bd hW hI k (by omega)
    omega
  · omega
/-- all instructions of a program that is laid may be -/
theorem insI_right {l : List AI} {W : List Bool} (hW : W.length = l.length) (hr : ∀ x ∈ l, rightA x) (hio : ∀ x ∈ l, IOk x.inst) (hl : l.length ≤ 10000) (hn : nextA l W = W) (i : Nat) : ∀ y ∈ insI l W i, rightV y ∧ IOk y := by
  intro y hy
  unfold insI at hy
  split at hy
  · rename_i x w hx hw
    have hi := (List.getElem?_eq_some_iff.1 hx).1
    have hxm := List.mem_of_getElem? hx
    have hrx := hr x hxm
    have hf := farA_bd hW (fun x hx => rightA_it (hr x hx)) hl (Nat.le_of_lt hi) x
    unfold instsA at hy
    split at hy
    · rename_i k1
      rw [List.mem_singleton] at hy
      subst hy
      exact ⟨((rightA_1 k1).1 hrx).2.1, hio x hxm⟩
    split at hy
    · rename_i k2
      rw [List.mem_singleton] at hy
      subst hy
      have hq := (rightA_2 k2).1 hrx
      have hg := nextA_get hx hw
      rw [hn, hw] at hg
      have hnb : w = nextB l W i x w := Option.some.inj hg
      refine ⟨branA_right hq.2.2.1 hf.1 hf.2 (fun e => ?_), ?_⟩
      · subst e
        unfold nextB at hnb
        rw [decide_eq_true k2] at hnb
        simpa using hnb.symm
      · unfold branA
        exact IOk_mk (by unfold I64; split <;> split <;> omega) (by unfold I64; omega) (by unfold I64; omega)
    · have : y = nopI := List.eq_of_mem_replicate hy
      subst this
      exact ⟨nop_right, IOk_mk (by unfold I64; omega) (by unfold I64; omega) (by unfold I64; omega)⟩
  · simp at hy

end Go.Proofs.YtjcacjeoddnmhaaDoor.Pw

/- Chapter 8 over values: a program is laid. -/
set_option linter.unusedVariables false
namespace Go.Proofs.YtjcacjeoddnmhaaDoor.Pw
open Go Go.RowKit

def laidP (b at_ sz : List Int) (r : Int) : PV := .agg [.sl 1 (u8P b), .sl 1 (intsP at_), .sl 1 (intsP sz), .int .i64 r]
def noLaid : PV := laidP [] [] [] 0
/-- how a program is laid: which jumps are wide, and how often it was laid -/
def goA (l : List AI) : Option (Option (List Bool × Int)) := layA l (l.length + 1) (List.replicate l.length false) 1
def outA (l : List AI) : Option (Option (List Bool × Int)) → PV
  | some (some (W, r)) => .tup [laidP (bytT l W l.length) (atsA l W) (szsA l W) r, .int .i64 0]
  | _ => .tup [noLaid, .int .i64 82]
noncomputable def layR (l : List AI) : PV := if checkA l ≠ 0 then .tup [noLaid, .int .i64 (checkA l)] else outA l (goA l)
/-- a round's beginning -/
structure LyA where
  W : List Bool
  at_ : List Int
  sz : List Int
  e : Int
  L : List (Int × Int)
  r : Int
  n : Nat
structure LyOk (l : List AI) (x : LyA) : Prop where
  W : x.W.length = l.length
  at_ : x.at_.length = l.length
  sz : x.sz.length = l.length
  L : ∀ p ∈ x.L, 0 ≤ p.2 ∧ p.2 ≤ 1000000
  len : x.L.length ≤ 10000 * x.r.toNat
  r : 1 ≤ x.r ∧ x.r + x.n = l.length + 2
  n : narrowN x.W < x.n
  go : goA l = layA l x.n x.W x.r
theorem narrowN_all (n : Nat) : narrowN (List.replicate n false) = n := by unfold narrowN; simp
theorem wI_all (n : Nat) : wI (List.replicate n false) = List.replicate n 0 := by unfold wI; simp
theorem checkA_ok {l : List AI} (h : checkA l = 0) : (∀ x ∈ l, rightA x) ∧ ∀ x ∈ l, x.kind = 2 → cntA l x.label = 1 := by
  unfold checkA at h
  split at h
  · cases h
  · rename_i h1
    split at h
    · cases h
    · rename_i h2
      refine ⟨fun x hx => Classical.byContradiction fun hn => h1 ⟨x, hx, hn⟩, fun x hx hk => Classical.byContradiction fun hn => h2 ⟨x, hx, .inl ⟨hk, hn⟩⟩⟩
/-- a list of noughts that is as long as the items -/
def zsB (l : List AI) : PBlk := dI (List.replicate (l.map aiP).length (.int .i64 0))
/-- what is known when the layer has been made -/
noncomputable def layC (l : List AI) : PSt := ⟨Tryd.f16.ntmps, layF [(2, .ptr 0 0), (3, .lit .i64 0), (5, .ptr 5 0)] .nil, [zR, zsB l, zsB l, zsB l, mpB [], yB l 0], 0, []⟩
set_option maxHeartbeats 8000000 in
set_option maxRecDepth 10000 in
theorem lay_pure (l : List AI) (hl : l.length ≤ 10000) (hio : ∀ x ∈ l, IOk x.inst ∧ I64 x.to_) : PureF gT 16 [.sl 15 (l.map aiP)] (layR l) := by
  have el : (l.map aiP).length = l.length := List.length_map ..
  have hch := check_pure l hl fun x hx => ⟨(hio x hx).1 x.inst.imm (by simp [inLs]), (hio x hx).2⟩
  unfold layR
  obtain ⟨cv, hcv⟩ : ∃ c, checkA l = c := ⟨_, rfl⟩
  have hok := @checkA_ok l
  rw [hcv] at hch hok ⊢
  refine Spec.enter gTok P16 100 Tryd.func16 rfl (by kernel_rfl) ?_
  refine ⟨[], no_rl, hch.use (by repeat' first | exact trivial | exact rfl | exact Iff.rfl | exact Or.inl rfl | refine And.intro ?_ ?_) rfl rfl ?_⟩
  refine And.intro (fun hne => ?_) (fun hne => ?_)
  · have hne' : ¬ cv = 0 := hne
    rw [if_pos hne']
    (refine retE ?_; repeat' first | exact trivial | exact rfl | exact Iff.rfl | exact Or.inl rfl | refine And.intro ?_ ?_)
  have h0 : cv = 0 := Classical.not_not.1 hne
  rw [if_neg (not_not_intro h0)]
  obtain ⟨hr, hc⟩ := hok h0
  refine fun hm1 => ?_
  refine fun hm2 => ?_
  refine fun hm3 => ?_
  have eN : 8 * (l.map aiP).length ≤ 281474976710656 := by omega
  have eM : (l.map aiP).length ≤ maxLen := hm1
  repeat' (first | exact trivial | (refine pmakeN_ok gTok ?_; refine ⟨(l.map aiP).length, rfl, rfl, rfl, rfl, eN, eM, ?_⟩) | (refine pmakeMap_ok ?_) | (refine Exists.intro (layC l) (And.intro ?_ (And.intro ?_ (And.intro ?_ ?_)))) | exact (Sub.refl : Sub gT (layC l) (layC l)) | (refine subK_ok gTok.ok (π := [some 0, some 1, some 2, some 3, some 4, some 5]) ?_; (repeat' first | exact trivial | exact rfl | exact Iff.rfl | refine And.intro ?_ ?_); done) | (refine subK_ok gTok.ok (π := [some 0, some 1, some 2, some 4, some 3, some 5]) ?_; (repeat' first | exact trivial | exact rfl | exact Iff.rfl | refine And.intro ?_ ?_); done) | (refine subK_ok gTok.ok (π := [some 0, some 1, some 3, some 2, some 4, some 5]) ?_; (repeat' first | exact trivial | exact rfl | exact Iff.rfl | refine And.intro ?_ ?_); done) | (refine subK_ok gTok.ok (π := [some 0, some 1, some 3, some 4, some 2, some 5]) ?_; (repeat' first | exact trivial | exact rfl | exact Iff.rfl | refine And.intro ?_ ?_); done) | (refine subK_ok gTok.ok (π := [some 0, some 1, some 4, some 2, some 3, some 5]) ?_; (repeat' first | exact trivial | exact rfl | exact Iff.rfl | refine And.intro ?_ ?_); done) | (refine subK_ok gTok.ok (π := [some 0, some 1, some 4, some 3, some 2, some 5]) ?_; (repeat' first | exact trivial | exact rfl | exact Iff.rfl | refine And.intro ?_ ?_); done) | (refine subK_ok gTok.ok (π := [some 0, some 2, some 1, some 3, some 4, some 5]) ?_; (repeat' first | exact trivial | exact rfl | exact Iff.rfl | refine And.intro ?_ ?_); done) | (refine subK_ok gTok.ok (π := [some 0, some 2, some 1, some 4, some 3, some 5]) ?_; (repeat' first | exact trivial | exact rfl | exact Iff.rfl | refine And.intro ?_ ?_); done) | (refine subK_ok gTok.ok (π := [some 0, some 2, some 3, some 1, some 4, some 5]) ?_; (repeat' first | exact trivial | exact rfl | exact Iff.rfl | refine And.intro ?_ ?_); done) | (refine subK_ok gTok.ok (π := [some 0, some 2, some 3, some 4, some 1, some 5]) ?_; (repeat' first | exact trivial | exact rfl | exact Iff.rfl | refine And.intro ?_ ?_); done) | (refine subK_ok gTok.ok (π := [some 0, some 2, some 4, some 1, some 3, some 5]) ?_; (repeat' first | exact trivial | exact rfl | exact Iff.rfl | refine And.intro ?_ ?_); done) | (refine subK_ok gTok.ok (π := [some 0, some 2, some 4, some 3, some 1, some 5]) ?_; (repeat' first | exact trivial | exact rfl | exact Iff.rfl | refine And.intro ?_ ?_); done) | (refine subK_ok gTok.ok (π := [some 0, some 3, some 1, some 2, some 4, some 5]) ?_; (repeat' first | exact trivial | exact rfl | exact Iff.rfl | refine And.intro ?_ ?_); done) | (refine subK_ok gTok.ok (π := [some 0, some 3, some 1, some 4, some 2, some 5]) ?_; (repeat' first | exact trivial | exact rfl | exact Iff.rfl | refine And.intro ?_ ?_); done) | (refine subK_ok gTok.ok (π := [some 0, some 3, some 2, some 1, some 4, some 5]) ?_; (repeat' first | exact trivial | exact rfl | exact Iff.rfl | refine And.intro ?_ ?_); done) | (refine subK_ok gTok.ok (π := [some 0, some 3, some 2, some 4, some 1, some 5]) ?_; (repeat' first | exact trivial | exact rfl | exact Iff.rfl | refine And.intro ?_ ?_); done) | (refine subK_ok gTok.ok (π := [some 0, some 3, some 4, some 1, some 2, some 5]) ?_; (repeat' first | exact trivial | exact rfl | exact Iff.rfl | refine And.intro ?_ ?_); done) | (refine subK_ok gTok.ok (π := [some 0, some 3, some 4, some 2, some 1, some 5]) ?_; (repeat' first | exact trivial | exact rfl | exact Iff.rfl | refine And.intro ?_ ?_); done) | (refine subK_ok gTok.ok (π := [some 0, some 4, some 1, some 2, some 3, some 5]) ?_; (repeat' first | exact trivial | exact rfl | exact Iff.rfl | refine And.intro ?_ ?_); done) | (refine subK_ok gTok.ok (π := [some 0, some 4, some 1, some 3, some 2, some 5]) ?_; (repeat' first | exact trivial | exact rfl | exact Iff.rfl | refine And.intro ?_ ?_); done) | (refine subK_ok gTok.ok (π := [some 0, some 4, some 2, some 1, some 3, some 5]) ?_; (repeat' first | exact trivial | exact rfl | exact Iff.rfl | refine And.intro ?_ ?_); done) | (refine subK_ok gTok.ok (π := [some 0, some 4, some 2, some 3, some 1, some 5]) ?_; (repeat' first | exact trivial | exact rfl | exact Iff.rfl | refine And.intro ?_ ?_); done) | (refine subK_ok gTok.ok (π := [some 0, some 4, some 3, some 1, some 2, some 5]) ?_; (repeat' first | exact trivial | exact rfl | exact Iff.rfl | refine And.intro ?_ ?_); done) | (refine subK_ok gTok.ok (π := [some 0, some 4, some 3, some 2, some 1, some 5]) ?_; (repeat' first | exact trivial | exact rfl | exact Iff.rfl | refine And.intro ?_ ?_); done) | refine And.intro ?_ ?_)
  obtain ⟨res, hres⟩ : ∃ res, outA l (goA l) = res := ⟨_, rfl⟩
  rw [hres]
  refine SW.loopX gTok P16 (by kernel_rfl) (α := {x : LyA // LyOk l x}) (fun x => [(2, .ptr 0 0), (5, .ptr 5 0), (6, .int .i64 x.1.r)]) (fun x => sLy l x.1.W x.1.at_ x.1.sz x.1.e x.1.L) (fun x => x.1.n) ⟨⟨List.replicate l.length false, List.replicate l.length 0, List.replicate l.length 0, 0, [], 1, l.length + 1⟩, ⟨by simp, by simp, by simp, by simp, by simp, ⟨Int.le_refl _, by show (1 : Int) + ((l.length + 1 : Nat) : Int) = _; omega⟩, by show narrowN (List.replicate l.length false) < l.length + 1; rw [narrowN_all]; omega, rfl⟩⟩ 60 [some 0, some 1, some 2, some 3, some 4, some 5] ?_ ?_
  · repeat' first | exact trivial | exact rfl | exact Iff.rfl | refine And.intro ?_ ?_
    all_goals first | exact (show List.replicate (l.map aiP).length (PV.int .i64 0) = intsP (wI (List.replicate l.length false)) by rw [wI_all, el]; unfold intsP; rw [List.map_replicate]) | exact (show List.replicate (l.map aiP).length (PV.int .i64 0) = intsP (List.replicate l.length 0) by rw [el]; unfold intsP; rw [List.map_replicate])
  rintro ⟨⟨W, at0, sz0, e0, L, r, n⟩, hx⟩
  obtain ⟨hW, ha0, hs0, hL, hLl, hr1, hn, hgo⟩ := hx
  simp only at hW ha0 hs0 hL hLl hr1 hn hgo
  obtain ⟨n, rfl⟩ : ∃ m, n = m + 1 := ⟨n - 1, by omega⟩
  have hlay := lay_runs (e0 := e0) hW ha0 hs0 hr hl (show L.length ≤ 1000000000 by omega)
  have hwid := widen_runs (e := endA l W 0) hW hr hc hl hL
  rw [layA] at hgo
  have hLn : ∀ p ∈ L ++ marksT l W l.length, 0 ≤ p.2 ∧ p.2 ≤ 1000000 := fun p hp => (List.mem_append.1 hp).elim (hL p) (marksT_bd hW (fun x hx => rightA_it (hr x hx)) hl (Nat.le_refl _) p)
  have hml := marksT_len l W l.length
  have hnl := nextA_len hW
  refine ⟨[], no_rl, hlay.useS rfl rfl rfl rfl (by repeat' first | exact trivial | exact rfl | exact Iff.rfl | exact Or.inl rfl | refine And.intro ?_ ?_) (And.intro (by repeat' first | exact trivial | exact rfl | exact Iff.rfl | exact Or.inl rfl | refine And.intro ?_ ?_) (And.intro (by repeat' first | exact trivial | exact rfl | exact Iff.rfl | exact Or.inl rfl | refine And.intro ?_ ?_) (And.intro (by repeat' first | exact trivial | exact rfl | exact Iff.rfl | exact Or.inl rfl | refine And.intro ?_ ?_) (And.intro (by repeat' first | exact trivial | exact rfl | exact Iff.rfl | exact Or.inl rfl | refine And.intro ?_ ?_) (And.intro (by repeat' first | exact trivial | exact rfl | exact Iff.rfl | exact Or.inl rfl | refine And.intro ?_ ?_) (And.intro (by repeat' first | exact trivial | exact rfl | exact Iff.rfl | exact Or.inl rfl | refine And.intro ?_ ?_) ?_))))))⟩
  refine And.intro (fun hbig => ?_) (fun hbig => ?_)
  · have hbig' : 65536 < endA l W 0 := hbig
    rw [if_pos hbig'] at hgo
    rw [← hres, hgo]
    (refine retE ?_; repeat' first | exact trivial | exact rfl | exact Iff.rfl | exact Or.inl rfl | refine And.intro ?_ ?_)
  have hbig' : ¬ 65536 < endA l W 0 := hbig
  rw [if_neg hbig'] at hgo
  refine ⟨[], no_rl, hwid.useS rfl rfl rfl rfl (by repeat' first | exact trivial | exact rfl | exact Iff.rfl | exact Or.inl rfl | refine And.intro ?_ ?_) (And.intro (by repeat' first | exact trivial | exact rfl | exact Iff.rfl | exact Or.inl rfl | refine And.intro ?_ ?_) (And.intro (by repeat' first | exact trivial | exact rfl | exact Iff.rfl | exact Or.inl rfl | refine And.intro ?_ ?_) (And.intro (by repeat' first | exact trivial | exact rfl | exact Iff.rfl | exact Or.inl rfl | refine And.intro ?_ ?_) (And.intro (by repeat' first | exact trivial | exact rfl | exact Iff.rfl | exact Or.inl rfl | refine And.intro ?_ ?_) (And.intro (by repeat' first | exact trivial | exact rfl | exact Iff.rfl | exact Or.inl rfl | refine And.intro ?_ ?_) (And.intro (by repeat' first | exact trivial | exact rfl | exact Iff.rfl | exact Or.inl rfl | refine And.intro ?_ ?_) ?_))))))⟩
  refine And.intro (fun hm4 => ?_) (fun hm4 => ?_)
  · have hm4' : 0 < (narrowN W : Int) - (narrowN (nextA l W) : Int) := hm4
    have hne : nextA l W ≠ W := fun e => by rw [e] at hm4'; omega
    rw [if_neg hne] at hgo
    refine .inl ⟨inR_i64 (show _ ≤ r + 1 ∧ r + 1 ≤ _ by omega), ⟨⟨⟨nextA l W, atsA l W, szsA l W, endA l W 0, L ++ marksT l W l.length, r + 1, n⟩, ⟨hnl, atsA_len l W, szsA_len l W, hLn, by simp only [List.length_append]; omega, by simp only; omega, by simp only; omega, hgo⟩⟩, [some 0, some 1, some 2, some 3, some 4, some 5], show n < n + 1 by omega, ?_⟩⟩
    repeat' first | exact trivial | exact rfl | exact Iff.rfl | refine And.intro ?_ ?_
  · have hm4' : ¬ 0 < (narrowN W : Int) - (narrowN (nextA l W) : Int) := hm4
    have heq : nextA l W = W := Classical.byContradiction fun hne => by have := nextA_less hW hne; omega
    rw [if_pos heq] at hgo
    have hwr := write_runs (e := endA l W 0) hW hr hc hl hL (insI_right hW hr (fun x hx => (hio x hx).1) hl heq)
    rw [heq]
    refine ⟨[], no_rl, hwr.useS rfl rfl rfl rfl (by repeat' first | exact trivial | exact rfl | exact Iff.rfl | exact Or.inl rfl | refine And.intro ?_ ?_) (And.intro (by repeat' first | exact trivial | exact rfl | exact Iff.rfl | exact Or.inl rfl | refine And.intro ?_ ?_) (And.intro (by repeat' first | exact trivial | exact rfl | exact Iff.rfl | exact Or.inl rfl | refine And.intro ?_ ?_) (And.intro (by repeat' first | exact trivial | exact rfl | exact Iff.rfl | exact Or.inl rfl | refine And.intro ?_ ?_) (And.intro (by repeat' first | exact trivial | exact rfl | exact Iff.rfl | exact Or.inl rfl | refine And.intro ?_ ?_) (And.intro (by repeat' first | exact trivial | exact rfl | exact Iff.rfl | exact Or.inl rfl | refine And.intro ?_ ?_) (And.intro (by repeat' first | exact trivial | exact rfl | exact Iff.rfl | exact Or.inl rfl | refine And.intro ?_ ?_) ?_))))))⟩
    refine And.intro (fun hne => absurd rfl hne) (fun _ => ?_)
    rw [← hres, hgo]
    (refine retE ?_; repeat' first | exact trivial | exact rfl | exact Iff.rfl | exact Or.inl rfl | refine And.intro ?_ ?_)

end Go.Proofs.YtjcacjeoddnmhaaDoor.Pw

/- Chapter 4 over values: what stands at a place of bytes; CodeBytes. -/
namespace Go.Proofs.YtjcacjeoddnmhaaDoor.Pw
open Go Go.RowKit

def BOk (l : List Int) : Prop := ∀ z ∈ l, 0 ≤ z ∧ z ≤ 255
theorem or_add_u32 (a b : Int) (k : Nat) (hk : k ≤ 24) (ha : 0 ≤ a ∧ a < 2 ^ k) (hb : 0 ≤ b ∧ b * 2 ^ k ≤ 4294967295) : bits .or .u32 a (b * 2 ^ k) = a + b * 2 ^ k ∧ bits .or .u32 (b * 2 ^ k) a = b * 2 ^ k + a := by
  have p := pow_bd k (by omega)
  have p2 : (2 : Int) ^ k ≤ 16777216 := by
    have h1 : (2 ^ k : Nat) ≤ 2 ^ 24 := Nat.pow_le_pow_right (by omega) hk
    have h3 := pow_cast k
    have h4 : (2 : Nat) ^ 24 = 16777216 := by decide
    omega
  obtain ⟨x, rfl⟩ : ∃ x : Nat, a = x := ⟨a.toNat, by omega⟩
  obtain ⟨y, rfl⟩ : ∃ y : Nat, b = y := ⟨b.toNat, by omega⟩
  have e : ((y : Int) * 2 ^ k) = ((2 ^ k * y : Nat) : Int) := by rw [Int.natCast_mul, pow_cast, Int.mul_comm]
  rw [e] at hb ⊢
  have hx : x < 2 ^ k := by have := pow_cast k; omega
  have h := or_low y x k hx
  constructor
  · rw [u32_or _ _ (by omega) (by omega) (by omega) (by omega), Int.toNat_natCast, Int.toNat_natCast, Nat.or_comm, ← h]; omega
  · rw [u32_or _ _ (by omega) (by omega) (by omega) (by omega), Int.toNat_natCast, Int.toNat_natCast, ← h]; omega
/-- two bytes as a half -/
def hN (l : List Int) (n : Nat) : Int := l.getD n 0 + l.getD (n + 1) 0 * 256
theorem getD_ok {l : List Int} (h : BOk l) (n : Nat) : 0 ≤ l.getD n 0 ∧ l.getD n 0 ≤ 255 := by
  rw [List.getD_eq_getElem?_getD]
  cases e : l[n]? with
  | none => exact ⟨Int.le_refl 0, by decide⟩
  | some z => exact h z (List.mem_of_getElem? e)
theorem hN_bd {l : List Int} (h : BOk l) (n : Nat) : 0 ≤ hN l n ∧ hN l n ≤ 65535 := by
  have a := getD_ok h n
  have b := getD_ok h (n + 1)
  unfold hN; omega
theorem getD_some {l : List Int} {n : Nat} {z : Int} (h : l[n]? = some z) : l.getD n 0 = z := by rw [List.getD_eq_getElem?_getD, h]; rfl
set_option maxHeartbeats 4000000 in
set_option maxRecDepth 100000 in
theorem halfAt_pure (l : List Int) (n : Nat) (hl : BOk l) (hm : l.length ≤ maxLen) (hn : n + 1 < l.length) : PureF gT 29 [.sl 1 (u8P l), .int .i64 n] (.int .u32 (hN l n)) := by
  have hm' : l.length ≤ 2 ^ 63 - 1 := hm
  have e8 : Ev.pow2 .u32 8 = 2 ^ 8 := by decide
  obtain ⟨a, ha⟩ : ∃ a, l[n]? = some a := ⟨_, List.getElem?_eq_getElem (by omega)⟩
  obtain ⟨b, hb⟩ : ∃ b, l[n + 1]? = some b := ⟨_, List.getElem?_eq_getElem (by omega)⟩
  have ab := hl a (List.mem_of_getElem? ha)
  have bb := hl b (List.mem_of_getElem? hb)
  have ea := getD_some ha
  have eb := getD_some hb
  refine Spec.enter gTok P29 100 Tryd.func29 rfl (by kernel_rfl) ?_
  repeat' (first
    | (refine ⟨Int, l, PV.int .u8, rfl, show (0 : Int) ≤ (n : Int) by omega, show (n : Int) < (l.length : Int) by omega, fun z hz => ?_⟩
       obtain rfl : a = z := Option.some.inj (ha.symm.trans hz))
    | (refine ⟨Int, l, PV.int .u8, rfl, show (0 : Int) ≤ (n : Int) + 1 by omega, show (n : Int) + 1 < (l.length : Int) by omega, fun z hz => ?_⟩
       obtain rfl : b = z := Option.some.inj (hb.symm.trans hz))
    | refine Or.inl (And.intro (inR_i64 (show _ ≤ (n : Int) + 1 ∧ (n : Int) + 1 ≤ _ by omega)) ?_)
    | refine Or.inl (And.intro (inR_u32 (show 0 ≤ a ∧ a ≤ _ by omega)) ?_)
    | refine Or.inl (And.intro (inR_u32 (show 0 ≤ b ∧ b ≤ _ by omega)) ?_)
    | refine And.intro (show (0 : Int) ≤ 8 by decide) (Or.inl (And.intro (inR_u32 (show 0 ≤ b * Ev.pow2 .u32 8 ∧ b * Ev.pow2 .u32 8 ≤ _ by rw [e8]; omega)) ?_))
    | exact rfl
    | exact trivial
    | (refine retE ?_
       show bits .or .u32 a (b * Ev.pow2 .u32 8) = hN l n
       rw [e8, (or_add_u32 a b 8 (by decide) (by omega) (by omega)).1, hN, ea, eb]
       rfl)
    | refine And.intro ?_ ?_)

/-! ### what stands at a place -/
def hW (l : List Int) (n : Nat) : Int := hN l n * 65536 + hN l (n + 2)
noncomputable def atI (l : List Int) (n : Nat) : IN := open Classical in
  if l.length < n + 2 then iZ else if ¬ beginsV (hN l n) then ofI (hN l n) False else if l.length < n + 4 then iZ else ofI (hW l n) True
noncomputable def atE (l : List Int) (n : Nat) : Int := open Classical in
  if l.length < n + 2 then 41 else if ¬ beginsV (hN l n) then ofE (hN l n) False else if l.length < n + 4 then 41 else ofE (hW l n) True
theorem hW_or (l : List Int) (hl : BOk l) (n : Nat) : bits .or .u32 (hN l n * Ev.pow2 .u32 16) (hN l (n + 2)) = hW l n := by
  have a := hN_bd hl n
  have b := hN_bd hl (n + 2)
  have e : Ev.pow2 .u32 16 = 2 ^ 16 := by decide
  rw [e, (or_add_u32 (hN l (n + 2)) (hN l n) 16 (by decide) (by omega) (by omega)).2]
  rfl
theorem hW_bd (l : List Int) (hl : BOk l) (n : Nat) : U32 (hW l n) := by
  have a := hN_bd hl n
  have b := hN_bd hl (n + 2)
  unfold hW U32; omega
set_option maxHeartbeats 8000000 in
set_option maxRecDepth 100000 in
theorem at_in (l : List Int) (n : Nat) (hl : BOk l) (hm : l.length ≤ maxLen) (hn : n ≤ l.length) : PureF gT 17 [.sl 1 (u8P l), .int .i64 n] (.tup [inP (atI l n), .int .i64 (atE l n)]) := by
  have el : (u8P l).length = l.length := List.length_map ..
  have hm' : l.length ≤ 2 ^ 63 - 1 := hm
  have h1 := hN_bd hl n
  have h2 := hN_bd hl (n + 2)
  refine Spec.enter gTok P17 100 Tryd.func17 rfl (by kernel_rfl) ?_
  refine And.intro (fun h0 => absurd (show (n : Int) < 0 from h0) (by omega)) (fun _ => ?_)
  intro _
  refine And.intro (fun h0 => absurd (show (((u8P l).length : Nat) : Int) < (n : Int) from h0) (by omega)) (fun _ => ?_)
  intro _
  refine .inl ⟨inR_i64 (show _ ≤ (((u8P l).length : Nat) : Int) - (n : Int) ∧ (((u8P l).length : Nat) : Int) - (n : Int) ≤ _ by omega), ?_⟩
  refine And.intro (fun hs => ?_) (fun hs => ?_)
  · have hs' : (((u8P l).length : Nat) : Int) - (n : Int) < 2 := hs
    have c : l.length < n + 2 := by omega
    rw [show atI l n = iZ from if_pos c, show atE l n = 41 from if_pos c]
    (refine retE ?_; repeat' first | exact trivial | exact rfl | exact Iff.rfl | exact Or.inl rfl | refine And.intro ?_ ?_)
  have hs' : ¬ (((u8P l).length : Nat) : Int) - (n : Int) < 2 := hs
  have c : ¬ l.length < n + 2 := by omega
  refine ⟨[], no_rl, (halfAt_pure l n hl hm (by omega)).use (by repeat' first | exact trivial | exact rfl | exact Iff.rfl | exact Or.inl rfl | refine And.intro ?_ ?_) rfl rfl ?_⟩
  refine ⟨[], no_rl, (begins_pure (hN l n) (by unfold U32; omega)).use (by repeat' first | exact trivial | exact rfl | exact Iff.rfl | exact Or.inl rfl | refine And.intro ?_ ?_) rfl rfl ?_⟩
  refine And.intro (fun hb => ?_) (fun hb => ?_)
  · have hb' : ¬ beginsV (hN l n) := hb
    refine ⟨[], no_rl, (of_pure (hN l n) False (by unfold U32; omega)).use (And.intro rfl (And.intro (show ¬ False from id) trivial)) rfl rfl ?_⟩
    rw [show atI l n = ofI (hN l n) False by unfold atI; rw [if_neg c, if_pos hb'], show atE l n = ofE (hN l n) False by unfold atE; rw [if_neg c, if_pos hb']]
    (refine retE ?_; repeat' first | exact trivial | exact rfl | exact Iff.rfl | exact Or.inl rfl | refine And.intro ?_ ?_)
  have hb' : ¬ ¬ beginsV (hN l n) := hb
  intro _
  refine .inl ⟨inR_i64 (show _ ≤ (((u8P l).length : Nat) : Int) - (n : Int) ∧ (((u8P l).length : Nat) : Int) - (n : Int) ≤ _ by omega), ?_⟩
  refine And.intro (fun hs => ?_) (fun hs => ?_)
  · have hs' : (((u8P l).length : Nat) : Int) - (n : Int) < 4 := hs
    have c2 : l.length < n + 4 := by omega
    rw [show atI l n = iZ by unfold atI; rw [if_neg c, if_neg hb', if_pos c2], show atE l n = 41 by unfold atE; rw [if_neg c, if_neg hb', if_pos c2]]
    (refine retE ?_; repeat' first | exact trivial | exact rfl | exact Iff.rfl | exact Or.inl rfl | refine And.intro ?_ ?_)
  have hs' : ¬ (((u8P l).length : Nat) : Int) - (n : Int) < 4 := hs
  have c2 : ¬ l.length < n + 4 := by omega
  have e16 : Ev.pow2 .u32 16 = 65536 := by decide
  refine ⟨by decide, .inl ⟨inR_u32 (by rw [e16]; omega), ?_⟩⟩
  refine .inl ⟨inR_i64 (show _ ≤ (n : Int) + 2 ∧ (n : Int) + 2 ≤ _ by omega), ?_⟩
  refine ⟨[], no_rl, (halfAt_pure l (n + 2) hl hm (by omega)).use (by repeat' first | exact trivial | exact rfl | exact Iff.rfl | exact Or.inl rfl | refine And.intro ?_ ?_) rfl rfl ?_⟩
  refine ⟨[], no_rl, (of_pure (hW l n) True (hW_bd l hl n)).use (And.intro (hW_or l hl n) (And.intro (show True from trivial) trivial)) rfl rfl ?_⟩
  rw [show atI l n = ofI (hW l n) True by unfold atI; rw [if_neg c, if_neg hb', if_neg c2], show atE l n = ofE (hW l n) True by unfold atE; rw [if_neg c, if_neg hb', if_neg c2]]
  (refine retE ?_; repeat' first | exact trivial | exact rfl | exact Iff.rfl | exact Or.inl rfl | refine And.intro ?_ ?_)

end Go.Proofs.YtjcacjeoddnmhaaDoor.Pw

/- Chapter 8 over values: what is laid is read again; the document's example. -/
set_option linter.unusedVariables false
namespace Go.Proofs.YtjcacjeoddnmhaaDoor.Pw
open Go Go.RowKit

theorem getD_mid (p b q : List Int) (k : Nat) (h : k < b.length) : (p ++ b ++ q).getD (p.length + k) 0 = b.getD k 0 := by
  rw [List.getD_eq_getElem?_getD, List.getD_eq_getElem?_getD, List.append_assoc, List.getElem?_append_right (by omega), Nat.add_sub_cancel_left, List.getElem?_append_left h]
theorem byL_okA (i : IN) : BOk (byL i) := by
  intro z hz
  unfold byL at hz
  split at hz <;> simp only [List.mem_append, List.mem_cons, List.not_mem_nil, or_false, false_or] at hz <;> omega
/-- what is laid in the midst is read again -/
theorem at_mid (p q : List Int) (i : IN) (h : rightV i) (hg : i.regs ≤ 9223372036854775807) : atI (p ++ byL i ++ q) p.length = i ∧ atE (p ++ byL i ++ q) p.length = 0 := by
  have fst := of_word i h hg
  have bk := back i h hg
  have wb := word_bd i
  have tw := top_wide i h
  have tn := top_narrow i h
  have f1 := h.1
  unfold U32 at wb
  have g := getD_mid p (byL i) q
  have el0 : (p ++ byL i ++ q).length = p.length + (byL i).length + q.length := by rw [List.length_append, List.length_append]
  generalize hb0 : byL i = b at g el0 ⊢
  by_cases h48 : 48 ≤ i.form
  · have eb : b = [wordV i / 65536 % 256, wordV i / 16777216 % 256, wordV i % 256, wordV i / 256 % 256] := by rw [← hb0]; unfold byL; rw [if_pos h48]; rfl
    subst eb
    have el : (p ++ [wordV i / 65536 % 256, wordV i / 16777216 % 256, wordV i % 256, wordV i / 256 % 256] ++ q).length = p.length + 4 + q.length := el0
    generalize p ++ [wordV i / 65536 % 256, wordV i / 16777216 % 256, wordV i % 256, wordV i / 256 % 256] ++ q = l at g el ⊢
    have g0 := g 0 (by simp)
    have g1 := g 1 (by simp)
    have g2 := g 2 (by simp)
    have g3 := g 3 (by simp)
    have k0 : hN l p.length = wordV i / 65536 := by
      unfold hN
      rw [Nat.add_zero] at g0
      rw [g0, g1]
      show wordV i / 65536 % 256 + wordV i / 16777216 % 256 * 256 = _
      omega
    have k2 : hN l (p.length + 2) = wordV i % 65536 := by
      unfold hN
      rw [g2, g3]
      show wordV i % 256 + wordV i / 256 % 256 * 256 = _
      omega
    have kW : hW l p.length = wordV i := by unfold hW; rw [k0, k2]; omega
    have hb : ¬ ¬ beginsV (hN l p.length) := by
      have := tw h48
      rw [k0]; unfold beginsV; omega
    have e : (48 ≤ i.form) = True := eq_true h48
    rw [e] at fst
    unfold atI atE
    rw [if_neg (by omega), if_neg hb, if_neg (by omega), if_neg (by omega), if_neg hb, if_neg (by omega), kW, ofI_is fst, ofE_is fst, bk]
    exact ⟨rfl, rfl⟩
  · have eb : b = [wordV i % 256, wordV i / 256 % 256] := by rw [← hb0]; unfold byL; rw [if_neg h48]; rfl
    subst eb
    have el : (p ++ [wordV i % 256, wordV i / 256 % 256] ++ q).length = p.length + 2 + q.length := el0
    generalize p ++ [wordV i % 256, wordV i / 256 % 256] ++ q = l at g el ⊢
    have tn' := tn h48
    have g0 := g 0 (by simp)
    have g1 := g 1 (by simp)
    have k0 : hN l p.length = wordV i := by
      unfold hN
      rw [Nat.add_zero] at g0
      rw [g0, g1]
      show wordV i % 256 + wordV i / 256 % 256 * 256 = _
      omega
    have hb : ¬ beginsV (hN l p.length) := by rw [k0]; unfold beginsV; omega
    have e : (48 ≤ i.form) = False := eq_false h48
    rw [e] at fst
    unfold atI atE
    rw [if_neg (by omega), if_pos hb, if_neg (by omega), if_pos hb, k0, ofI_is fst, ofE_is fst, bk]
    exact ⟨rfl, rfl⟩

/-- the document's example -/
def ancL : List AI := [⟨3, iZ, 0, 1, 0⟩, ⟨1, nopI, 0, 0, 0⟩, ⟨2, iZ, -1, 1, 0⟩]
theorem anc_right : ∀ x ∈ ancL, rightA x := by
  intro x hx
  simp only [ancL, List.mem_cons, List.not_mem_nil, or_false] at hx
  have z : zI iZ := ⟨rfl, rfl, rfl, rfl, rfl, rfl, rfl, rfl, rfl, rfl, rfl⟩
  have m1 : mayV 1 := by unfold mayV; omega
  rcases hx with rfl | rfl | rfl
  · exact .inr (.inr (.inl ⟨rfl, z, ⟨rfl, rfl⟩, m1⟩))
  · exact .inl ⟨rfl, ⟨rfl, rfl, rfl⟩, nop_right, by decide⟩
  · exact .inr (.inl ⟨rfl, z, rfl, by decide, m1⟩)
theorem anc_io : ∀ x ∈ ancL, IOk x.inst ∧ I64 x.to_ := by
  intro x hx
  simp only [ancL, List.mem_cons, List.not_mem_nil, or_false] at hx
  have z : I64 0 := by unfold I64; omega
  rcases hx with rfl | rfl | rfl <;> exact ⟨lit_ok _ (by decide), z⟩
theorem anc_check : checkA ancL = 0 := by
  unfold checkA
  rw [if_neg (fun ⟨x, hx, h⟩ => h (anc_right x hx)), if_neg]
  rintro ⟨x, hx, h⟩
  unfold wrongA at h
  simp only [ancL, List.mem_cons, List.not_mem_nil, or_false] at hx
  have c1 : cntA ancL 1 = 1 := by decide
  rcases hx with rfl | rfl | rfl
  · rcases h with ⟨h, _⟩ | ⟨_, h⟩
    · exact absurd h (by decide)
    · exact absurd h (by rw [c1]; decide)
  · rcases h with ⟨h, _⟩ | ⟨h, _⟩ <;> exact absurd h (by decide)
  · rcases h with ⟨_, h⟩ | ⟨h, _⟩
    · exact h c1
    · exact absurd h (by decide)
theorem anc_go : goA ancL = some (some ([false, false, false], 1)) := by decide
def ancB : IN := ⟨47, 0, 0, 0, 0, -6, 0, 0, 0, 0, 0⟩
theorem ancB_right : rightV ancB := right_jump (f := 47) (s := 16) (i0 := -2048) (i1 := 2046) (i2 := 2) (cb := false) (by decide) rfl (by decide) (by decide) (span_even (by decide) (by decide)) (.inl rfl)
theorem anc_lay : layR ancL = .tup [laidP (byL nopI ++ byL ancB) [0, 0, 2] [0, 2, 2] 1, .int .i64 0] := by
  unfold layR
  rw [anc_check, if_neg (by decide), anc_go]
  show PV.tup [laidP (bytT ancL [false, false, false] 3) (atsA ancL [false, false, false]) (szsA ancL [false, false, false]) 1, .int .i64 0] = _
  have e1 : bytT ancL [false, false, false] 3 = byL nopI ++ byL ancB := by
    have i0 : insI ancL [false, false, false] 0 = [] := by rfl
    have i1 : insI ancL [false, false, false] 1 = [nopI] := by rfl
    have i2 : insI ancL [false, false, false] 2 = [ancB] := by rfl
    rw [bytT, bytT, bytT, bytT, i0, i1, i2]
    simp [bytI]
  rw [e1, show atsA ancL [false, false, false] = [0, 0, 2] by decide, show szsA ancL [false, false, false] = [0, 2, 2] by decide]
set_option maxHeartbeats 2000000 in
set_option maxRecDepth 10000 in
theorem anchor08_pure : PureF gT 7 [] .tt := by
  have hlay := lay_pure ancL (by decide) anc_io
  rw [anc_lay] at hlay
  have l2 : ∀ i : IN, i.form < 48 → (byL i).length = 2 := fun i h => by unfold byL; rw [if_neg (by omega)]; rfl
  have ln : (byL nopI).length = 2 := l2 nopI (by decide)
  have lb : (byL ancB).length = 2 := l2 ancB (by decide)
  have le : (byL nopI ++ byL ancB).length = 4 := by rw [List.length_append, ln, lb]
  have hown := at_mid (byL nopI) [] ancB ancB_right (by decide)
  rw [ln, List.append_nil] at hown
  have hat := at_in (byL nopI ++ byL ancB) 2 (fun z hz => (List.mem_append.1 hz).elim (byL_okA _ z) (byL_okA _ z)) (by rw [le]; decide) (by omega)
  rw [hown.1, hown.2] at hat
  generalize byL nopI ++ byL ancB = bs at hlay le hat
  have le' : (u8P bs).length = 4 := by rw [u8P, List.length_map, le]
  refine Spec.enter gTok P7 100 Tryd.func7 rfl (by kernel_rfl) ?_
  refine ⟨[], no_rl, (ahere_pure 1).use (by repeat' first | exact trivial | exact rfl | exact Iff.rfl | exact Or.inl rfl | refine And.intro ?_ ?_) rfl rfl ?_⟩
  refine ⟨[], no_rl, (ado_pure nopI).use (by repeat' first | exact trivial | exact rfl | exact Iff.rfl | exact Or.inl rfl | refine And.intro ?_ ?_) rfl rfl ?_⟩
  refine ⟨[], no_rl, (ago_pure (-1) 1).use (by repeat' first | exact trivial | exact rfl | exact Iff.rfl | exact Or.inl rfl | refine And.intro ?_ ?_) rfl rfl ?_⟩
  refine ⟨[], no_rl, hlay.useF [0] rfl (And.intro (Or.inl rfl) trivial) rfl rfl ?_⟩
  repeat' ((conv => whnf); first | (refine (And.intro (fun _ => ?_) (fun _ => ?_) : (_ → _) ∧ (_ → _)) <;> (first | (exfalso; first | contradiction | omega) | skip)) | refine Or.inl (And.intro (by first | exact inR_i64 (by omega) | exact inR_u32 (by omega) | exact inR_u64 (by omega) | exact inR_u8 (by omega)) ?_) | (refine And.intro (show (_ : Int) ≠ 0 by omega) (Or.inl (And.intro (show (0 : Int) ≤ _ by omega) (And.intro (show (0 : Int) < _ by omega) ?_)))) | (refine And.intro (show (_ : Int) ≠ 0 by omega) (Or.inl (And.intro (show (0 : Int) ≤ _ by omega) (And.intro (by first | exact (show (_ : Int) ≤ 9223372036854775807 by omega) | exact (show (_ : Int) ≤ 4294967295 by omega)) (And.intro (show (0 : Int) < _ by omega) ?_))))) | (refine ⟨[], no_rl, hat.use (by repeat' first | exact trivial | exact rfl | exact Iff.rfl | exact Or.inl rfl | refine And.intro ?_ ?_) rfl rfl ?_⟩) | (exfalso; first | contradiction | omega) | ((refine retE ?_; repeat' first | exact trivial | exact rfl | exact Iff.rfl | exact Or.inl rfl | refine And.intro ?_ ?_)) | (intro _))
/-- an item whose numbers are ints -/
structure AOk (x : AI) : Prop where
  inst : IOk x.inst
  kind : I64 x.kind
  cond : I64 x.cond
  label : I64 x.label
  to_ : I64 x.to_

end Go.Proofs.YtjcacjeoddnmhaaDoor.Pw

/- Chapter 8, plain: what is known of a program that is laid. -/
set_option linter.unusedVariables false
namespace Go.Proofs.YtjcacjeoddnmhaaDoor.Pw
open Go Go.RowKit

theorem bytes_mono {x : AI} (h : ItOk x) {w v : Bool} (hwv : w = true → v = true) {a b : Int} (ha : 0 ≤ a) (hab : a ≤ b) : a + bytesA x w a ≤ b + bytesA x v b := by
  unfold bytesA
  by_cases h1 : x.kind = 1
  · simp only [if_pos h1]; split <;> omega
  by_cases h2 : x.kind = 2
  · simp only [if_neg h1, if_pos h2]
    cases w with
    | true => rw [hwv rfl]; simp; omega
    | false => cases v <;> simp <;> omega
  by_cases h4 : x.kind = 4
  · simp only [if_neg h1, if_neg h2, if_pos h4]
    rcases h.to_ h4 with e | e | e <;> rw [e] <;> omega
  · simp only [if_neg h1, if_neg h2, if_neg h4]; omega
theorem endA_mono : ∀ {l : List AI} {W V : List Bool} {a b : Int}, (∀ x ∈ l, ItOk x) → W.length = l.length → V.length = l.length → (∀ i : Nat, W[i]? = some true → V[i]? = some true) → (0 ≤ a ∧ a % 2 = 0) → a ≤ b → endA l W a ≤ endA l V b
  | [], _, _, _, _, _, _, _, _, _, h => h
  | x :: l, [], _, _, _, _, h, _, _, _, _ => by cases h
  | x :: l, _ :: _, [], _, _, _, _, h, _, _, _ => by cases h
  | x :: l, w :: W, v :: V, a, b, hI, hW, hV, hwv, ha, hab => by
    have hx := hI x List.mem_cons_self
    have h1 := bytes_mono hx (w := w) (v := v) (fun e => by simpa using hwv 0 (by simpa using e)) ha.1 hab
    have h2 := bytesA_bd hx w ha
    exact endA_mono (l := l) (W := W) (V := V) (fun y hy => hI y (List.mem_cons_of_mem _ hy)) (by simpa using hW) (by simpa using hV) (fun i hi => by simpa using hwv (i + 1) (by simpa using hi)) (by omega) h1

/-- who has a wide jump has some bytes -/
def Wide200 (l : List AI) (W : List Bool) : Prop := (∃ i : Nat, W[i]? = some true) → 200 ≤ endA l W 0
theorem far_200 {l : List AI} {W : List Bool} (hW : W.length = l.length) (hI : ∀ x ∈ l, ItOk x) {i : Nat} {x : AI} (hi : i < l.length) (h : shortA x.cond (farA l W i x) = false) : 200 ≤ endA l W 0 := by
  have hb : farA l W i x < -256 ∨ 255 < farA l W i x := by
    unfold shortA at h
    split at h <;> (have := of_decide_eq_false h; omega)
  unfold farA at hb
  split at hb
  · rename_i k hk
    have hkl : k < l.length := (List.findIdx?_eq_some_iff_getElem.1 hk).1
    have e := atA_end (l := l) (W := W) hW (Nat.le_refl _)
    have m1 := atA_mono hW hI k l.length (by omega) (Nat.le_refl _)
    have m2 := atA_mono hW hI i l.length (by omega) (Nat.le_refl _)
    have b1 := atA_bd hW hI k (by omega)
    have b2 := atA_bd hW hI i (by omega)
    omega
  · omega
theorem Wide200.next {l : List AI} {W : List Bool} (hW : W.length = l.length) (hI : ∀ x ∈ l, ItOk x) (h : Wide200 l W) : Wide200 l (nextA l W) := by
  rintro ⟨i, hi⟩
  have hlt : i < l.length := by rw [← nextA_len hW]; exact (List.getElem?_eq_some_iff.1 hi).1
  have hm := endA_mono (a := 0) (b := 0) hI hW (nextA_len hW) (nextA_up hW) (by decide) (Int.le_refl _)
  have hw : W[i]? = some W[i] := List.getElem?_eq_getElem (by omega)
  rw [nextA_get (List.getElem?_eq_getElem hlt) hw] at hi
  have hi := Option.some.inj hi
  cases hwi : W[i] with
  | true => exact Int.le_trans (h ⟨i, by rw [hw, hwi]⟩) hm
  | false =>
    rw [hwi] at hi
    unfold nextB at hi
    simp only [Bool.false_or, Bool.and_eq_true, Bool.not_eq_true'] at hi
    exact Int.le_trans (far_200 hW hI hlt hi.2) hm
/-- which jumps are wide when a program has been laid, and how often it was laid -/
structure LaidW (l : List AI) (W : List Bool) : Prop where
  len : W.length = l.length
  fix : nextA l W = W
  big : endA l W 0 ≤ 65536
  wide : Wide200 l W
theorem layA_facts {l : List AI} (hI : ∀ x ∈ l, ItOk x) : ∀ {n : Nat} {W : List Bool} {r : Int} {W' : List Bool} {r' : Int}, W.length = l.length → Wide200 l W → layA l n W r = some (some (W', r')) → LaidW l W' ∧ r ≤ r' ∧ r' < r + n
  | 0, _, _, _, _, _, _, h => by cases h
  | n + 1, W, r, W', r', hW, h2, h => by
    rw [layA] at h
    split at h
    · cases h
    · rename_i hbig
      split at h
      · rename_i hfix
        have e := Option.some.inj (Option.some.inj h)
        obtain ⟨rfl, rfl⟩ := Prod.mk.inj e
        exact ⟨⟨hW, hfix, by omega, h2⟩, by omega, by omega⟩
      · obtain ⟨a, b, c⟩ := layA_facts hI (nextA_len hW) (h2.next hW hI) h
        exact ⟨a, by omega, by omega⟩
theorem wide_none (l : List AI) : Wide200 l (List.replicate l.length false) := by
  rintro ⟨i, hi⟩
  have := List.eq_of_mem_replicate (List.mem_of_getElem? hi)
  cases this
theorem goA_some (l : List AI) : ∃ o, goA l = some o := by
  have := layA_some l (l.length + 1) (List.replicate l.length false) 1 (by simp) (by rw [narrowN_all]; omega)
  unfold goA
  exact Option.isSome_iff_exists.1 this
theorem lay_cases (l : List AI) : (∃ e : Int, e ≠ 0 ∧ e ≤ 100 ∧ 0 ≤ e ∧ layR l = .tup [noLaid, .int .i64 e]) ∨
    ∃ (W : List Bool) (r : Int), LaidW l W ∧ (1 ≤ r ∧ r ≤ l.length + 1) ∧ (∀ x ∈ l, rightA x) ∧ (∀ x ∈ l, x.kind = 2 → cntA l x.label = 1) ∧ checkA l = 0 ∧ goA l = some (some (W, r)) ∧ layR l = .tup [laidP (bytT l W l.length) (atsA l W) (szsA l W) r, .int .i64 0] := by
  by_cases hc : checkA l = 0
  · obtain ⟨hr, h1⟩ := checkA_ok hc
    obtain ⟨o, ho⟩ := goA_some l
    have e : layR l = outA l (goA l) := by unfold layR; rw [if_neg (not_not_intro hc)]
    rw [ho] at e
    cases o with
    | none => exact .inl ⟨82, by decide, by decide, by decide, e⟩
    | some p =>
      obtain ⟨W, r⟩ := p
      have ho' := ho
      unfold goA at ho'
      obtain ⟨a, b, c⟩ := layA_facts (fun x hx => rightA_it (hr x hx)) (by simp) (wide_none l) ho'
      exact .inr ⟨W, r, a, ⟨b, by omega⟩, hr, h1, hc, ho, e⟩
  · refine .inl ⟨checkA l, hc, ?_, ?_, by unfold layR; rw [if_pos hc]⟩ <;> (unfold checkA; split; omega; split <;> omega)

theorem byL_l (i : IN) : (byL i).length = if 48 ≤ i.form then 4 else 2 := by
  unfold byL
  split <;> rfl
theorem bytI_nop (k : Nat) : (bytI (List.replicate k nopI)).length = 2 * k := by
  induction k with
  | zero => rfl
  | succ k ih =>
    have e : bytI (List.replicate (k + 1) nopI) = byL nopI ++ bytI (List.replicate k nopI) := by rw [List.replicate_succ]; rfl
    rw [e, List.length_append, ih, byL_l, if_neg (by decide)]; omega
theorem insts_bytes {x : AI} (hr : rightA x) (w : Bool) (n a : Int) (ha : 0 ≤ a ∧ a % 2 = 0) : ((bytI (instsA x w n (bytesA x w a))).length : Int) = bytesA x w a := by
  have hb := bytesA_bd (rightA_it hr) w ha
  have one : ∀ i : IN, bytI [i] = byL i := fun i => by unfold bytI; simp
  unfold instsA
  split
  · rename_i h1
    rw [one, byL_l]
    unfold bytesA
    rw [if_pos h1]
    split <;> split <;> omega
  split
  · rename_i h1 h2
    rw [one, byL_l]
    unfold bytesA branA
    rw [if_neg h1, if_pos h2]
    by_cases hc : x.cond < 0 <;> cases w <;> simp [hc]
  · rw [bytI_nop]; omega
theorem bytT_at {l : List AI} {W : List Bool} (hW : W.length = l.length) (hr : ∀ x ∈ l, rightA x) : ∀ i, i ≤ l.length → ((bytT l W i).length : Int) = atA l W i
  | 0, _ => rfl
  | i + 1, h => by
    have ih := bytT_at hW hr i (by omega)
    have hx : l[i]? = some l[i] := List.getElem?_eq_getElem (by omega)
    have hw : W[i]? = some W[i] := List.getElem?_eq_getElem (by omega)
    have hb := atA_bd hW (fun x hx => rightA_it (hr x hx)) i (by omega)
    have h2 := insts_bytes (hr l[i] (List.getElem_mem _)) W[i] (farA l W i l[i]) (atA l W i) ⟨hb.1, hb.2.2⟩
    rw [atA_succ hW hx hw, bytT, insI_eq hx hw, List.length_append, Int.natCast_add, ih, h2]
/-- what stands behind an item's bytes -/
theorem bytT_split {l : List AI} {W : List Bool} {i : Nat} : ∀ {n : Nat}, i ≤ n → ∃ q, bytT l W n = bytT l W i ++ q := by
  intro n h
  induction n with
  | zero => obtain rfl : i = 0 := by omega
            exact ⟨[], by simp⟩
  | succ n ih =>
    rcases Nat.eq_or_lt_of_le h with e | e
    · subst e; exact ⟨[], by simp⟩
    · obtain ⟨q, hq⟩ := ih (by omega)
      exact ⟨q ++ bytI (insI l W n), by rw [bytT, hq, List.append_assoc]⟩
/-- where a label stands -/
def labV (l : List AI) (at_ : List Int) (k : Int) : Int := match l.findIdx? (isMark k) with
  | some i => at_.getD i 0
  | none => 0
theorem atsA_getD {l : List AI} {W : List Bool} {i : Nat} (h : i < l.length) : (atsA l W).getD i 0 = atA l W i := by
  rw [List.getD_eq_getElem?_getD, atsA_get h]; rfl
theorem labV_far {l : List AI} {W : List Bool} {i : Nat} {x : AI} (hc : cntA l x.label = 1) : labV l (atsA l W) x.label - atA l W i - 4 = farA l W i x := by
  obtain ⟨m, y, h1, h2, _⟩ := one_mark hc
  unfold labV farA
  rw [h1]
  simp only
  rw [atsA_getD (List.getElem?_eq_some_iff.1 h2).1]

end Go.Proofs.YtjcacjeoddnmhaaDoor.Pw

/- Chapter 8 over values: where a label stands. -/
set_option linter.unusedVariables false
namespace Go.Proofs.YtjcacjeoddnmhaaDoor.Pw
open Go Go.RowKit

def lB (b at_ sz : List Int) (r : Int) : PBlk := ⟨.loc, 44, 1, .w, true, [.sl 1 (u8P b), .sl 1 (intsP at_), .sl 1 (intsP sz), .int .i64 r]⟩
theorem labV_at {l : List AI} {at_ : List Int} {k : Int} {i : Nat} {x : AI} {a : Int} (hx : l[i]? = some x) (hk : isMark k x = true) (hn : ∀ y ∈ l.take i, isMark k y = false) (ha : at_[i]? = some a) : labV l at_ k = a := by
  have hi := (List.getElem?_eq_some_iff.1 hx).1
  have hf : l.findIdx? (isMark k) = some i := by
    rw [List.findIdx?_eq_some_iff_getElem]
    refine ⟨hi, ?_, fun j hj => ?_⟩
    · rw [← (List.getElem?_eq_some_iff.1 hx).2] at hk; exact hk
    · have := hn l[j] (by rw [List.mem_take_iff_getElem]; exact ⟨j, by omega, rfl⟩)
      simp [this]
  unfold labV
  rw [hf]
  simp only
  rw [List.getD_eq_getElem?_getD, ha]; rfl
theorem labV_no {l : List AI} {at_ : List Int} {k : Int} (hn : ∀ y ∈ l, isMark k y = false) : labV l at_ k = 0 := by
  have hf : l.findIdx? (isMark k) = none := List.findIdx?_eq_none_iff.2 hn
  unfold labV
  rw [hf]
set_option maxHeartbeats 4000000 in
set_option maxRecDepth 10000 in
theorem label_pure (l : List AI) (bs at_ sz : List Int) (r : Int) (hl : l.length ≤ 10000) (ha : at_.length = l.length) (k : Int) : PureF gT 18 [laidP bs at_ sz r, .sl 15 (l.map aiP), .int .i64 k] (.tup [.int .i64 (labV l at_ k), .bool (∃ x ∈ l, isMark k x = true)]) := by
  have el : (l.map aiP).length = l.length := List.length_map ..
  have ea : (intsP at_).length = at_.length := intsP_len at_
  refine Spec.enter gTok P18 100 Tryd.func18 rfl (by kernel_rfl) ?_
  refine fun hm => ?_
  refine SW.loopX gTok P18 (by kernel_rfl) (α := {i : Nat // ∀ y ∈ l.take i, isMark k y = false}) (fun i => [(2, .int .i64 k), (3, .ptr 0 0), (10, .sl 15 (l.map aiP)), (11, .int .i64 (l.map aiP).length), (12, .int .i64 i.1)]) (fun i => [lB bs at_ sz r]) (fun i => l.length - i.1) ⟨0, fun y hy => by simp at hy⟩ 60 [some 0] ?_ ?_
  · repeat' first | exact trivial | exact rfl | exact Iff.rfl | refine And.intro ?_ ?_
  rintro ⟨i, hn⟩
  refine And.intro (fun h => ?_) (fun h => ?_)
  · have h' : (i : Int) < ((l.map aiP).length : Nat) := h
    rw [el] at h'
    refine ⟨AI, l, aiP, rfl, show (0 : Int) ≤ (i : Int) by omega, show (i : Int) < (l.length : Int) by omega, fun x hx => ?_⟩
    have hx' : l[i]? = some x := hx
    have nxt : ¬ isMark k x = true → ∀ y ∈ l.take (i + 1), isMark k y = false := fun hne y hy => by
      rw [List.take_add_one, hx', List.mem_append] at hy
      rcases hy with hy | hy
      · exact hn y hy
      · have : y = x := by simpa using hy
        rw [this]; simpa using hne
    refine And.intro (fun k3 => ?_) (fun k3 => ?_)
    · refine And.intro (fun kl => ?_) (fun kl => ?_)
      · have hmk : isMark k x = true := isMark_iff.2 ⟨k3, kl⟩
        refine fun hm2 => ?_
        refine And.intro (fun ki => ?_) (fun ki => ?_)
        · have hai : at_[i]? = some (at_[i]'(by omega)) := List.getElem?_eq_getElem (by omega)
          refine ⟨Int, at_, PV.int .i64, rfl, show (0 : Int) ≤ (i : Int) by omega, show (i : Int) < (at_.length : Int) by omega, fun v hv => ?_⟩
          have hv' : at_[i]? = some v := hv
          exact retE (And.intro (show v = labV l at_ k from (labV_at hx' hmk hn hv').symm) (And.intro (show ∃ x ∈ l, isMark k x = true from ⟨x, List.mem_of_getElem? hx', hmk⟩) trivial))
        · have ki' : ¬ (i : Int) < ((intsP at_).length : Nat) := ki
          exact absurd (show (i : Int) < ((intsP at_).length : Nat) by rw [ea]; omega) ki'
      · refine .inl ⟨inR_i64 (show _ ≤ (i : Int) + 1 ∧ (i : Int) + 1 ≤ _ by omega), ⟨⟨i + 1, nxt fun e => kl (isMark_iff.1 e).2⟩, [some 0], show l.length - (i + 1) < l.length - i by omega, ?_⟩⟩
        repeat' first | exact trivial | exact rfl | exact Iff.rfl | refine And.intro ?_ ?_
    · refine .inl ⟨inR_i64 (show _ ≤ (i : Int) + 1 ∧ (i : Int) + 1 ≤ _ by omega), ⟨⟨i + 1, nxt fun e => k3 (isMark_iff.1 e).1⟩, [some 0], show l.length - (i + 1) < l.length - i by omega, ?_⟩⟩
      repeat' first | exact trivial | exact rfl | exact Iff.rfl | refine And.intro ?_ ?_
  · have h' : ¬ (i : Int) < ((l.map aiP).length : Nat) := h
    rw [el] at h'
    rw [List.take_of_length_le (by omega)] at hn
    exact retE (And.intro (show (0 : Int) = labV l at_ k from (labV_no hn).symm) (And.intro (show ¬ ∃ x ∈ l, isMark k x = true from fun ⟨x, hx, hk⟩ => by rw [hn x hx] at hk; cases hk) trivial))

end Go.Proofs.YtjcacjeoddnmhaaDoor.Pw

/- Chapter 8 over values: items, each one again and again. -/
set_option linter.unusedVariables false
namespace Go.Proofs.YtjcacjeoddnmhaaDoor.Pw
open Go Go.RowKit

/-- how often an item stands -/
def nA (x : AI) (t : Int) : Nat := if x.kind = 1 then (max (min t 300) 1).toNat else 1
def allA (l : List AI) (t : Int) : List AI := l.flatMap fun x => List.replicate (nA x t) x
theorem nA_bd (x : AI) (t : Int) : 1 ≤ nA x t ∧ nA x t ≤ 300 := by unfold nA; split <;> omega
theorem allA_len (l : List AI) (t : Int) : (allA l t).length ≤ 300 * l.length := by
  unfold allA
  induction l with
  | nil => simp
  | cons x l ih =>
    have := nA_bd x t
    rw [List.flatMap_cons, List.length_append, List.length_replicate, List.length_cons]; omega
theorem allA_mem {l : List AI} {t : Int} {x : AI} (h : x ∈ allA l t) : x ∈ l := by
  unfold allA at h
  obtain ⟨y, hy, h⟩ := List.mem_flatMap.1 h
  rw [List.eq_of_mem_replicate h]; exact hy
theorem allA_snoc {l : List AI} {t : Int} {i : Nat} {x : AI} (hx : l[i]? = some x) : allA (l.take (i + 1)) t = allA (l.take i) t ++ List.replicate (nA x t) x := by
  unfold allA
  rw [List.take_add_one, hx, List.flatMap_append]
  simp
def aB (l : List AI) : PBlk := ⟨.dyn, 26, 15, .w, true, l.map aiP⟩
def dB8 (l : List AI) : PBlk := ⟨.dyn, 31, 15, .w, true, l.map aiP⟩
def xB (x : AI) : PBlk := ⟨.loc, 26, 1, .w, true, aiFs x⟩
theorem aiP_snoc (l : List AI) (k : Nat) (x : AI) : (l ++ List.replicate k x).map aiP ++ [aiP x] = (l ++ List.replicate (k + 1) x).map aiP := by
  rw [List.replicate_succ', ← List.append_assoc, List.map_append (l₁ := l ++ List.replicate k x)]; rfl
set_option maxHeartbeats 4000000 in
set_option maxRecDepth 10000 in
theorem all_pure (l : List AI) (t : Int) (hl : l.length ≤ 30) : PureF gT 15 [.sl 15 (l.map aiP), .int .i64 t] (.tup [.sl 15 ((allA l t).map aiP), .sl 15 ((allA l t).map aiP)]) := by
  have el : (l.map aiP).length = l.length := List.length_map ..
  refine Spec.enter gTok P15 100 Tryd.func15 rfl (by kernel_rfl) ?_
  refine fun hm => ?_
  refine SW.loopX gTok P15 (by kernel_rfl) (fun i : Nat => [(1, .int .i64 t), (6, .wref 0), (7, .wref 1), (11, .sl 15 (l.map aiP)), (12, .int .i64 (l.map aiP).length), (13, .int .i64 i)]) (fun i => [aB (allA (l.take i) t), dB8 (allA (l.take i) t)]) (fun i => l.length - i) 0 60 [none, none] ?_ fun i => ?_
  · repeat' first | exact trivial | exact rfl | exact Iff.rfl | refine And.intro ?_ ?_
  refine And.intro (fun h => ?_) (fun h => ?_)
  · have h' : (i : Int) < ((l.map aiP).length : Nat) := h
    rw [el] at h'
    refine ⟨AI, l, aiP, rfl, show (0 : Int) ≤ (i : Int) by omega, show (i : Int) < (l.length : Int) by omega, fun x hx => ?_⟩
    have hx' : l[i]? = some x := hx
    have hs := allA_snoc (t := t) hx'
    have hn := nA_bd x t
    have hln := allA_len (l.take i) t
    have htl : (l.take i).length ≤ 30 := by rw [List.length_take]; omega
    generalize allA (l.take i) t = A at hs hln ⊢
    have ho := aof_pure x
    have hnk1 : x.kind = 1 → max (min t 300) 1 = ((nA x t : Nat) : Int) := fun e => by unfold nA; rw [if_pos e]; omega
    have hnk2 : ¬ x.kind = 1 → (1 : Int) = ((nA x t : Nat) : Int) := fun e => by unfold nA; rw [if_neg e]; rfl
    refine And.intro (fun k1 => ?_) (fun k1 => ?_)
    all_goals
      refine SW.loopX gTok P15 (by kernel_rfl) (α := {k : Nat // k ≤ nA x t}) (fun k => [(1, .int .i64 t), (6, .wref 0), (7, .wref 1), (9, .ptr 2 0), (11, .sl 15 (l.map aiP)), (12, .int .i64 (l.map aiP).length), (13, .int .i64 i), (23, .int .i64 (nA x t : Nat)), (24, .int .i64 k.1)]) (fun k => [aB (A ++ List.replicate k.1 x), dB8 (A ++ List.replicate k.1 x), xB x]) (fun k => nA x t - k.1) ⟨0, Nat.zero_le _⟩ 60 [some 0, some 1, some 2] ?_ ?_
      · repeat' first | exact trivial | exact rfl | exact Iff.rfl | refine And.intro ?_ ?_
        all_goals first | exact hnk1 k1 | exact hnk2 k1 | exact (show A.map aiP = (A ++ List.replicate 0 x).map aiP by rw [List.replicate_zero, List.append_nil])
      rintro ⟨k, hkn⟩
      have eA : ((A ++ List.replicate k x).map aiP).length = A.length + k := by rw [List.length_map, List.length_append, List.length_replicate]
      have b1 : ((A ++ List.replicate k x).map aiP).length + 1 ≤ maxLen := by rw [eA]; unfold maxLen; omega
      have b2 : (((A ++ List.replicate k x).map aiP).length + 1) * 120 ≤ 140737488355328 := by rw [eA]; omega
      refine And.intro (fun hk => ?_) (fun hk => ?_)
      · have hk' : (k : Int) < ((nA x t : Nat) : Int) := hk
        refine ⟨b1, b2, ?_⟩
        refine ⟨[], no_rl, ho.use (by repeat' first | exact trivial | exact rfl | exact Iff.rfl | exact Or.inl rfl | refine And.intro ?_ ?_) rfl rfl ?_⟩
        refine ⟨b1, b2, ?_⟩
        refine .inl ⟨inR_i64 (show _ ≤ (k : Int) + 1 ∧ (k : Int) + 1 ≤ _ by omega), ⟨⟨k + 1, by omega⟩, [some 4, some 6, some 2], show nA x t - (k + 1) < nA x t - k by omega, ?_⟩⟩
        repeat' first | exact trivial | exact rfl | exact Iff.rfl | refine And.intro ?_ ?_
        all_goals exact aiP_snoc A k x
      · have hk' : ¬ (k : Int) < ((nA x t : Nat) : Int) := hk
        obtain rfl : k = nA x t := by omega
        refine .inl ⟨inR_i64 (show _ ≤ (i : Int) + 1 ∧ (i : Int) + 1 ≤ _ by omega), ⟨i + 1, [some 0, some 1], show l.length - (i + 1) < l.length - i by omega, ?_⟩⟩
        repeat' first | exact trivial | exact rfl | exact Iff.rfl | refine And.intro ?_ ?_
        all_goals exact (show (A ++ List.replicate (nA x t) x).map aiP = (allA (l.take (i + 1)) t).map aiP by rw [hs])
  · have h' : ¬ (i : Int) < ((l.map aiP).length : Nat) := h
    rw [el] at h'
    rw [List.take_of_length_le (by omega)]
    exact retE (by repeat' first | exact trivial | exact rfl | exact Iff.rfl | exact Or.inl rfl | refine And.intro ?_ ?_)

end Go.Proofs.YtjcacjeoddnmhaaDoor.Pw

/- AsmWide over values. -/
set_option linter.unusedVariables false
namespace Go.Proofs.YtjcacjeoddnmhaaDoor.Pw
open Go Go.RowKit

theorem LaidW.bytes {l : List AI} {W : List Bool} (h : LaidW l W) (hr : ∀ x ∈ l, rightA x) : ((bytT l W l.length).length : Int) = endA l W 0 := by
  rw [bytT_at h.len hr l.length (Nat.le_refl _), atA_end h.len (Nat.le_refl _)]
theorem wide_key {l : List AI} {W : List Bool} (h : LaidW l W) (hr : ∀ x ∈ l, rightA x) (hl : l.length ≤ 10000) (h1 : ∀ x ∈ l, x.kind = 2 → cntA l x.label = 1) {i : Nat} {x : AI} (hx : l[i]? = some x) (hk : x.kind = 2) :
    (-1 ≤ x.cond) ∧ (atA l W (i + 1) - atA l W i = 2 ∨ atA l W (i + 1) - atA l W i = 4) ∧ (atA l W (i + 1) - atA l W i = 2 → (x.cond = -1 ∧ -2048 ≤ labV l (atsA l W) x.label - atA l W i - 4 ∧ labV l (atsA l W) x.label - atA l W i - 4 ≤ 2046) ∨ (0 ≤ x.cond ∧ -256 ≤ labV l (atsA l W) x.label - atA l W i - 4 ∧ labV l (atsA l W) x.label - atA l W i - 4 ≤ 254)) ∧
    (atA l W (i + 1) - atA l W i = 4 → 200 ≤ ((bytT l W l.length).length : Int)) ∧ (-1000000 ≤ labV l (atsA l W) x.label - atA l W i - 4 ∧ labV l (atsA l W) x.label - atA l W i - 4 ≤ 1000000) := by
  have hi := (List.getElem?_eq_some_iff.1 hx).1
  have hxm := List.mem_of_getElem? hx
  obtain ⟨w, hw⟩ : ∃ w, W[i]? = some w := ⟨_, List.getElem?_eq_getElem (by rw [h.len]; exact hi)⟩
  have hf := farA_bd h.len (fun x hx => rightA_it (hr x hx)) hl (Nat.le_of_lt hi) x
  have hq := ((rightA_2 hk).1 (hr x hxm)).2.2.1
  have hg := nextA_get hx hw
  rw [h.fix, hw] at hg
  have hnb := Option.some.inj hg
  rw [labV_far (W := W) (i := i) (h1 x hxm hk), atA_succ h.len hx hw, h.bytes hr, show atA l W i + bytesA x w (atA l W i) - atA l W i = bytesA x w (atA l W i) by omega]
  have eb : bytesA x w (atA l W i) = if w then 4 else 2 := by unfold bytesA; rw [if_neg (by omega), if_pos hk]
  rw [eb]
  cases w with
  | true =>
    have := h.wide ⟨i, hw⟩
    refine ⟨hq.1, .inr rfl, fun e => absurd e (by decide), fun _ => this, hf.2⟩
  | false =>
    unfold nextB at hnb
    rw [decide_eq_true hk] at hnb
    have hs : shortA x.cond (farA l W i x) = true := by simpa using hnb.symm
    unfold shortA at hs
    refine ⟨hq.1, .inl rfl, fun _ => ?_, fun e => absurd e (by decide), hf.2⟩
    split at hs
    · have := of_decide_eq_true hs
      exact .inl (by omega)
    · have := of_decide_eq_true hs
      exact .inr (by omega)
theorem labV_bd {l : List AI} {W : List Bool} (hW : W.length = l.length) (hr : ∀ x ∈ l, rightA x) (hl : l.length ≤ 10000) (k : Int) : 0 ≤ labV l (atsA l W) k ∧ labV l (atsA l W) k ≤ 1000000 := by
  unfold labV
  split
  · rename_i m hm
    have hml : m < l.length := (List.findIdx?_eq_some_iff_getElem.1 hm).1
    rw [atsA_getD hml]
    have := atA_bd hW (fun x hx => rightA_it (hr x hx)) m (by omega)
    omega
  · omega
set_option maxHeartbeats 8000000 in
set_option maxRecDepth 10000 in
theorem AsmWide_pure (l : List AI) (hA : ∀ x ∈ l, AOk x) (t : Int) : PureF gT 6 [.sl 15 (l.map aiP), .int .i64 t] .tt := by
  have el : (l.map aiP).length = l.length := List.length_map ..
  refine Spec.enter gTok P6 100 Tryd.func6 rfl (by kernel_rfl) ?_
  refine ⟨[], no_rl, anchor08_pure.use (by repeat' first | exact trivial | exact rfl | exact Iff.rfl | exact Or.inl rfl | refine And.intro ?_ ?_) rfl rfl ?_⟩
  refine fun hm => ?_
  refine And.intro (fun h30 => ?_) (fun h30 => ?_)
  · (refine retE ?_; repeat' first | exact trivial | exact rfl | exact Iff.rfl | exact Or.inl rfl | refine And.intro ?_ ?_)
  have h30' : ¬ (30 : Int) < ((l.map aiP).length : Nat) := h30
  rw [el] at h30'
  refine ⟨[], no_rl, (all_pure l t (by omega)).use (by repeat' first | exact trivial | exact rfl | exact Iff.rfl | exact Or.inl rfl | refine And.intro ?_ ?_) rfl rfl ?_⟩
  have hn := allA_len l t
  have hmem : ∀ x ∈ allA l t, AOk x := fun x hx => hA x (allA_mem hx)
  generalize allA l t = a at hn hmem ⊢
  have hal : a.length ≤ 10000 := by omega
  have ea : (a.map aiP).length = a.length := List.length_map ..
  have hlay := lay_pure a hal fun x hx => ⟨(hmem x hx).inst, (hmem x hx).to_⟩
  rcases lay_cases a with ⟨e, he, _, _, hR⟩ | ⟨W, r, hW, hr, hri, h1, _, _, hR⟩
  · rw [hR] at hlay
    refine ⟨[], no_rl, hlay.use (by repeat' first | exact trivial | exact rfl | exact Iff.rfl | exact Or.inl rfl | refine And.intro ?_ ?_) rfl rfl ?_⟩
    refine And.intro (fun h => ?_) (fun h => absurd he h)
    refine retE ?_
    exact (show e ≠ 0 from he)
  · rw [hR] at hlay
    have hby := hW.bytes hri
    have els : (intsP (szsA a W)).length = a.length := by rw [intsP_len, szsA_len]
    have key := fun {i x} (hx : a[i]? = some x) hk => wide_key hW hri hal h1 hx hk
    have hlab := labV_bd hW.len hri hal
    have hat := fun {i : Nat} (h : i ≤ a.length) => atA_bd hW.len (fun x hx => rightA_it (hri x hx)) i h
    have hl0 := fun bs k => label_pure a bs (atsA a W) (szsA a W) r hal (atsA_len a W) k
    generalize hbs : bytT a W a.length = bs at hlay hby key
    have ebs : (u8P bs).length = bs.length := u8P_len bs
    refine ⟨[], no_rl, hlay.use (by repeat' first | exact trivial | exact rfl | exact Iff.rfl | exact Or.inl rfl | refine And.intro ?_ ?_) rfl rfl ?_⟩
    refine And.intro (fun h => absurd rfl h) (fun _ => ?_)
    refine fun hm2 => ?_
    refine fun hm3 => ?_
    refine And.intro (fun h => absurd (show (((intsP (szsA a W)).length : Nat) : Int) = ((a.map aiP).length : Nat) by rw [els, ea]) h) (fun _ => ?_)
    refine fun hm4 => ?_
    refine SW.loopX gTok P6 (by kernel_rfl) (fun i : Nat => [(5, .sl 15 (a.map aiP)), (7, .ptr 0 0), (43, .sl 15 (a.map aiP)), (44, .int .i64 (a.map aiP).length), (45, .int .i64 i)]) (fun i => [lB bs (atsA a W) (szsA a W) r]) (fun i => a.length - i) 0 60 [some 0] ?_ fun i => ?_
    · repeat' first | exact trivial | exact rfl | exact Iff.rfl | refine And.intro ?_ ?_
    refine And.intro (fun h => ?_) (fun h => ?_)
    · have h' : (i : Int) < ((a.map aiP).length : Nat) := h
      rw [ea] at h'
      refine ⟨AI, a, aiP, rfl, show (0 : Int) ≤ (i : Int) by omega, show (i : Int) < (a.length : Int) by omega, fun x hx => ?_⟩
      have hx' : a[i]? = some x := hx
      refine And.intro (fun k2 => ?_) (fun k2 => ?_)
      · refine .inl ⟨inR_i64 (show _ ≤ (i : Int) + 1 ∧ (i : Int) + 1 ≤ _ by omega), ⟨i + 1, [some 0], show a.length - (i + 1) < a.length - i by omega, ?_⟩⟩
        repeat' first | exact trivial | exact rfl | exact Iff.rfl | refine And.intro ?_ ?_
      have k2' : x.kind = 2 := Classical.not_not.1 k2
      refine ⟨[], no_rl, (hl0 bs x.label).use (by repeat' first | exact trivial | exact rfl | exact Iff.rfl | exact Or.inl rfl | refine And.intro ?_ ?_) rfl rfl ?_⟩
      have ky := key hx' k2'
      have hlb := hlab x.label
      have ha1 := hat (i := i) (by omega)
      have ga := atsA_get (l := a) (W := W) (i := i) (by omega)
      have gs := szsA_get (l := a) (W := W) (i := i) (by omega)
      generalize labV a (atsA a W) x.label = L at ky hlb ⊢
      generalize atA a W (i + 1) - atA a W i = sz at ky gs
      generalize atA a W i = ai at ky ha1 ga
      refine ⟨Int, atsA a W, PV.int .i64, rfl, show (0 : Int) ≤ (i : Int) by omega, show (i : Int) < ((atsA a W).length : Int) by rw [atsA_len]; omega, fun v hv => ?_⟩
      obtain rfl : ai = v := Option.some.inj (ga.symm.trans hv)
      refine .inl ⟨inR_i64 (show _ ≤ L - ai ∧ L - ai ≤ _ by omega), ?_⟩
      refine .inl ⟨inR_i64 (show _ ≤ L - ai - 4 ∧ L - ai - 4 ≤ _ by omega), ?_⟩
      obtain ⟨q1, q2, q3, q4, _⟩ := ky
      have bi0 : (0 : Int) ≤ (i : Int) := by omega
      have bis : (i : Int) < ((szsA a W).length : Int) := by rw [szsA_len]; omega
      have bir := inR_i64 (show _ ≤ (i : Int) + 1 ∧ (i : Int) + 1 ≤ _ by omega)
      have bmu : a.length - (i + 1) < a.length - i := by omega
      rw [← ebs] at q4
      clear key hl0 hlay hn hmem hR hri h1 hW hby hbs hat hlab els ha1 ga hlb h30 h30' el hA hr
      repeat' (first
        | exact trivial
        | (refine ⟨Int, szsA a W, PV.int .i64, rfl, bi0, bis, fun v hv => ?_⟩; obtain rfl : sz = v := Option.some.inj (gs.symm.trans hv))
        | refine .inl ⟨bir, ⟨i + 1, [some 0], bmu, ?_⟩⟩
        | refine And.intro (fun _ => ?_) (fun _ => ?_)
        | (refine fun (_ : (u8P bs).length ≤ maxLen) => ?_)
        | exact rfl
        | exact Iff.rfl
        | refine And.intro ?_ ?_
        | (exfalso; omega))
    · have h' : ¬ (i : Int) < ((a.map aiP).length : Nat) := h
      refine And.intro (fun h2 => ?_) (fun h2 => ?_)
      · refine fun hm5 => ?_
        refine .inl ⟨inR_i64 (show _ ≤ ((a.map aiP).length : Int) + 1 ∧ ((a.map aiP).length : Int) + 1 ≤ _ by rw [ea]; omega), ?_⟩
        refine retE ?_
        exact (show r ≤ ((a.map aiP).length : Int) + 1 by rw [ea]; exact hr.2)
      · exact absurd hr.1 h2

end Go.Proofs.YtjcacjeoddnmhaaDoor.Pw

/- What comes in to chapter 8's laws, opened. -/
set_option linter.unusedVariables false
namespace Go.Proofs.YtjcacjeoddnmhaaDoor.Pw
open Go Go.RowKit

def SItem (x : PV) : Prop := ∃ a : AI, AOk a ∧ x = aiP a
theorem item_dec (x : PV) (h : SAgg [SInt .i64, SIN, SInt .i64, SInt .i64, SInt .i64] x) : SItem x := by
  obtain ⟨xs, h, rfl⟩ := h
  obtain ⟨_, _, rfl, ⟨k, bk, rfl⟩, h_1⟩ := all2_cons h
  obtain ⟨_, _, rfl, ⟨i, hi, rfl⟩, h_2⟩ := all2_cons h_1
  obtain ⟨_, _, rfl, ⟨c, bc, rfl⟩, h_3⟩ := all2_cons h_2
  obtain ⟨_, _, rfl, ⟨l, bl, rfl⟩, h_4⟩ := all2_cons h_3
  obtain ⟨_, _, rfl, ⟨t, bt, rfl⟩, h_5⟩ := all2_cons h_4
  obtain rfl := all2_nil h_5
  exact ⟨⟨k, i, c, l, t⟩, ⟨hi, inR_i64c bk, inR_i64c bc, inR_i64c bl, inR_i64c bt⟩, rfl⟩
theorem opItem_ : Op Tryd.prog 26 (SAgg [SInt .i64, SIN, SInt .i64, SInt .i64, SInt .i64]) :=
  opAgg (Ss := [SInt .i64, SIN, SInt .i64, SInt .i64, SInt .i64]) Tryd.underlying26
    ⟨rfl, opI64c, (show _ = _ by kernel_rfl), opIN, (show _ = _ by kernel_rfl), opI64c, (show _ = _ by kernel_rfl), opI64c, (show _ = _ by kernel_rfl), opI64c, (show _ = _ by kernel_rfl)⟩
theorem opItem : Op Tryd.prog 26 SItem := opItem_.weak item_dec
abbrev SItems := SLs 15 120 aiP AOk
theorem opItems : Op Tryd.prog 37 SItems :=
  opList (opSlice opItem 15 120 (by kernel_rfl) Tryd.underlying37 (by kernel_rfl) (by decide) (by kernel_rfl)) fun x ⟨a, h, e⟩ => ⟨a, h, e⟩

end Go.Proofs.YtjcacjeoddnmhaaDoor.Pw

/- AsmWide as its frame wants it. -/
namespace Go.Proofs.YtjcacjeoddnmhaaDoor.Pw
open Go Go.RowKit

theorem AsmWide_pure' (x : PV) (s : SItems x) (y : PV) (t : SInt .i64 y) : PureF gT 6 [x, y] .tt := by
  obtain ⟨l, h1, h2, rfl⟩ := s
  obtain ⟨n, hn, rfl⟩ := t
  exact AsmWide_pure l h2 n

end Go.Proofs.YtjcacjeoddnmhaaDoor.Pw

/- Chapter 8: the instructions that are read off a program that is laid. -/
set_option linter.unusedVariables false
namespace Go.Proofs.YtjcacjeoddnmhaaDoor.Pw
open Go Go.RowKit

theorem bytI_ok (l : List IN) : BOk (bytI l) := fun z hz => by
  unfold bytI at hz
  obtain ⟨i, _, h⟩ := List.mem_flatMap.1 hz
  exact byL_okA i z h
theorem bytT_ok (l : List AI) (W : List Bool) : ∀ n, BOk (bytT l W n)
  | 0 => fun z hz => by simp [bytT] at hz
  | n + 1 => fun z hz => by
    rw [bytT, List.mem_append] at hz
    exact hz.elim (bytT_ok l W n z) (bytI_ok _ z)
theorem at_item {l : List AI} {W : List Bool} {i : Nat} (hi : i < l.length) {pre post : List IN} {x : IN} (h : insI l W i = pre ++ x :: post) (hx : rightV x ∧ IOk x) :
    atI (bytT l W l.length) ((bytT l W i).length + (bytI pre).length) = x ∧ atE (bytT l W l.length) ((bytT l W i).length + (bytI pre).length) = 0 := by
  obtain ⟨q, hq⟩ := bytT_split (l := l) (W := W) (i := i + 1) (n := l.length) (by omega)
  have e : bytT l W l.length = (bytT l W i ++ bytI pre) ++ byL x ++ (bytI post ++ q) := by
    have e2 : bytI (pre ++ x :: post) = bytI pre ++ (byL x ++ bytI post) := by unfold bytI; rw [List.flatMap_append, List.flatMap_cons]
    rw [hq, bytT, h, e2]
    simp only [List.append_assoc]
  rw [e, ← List.length_append]
  exact at_mid _ _ x hx.1 ((hx.2 x.regs (by simp [inLs])).2)
theorem bytT_mono {l : List AI} {W : List Bool} {i n : Nat} (h : i ≤ n) : (bytT l W i).length ≤ (bytT l W n).length := by
  obtain ⟨q, hq⟩ := bytT_split (l := l) (W := W) h
  rw [hq, List.length_append]; omega
/-- what is read where a jump stands -/
theorem at_jump {l : List AI} {W : List Bool} (h : LaidW l W) (hr : ∀ x ∈ l, rightA x) (hio : ∀ x ∈ l, IOk x.inst) (hl : l.length ≤ 10000) (h1 : ∀ x ∈ l, x.kind = 2 → cntA l x.label = 1) {i : Nat} {x : AI} (hx : l[i]? = some x) (hk : x.kind = 2) :
    ∃ f n c : Int, PureF gT 17 [.sl 1 (u8P (bytT l W l.length)), .int .i64 (atA l W i)] (.tup [inP ⟨f, 0, 0, 0, 0, n, 0, 0, 0, c, 0⟩, .int .i64 0]) ∧
      (f = 47 ∨ f = 46 ∨ f = 100 ∨ f = 99) ∧ ((f = 47 ∨ f = 100) ∨ c = x.cond) ∧ sizeV f = atA l W (i + 1) - atA l W i ∧ n = labV l (atsA l W) x.label - atA l W i - 4 := by
  have hi := (List.getElem?_eq_some_iff.1 hx).1
  have hxm := List.mem_of_getElem? hx
  obtain ⟨w, hw⟩ : ∃ w, W[i]? = some w := ⟨_, List.getElem?_eq_getElem (by rw [h.len]; exact hi)⟩
  have hq := ((rightA_2 hk).1 (hr x hxm)).2.2.1
  have ei : insI l W i = [] ++ branA x.cond w (farA l W i x) :: [] := by rw [insI_eq hx hw]; unfold instsA; rw [if_neg (by omega), if_pos hk]; rfl
  have hri := insI_right h.len hr hio hl h.fix i (branA x.cond w (farA l W i x)) (by rw [ei]; simp)
  have hat := at_item hi ei hri
  have hlen := bytT_at h.len hr i (by omega)
  have hmono := bytT_mono (l := l) (W := W) (i := i) (n := l.length) (by omega)
  have hbig := bytT_len hr h.len l.length
  have hin := at_in (bytT l W l.length) (bytT l W i).length (bytT_ok l W _) (by unfold maxLen; omega) hmono
  rw [show (bytT l W i).length + (bytI []).length = (bytT l W i).length from rfl] at hat
  rw [hat.1, hat.2, hlen] at hin
  refine ⟨_, _, _, hin, ?_, ?_, ?_, ?_⟩
  · show ((if w then 100 else 47) - (if x.cond < 0 then 0 else 1) : Int) = 47 ∨ _
    cases w <;> by_cases hc : x.cond < 0 <;> simp [hc]
  · by_cases hc : x.cond < 0
    · refine .inl ?_
      cases w <;> simp [branA, hc]
    · exact .inr (show max x.cond 0 = x.cond by omega)
  · rw [atA_succ h.len hx hw]
    have eb : bytesA x w (atA l W i) = if w then 4 else 2 := by unfold bytesA; rw [if_neg (by omega), if_pos hk]
    rw [eb]
    cases w <;> by_cases hc : x.cond < 0 <;> simp [branA, hc, sizeV] <;> omega
  · exact (labV_far (h1 x hxm hk)).symm
/-- what is read where a program is padded -/
theorem at_pad {l : List AI} {W : List Bool} (h : LaidW l W) (hr : ∀ x ∈ l, rightA x) (hio : ∀ x ∈ l, IOk x.inst) (hl : l.length ≤ 10000) {i : Nat} {x : AI} (hx : l[i]? = some x) (hk : x.kind = 4) :
    (∀ j : Nat, (atA l W i + 2 * j : Int) < atA l W (i + 1) → PureF gT 17 [.sl 1 (u8P (bytT l W l.length)), .int .i64 (atA l W i + 2 * j)] (.tup [inP nopI, .int .i64 0])) ∧
      (4 ≤ x.to_ ∧ x.to_ ≤ 16) ∧ atA l W (i + 1) % x.to_ = 0 ∧ atA l W (i + 1) - atA l W i < x.to_ := by
  have hi := (List.getElem?_eq_some_iff.1 hx).1
  have hxm := List.mem_of_getElem? hx
  obtain ⟨w, hw⟩ : ∃ w, W[i]? = some w := ⟨_, List.getElem?_eq_getElem (by rw [h.len]; exact hi)⟩
  have hq := ((rightA_4 hk).1 (hr x hxm)).2.2
  have hb := atA_bd h.len (fun x hx => rightA_it (hr x hx)) i (by omega)
  have es := atA_succ h.len hx hw
  have eb : bytesA x w (atA l W i) = (x.to_ - atA l W i % x.to_) % x.to_ := by unfold bytesA; rw [if_neg (by omega), if_neg (by omega), if_pos hk]
  refine ⟨fun j hj => ?_, by omega, ?_, ?_⟩
  · have ei0 : insI l W i = List.replicate (bytesA x w (atA l W i) / 2).toNat nopI := by rw [insI_eq hx hw]; unfold instsA; rw [if_neg (by omega), if_neg (by omega)]
    have hj2 : j < (bytesA x w (atA l W i) / 2).toNat := by
      have b := bytesA_bd (rightA_it (hr x hxm)) w ⟨hb.1, hb.2.2⟩
      omega
    obtain ⟨m, hm⟩ : ∃ m, (bytesA x w (atA l W i) / 2).toNat = j + (m + 1) := ⟨(bytesA x w (atA l W i) / 2).toNat - j - 1, by omega⟩
    have ei : insI l W i = List.replicate j nopI ++ nopI :: List.replicate m nopI := by rw [ei0, hm, ← List.replicate_append_replicate, List.replicate_succ]
    have hri := insI_right h.len hr hio hl h.fix i nopI (by rw [ei]; simp)
    have hat := at_item hi ei hri
    have hlen := bytT_at h.len hr i (by omega)
    have hlen2 := bytT_at h.len hr (i + 1) (by omega)
    have hmono := bytT_mono (l := l) (W := W) (i := i + 1) (n := l.length) (by omega)
    have hbig := bytT_len hr h.len l.length
    rw [bytI_nop] at hat
    have hin := at_in (bytT l W l.length) ((bytT l W i).length + 2 * j) (bytT_ok l W _) (by unfold maxLen; omega) (by omega)
    rw [hat.1, hat.2, show ((((bytT l W i).length + 2 * j : Nat)) : Int) = atA l W i + 2 * j by omega] at hin
    exact hin
  · rw [es, eb]
    rcases hq with e | e | e <;> rw [e] <;> omega
  · rw [es, eb]
    rcases hq with e | e | e <;> rw [e] <;> omega

end Go.Proofs.YtjcacjeoddnmhaaDoor.Pw

/- AsmReaches over values. -/
set_option linter.unusedVariables false
namespace Go.Proofs.YtjcacjeoddnmhaaDoor.Pw
open Go Go.RowKit

theorem labV_bd2 {l : List AI} {W : List Bool} (hW : W.length = l.length) (hr : ∀ x ∈ l, rightA x) (hl : l.length ≤ 10000) (k : Int) : 0 ≤ labV l (atsA l W) k ∧ labV l (atsA l W) k ≤ 1000000 := by
  unfold labV
  split
  · rename_i m hm
    have hml : m < l.length := (List.findIdx?_eq_some_iff_getElem.1 hm).1
    rw [atsA_getD hml]
    have := atA_bd hW (fun x hx => rightA_it (hr x hx)) m (by omega)
    omega
  · omega
theorem mark_some {l : List AI} {k : Int} (h : cntA l k = 1) : ∃ x ∈ l, isMark k x = true := by
  obtain ⟨m, x, _, h2, h3, _⟩ := one_mark h
  exact ⟨x, List.mem_of_getElem? h2, h3⟩
theorem mark_neg {l : List AI} (hr : ∀ x ∈ l, rightA x) : ¬ ∃ x ∈ l, isMark (-1) x = true := fun ⟨x, hx, h⟩ => by
  obtain ⟨k, e⟩ := isMark_iff.1 h
  have := ((rightA_3 k).1 (hr x hx)).2.2
  unfold mayV at this
  omega
set_option maxHeartbeats 8000000 in
set_option maxRecDepth 10000 in
theorem AsmReaches_pure (l : List AI) (hA : ∀ x ∈ l, AOk x) (t : Int) : PureF gT 5 [.sl 15 (l.map aiP), .int .i64 t] .tt := by
  have el : (l.map aiP).length = l.length := List.length_map ..
  refine Spec.enter gTok P5 100 Tryd.func5 rfl (by kernel_rfl) ?_
  refine ⟨[], no_rl, anchor08_pure.use (by repeat' first | exact trivial | exact rfl | exact Iff.rfl | exact Or.inl rfl | refine And.intro ?_ ?_) rfl rfl ?_⟩
  refine fun hm => ?_
  refine And.intro (fun h30 => ?_) (fun h30 => ?_)
  · (refine retE ?_; repeat' first | exact trivial | exact rfl | exact Iff.rfl | exact Or.inl rfl | refine And.intro ?_ ?_)
  have h30' : ¬ (30 : Int) < ((l.map aiP).length : Nat) := h30
  rw [el] at h30'
  refine ⟨[], no_rl, (all_pure l t (by omega)).use (by repeat' first | exact trivial | exact rfl | exact Iff.rfl | exact Or.inl rfl | refine And.intro ?_ ?_) rfl rfl ?_⟩
  have hn := allA_len l t
  have hmem : ∀ x ∈ allA l t, AOk x := fun x hx => hA x (allA_mem hx)
  generalize allA l t = a at hn hmem ⊢
  have hal : a.length ≤ 10000 := by omega
  have ea : (a.map aiP).length = a.length := List.length_map ..
  have hlay := lay_pure a hal fun x hx => ⟨(hmem x hx).inst, (hmem x hx).to_⟩
  rcases lay_cases a with ⟨e, he, _, _, hR⟩ | ⟨W, r, hW, hr, hri, h1, _, _, hR⟩
  · rw [hR] at hlay
    refine ⟨[], no_rl, hlay.use (by repeat' first | exact trivial | exact rfl | exact Iff.rfl | exact Or.inl rfl | refine And.intro ?_ ?_) rfl rfl ?_⟩
    refine And.intro (fun h => ?_) (fun h => absurd he h)
    refine retE ?_
    exact (show e ≠ 0 from he)
  · rw [hR] at hlay
    have els : (intsP (szsA a W)).length = a.length := by rw [intsP_len, szsA_len]
    have ela : (intsP (atsA a W)).length = a.length := by rw [intsP_len, atsA_len]
    have hlab := labV_bd2 hW.len hri hal
    have hat := fun {i : Nat} (h : i ≤ a.length) => atA_bd hW.len (fun x hx => rightA_it (hri x hx)) i h
    have hl0 := fun bs k => label_pure a bs (atsA a W) (szsA a W) r hal (atsA_len a W) k
    have hjump := fun {i x} (hx : a[i]? = some x) hk => at_jump hW hri (fun x hx => (hmem x hx).inst) hal h1 hx hk
    have hpad := fun {i x} (hx : a[i]? = some x) hk => at_pad hW hri (fun x hx => (hmem x hx).inst) hal hx hk
    generalize hbs : bytT a W a.length = bs at hlay hjump hpad
    refine ⟨[], no_rl, hlay.use (by repeat' first | exact trivial | exact rfl | exact Iff.rfl | exact Or.inl rfl | refine And.intro ?_ ?_) rfl rfl ?_⟩
    refine And.intro (fun h => absurd rfl h) (fun _ => ?_)
    refine fun hm1 => ?_
    refine fun hm2 => ?_
    refine And.intro (fun h => absurd (show (((intsP (atsA a W)).length : Nat) : Int) = ((a.map aiP).length : Nat) by rw [ela, ea]) h) (fun _ => ?_)
    refine fun hm3 => ?_
    refine fun hm4 => ?_
    refine And.intro (fun h => absurd (show (((intsP (szsA a W)).length : Nat) : Int) = ((a.map aiP).length : Nat) by rw [els, ea]) h) (fun _ => ?_)
    refine fun hm5 => ?_
    refine SW.loopX gTok P5 (by kernel_rfl) (fun i : Nat => [(5, .sl 15 (a.map aiP)), (7, .ptr 0 0), (57, .sl 15 (a.map aiP)), (58, .int .i64 (a.map aiP).length), (59, .int .i64 i)]) (fun i => [lB bs (atsA a W) (szsA a W) r]) (fun i => a.length - i) 0 60 [some 0] ?_ fun i => ?_
    · repeat' first | exact trivial | exact rfl | exact Iff.rfl | refine And.intro ?_ ?_
    refine And.intro (fun h => ?_) (fun h => ?_)
    · have h' : (i : Int) < ((a.map aiP).length : Nat) := h
      rw [ea] at h'
      refine ⟨AI, a, aiP, rfl, show (0 : Int) ≤ (i : Int) by omega, show (i : Int) < (a.length : Int) by omega, fun x hx => ?_⟩
      have hx' : a[i]? = some x := hx
      have ha1 := hat (i := i) (by omega)
      have ha2 := hat (i := i + 1) (by omega)
      have hmn := atA_mono hW.len (fun x hx => rightA_it (hri x hx)) i (i + 1) (by omega) (by omega)
      have ga := atsA_get (l := a) (W := W) (i := i) (by omega)
      have gs := szsA_get (l := a) (W := W) (i := i) (by omega)
      have bi0 : (0 : Int) ≤ (i : Int) := by omega
      have bis : (i : Int) < ((szsA a W).length : Int) := by rw [szsA_len]; omega
      have bia : (i : Int) < ((atsA a W).length : Int) := by rw [atsA_len]; omega
      have bir := inR_i64 (show _ ≤ (i : Int) + 1 ∧ (i : Int) + 1 ≤ _ by omega)
      have bmu : a.length - (i + 1) < a.length - i := by omega
      refine And.intro (fun k4 => ?_) (fun k4 => ?_)
      · have k4' : x.kind = 4 := k4
        obtain ⟨hp, p1, p2, p3⟩ := hpad hx' k4'
        generalize atA a W (i + 1) = an at gs hp p2 p3 ha2 hmn
        generalize atA a W i = ai at gs ga hp p3 ha1 hmn
        refine ⟨Int, atsA a W, PV.int .i64, rfl, bi0, bia, fun v hv => ?_⟩; obtain rfl : ai = v := Option.some.inj (ga.symm.trans hv)
        refine ⟨Int, szsA a W, PV.int .i64, rfl, bi0, bis, fun v hv => ?_⟩; obtain rfl : an - ai = v := Option.some.inj (gs.symm.trans hv)
        refine .inl ⟨inR_i64 (show _ ≤ ai + (an - ai) ∧ ai + (an - ai) ≤ _ by omega), ?_⟩
        rw [show ai + (an - ai) = an by omega]
        refine And.intro (show x.to_ ≠ 0 by omega) (.inl ⟨show 0 ≤ an by omega, show 0 < x.to_ by omega, ?_⟩)
        refine And.intro (fun h => absurd p2 h) (fun _ => ?_)
        refine ⟨Int, szsA a W, PV.int .i64, rfl, bi0, bis, fun v hv => ?_⟩; obtain rfl : an - ai = v := Option.some.inj (gs.symm.trans hv)
        refine And.intro (fun h => absurd (show x.to_ ≤ an - ai from h) (by omega)) (fun _ => ?_)
        refine ⟨Int, atsA a W, PV.int .i64, rfl, bi0, bia, fun v hv => ?_⟩; obtain rfl : ai = v := Option.some.inj (ga.symm.trans hv)
        refine SW.loopX gTok P5 (by kernel_rfl) (α := {j : Nat // ai + 2 * j ≤ an}) (fun j => [(5, .sl 15 (a.map aiP)), (7, .ptr 0 0), (9, .int .i64 i), (10, .ptr 1 0), (11, .int .i64 an), (12, .int .i64 (ai + 2 * j.1)), (57, .sl 15 (a.map aiP)), (58, .int .i64 (a.map aiP).length), (59, .int .i64 i)]) (fun j => [lB bs (atsA a W) (szsA a W) r, xB x]) (fun j => 100 - j.1) ⟨0, by omega⟩ 60 [some 0, some 1] ?_ ?_
        · repeat' first | exact trivial | exact rfl | exact Iff.rfl | refine And.intro ?_ ?_
          all_goals exact (show ai = ai + 2 * ((0 : Nat) : Int) by omega)
        rintro ⟨j, hj⟩
        refine And.intro (fun hlt => ?_) (fun hlt => ?_)
        · have hlt' : ai + 2 * (j : Int) < an := hlt
          refine ⟨[], no_rl, (hp j hlt').use (by repeat' first | exact trivial | exact rfl | exact Iff.rfl | exact Or.inl rfl | refine And.intro ?_ ?_) rfl rfl ?_⟩
          refine And.intro (fun h => absurd rfl h) (fun _ => ?_)
          refine And.intro (fun h => absurd (by repeat' first | exact trivial | exact rfl | refine And.intro ?_ ?_) h) (fun _ => ?_)
          refine .inl ⟨inR_i64 (show _ ≤ ai + 2 * (j : Int) + 2 ∧ ai + 2 * (j : Int) + 2 ≤ _ by omega), ⟨⟨j + 1, by omega⟩, [some 0, some 1], show 100 - (j + 1) < 100 - j by omega, ?_⟩⟩
          repeat' first | exact trivial | exact rfl | exact Iff.rfl | refine And.intro ?_ ?_
          all_goals exact (show ai + 2 * (j : Int) + 2 = ai + 2 * ((j + 1 : Nat) : Int) by omega)
        · refine And.intro (fun _ => ?_) (fun k2 => absurd k4' (by have k2' : x.kind = 2 := Classical.not_not.1 k2; omega))
          refine .inl ⟨bir, ⟨i + 1, [some 0], bmu, ?_⟩⟩
          repeat' first | exact trivial | exact rfl | exact Iff.rfl | refine And.intro ?_ ?_
      · have k4' : ¬ x.kind = 4 := k4
        refine And.intro (fun k2 => ?_) (fun k2 => ?_)
        · refine .inl ⟨bir, ⟨i + 1, [some 0], bmu, ?_⟩⟩
          repeat' first | exact trivial | exact rfl | exact Iff.rfl | refine And.intro ?_ ?_
        · have k2' : x.kind = 2 := Classical.not_not.1 k2
          obtain ⟨f, n, c, hj, j1, j2, j3, j4⟩ := hjump hx' k2'
          have hmk := mark_some (h1 x (List.mem_of_getElem? hx') k2')
          have hlb := hlab x.label
          have hlq := hl0 bs x.label
          generalize labV a (atsA a W) x.label = L at hlb hlq j4
          generalize atA a W (i + 1) = an at gs j3 ha2 hmn
          generalize atA a W i = ai at gs ga j3 j4 ha1 hj hmn
          refine ⟨Int, atsA a W, PV.int .i64, rfl, bi0, bia, fun v hv => ?_⟩; obtain rfl : ai = v := Option.some.inj (ga.symm.trans hv)
          refine ⟨[], no_rl, hj.use (by repeat' first | exact trivial | exact rfl | exact Iff.rfl | exact Or.inl rfl | refine And.intro ?_ ?_) rfl rfl ?_⟩
          refine And.intro ?_ ?_
          rotate_left
          · repeat' (first
              | (refine ⟨Int, atsA a W, PV.int .i64, rfl, bi0, bia, fun v hv => ?_⟩; obtain rfl : ai = v := Option.some.inj (ga.symm.trans hv))
              | refine ⟨[], no_rl, hj.use (And.intro rfl (And.intro rfl trivial)) rfl rfl ?_⟩
              | ((conv => whnf); refine ⟨[], no_rl, hj.use (And.intro rfl (And.intro rfl trivial)) rfl rfl ?_⟩)
              | exact rfl
              | exact trivial
              | refine And.intro ?_ ?_
              | ((conv => whnf); exact trivial))
          refine ⟨[], no_rl, hlq.use (by repeat' first | exact trivial | exact rfl | exact Iff.rfl | exact Or.inl rfl | refine And.intro ?_ ?_) rfl rfl ?_⟩
          have hib := ibytes_pure ⟨f, 0, 0, 0, 0, n, 0, 0, 0, c, 0⟩
          have hbp := branch_pure ⟨f, 0, 0, 0, 0, n, 0, 0, 0, c, 0⟩
          have hbr : branchV f := by unfold branchV; omega
          have b4 : InR .i64 (ai + 4) := inR_i64 (by omega)
          have b5 : InR .i64 (ai + 4 + n) := inR_i64 (by omega)
          have q5 : ai + 4 + n = L := by omega
          refine And.intro (fun h => absurd rfl h) (fun _ => ?_)
          refine And.intro (fun h => absurd hmk h) (fun _ => ?_)
          refine ⟨Int, atsA a W, PV.int .i64, rfl, bi0, bia, fun v hv => ?_⟩; obtain rfl : ai = v := Option.some.inj (ga.symm.trans hv)
          refine .inl ⟨b4, ?_⟩
          refine .inl ⟨b5, ?_⟩
          refine And.intro (fun h => absurd q5 h) (fun _ => ?_)
          refine ⟨Int, szsA a W, PV.int .i64, rfl, bi0, bis, fun v hv => ?_⟩; obtain rfl : an - ai = v := Option.some.inj (gs.symm.trans hv)
          refine ⟨[], no_rl, hib.use (by repeat' first | exact trivial | exact rfl | exact Iff.rfl | exact Or.inl rfl | refine And.intro ?_ ?_) rfl rfl ?_⟩
          refine And.intro (fun h => absurd j3 h) (fun _ => ?_)
          refine ⟨[], no_rl, hbp.use (by repeat' first | exact trivial | exact rfl | exact Iff.rfl | exact Or.inl rfl | refine And.intro ?_ ?_) rfl rfl ?_⟩
          refine And.intro (fun h => absurd hbr h) (fun _ => ?_)
          refine And.intro (fun f1 => ?_) (fun f1 => ?_)
          · have f1' : ¬ f = 47 := f1
            refine And.intro (fun f2 => ?_) (fun f2 => ?_)
            · have f2' : ¬ f = 100 := f2
              have e : c = x.cond := by omega
              refine And.intro (fun h => absurd e h) (fun _ => ?_)
              refine .inl ⟨bir, ⟨i + 1, [some 0], bmu, ?_⟩⟩
              repeat' first | exact trivial | exact rfl | exact Iff.rfl | refine And.intro ?_ ?_
            · refine .inl ⟨bir, ⟨i + 1, [some 0], bmu, ?_⟩⟩
              repeat' first | exact trivial | exact rfl | exact Iff.rfl | refine And.intro ?_ ?_
          · refine .inl ⟨bir, ⟨i + 1, [some 0], bmu, ?_⟩⟩
            repeat' first | exact trivial | exact rfl | exact Iff.rfl | refine And.intro ?_ ?_
    · have h' : ¬ (i : Int) < ((a.map aiP).length : Nat) := h
      refine ⟨[], no_rl, (hl0 bs (-1)).use (by repeat' first | exact trivial | exact rfl | exact Iff.rfl | exact Or.inl rfl | refine And.intro ?_ ?_) rfl rfl ?_⟩
      refine retE ?_
      exact mark_neg hri

end Go.Proofs.YtjcacjeoddnmhaaDoor.Pw

/- AsmReaches as its frame wants it. -/
namespace Go.Proofs.YtjcacjeoddnmhaaDoor.Pw
open Go Go.RowKit

theorem AsmReaches_pure' (x : PV) (s : SItems x) (y : PV) (t : SInt .i64 y) : PureF gT 5 [x, y] .tt := by
  obtain ⟨l, h1, h2, rfl⟩ := s
  obtain ⟨n, hn, rfl⟩ := t
  exact AsmReaches_pure l h2 n

end Go.Proofs.YtjcacjeoddnmhaaDoor.Pw

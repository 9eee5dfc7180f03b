/- What the laws of this claim are proved with, joined (join.py) of 6 texts: no condition. -/
import Derived.Test.YtjcacjeoddnmhaaDoorNc20
import Derived.Test.YtjcacjeoddnmhaaDoorNc12
import Derived.Test.YtjcacjeoddnmhaaDoorNc11
import Derived.Test.YtjcacjeoddnmhaaDoorNc19
set_option linter.unusedVariables false
set_option linter.unusedSimpArgs false

/- Chapter 8, plain: eight Nops ahead move a program. -/
set_option linter.unusedVariables false
namespace Go.Proofs.YtjcacjeoddnmhaaDoor.Pw
open Go Go.RowKit

def nopA : AI := ⟨1, nopI, 0, 0, 0⟩
def preL (l : List AI) : List AI := List.replicate 8 nopA ++ l
def preW (W : List Bool) : List Bool := List.replicate 8 false ++ W
theorem nopA_right : rightA nopA := .inl ⟨rfl, ⟨rfl, rfl, rfl⟩, nop_right, by decide⟩
theorem preL_get (l : List AI) (i : Nat) : (preL l)[8 + i]? = l[i]? := by unfold preL; rw [List.getElem?_append_right (by simp)]; simp
theorem preW_get (l : List Bool) (i : Nat) : (preW l)[8 + i]? = l[i]? := by unfold preW; rw [List.getElem?_append_right (by simp)]; simp
theorem preL_len (l : List AI) : (preL l).length = 8 + l.length := by unfold preL; rw [List.length_append, List.length_replicate]
theorem preW_len (l : List Bool) : (preW l).length = 8 + l.length := by unfold preW; rw [List.length_append, List.length_replicate]
theorem preL_mem {l : List AI} {x : AI} : x ∈ preL l ↔ x = nopA ∨ x ∈ l := by
  unfold preL
  rw [List.mem_append, List.mem_replicate]; simp
theorem bytes_16 {x : AI} (h : ItOk x) (w : Bool) (a : Int) : bytesA x w (a + 16) = bytesA x w a := by
  unfold bytesA
  by_cases h1 : x.kind = 1
  · simp only [if_pos h1]
  by_cases h2 : x.kind = 2
  · simp only [if_neg h1, if_pos h2]
  by_cases h4 : x.kind = 4
  · simp only [if_neg h1, if_neg h2, if_pos h4]
    rcases h.to_ h4 with e | e | e <;> rw [e] <;> omega
  · simp only [if_neg h1, if_neg h2, if_neg h4]
theorem endA_16 : ∀ {l : List AI} {W : List Bool} {a : Int}, (∀ x ∈ l, ItOk x) → W.length = l.length → endA l W (a + 16) = endA l W a + 16
  | [], _, _, _, _ => rfl
  | x :: l, [], _, _, h => by cases h
  | x :: l, w :: W, a, hI, hW => by
    show endA l W (a + 16 + bytesA x w (a + 16)) = endA l W (a + bytesA x w a) + 16
    rw [bytes_16 (hI x List.mem_cons_self), show a + 16 + bytesA x w a = a + bytesA x w a + 16 by omega]
    exact endA_16 (fun y hy => hI y (List.mem_cons_of_mem _ hy)) (by simpa using hW)
theorem end_pre {l : List AI} {W : List Bool} (hI : ∀ x ∈ l, ItOk x) (hW : W.length = l.length) : endA (preL l) (preW W) 0 = endA l W 0 + 16 := by
  have e : endA (preL l) (preW W) 0 = endA l W (0 + 16) := rfl
  rw [e]
  exact endA_16 hI hW
theorem at_pre {l : List AI} {W : List Bool} (hI : ∀ x ∈ l, ItOk x) (hW : W.length = l.length) (i : Nat) : atA (preL l) (preW W) (8 + i) = atA l W i + 16 := by
  have e1 : (preL l).take (8 + i) = preL (l.take i) := by unfold preL; rw [List.take_append, List.length_replicate, Nat.add_sub_cancel_left, List.take_of_length_le (by rw [List.length_replicate]; omega)]
  have e2 : (preW W).take (8 + i) = preW (W.take i) := by unfold preW; rw [List.take_append, List.length_replicate, Nat.add_sub_cancel_left, List.take_of_length_le (by rw [List.length_replicate]; omega)]
  unfold atA
  rw [e1, e2]
  exact end_pre (fun x hx => hI x (List.mem_of_mem_take hx)) (by rw [List.length_take, List.length_take, hW])
theorem nop_mark (k : Int) : isMark k nopA = false := rfl
theorem find_pre (l : List AI) (k : Int) : (preL l).findIdx? (isMark k) = (l.findIdx? (isMark k)).map (8 + ·) := by
  have e : ∀ n : Nat, (List.replicate n nopA ++ l).findIdx? (isMark k) = (l.findIdx? (isMark k)).map (n + ·) := by
    intro n
    induction n with
    | zero => simp
    | succ n ih =>
      rw [List.replicate_succ, List.cons_append, List.findIdx?_cons, nop_mark, ih]
      cases l.findIdx? (isMark k) with
      | none => rfl
      | some j => simp; omega
  exact e 8
theorem cnt_pre (l : List AI) (k : Int) : cntA (preL l) k = cntA l k := by
  unfold cntA preL
  rw [List.countP_append]
  have : (List.replicate 8 nopA).countP (isMark k) = 0 := List.countP_eq_zero.2 fun x hx => by rw [List.eq_of_mem_replicate hx, nop_mark]; simp
  rw [this, Nat.zero_add]
theorem far_pre {l : List AI} {W : List Bool} (hI : ∀ x ∈ l, ItOk x) (hW : W.length = l.length) (i : Nat) (x : AI) : farA (preL l) (preW W) (8 + i) x = farA l W i x := by
  unfold farA
  rw [find_pre]
  cases l.findIdx? (isMark x.label) with
  | none => rfl
  | some k =>
    show atA (preL l) (preW W) (8 + k) - atA (preL l) (preW W) (8 + i) - 4 = atA l W k - atA l W i - 4
    rw [at_pre hI hW, at_pre hI hW]; omega
theorem next_pre {l : List AI} {W : List Bool} (hI : ∀ x ∈ l, ItOk x) (hW : W.length = l.length) : nextA (preL l) (preW W) = preW (nextA l W) := by
  have hpl : (preW W).length = (preL l).length := by rw [preW_len, preL_len, hW]
  refine List.ext_getElem? fun j => ?_
  by_cases hj : j < 8
  · have h1 : (preL l)[j]? = some nopA := by unfold preL; rw [List.getElem?_append_left (by simpa using hj), List.getElem?_replicate]; simp [hj]
    have h2 : ∀ V, (preW V)[j]? = some false := fun V => by unfold preW; rw [List.getElem?_append_left (by simpa using hj), List.getElem?_replicate]; simp [hj]
    rw [nextA_get h1 (h2 W), h2]
    rfl
  · obtain ⟨i, rfl⟩ : ∃ i, j = 8 + i := ⟨j - 8, by omega⟩
    rw [preW_get]
    by_cases hi : i < l.length
    · have hx : l[i]? = some l[i] := List.getElem?_eq_getElem hi
      have hw : W[i]? = some (W[i]'(by omega)) := List.getElem?_eq_getElem (by omega)
      rw [nextA_get ((preL_get l i).trans hx) ((preW_get W i).trans hw), nextA_get hx hw]
      unfold nextB
      rw [far_pre hI hW]
    · rw [List.getElem?_eq_none (by rw [nextA_len hpl, preL_len]; omega), List.getElem?_eq_none (by rw [nextA_len hW]; omega)]
theorem layA_up {l : List AI} (hI : ∀ x ∈ l, ItOk x) : ∀ {n : Nat} {W : List Bool} {r : Int} {W' : List Bool} {r' : Int}, W.length = l.length → layA l n W r = some (some (W', r')) → W'.length = l.length ∧ endA l W 0 ≤ endA l W' 0
  | 0, _, _, _, _, _, h => by cases h
  | n + 1, W, r, W', r', hW, h => by
    rw [layA] at h
    split at h
    · cases h
    · split at h
      · have e := Option.some.inj (Option.some.inj h)
        obtain ⟨rfl, rfl⟩ := Prod.mk.inj e
        exact ⟨hW, Int.le_refl _⟩
      · obtain ⟨a, b⟩ := layA_up hI (nextA_len hW) h
        exact ⟨a, Int.le_trans (endA_mono hI hW (nextA_len hW) (nextA_up hW) (by decide) (Int.le_refl _)) b⟩
theorem preW_inj {V W : List Bool} : preW V = preW W ↔ V = W := by unfold preW; exact List.append_right_inj _
theorem lay_pre {l : List AI} (hI : ∀ x ∈ l, ItOk x) : ∀ {n : Nat} {W : List Bool} {r : Int}, W.length = l.length →
    (layA l n W r = some none → layA (preL l) (n + 8) (preW W) r = some none) ∧
    (∀ W' r', layA l n W r = some (some (W', r')) → (layA (preL l) (n + 8) (preW W) r = some none ∧ 65520 < endA l W' 0) ∨ layA (preL l) (n + 8) (preW W) r = some (some (preW W', r')))
  | 0, _, _, _ => ⟨fun h => (by cases h), fun _ _ h => (by cases h)⟩
  | n + 1, W, r, hW => by
    have ih := lay_pre hI (n := n) (W := nextA l W) (r := r + 1) (nextA_len hW)
    have e2 : layA (preL l) (n + 1 + 8) (preW W) r = if 65536 < endA l W 0 + 16 then some none else if nextA l W = W then some (some (preW W, r)) else layA (preL l) (n + 8) (preW (nextA l W)) (r + 1) := by
      show layA (preL l) (n + 8 + 1) (preW W) r = _
      rw [layA, end_pre hI hW, next_pre hI hW]
      simp only [preW_inj]
    rw [e2]
    constructor
    · intro h
      rw [layA] at h
      split at h
      · rw [if_pos (by omega)]
      · split at h
        · cases h
        · rename_i h1 h2
          by_cases hb : 65536 < endA l W 0 + 16
          · rw [if_pos hb]
          · rw [if_neg hb, if_neg h2]; exact ih.1 h
    · intro W' r' h
      have hup := layA_up hI hW h
      rw [layA] at h
      split at h
      · cases h
      · rename_i h1
        by_cases hb : 65536 < endA l W 0 + 16
        · rw [if_pos hb]
          exact .inl ⟨rfl, by omega⟩
        · rw [if_neg hb]
          split at h
          · rename_i h2
            rw [if_pos h2]
            have e := Option.some.inj (Option.some.inj h)
            obtain ⟨rfl, rfl⟩ := Prod.mk.inj e
            exact .inr rfl
          · rename_i h2
            rw [if_neg h2]
            exact ih.2 W' r' h
theorem go_pre {l : List AI} (hI : ∀ x ∈ l, ItOk x) : (goA l = some none → goA (preL l) = some none) ∧
    (∀ W' r', goA l = some (some (W', r')) → (goA (preL l) = some none ∧ 65520 < endA l W' 0) ∨ goA (preL l) = some (some (preW W', r'))) := by
  have h := lay_pre hI (n := l.length + 1) (W := List.replicate l.length false) (r := 1) (by simp)
  have e : goA (preL l) = layA (preL l) (l.length + 1 + 8) (preW (List.replicate l.length false)) 1 := by
    unfold goA preW
    rw [preL_len, List.replicate_append_replicate, show 8 + l.length + 1 = l.length + 1 + 8 by omega]
  rw [e]
  exact h
theorem check_pre (l : List AI) : checkA (preL l) = checkA l := by
  have e1 : (∃ x ∈ preL l, ¬ rightA x) ↔ (∃ x ∈ l, ¬ rightA x) := ⟨fun ⟨x, hx, h⟩ => (preL_mem.1 hx).elim (fun e => absurd nopA_right (e ▸ h)) fun hx => ⟨x, hx, h⟩, fun ⟨x, hx, h⟩ => ⟨x, preL_mem.2 (.inr hx), h⟩⟩
  have ew : ∀ x, wrongA (preL l) x = wrongA l x := fun x => by unfold wrongA; rw [cnt_pre]
  have en : ¬ wrongA l nopA := fun h => h.elim (fun h => absurd h.1 (by decide)) fun h => absurd h.1 (by decide)
  have e2 : (∃ x ∈ preL l, wrongA (preL l) x) ↔ (∃ x ∈ l, wrongA l x) := ⟨fun ⟨x, hx, h⟩ => (preL_mem.1 hx).elim (fun e => absurd (ew x ▸ h) (e ▸ en)) fun hx => ⟨x, hx, ew x ▸ h⟩, fun ⟨x, hx, h⟩ => ⟨x, preL_mem.2 (.inr hx), (ew x).symm ▸ h⟩⟩
  unfold checkA
  by_cases a : ∃ x ∈ l, ¬ rightA x
  · rw [if_pos a, if_pos (e1.2 a)]
  · rw [if_neg a, if_neg (fun h => a (e1.1 h))]
    by_cases b : ∃ x ∈ l, wrongA l x
    · rw [if_pos b, if_pos (e2.2 b)]
    · rw [if_neg b, if_neg (fun h => b (e2.1 h))]
theorem insI_pre {l : List AI} {W : List Bool} (hI : ∀ x ∈ l, ItOk x) (hW : W.length = l.length) (i : Nat) : insI (preL l) (preW W) (8 + i) = insI l W i := by
  unfold insI
  rw [preL_get, preW_get]
  cases hx : l[i]? with
  | none => rfl
  | some x =>
    cases W[i]? with
    | none => rfl
    | some w =>
      show instsA x w (farA (preL l) (preW W) (8 + i) x) (bytesA x w (atA (preL l) (preW W) (8 + i))) = instsA x w (farA l W i x) (bytesA x w (atA l W i))
      rw [far_pre hI hW, at_pre hI hW, bytes_16 (hI x (List.mem_of_getElem? hx))]
theorem bytT_pre {l : List AI} {W : List Bool} (hI : ∀ x ∈ l, ItOk x) (hW : W.length = l.length) : ∀ n, bytT (preL l) (preW W) (8 + n) = bytT (preL l) (preW W) 8 ++ bytT l W n
  | 0 => by show _ = _ ++ []; rw [List.append_nil]
  | n + 1 => by
    show bytT (preL l) (preW W) (8 + n) ++ bytI (insI (preL l) (preW W) (8 + n)) = _ ++ (bytT l W n ++ bytI (insI l W n))
    rw [bytT_pre hI hW n, insI_pre hI hW, List.append_assoc]
/-- sixteen bytes ahead move a program without changing a byte of it -/
theorem slides (l : List AI) : (∃ e : Int, e ≠ 0 ∧ layR l = .tup [noLaid, .int .i64 e] ∧ layR (preL l) = .tup [noLaid, .int .i64 e]) ∨
    ∃ (b at_ sz : List Int) (r : Int), (b.length : Int) ≤ 65536 ∧ layR l = .tup [laidP b at_ sz r, .int .i64 0] ∧ ((layR (preL l) = .tup [noLaid, .int .i64 82] ∧ 65520 < (b.length : Int)) ∨ ∃ nb at2 sz2, nb.length = 16 ∧ layR (preL l) = .tup [laidP (nb ++ b) at2 sz2 r, .int .i64 0]) := by
  by_cases hc : checkA l = 0
  · obtain ⟨hr, h1⟩ := checkA_ok hc
    have hI : ∀ x ∈ l, ItOk x := fun x hx => rightA_it (hr x hx)
    obtain ⟨g1, g2⟩ := go_pre hI
    have e : ∀ l, checkA l = 0 → layR l = outA l (goA l) := fun l h => by unfold layR; rw [if_neg (not_not_intro h)]
    rw [e l hc, e (preL l) ((check_pre l).trans hc)]
    obtain ⟨o, ho⟩ := goA_some l
    cases o with
    | none =>
      rw [ho, g1 ho]
      exact .inl ⟨82, by decide, rfl, rfl⟩
    | some p =>
      obtain ⟨W, r⟩ := p
      have ho' := ho
      unfold goA at ho'
      obtain ⟨a, _, _⟩ := layA_facts hI (by simp) (wide_none l) ho'
      have hb : ((bytT l W l.length).length : Int) = endA l W 0 := by rw [bytT_at a.len hr l.length (Nat.le_refl _), atA_end a.len (Nat.le_refl _)]
      rw [ho]
      refine .inr ⟨bytT l W l.length, atsA l W, szsA l W, r, by rw [hb]; exact a.big, rfl, ?_⟩
      rcases g2 W r ho with ⟨h, hb2⟩ | h
      · rw [h]
        exact .inl ⟨rfl, by omega⟩
      · rw [h]
        refine .inr ⟨bytT (preL l) (preW W) 8, atsA (preL l) (preW W), szsA (preL l) (preW W), ?_, ?_⟩
        · have hp : (preW W).length = (preL l).length := by rw [preW_len, preL_len, a.len]
          have h8 := bytT_at hp (fun x hx => (preL_mem.1 hx).elim (fun e => e ▸ nopA_right) (hr x)) 8 (by rw [preL_len]; omega)
          have h16 := at_pre hI a.len 0
          rw [atA_zero] at h16
          rw [show 8 + 0 = 8 from rfl] at h16
          omega
        · show PV.tup [laidP (bytT (preL l) (preW W) (preL l).length) _ _ r, _] = _
          rw [preL_len, bytT_pre hI a.len]
  · refine .inl ⟨checkA l, hc, ?_, ?_⟩
    · unfold layR; rw [if_pos hc]
    · unfold layR; rw [check_pre, if_pos hc]

end Go.Proofs.YtjcacjeoddnmhaaDoor.Pw

/- Chapter 8 over values: items, each one again and again. -/
set_option linter.unusedVariables false
namespace Go.Proofs.YtjcacjeoddnmhaaDoor.Pw
open Go Go.RowKit

/-- how often an item stands -/
def nA (x : AI) (t : Int) : Nat := if x.kind = 1 then (max (min t 300) 1).toNat else 1
def allA (l : List AI) (t : Int) : List AI := l.flatMap fun x => List.replicate (nA x t) x
theorem nA_bd (x : AI) (t : Int) : 1 ≤ nA x t ∧ nA x t ≤ 300 := by unfold nA; split <;> omega
theorem allA_len (l : List AI) (t : Int) : (allA l t).length ≤ 300 * l.length := by
  unfold allA
  induction l with
  | nil => simp
  | cons x l ih =>
    have := nA_bd x t
    rw [List.flatMap_cons, List.length_append, List.length_replicate, List.length_cons]; omega
theorem allA_mem {l : List AI} {t : Int} {x : AI} (h : x ∈ allA l t) : x ∈ l := by
  unfold allA at h
  obtain ⟨y, hy, h⟩ := List.mem_flatMap.1 h
  rw [List.eq_of_mem_replicate h]; exact hy
theorem allA_snoc {l : List AI} {t : Int} {i : Nat} {x : AI} (hx : l[i]? = some x) : allA (l.take (i + 1)) t = allA (l.take i) t ++ List.replicate (nA x t) x := by
  unfold allA
  rw [List.take_add_one, hx, List.flatMap_append]
  simp
def aB (l : List AI) : PBlk := ⟨.dyn, 26, 15, .w, true, l.map aiP⟩
def dB8 (l : List AI) : PBlk := ⟨.dyn, 31, 15, .w, true, l.map aiP⟩
def xB (x : AI) : PBlk := ⟨.loc, 26, 1, .w, true, aiFs x⟩
theorem aiP_snoc (l : List AI) (k : Nat) (x : AI) : (l ++ List.replicate k x).map aiP ++ [aiP x] = (l ++ List.replicate (k + 1) x).map aiP := by
  rw [List.replicate_succ', ← List.append_assoc, List.map_append (l₁ := l ++ List.replicate k x)]; rfl
set_option maxHeartbeats 4000000 in
set_option maxRecDepth 10000 in
theorem all_pure (l : List AI) (t : Int) (hl : l.length ≤ 30) : PureF gT 15 [.sl 15 (l.map aiP), .int .i64 t] (.tup [.sl 15 ((allA l t).map aiP), .sl 15 ((allA l t).map aiP)]) := by
  have el : (l.map aiP).length = l.length := List.length_map ..
  refine Spec.enter gTok P15 100 Tryd.func15 rfl (by kernel_rfl) ?_
  refine fun hm => ?_
  refine SW.loopX gTok P15 (by kernel_rfl) (fun i : Nat => [(1, .int .i64 t), (6, .wref 0), (7, .wref 1), (11, .sl 15 (l.map aiP)), (12, .int .i64 (l.map aiP).length), (13, .int .i64 i)]) (fun i => [aB (allA (l.take i) t), dB8 (allA (l.take i) t)]) (fun i => l.length - i) 0 60 [none, none] ?_ fun i => ?_
  · repeat' first | exact trivial | exact rfl | exact Iff.rfl | refine And.intro ?_ ?_
  refine And.intro (fun h => ?_) (fun h => ?_)
  · have h' : (i : Int) < ((l.map aiP).length : Nat) := h
    rw [el] at h'
    refine ⟨AI, l, aiP, rfl, show (0 : Int) ≤ (i : Int) by omega, show (i : Int) < (l.length : Int) by omega, fun x hx => ?_⟩
    have hx' : l[i]? = some x := hx
    have hs := allA_snoc (t := t) hx'
    have hn := nA_bd x t
    have hln := allA_len (l.take i) t
    have htl : (l.take i).length ≤ 30 := by rw [List.length_take]; omega
    generalize allA (l.take i) t = A at hs hln ⊢
    have ho := aof_pure x
    have hnk1 : x.kind = 1 → max (min t 300) 1 = ((nA x t : Nat) : Int) := fun e => by unfold nA; rw [if_pos e]; omega
    have hnk2 : ¬ x.kind = 1 → (1 : Int) = ((nA x t : Nat) : Int) := fun e => by unfold nA; rw [if_neg e]; rfl
    refine And.intro (fun k1 => ?_) (fun k1 => ?_)
    all_goals
      refine SW.loopX gTok P15 (by kernel_rfl) (α := {k : Nat // k ≤ nA x t}) (fun k => [(1, .int .i64 t), (6, .wref 0), (7, .wref 1), (9, .ptr 2 0), (11, .sl 15 (l.map aiP)), (12, .int .i64 (l.map aiP).length), (13, .int .i64 i), (23, .int .i64 (nA x t : Nat)), (24, .int .i64 k.1)]) (fun k => [aB (A ++ List.replicate k.1 x), dB8 (A ++ List.replicate k.1 x), xB x]) (fun k => nA x t - k.1) ⟨0, Nat.zero_le _⟩ 60 [some 0, some 1, some 2] ?_ ?_
      · repeat' first | exact trivial | exact rfl | exact Iff.rfl | refine And.intro ?_ ?_
        all_goals first | exact hnk1 k1 | exact hnk2 k1 | exact (show A.map aiP = (A ++ List.replicate 0 x).map aiP by rw [List.replicate_zero, List.append_nil])
      rintro ⟨k, hkn⟩
      have eA : ((A ++ List.replicate k x).map aiP).length = A.length + k := by rw [List.length_map, List.length_append, List.length_replicate]
      have b1 : ((A ++ List.replicate k x).map aiP).length + 1 ≤ maxLen := by rw [eA]; unfold maxLen; omega
      have b2 : (((A ++ List.replicate k x).map aiP).length + 1) * 120 ≤ 140737488355328 := by rw [eA]; omega
      refine And.intro (fun hk => ?_) (fun hk => ?_)
      · have hk' : (k : Int) < ((nA x t : Nat) : Int) := hk
        refine ⟨b1, b2, ?_⟩
        refine ⟨[], no_rl, ho.use (by repeat' first | exact trivial | exact rfl | exact Iff.rfl | exact Or.inl rfl | refine And.intro ?_ ?_) rfl rfl ?_⟩
        refine ⟨b1, b2, ?_⟩
        refine .inl ⟨inR_i64 (show _ ≤ (k : Int) + 1 ∧ (k : Int) + 1 ≤ _ by omega), ⟨⟨k + 1, by omega⟩, [some 4, some 6, some 2], show nA x t - (k + 1) < nA x t - k by omega, ?_⟩⟩
        repeat' first | exact trivial | exact rfl | exact Iff.rfl | refine And.intro ?_ ?_
        all_goals exact aiP_snoc A k x
      · have hk' : ¬ (k : Int) < ((nA x t : Nat) : Int) := hk
        obtain rfl : k = nA x t := by omega
        refine .inl ⟨inR_i64 (show _ ≤ (i : Int) + 1 ∧ (i : Int) + 1 ≤ _ by omega), ⟨i + 1, [some 0, some 1], show l.length - (i + 1) < l.length - i by omega, ?_⟩⟩
        repeat' first | exact trivial | exact rfl | exact Iff.rfl | refine And.intro ?_ ?_
        all_goals exact (show (A ++ List.replicate (nA x t) x).map aiP = (allA (l.take (i + 1)) t).map aiP by rw [hs])
  · have h' : ¬ (i : Int) < ((l.map aiP).length : Nat) := h
    rw [el] at h'
    rw [List.take_of_length_le (by omega)]
    exact retE (by repeat' first | exact trivial | exact rfl | exact Iff.rfl | exact Or.inl rfl | refine And.intro ?_ ?_)

end Go.Proofs.YtjcacjeoddnmhaaDoor.Pw

/- Chapter 8 over values: where a label stands. -/
set_option linter.unusedVariables false
namespace Go.Proofs.YtjcacjeoddnmhaaDoor.Pw
open Go Go.RowKit

def lB (b at_ sz : List Int) (r : Int) : PBlk := ⟨.loc, 44, 1, .w, true, [.sl 1 (u8P b), .sl 1 (intsP at_), .sl 1 (intsP sz), .int .i64 r]⟩
end Go.Proofs.YtjcacjeoddnmhaaDoor.Pw

/- AsmSlides over values. -/
set_option linter.unusedVariables false
namespace Go.Proofs.YtjcacjeoddnmhaaDoor.Pw
open Go Go.RowKit

theorem slides2 (a : List AI) : ∃ (b1 at1 sz1 : List Int) (r1 e1 : Int) (b2 at2 sz2 : List Int) (r2 e2 : Int), layR a = .tup [laidP b1 at1 sz1 r1, .int .i64 e1] ∧ layR (preL a) = .tup [laidP b2 at2 sz2 r2, .int .i64 e2] ∧
    ((e1 ≠ 0 ∧ e2 = e1) ∨ (e1 = 0 ∧ ((e2 = 82 ∧ 65520 < (b1.length : Int)) ∨ (e2 = 0 ∧ r2 = r1 ∧ (b1.length : Int) ≤ 65536 ∧ ∃ nb, nb.length = 16 ∧ b2 = nb ++ b1)))) := by
  rcases slides a with ⟨e, he, h1, h2⟩ | ⟨b, at_, sz, r, hbl, h1, ⟨h2, hb⟩ | ⟨nb, at2, sz2, hn, h2⟩⟩
  · exact ⟨[], [], [], 0, e, [], [], [], 0, e, h1, h2, .inl ⟨he, rfl⟩⟩
  · exact ⟨b, at_, sz, r, 0, [], [], [], 0, 82, h1, h2, .inr ⟨rfl, .inl ⟨rfl, hb⟩⟩⟩
  · exact ⟨b, at_, sz, r, 0, nb ++ b, at2, sz2, r, 0, h1, h2, .inr ⟨rfl, .inr ⟨rfl, rfl, hbl, nb, hn, rfl⟩⟩⟩
theorem nop_io : IOk nopA.inst ∧ I64 nopA.to_ := ⟨lit_ok _ (by decide), show I64 0 by unfold I64; omega⟩
set_option maxHeartbeats 8000000 in
set_option maxRecDepth 10000 in
theorem AsmSlides_pure (l : List AI) (hA : ∀ x ∈ l, AOk x) (t : Int) : PureF gT 4 [.sl 15 (l.map aiP), .int .i64 t] .tt := by
  have el : (l.map aiP).length = l.length := List.length_map ..
  refine Spec.enter gTok P4 100 Tryd.func4 rfl (by kernel_rfl) ?_
  refine ⟨[], no_rl, anchor08_pure.use (by repeat' first | exact trivial | exact rfl | exact Iff.rfl | exact Or.inl rfl | refine And.intro ?_ ?_) rfl rfl ?_⟩
  refine fun hm => ?_
  refine And.intro (fun h30 => ?_) (fun h30 => ?_)
  · (refine retE ?_; repeat' first | exact trivial | exact rfl | exact Iff.rfl | exact Or.inl rfl | refine And.intro ?_ ?_)
  have h30' : ¬ (30 : Int) < ((l.map aiP).length : Nat) := h30
  rw [el] at h30'
  refine ⟨[], no_rl, (all_pure l t (by omega)).use (by repeat' first | exact trivial | exact rfl | exact Iff.rfl | exact Or.inl rfl | refine And.intro ?_ ?_) rfl rfl ?_⟩
  have hn := allA_len l t
  have hmem : ∀ x ∈ allA l t, AOk x := fun x hx => hA x (allA_mem hx)
  generalize allA l t = a at hn hmem ⊢
  have hal : a.length ≤ 9000 := by omega
  have ea : (a.map aiP).length = a.length := List.length_map ..
  have hlay1 := lay_pure a (by omega) fun x hx => ⟨(hmem x hx).inst, (hmem x hx).to_⟩
  have hlay2 := lay_pure (preL a) (by rw [preL_len]; omega) fun x hx => (preL_mem.1 hx).elim (fun e => e ▸ nop_io) fun hx => ⟨(hmem x hx).inst, (hmem x hx).to_⟩
  obtain ⟨b1, at1, sz1, r1, e1, b2, at2, sz2, r2, e2, hR1, hR2, hf⟩ := slides2 a
  rw [hR1] at hlay1
  rw [hR2] at hlay2
  have eb1 : (u8P b1).length = b1.length := u8P_len b1
  have eb2 : (u8P b2).length = b2.length := u8P_len b2
  refine ⟨[], no_rl, hlay1.use (by repeat' first | exact trivial | exact rfl | exact Iff.rfl | exact Or.inl rfl | refine And.intro ?_ ?_) rfl rfl ?_⟩
  refine SW.loopX gTok P4 (by kernel_rfl) (α := {i : Nat // i ≤ 8}) (fun i => [(5, .sl 15 (a.map aiP)), (7, .ptr 0 0), (8, .int .i64 e1), (9, .wref 1), (28, .int .i64 i.1)]) (fun i => [lB b1 at1 sz1 r1, aB (List.replicate i.1 nopA)]) (fun i => 8 - i.1) ⟨0, Nat.zero_le _⟩ 60 [some 0, none] ?_ ?_
  · repeat' first | exact trivial | exact rfl | exact Iff.rfl | refine And.intro ?_ ?_
  rintro ⟨i, hi⟩
  have er : ((List.replicate i nopA).map aiP).length = i := by rw [List.length_map, List.length_replicate]
  refine And.intro (fun h => ?_) (fun h => ?_)
  · have h' : (i : Int) < 8 := h
    refine ⟨[], no_rl, (ado_pure nopI).use (by repeat' first | exact trivial | exact rfl | exact Iff.rfl | exact Or.inl rfl | refine And.intro ?_ ?_) rfl rfl ?_⟩
    refine ⟨show ((List.replicate i nopA).map aiP).length + 1 ≤ maxLen by rw [er]; unfold maxLen; omega, show (((List.replicate i nopA).map aiP).length + 1) * 120 ≤ 140737488355328 by rw [er]; omega, ?_⟩
    refine .inl ⟨inR_i64 (show _ ≤ (i : Int) + 1 ∧ (i : Int) + 1 ≤ _ by omega), ⟨⟨i + 1, by omega⟩, [some 0, some 3], show 8 - (i + 1) < 8 - i by omega, ?_⟩⟩
    repeat' first | exact trivial | exact rfl | exact Iff.rfl | refine And.intro ?_ ?_
    all_goals exact (show (List.replicate i nopA).map aiP ++ [aiP nopA] = (List.replicate (i + 1) nopA).map aiP by rw [List.replicate_succ', List.map_append]; rfl)
  · have h' : ¬ (i : Int) < 8 := h
    obtain rfl : i = 8 := by omega
    refine ⟨show ((List.replicate 8 nopA).map aiP).length + (a.map aiP).length ≤ maxLen by rw [er, ea]; unfold maxLen; omega, show (((List.replicate 8 nopA).map aiP).length + (a.map aiP).length) * 120 ≤ 140737488355328 by rw [er, ea]; omega, ?_⟩
    have epre : (List.replicate 8 nopA).map aiP ++ a.map aiP = (preL a).map aiP := (List.map_append ..).symm
    refine ⟨[], no_rl, hlay2.useF [2] rfl (And.intro epre trivial) rfl rfl ?_⟩
    refine And.intro (fun h1 => ?_) (fun h1 => ?_)
    · have h1' : ¬ e1 = 0 := h1
      refine retE ?_
      exact (show e2 = e1 by omega)
    · have h1' : e1 = 0 := Classical.not_not.1 h1
      refine And.intro (fun h2 => ?_) (fun h2 => ?_)
      · have h2' : ¬ e2 = 0 := h2
        have hq : e2 = 82 ∧ 65520 < (b1.length : Int) := by omega
        refine And.intro (fun h3 => ?_) (fun h3 => absurd hq.1 h3)
        refine fun hm2 => ?_
        refine retE ?_
        exact (show 65520 < ((u8P b1).length : Int) by rw [eb1]; exact hq.2)
      · have h2' : e2 = 0 := Classical.not_not.1 h2
        obtain ⟨nb, hnb, rfl, hr, hbl⟩ : ∃ nb : List Int, nb.length = 16 ∧ b2 = nb ++ b1 ∧ r2 = r1 ∧ (b1.length : Int) ≤ 65536 := by
          rcases hf with ⟨h, _⟩ | ⟨_, ⟨h, _⟩ | ⟨_, h, q0, nb, q1, q2⟩⟩
          · exact absurd h1' h
          · omega
          · exact ⟨nb, q1, q2, h, q0⟩
        have eR : List.take ((((u8P (nb ++ b1)).length : Nat) : Int) - 16).toNat (List.drop (16 : Int).toNat (u8P (nb ++ b1))) = b1.map (PV.int .u8) := by
          rw [u8P_app, show (16 : Int).toNat = (u8P nb).length by rw [u8P_len, hnb]; rfl, List.drop_left, List.take_of_length_le (by rw [List.length_append, u8P_len, u8P_len, hnb]; omega)]; rfl
        have eL : (((u8P (nb ++ b1)).length : Nat) : Int) = (((u8P b1).length : Nat) : Int) + 16 := by rw [eb2, eb1, List.length_append, hnb]; omega
        refine fun hm2 => ?_
        refine fun hm3 => ?_
        refine .inl ⟨inR_i64 (show _ ≤ (((u8P b1).length : Nat) : Int) + 16 ∧ (((u8P b1).length : Nat) : Int) + 16 ≤ _ by rw [eb1]; omega), ?_⟩
        refine And.intro (fun h => ?_) (fun h => absurd eL h)
        refine ⟨show (0 : Int) ≤ 16 by decide, show (16 : Int) ≤ (((u8P (nb ++ b1)).length : Nat) : Int) by rw [eL]; omega, Int.le_refl _, ?_⟩
        refine pstr_ok gTok ?_
        refine ⟨rfl, b1, eR, ?_⟩
        refine pstr_ok gTok ?_
        refine ⟨rfl, b1, rfl, ?_⟩
        conv => whnf
        rw [beq_self_eq_true]
        refine And.intro ?_ ?_
        · refine retE ?_
          exact hr
        refine And.intro ?_ ?_
        · conv => whnf
          refine pstr_ok gTok ?_
          refine ⟨rfl, b1, rfl, ?_⟩
          refine pstr_ok gTok ?_
          refine ⟨rfl, b1, eR, ?_⟩
          conv => whnf
          rw [beq_self_eq_true]
          exact rfl
        · first | exact trivial | ((conv => whnf); exact trivial)

end Go.Proofs.YtjcacjeoddnmhaaDoor.Pw

/- What comes in to chapter 8's laws, opened. -/
set_option linter.unusedVariables false
namespace Go.Proofs.YtjcacjeoddnmhaaDoor.Pw
open Go Go.RowKit

def SItem (x : PV) : Prop := ∃ a : AI, AOk a ∧ x = aiP a
theorem item_dec (x : PV) (h : SAgg [SInt .i64, SIN, SInt .i64, SInt .i64, SInt .i64] x) : SItem x := by
  obtain ⟨xs, h, rfl⟩ := h
  obtain ⟨_, _, rfl, ⟨k, bk, rfl⟩, h_1⟩ := all2_cons h
  obtain ⟨_, _, rfl, ⟨i, hi, rfl⟩, h_2⟩ := all2_cons h_1
  obtain ⟨_, _, rfl, ⟨c, bc, rfl⟩, h_3⟩ := all2_cons h_2
  obtain ⟨_, _, rfl, ⟨l, bl, rfl⟩, h_4⟩ := all2_cons h_3
  obtain ⟨_, _, rfl, ⟨t, bt, rfl⟩, h_5⟩ := all2_cons h_4
  obtain rfl := all2_nil h_5
  exact ⟨⟨k, i, c, l, t⟩, ⟨hi, inR_i64c bk, inR_i64c bc, inR_i64c bl, inR_i64c bt⟩, rfl⟩
theorem opItem_ : Op Tryd.prog 26 (SAgg [SInt .i64, SIN, SInt .i64, SInt .i64, SInt .i64]) :=
  opAgg (Ss := [SInt .i64, SIN, SInt .i64, SInt .i64, SInt .i64]) Tryd.underlying26
    ⟨rfl, opI64c, (show _ = _ by kernel_rfl), opIN, (show _ = _ by kernel_rfl), opI64c, (show _ = _ by kernel_rfl), opI64c, (show _ = _ by kernel_rfl), opI64c, (show _ = _ by kernel_rfl)⟩
theorem opItem : Op Tryd.prog 26 SItem := opItem_.weak item_dec
abbrev SItems := SLs 15 120 aiP AOk
theorem opItems : Op Tryd.prog 37 SItems :=
  opList (opSlice opItem 15 120 (by kernel_rfl) Tryd.underlying37 (by kernel_rfl) (by decide) (by kernel_rfl)) fun x ⟨a, h, e⟩ => ⟨a, h, e⟩

end Go.Proofs.YtjcacjeoddnmhaaDoor.Pw

/- AsmSlides as its frame wants it. -/
namespace Go.Proofs.YtjcacjeoddnmhaaDoor.Pw
open Go Go.RowKit

theorem AsmSlides_pure' (x : PV) (s : SItems x) (y : PV) (t : SInt .i64 y) : PureF gT 4 [x, y] .tt := by
  obtain ⟨l, h1, h2, rfl⟩ := s
  obtain ⟨n, hn, rfl⟩ := t
  exact AsmSlides_pure l h2 n

end Go.Proofs.YtjcacjeoddnmhaaDoor.Pw

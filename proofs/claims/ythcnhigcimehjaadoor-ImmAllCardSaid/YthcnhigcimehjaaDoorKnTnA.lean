/- Chapter 2, plain: all numbers that have words, rising. -/
import Derived.Test.YthcnhigcimehjaaDoorKnNumsI
namespace Go.Proofs.YthcnhigcimehjaaDoor

/-- a number that has a word -/
abbrev WN := { n : Nat // n < 4096 ∧ (Rm.immW n).isSome = true }
def toWN (n : Nat) : Option WN := if h : n < 4096 ∧ (Rm.immW n).isSome = true then some ⟨n, h⟩ else none
/-- all numbers below k that have words, rising -/
def uptoW (k : Nat) : List WN := (List.range k).filterMap toWN
def allW : List WN := uptoW 4096
theorem uptoW_succ_some {k : Nat} {x : WN} (h : toWN k = some x) : uptoW (k + 1) = uptoW k ++ [x] := by
  unfold uptoW
  rw [List.range_succ, List.filterMap_append, List.filterMap_cons, h]; simp
theorem uptoW_succ_none {k : Nat} (h : toWN k = none) : uptoW (k + 1) = uptoW k := by
  unfold uptoW
  rw [List.range_succ, List.filterMap_append, List.filterMap_cons, h]; simp
theorem toWN_val {k : Nat} {x : WN} (h : toWN k = some x) : x.1 = k := by
  unfold toWN at h
  split at h
  · cases h; rfl
  · cases h
theorem mem_uptoW {k : Nat} {x : WN} (h : x ∈ uptoW k) : x.1 < k := by
  unfold uptoW at h
  obtain ⟨n, hn, e⟩ := List.mem_filterMap.1 h
  rw [toWN_val e]; exact List.mem_range.1 hn
theorem uptoW_sorted (k : Nat) : (uptoW k).Pairwise (fun a b => a.1 < b.1) := by
  induction k with
  | zero => exact List.Pairwise.nil
  | succ k ih =>
    cases h : toWN k with
    | none => rw [uptoW_succ_none h]; exact ih
    | some x =>
      rw [uptoW_succ_some h, List.pairwise_append]
      refine ⟨ih, List.pairwise_singleton .., fun a ha b hb => ?_⟩
      rw [List.mem_singleton] at hb
      subst hb
      rw [toWN_val h]; exact mem_uptoW ha
theorem uptoW_prefix (k j : Nat) : uptoW k <+: uptoW (k + j) := by
  induction j with
  | zero => exact List.prefix_refl _
  | succ j ih =>
    cases h : toWN (k + j) with
    | none => rw [← Nat.add_assoc, uptoW_succ_none h]; exact ih
    | some x => rw [← Nat.add_assoc, uptoW_succ_some h]; exact ih.trans (List.prefix_append _ _)
theorem uptoW_len (k : Nat) : (uptoW k).length ≤ k := by
  unfold uptoW
  have := List.length_filterMap_le toWN (List.range k)
  rw [List.length_range] at this; exact this
theorem all_mem (x : WN) : x ∈ allW := by
  unfold allW uptoW
  refine List.mem_filterMap.2 ⟨x.1, List.mem_range.2 x.2.1, ?_⟩
  unfold toWN; rw [dif_pos x.2]
/-- the last that came; -1 ahead of all -/
def lastW (l : List WN) : Int := match l.getLast? with
  | some x => (x.1 : Int)
  | none => -1
theorem lastW_snoc (l : List WN) (x : WN) : lastW (l ++ [x]) = (x.1 : Int) := by unfold lastW; simp
theorem lastW_nil : lastW [] = -1 := rfl
theorem lastW_mem {l : List WN} (h : l ≠ []) : ∃ x ∈ l, lastW l = (x.1 : Int) := by
  refine ⟨l.getLast h, List.getLast_mem h, ?_⟩
  unfold lastW; rw [List.getLast?_eq_some_getLast h]
theorem lastW_bd (l : List WN) : -1 ≤ lastW l ∧ lastW l ≤ 4095 := by
  unfold lastW
  split
  · rename_i x _; have := x.2.1; omega
  · omega
/-- where a prefix of all goes on by x, none lies between -/
theorem next_ok {pre : List WN} {x : WN} (h : pre ++ [x] <+: allW) : lastW pre < (x.1 : Int) ∧ ∀ m : Nat, lastW pre < (m : Int) → m < x.1 → Rm.immW m = none := by
  obtain ⟨rest, hr⟩ := h
  have hs := uptoW_sorted 4096
  have hall : uptoW 4096 = allW := rfl
  rw [hall, ← hr, List.append_assoc, List.pairwise_append] at hs
  obtain ⟨s1, s2, s3⟩ := hs
  have s2' := (List.pairwise_cons.1 s2).1
  have hlt : ∀ a ∈ pre, (a.1 : Int) ≤ lastW pre := by
    intro a ha
    obtain ⟨i, hi⟩ := List.getElem?_of_mem ha
    have hne : pre ≠ [] := fun e => by rw [e] at ha; cases ha
    have hl : lastW pre = ((pre.getLast hne).1 : Int) := by unfold lastW; rw [List.getLast?_eq_some_getLast hne]
    rw [hl, List.getLast_eq_getElem]
    obtain ⟨hi1, hi2⟩ := List.getElem?_eq_some_iff.1 hi
    by_cases e : i = pre.length - 1
    · subst e; rw [hi2]; omega
    · have := (List.pairwise_iff_getElem.1 s1) i (pre.length - 1) hi1 (by omega) (by omega)
      rw [hi2] at this; omega
  constructor
  · by_cases hne : pre = []
    · subst hne; rw [lastW_nil]; omega
    · obtain ⟨y, hy, e⟩ := lastW_mem hne
      rw [e]
      have := s3 y hy x (List.mem_cons_self ..)
      omega
  · intro m h1 h2
    cases hm : Rm.immW m with
    | none => rfl
    | some v =>
      exfalso
      have hx := x.2.1
      have hmem := all_mem ⟨m, by omega, by rw [hm]; rfl⟩
      rw [← hr, List.append_assoc, List.mem_append] at hmem
      rcases hmem with hmem | hmem
      · have := hlt _ hmem; simp only [] at this; omega
      · rcases List.mem_cons.1 hmem with e | hmem
        · have := congrArg Subtype.val e; simp only [] at this; omega
        · have := s2' _ hmem; simp only [] at this; omega
theorem all_end : lastW allW = 4095 ∧ allW.length = 4093 := by
  have h : (((uptoW 4096).getLast?.map (fun x => x.1)) == some 4095 && (uptoW 4096).length == 4093) = true := by decide +kernel
  simp only [Bool.and_eq_true, beq_iff_eq] at h
  refine ⟨?_, h.2⟩
  unfold lastW allW
  cases e : (uptoW 4096).getLast? with
  | none => rw [e] at h; simp at h
  | some x => rw [e] at h; simp at h; simp only []; omega

end Go.Proofs.YthcnhigcimehjaaDoor

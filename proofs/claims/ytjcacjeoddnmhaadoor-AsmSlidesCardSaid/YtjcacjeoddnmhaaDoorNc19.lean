/- What the laws of this claim are proved with, joined (join.py) of 8 texts: no condition. -/
import Derived.Test.YtjcacjeoddnmhaaDoorNc12
import Derived.Test.YtjcacjeoddnmhaaDoorNc18
import Derived.Test.YtjcacjeoddnmhaaDoorNc9
import Derived.Test.YtjcacjeoddnmhaaDoorRows
import Derived.ProofKit
import Derived.LaidMore
import Derived.OpenShut
import Derived.Stop.Joined
import Derived.Lib.LaidTab
set_option linter.unusedVariables false
set_option linter.unusedSimpArgs false

/- Chapter 8 over values: what is wrong with a program, by the program's check and by the document's. -/
set_option linter.unusedVariables false
namespace Go.Proofs.YtjcacjeoddnmhaaDoor.Pw
open Go Go.RowKit

/-- is an item's label not marked as it must be? -/
def wrongA (l : List AI) (x : AI) : Prop := (x.kind = 2 ∧ cntA l x.label ≠ 1) ∨ (x.kind = 3 ∧ 1 < cntA l x.label)
open Classical in
noncomputable def checkA (l : List AI) : Int := if ∃ x ∈ l, ¬ rightA x then 10 else if ∃ x ∈ l, wrongA l x then 80 else 0
theorem cntA_snoc {l : List AI} {i : Nat} {x : AI} (hx : l[i]? = some x) (k : Int) : cntA (l.take (i + 1)) k = cntA (l.take i) k + (if isMark k x = true then 1 else 0) := by
  unfold cntA
  rw [List.take_add_one, hx, List.countP_append]
  simp only [Option.toList_some, List.countP_cons, List.countP_nil, Nat.zero_add]
theorem cntA_le (l : List AI) (k : Int) : cntA l k ≤ l.length := List.countP_le_length
/-- what was put into the marks tells how often each label stands in the first items -/
structure MkOk (l : List AI) (x : Nat × List (Int × Int)) : Prop where
  le : x.2.length ≤ x.1
  cnt : ∀ k, lkM x.2 k = cntA (l.take x.1) k
  right : ∀ y ∈ l.take x.1, rightA y
theorem MkOk.skip {l : List AI} {i : Nat} {H : List (Int × Int)} {x : AI} (h : MkOk l (i, H)) (hx : l[i]? = some x) (hr : rightA x) (hk : ¬ x.kind = 3) : MkOk l (i + 1, H) := by
  refine ⟨Nat.le_succ_of_le h.le, fun k => ?_, fun y hy => ?_⟩
  · have h1 := h.cnt k
    simp only at h1 ⊢
    rw [cntA_snoc hx, if_neg (fun e => hk (isMark_iff.1 e).1), h1, Nat.add_zero]
  · simp only at hy
    rw [List.take_add_one, hx, List.mem_append] at hy
    rcases hy with hy | hy
    · exact h.right y hy
    · have : y = x := by simpa using hy
      rw [this]; exact hr
theorem MkOk.put {l : List AI} {i : Nat} {H : List (Int × Int)} {x : AI} (h : MkOk l (i, H)) (hx : l[i]? = some x) (hr : rightA x) (hk : x.kind = 3) : MkOk l (i + 1, H ++ [(x.label, lkM H x.label + 1)]) := by
  refine ⟨by have := h.le; simp only [List.length_append, List.length_singleton] at this ⊢; omega, fun k => ?_, fun y hy => ?_⟩
  · have h1 := h.cnt
    simp only at h1 ⊢
    rw [cntA_snoc hx, lkM_snoc]
    simp only
    by_cases hkk : x.label = k
    · subst hkk
      rw [if_pos rfl, if_pos (isMark_iff.2 ⟨hk, rfl⟩), h1]; simp
    · rw [if_neg hkk, if_neg (fun e => hkk (isMark_iff.1 e).2), h1, Nat.add_zero]
  · simp only at hy
    rw [List.take_add_one, hx, List.mem_append] at hy
    rcases hy with hy | hy
    · exact h.right y hy
    · have : y = x := by simpa using hy
      rw [this]; exact hr
open Classical in
/-- what is wrong with the first items' labels -/
noncomputable def wrongT (l : List AI) (i : Nat) : Int := if ∃ x ∈ l.take i, wrongA l x then 80 else 0
theorem wrongT_step {l : List AI} {i : Nat} {x : AI} (hx : l[i]? = some x) : (wrongA l x → wrongT l (i + 1) = 80) ∧ (¬ wrongA l x → wrongT l (i + 1) = wrongT l i) := by
  have hm : ∀ y, y ∈ l.take (i + 1) ↔ y ∈ l.take i ∨ y = x := fun y => by rw [List.take_add_one, hx, List.mem_append]; simp
  unfold wrongT
  refine ⟨fun h => if_pos ⟨x, (hm x).2 (.inr rfl), h⟩, fun h => ?_⟩
  by_cases h2 : ∃ y ∈ l.take i, wrongA l y
  · obtain ⟨y, hy, hw⟩ := h2
    rw [if_pos ⟨y, (hm y).2 (.inl hy), hw⟩, if_pos ⟨y, hy, hw⟩]
  · rw [if_neg (fun ⟨y, hy, hw⟩ => ((hm y).1 hy).elim (fun hy => h2 ⟨y, hy, hw⟩) fun e => h (e ▸ hw)), if_neg h2]
set_option maxHeartbeats 4000000 in
set_option maxRecDepth 10000 in
theorem check_pure (l : List AI) (hl : l.length ≤ 10000) (hb : ∀ x ∈ l, I64 x.inst.imm ∧ I64 x.to_) : PureF gT 25 [.sl 15 (l.map aiP)] (.int .i64 (checkA l)) := by
  have el : (l.map aiP).length = l.length := List.length_map ..
  refine Spec.enter gTok P25 100 Tryd.func25 rfl (by kernel_rfl) ?_
  refine pmakeMap_ok ?_
  refine fun hm => ?_
  refine SW.loopX gTok P25 (by kernel_rfl) (α := {x : Nat × List (Int × Int) // MkOk l x}) (fun x => [(0, .sl 15 (l.map aiP)), (3, .mref 0), (4, .lit .i64 0), (10, .sl 15 (l.map aiP)), (11, .int .i64 (l.map aiP).length), (12, .int .i64 x.1.1)]) (fun x => [mpB x.1.2]) (fun x => l.length - x.1.1) ⟨(0, []), ⟨Nat.le_refl _, fun k => rfl, fun y hy => by simp at hy⟩⟩ 60 [some 0] ?_ ?_
  · repeat' first | exact trivial | exact rfl | exact Iff.rfl | refine And.intro ?_ ?_
  rintro ⟨⟨i, H⟩, hH⟩
  have hle := hH.le
  have hcn := hH.cnt
  have hri := hH.right
  simp only at hle hcn hri
  refine And.intro (fun h => ?_) (fun h => ?_)
  · have h' : (i : Int) < ((l.map aiP).length : Nat) := h
    rw [el] at h'
    refine ⟨AI, l, aiP, rfl, show (0 : Int) ≤ (i : Int) by omega, show (i : Int) < (l.length : Int) by omega, fun x hx => ?_⟩
    have hx' : l[i]? = some x := hx
    have hxm := List.mem_of_getElem? hx'
    refine ⟨[], no_rl, (iright_pure x (hb x hxm).1 (hb x hxm).2).use (by repeat' first | exact trivial | exact rfl | exact Iff.rfl | exact Or.inl rfl | refine And.intro ?_ ?_) rfl rfl ?_⟩
    refine And.intro (fun hn => ?_) (fun hn => ?_)
    · have hn' : ¬ rightA x := hn
      refine retE ?_
      exact (show (10 : Int) = checkA l by unfold checkA; rw [if_pos ⟨x, hxm, hn'⟩])
    · have hr : rightA x := Classical.not_not.1 hn
      refine And.intro (fun hk => ?_) (fun hk => ?_)
      · have hk' : x.kind = 3 := hk
        have hmay := ((rightA_3 hk').1 hr).2.2
        unfold mayV at hmay
        have hc1 := cntA_le (l.take i) x.label
        rw [List.length_take] at hc1
        have hc2 := hcn x.label
        refine plookup_ok gTok ?_
        refine ⟨rfl, ?_⟩
        refine ⟨show InR .i64 x.label from inR_i64 (by omega), rfl, H, rfl, ?_⟩
        refine .inl ⟨inR_i64 (show _ ≤ lkM H x.label + 1 ∧ lkM H x.label + 1 ≤ _ by omega), ?_⟩
        refine pmapPut_ok gTok ?_
        refine ⟨rfl, ?_⟩
        refine ⟨show InR .i64 x.label from inR_i64 (by omega), rfl, show InR .i64 (lkM H x.label + 1) from inR_i64 (by omega), rfl, show (H.map kvP).length < maxLen by rw [List.length_map]; unfold maxLen; omega, ?_⟩
        refine .inl ⟨inR_i64 (show _ ≤ (i : Int) + 1 ∧ (i : Int) + 1 ≤ _ by omega), ⟨⟨(i + 1, H ++ [(x.label, lkM H x.label + 1)]), hH.put hx' hr hk'⟩, [some 0], show l.length - (i + 1) < l.length - i by omega, ?_⟩⟩
        repeat' first | exact trivial | exact rfl | exact Iff.rfl | refine And.intro ?_ ?_
        all_goals exact (show H.map kvP ++ [kvP (x.label, lkM H x.label + 1)] = (H ++ [(x.label, lkM H x.label + 1)]).map kvP by rw [List.map_append]; rfl)
      · have hk' : ¬ x.kind = 3 := hk
        refine .inl ⟨inR_i64 (show _ ≤ (i : Int) + 1 ∧ (i : Int) + 1 ≤ _ by omega), ⟨⟨(i + 1, H), hH.skip hx' hr hk'⟩, [some 0], show l.length - (i + 1) < l.length - i by omega, ?_⟩⟩
        repeat' first | exact trivial | exact rfl | exact Iff.rfl | refine And.intro ?_ ?_
  · have h' : ¬ (i : Int) < ((l.map aiP).length : Nat) := h
    rw [el] at h'
    rw [List.take_of_length_le (by omega)] at hri hcn
    have hch : checkA l = wrongT l l.length := by
      unfold checkA wrongT
      rw [if_neg (fun ⟨x, hx, hn⟩ => hn (hri x hx)), List.take_length]
    rw [hch]
    refine fun hm2 => ?_
    refine SW.loopX gTok P25 (by kernel_rfl) (fun j : Nat => [(3, .mref 0), (4, .int .i64 (wrongT l j)), (28, .sl 15 (l.map aiP)), (29, .int .i64 (l.map aiP).length), (30, .int .i64 j)]) (fun _ => [mpB H]) (fun j => l.length - j) 0 60 [some 0] ?_ fun j => ?_
    · repeat' first | exact trivial | exact rfl | exact Iff.rfl | refine And.intro ?_ ?_
      all_goals exact (show (0 : Int) = wrongT l 0 by unfold wrongT; rw [if_neg (fun ⟨x, hx, _⟩ => by simp at hx)])
    refine And.intro (fun h => ?_) (fun h => ?_)
    · have hj' : (j : Int) < ((l.map aiP).length : Nat) := h
      rw [el] at hj'
      refine ⟨AI, l, aiP, rfl, show (0 : Int) ≤ (j : Int) by omega, show (j : Int) < (l.length : Int) by omega, fun x hx => ?_⟩
      have hx' : l[j]? = some x := hx
      have hxm := List.mem_of_getElem? hx'
      have hr := hri x hxm
      obtain ⟨w1, w2⟩ := wrongT_step hx'
      have hcl := hcn x.label
      refine And.intro (fun k2 => ?_) (fun k2 => ?_)
      · have k2' : x.kind = 2 := k2
        have hmay := ((rightA_2 k2').1 hr).2.2.2
        unfold mayV at hmay
        refine plookup_ok gTok ?_
        refine ⟨rfl, ?_⟩
        refine ⟨show InR .i64 x.label from inR_i64 (by omega), rfl, H, rfl, ?_⟩
        refine And.intro (fun h1 => ?_) (fun h1 => ?_)
        · have h1' : ¬ lkM H x.label = 1 := h1
          have e1 := w1 (show wrongA l x from .inl ⟨k2', by omega⟩)
          refine .inl ⟨inR_i64 (show _ ≤ (j : Int) + 1 ∧ (j : Int) + 1 ≤ _ by omega), ⟨j + 1, [some 0], by omega, ?_⟩⟩
          repeat' first | exact trivial | exact rfl | exact Iff.rfl | refine And.intro ?_ ?_
          all_goals exact (show (80 : Int) = wrongT l (j + 1) by rw [e1])
        · have h1' : lkM H x.label = 1 := Classical.not_not.1 h1
          refine And.intro (fun k3 => absurd (show x.kind = 3 from k3) (by omega)) (fun k3 => ?_)
          have e1 := w2 (show ¬ wrongA l x from fun hw => hw.elim (fun e => e.2 (by omega)) (fun e => by omega))
          refine .inl ⟨inR_i64 (show _ ≤ (j : Int) + 1 ∧ (j : Int) + 1 ≤ _ by omega), ⟨j + 1, [some 0], by omega, ?_⟩⟩
          repeat' first | exact trivial | exact rfl | exact Iff.rfl | refine And.intro ?_ ?_
          all_goals exact (show wrongT l j = wrongT l (j + 1) by rw [e1])
      · have k2' : ¬ x.kind = 2 := k2
        refine And.intro (fun k3 => ?_) (fun k3 => ?_)
        · have k3' : x.kind = 3 := k3
          have hmay := ((rightA_3 k3').1 hr).2.2
          unfold mayV at hmay
          refine plookup_ok gTok ?_
          refine ⟨rfl, ?_⟩
          refine ⟨show InR .i64 x.label from inR_i64 (by omega), rfl, H, rfl, ?_⟩
          refine And.intro (fun h1 => ?_) (fun h1 => ?_)
          · have h1' : 1 < lkM H x.label := h1
            have e1 := w1 (show wrongA l x from .inr ⟨k3', by omega⟩)
            refine .inl ⟨inR_i64 (show _ ≤ (j : Int) + 1 ∧ (j : Int) + 1 ≤ _ by omega), ⟨j + 1, [some 0], by omega, ?_⟩⟩
            repeat' first | exact trivial | exact rfl | exact Iff.rfl | refine And.intro ?_ ?_
            all_goals exact (show (80 : Int) = wrongT l (j + 1) by rw [e1])
          · have h1' : ¬ 1 < lkM H x.label := h1
            have e1 := w2 (show ¬ wrongA l x from fun hw => hw.elim (fun e => k2' e.1) (fun e => h1' (by omega)))
            refine .inl ⟨inR_i64 (show _ ≤ (j : Int) + 1 ∧ (j : Int) + 1 ≤ _ by omega), ⟨j + 1, [some 0], by omega, ?_⟩⟩
            repeat' first | exact trivial | exact rfl | exact Iff.rfl | refine And.intro ?_ ?_
            all_goals exact (show wrongT l j = wrongT l (j + 1) by rw [e1])
        · have k3' : ¬ x.kind = 3 := k3
          have e1 := w2 (show ¬ wrongA l x from fun hw => hw.elim (fun e => k2' e.1) (fun e => k3' e.1))
          refine .inl ⟨inR_i64 (show _ ≤ (j : Int) + 1 ∧ (j : Int) + 1 ≤ _ by omega), ⟨j + 1, [some 0], by omega, ?_⟩⟩
          repeat' first | exact trivial | exact rfl | exact Iff.rfl | refine And.intro ?_ ?_
          all_goals exact (show wrongT l j = wrongT l (j + 1) by rw [e1])
    · have hj' : ¬ (j : Int) < ((l.map aiP).length : Nat) := h
      rw [el] at hj'
      refine retE ?_
      exact (show wrongT l j = wrongT l l.length by unfold wrongT; rw [List.take_of_length_le (by omega), List.take_length])

end Go.Proofs.YtjcacjeoddnmhaaDoor.Pw

/- Chapter 8 over values: how far a jump goes; does it reach; its instruction. -/
set_option linter.unusedVariables false
namespace Go.Proofs.YtjcacjeoddnmhaaDoor.Pw
open Go Go.RowKit

/-- numbers that offsets may be -/
def OffB (L : List (Int × Int)) : Prop := ∀ k, 0 ≤ lkM L k ∧ lkM L k ≤ 1000000
set_option maxHeartbeats 2000000 in
set_option maxRecDepth 10000 in
theorem far_runs (m : Md) {l : List AI} {W : List Bool} {at_ sz : List Int} {e : Int} {L : List (Int × Int)} {i : Nat} {x : AI} {a : Int} (hx : l[i]? = some x) (hm : mayV x.label) (hat : at_[i]? = some a) (ha : 0 ≤ a ∧ a ≤ 1000000) (hL : OffB L) :
    RunsA 65 [.ptr 5 0, .int .i64 i] (sLyM m l W at_ sz e L) (.int .i64 (lkM L x.label - a - 4)) (sLyM m l W at_ sz e L) := by
  have hl := (List.getElem?_eq_some_iff.1 hx).1
  have hal := (List.getElem?_eq_some_iff.1 hat).1
  have hk := hL x.label
  unfold mayV at hm
  cases m
  all_goals
    refine Spec.leS (Spec.enter gTok P65 100 Tryd.func65 rfl (by kernel_rfl) ?_)
    refine ⟨AI, l, aiP, rfl, show (0 : Int) ≤ (i : Int) by omega, show (i : Int) < (l.length : Int) by omega, fun x' hx' => ?_⟩
    obtain rfl : x = x' := Option.some.inj (hx.symm.trans hx')
    refine ⟨show (0 : Int) ≤ (i : Int) by omega, show (i : Int) < ((intsP at_).length : Nat) by rw [intsP_len]; omega, Int, at_, PV.int .i64, rfl, show (i : Int).toNat < at_.length by omega, fun v hv => ?_⟩
    obtain rfl : a = v := Option.some.inj (hat.symm.trans hv)
    refine plookup_ok gTok ?_
    refine ⟨rfl, ?_⟩
    refine ⟨show InR .i64 x.label from inR_i64 (by omega), rfl, L, rfl, ?_⟩
    refine .inl ⟨inR_i64 (show _ ≤ lkM L x.label - a ∧ lkM L x.label - a ≤ _ by omega), ?_⟩
    refine .inl ⟨inR_i64 (show _ ≤ lkM L x.label - a - 4 ∧ lkM L x.label - a - 4 ≤ _ by omega), ?_⟩
    exact retS rfl (by repeat' first | exact trivial | exact rfl | exact Iff.rfl | exact Or.inl rfl | refine And.intro ?_ ?_)
/-- does a narrow jump reach? -/
theorem reaches_runs {l : List AI} {W : List Bool} {at_ sz : List Int} {e : Int} {L : List (Int × Int)} {i : Nat} {x : AI} {a : Int} (hx : l[i]? = some x) (hm : mayV x.label) (hcd : -1 ≤ x.cond) (hat : at_[i]? = some a) (ha : 0 ≤ a ∧ a ≤ 1000000) (hL : OffB L) :
    RunsA 46 [.ptr 5 0, .int .i64 i] (sLy l W at_ sz e L) (.bool (shortA x.cond (lkM L x.label - a - 4) = true)) (sLy l W at_ sz e L) := by
  have hl := (List.getElem?_eq_some_iff.1 hx).1
  have hk := hL x.label
  have hf := far_runs .w (W := W) (sz := sz) (e := e) hx hm hat ha hL
  have hn : -1000004 ≤ lkM L x.label - a - 4 ∧ lkM L x.label - a - 4 ≤ 1000000 := by omega
  generalize lkM L x.label - a - 4 = n at hf hn ⊢
  refine Spec.leS (Spec.enter gTok P46 100 Tryd.func46 rfl (by kernel_rfl) ?_)
  refine ⟨AI, l, aiP, rfl, show (0 : Int) ≤ (i : Int) by omega, show (i : Int) < (l.length : Int) by omega, fun x' hx' => ?_⟩
  obtain rfl : x = x' := Option.some.inj (hx.symm.trans hx')
  refine And.intro (fun hc => ?_) (fun hc => ?_)
  · have hc' : x.cond = -1 := hc
    refine ⟨[], no_rl, hf.useS rfl rfl rfl rfl (by repeat' first | exact trivial | exact rfl | exact Iff.rfl | exact Or.inl rfl | refine And.intro ?_ ?_) (And.intro (by repeat' first | exact trivial | exact rfl | exact Iff.rfl | exact Or.inl rfl | refine And.intro ?_ ?_) (And.intro (by repeat' first | exact trivial | exact rfl | exact Iff.rfl | exact Or.inl rfl | refine And.intro ?_ ?_) (And.intro (by repeat' first | exact trivial | exact rfl | exact Iff.rfl | exact Or.inl rfl | refine And.intro ?_ ?_) (And.intro (by repeat' first | exact trivial | exact rfl | exact Iff.rfl | exact Or.inl rfl | refine And.intro ?_ ?_) (And.intro (by repeat' first | exact trivial | exact rfl | exact Iff.rfl | exact Or.inl rfl | refine And.intro ?_ ?_) (And.intro (by repeat' first | exact trivial | exact rfl | exact Iff.rfl | exact Or.inl rfl | refine And.intro ?_ ?_) ?_))))))⟩
    refine And.intro (fun h1 => ?_) (fun h1 => ?_)
    · refine retS ?_ (by repeat' first | exact trivial | exact rfl | exact Iff.rfl | exact Or.inl rfl | refine And.intro ?_ ?_)
      have h1' : -2048 ≤ n := h1
      exact (show n < 2048 ↔ shortA x.cond n = true by unfold shortA; rw [if_pos (by omega), decide_eq_true_eq]; omega)
    · refine retS ?_ (by repeat' first | exact trivial | exact rfl | exact Iff.rfl | exact Or.inl rfl | refine And.intro ?_ ?_)
      have h1' : ¬ -2048 ≤ n := h1
      exact (show ¬ shortA x.cond n = true by unfold shortA; rw [if_pos (by omega), decide_eq_true_eq]; omega)
  · have hc' : ¬ x.cond = -1 := hc
    refine ⟨[], no_rl, hf.useS rfl rfl rfl rfl (by repeat' first | exact trivial | exact rfl | exact Iff.rfl | exact Or.inl rfl | refine And.intro ?_ ?_) (And.intro (by repeat' first | exact trivial | exact rfl | exact Iff.rfl | exact Or.inl rfl | refine And.intro ?_ ?_) (And.intro (by repeat' first | exact trivial | exact rfl | exact Iff.rfl | exact Or.inl rfl | refine And.intro ?_ ?_) (And.intro (by repeat' first | exact trivial | exact rfl | exact Iff.rfl | exact Or.inl rfl | refine And.intro ?_ ?_) (And.intro (by repeat' first | exact trivial | exact rfl | exact Iff.rfl | exact Or.inl rfl | refine And.intro ?_ ?_) (And.intro (by repeat' first | exact trivial | exact rfl | exact Iff.rfl | exact Or.inl rfl | refine And.intro ?_ ?_) (And.intro (by repeat' first | exact trivial | exact rfl | exact Iff.rfl | exact Or.inl rfl | refine And.intro ?_ ?_) ?_))))))⟩
    refine And.intro (fun h1 => ?_) (fun h1 => ?_)
    · refine retS ?_ (by repeat' first | exact trivial | exact rfl | exact Iff.rfl | exact Or.inl rfl | refine And.intro ?_ ?_)
      have h1' : -256 ≤ n := h1
      exact (show n < 256 ↔ shortA x.cond n = true by unfold shortA; rw [if_neg (by omega), decide_eq_true_eq]; omega)
    · refine retS ?_ (by repeat' first | exact trivial | exact rfl | exact Iff.rfl | exact Or.inl rfl | refine And.intro ?_ ?_)
      have h1' : ¬ -256 ≤ n := h1
      exact (show ¬ shortA x.cond n = true by unfold shortA; rw [if_neg (by omega), decide_eq_true_eq]; omega)
/-- a jump's instruction -/
def branA (c : Int) (w : Bool) (n : Int) : IN := ⟨(if w then 100 else 47) - (if c < 0 then 0 else 1), 0, 0, 0, 0, n, 0, 0, 0, max c 0, 0⟩
set_option maxHeartbeats 2000000 in
set_option maxRecDepth 10000 in
theorem branch_runs {l : List AI} {W : List Bool} {at_ sz : List Int} {e : Int} {L : List (Int × Int)} {i : Nat} {x : AI} {w : Bool} {a : Int} (hx : l[i]? = some x) (hw : W[i]? = some w) (hm : mayV x.label) (hcd : -1 ≤ x.cond) (hat : at_[i]? = some a) (ha : 0 ≤ a ∧ a ≤ 1000000) (hL : OffB L) :
    RunsA 66 [.ptr 5 0, .int .i64 i] (sLy l W at_ sz e L) (inP (branA x.cond w (lkM L x.label - a - 4))) (sLy l W at_ sz e L) := by
  have hl := (List.getElem?_eq_some_iff.1 hx).1
  have hwl := (List.getElem?_eq_some_iff.1 hw).1
  have elw := wI_len W
  have hk := hL x.label
  have hf := far_runs .p (W := W) (sz := sz) (e := e) hx hm hat ha hL
  have hn : -1000004 ≤ lkM L x.label - a - 4 ∧ lkM L x.label - a - 4 ≤ 1000000 := by omega
  generalize lkM L x.label - a - 4 = n at hf hn ⊢
  refine Spec.leS (Spec.enter gTok P66 100 Tryd.func66 rfl (by kernel_rfl) ?_)
  refine ⟨AI, l, aiP, rfl, show (0 : Int) ≤ (i : Int) by omega, show (i : Int) < (l.length : Int) by omega, fun x' hx' => ?_⟩
  obtain rfl : x = x' := Option.some.inj (hx.symm.trans hx')
  refine ⟨[], no_rl, hf.useS rfl rfl rfl rfl (by repeat' first | exact trivial | exact rfl | exact Iff.rfl | exact Or.inl rfl | refine And.intro ?_ ?_) (And.intro (by repeat' first | exact trivial | exact rfl | exact Iff.rfl | exact Or.inl rfl | refine And.intro ?_ ?_) (And.intro (by repeat' first | exact trivial | exact rfl | exact Iff.rfl | exact Or.inl rfl | refine And.intro ?_ ?_) (And.intro (by repeat' first | exact trivial | exact rfl | exact Iff.rfl | exact Or.inl rfl | refine And.intro ?_ ?_) (And.intro (by repeat' first | exact trivial | exact rfl | exact Iff.rfl | exact Or.inl rfl | refine And.intro ?_ ?_) (And.intro (by repeat' first | exact trivial | exact rfl | exact Iff.rfl | exact Or.inl rfl | refine And.intro ?_ ?_) (And.intro (by repeat' first | exact trivial | exact rfl | exact Iff.rfl | exact Or.inl rfl | refine And.intro ?_ ?_) ?_))))))⟩
  refine And.intro ?_ (And.intro ?_ trivial)
  rotate_left
  · refine ⟨[], no_rl, hf.useS rfl rfl rfl rfl (by repeat' first | exact trivial | exact rfl | exact Iff.rfl | exact Or.inl rfl | refine And.intro ?_ ?_) (And.intro (by repeat' first | exact trivial | exact rfl | exact Iff.rfl | exact Or.inl rfl | refine And.intro ?_ ?_) (And.intro (by repeat' first | exact trivial | exact rfl | exact Iff.rfl | exact Or.inl rfl | refine And.intro ?_ ?_) (And.intro (by repeat' first | exact trivial | exact rfl | exact Iff.rfl | exact Or.inl rfl | refine And.intro ?_ ?_) (And.intro (by repeat' first | exact trivial | exact rfl | exact Iff.rfl | exact Or.inl rfl | refine And.intro ?_ ?_) (And.intro (by repeat' first | exact trivial | exact rfl | exact Iff.rfl | exact Or.inl rfl | refine And.intro ?_ ?_) (And.intro (by repeat' first | exact trivial | exact rfl | exact Iff.rfl | exact Or.inl rfl | refine And.intro ?_ ?_) ?_))))))⟩
    exact rfl
  refine ⟨AI, l, aiP, rfl, show (0 : Int) ≤ (i : Int) by omega, show (i : Int) < (l.length : Int) by omega, fun x1 hx1 => ?_⟩
  obtain rfl : x = x1 := Option.some.inj (hx.symm.trans hx1)
  refine And.intro (fun hc => ?_) (fun hc => ?_)
  · have hc' : x.cond = -1 := hc
    refine ⟨show (0 : Int) ≤ (i : Int) by omega, show (i : Int) < ((intsP (wI W)).length : Nat) by rw [intsP_len]; omega, Int, wI W, PV.int .i64, rfl, show (i : Int).toNat < (wI W).length by omega, fun v hv => ?_⟩
    obtain rfl : (if w then 1 else 0) = v := Option.some.inj ((wI_get hw).symm.trans hv)
    refine And.intro (fun h0 => ?_) (fun h0 => ?_)
    · skip
      have hw0 : w = false := by cases w <;> simp at h0 ⊢
      subst hw0
      refine retS ?_ (by repeat' first | exact trivial | exact rfl | exact Iff.rfl | exact Or.inl rfl | refine And.intro ?_ ?_)
      repeat' first | exact trivial | exact rfl | refine And.intro ?_ ?_
      all_goals exact (show (47 : Int) = (branA x.cond false n).form by unfold branA; rw [if_pos (show x.cond < 0 by omega)]; rfl)
    · refine ⟨AI, l, aiP, rfl, show (0 : Int) ≤ (i : Int) by omega, show (i : Int) < (l.length : Int) by omega, fun x1 hx1 => ?_⟩
      obtain rfl : x = x1 := Option.some.inj (hx.symm.trans hx1)
      refine And.intro (fun _ => ?_) (fun hc2 => absurd hc hc2)
      have hw0 : w = true := by cases w <;> simp at h0 ⊢
      subst hw0
      refine retS ?_ (by repeat' first | exact trivial | exact rfl | exact Iff.rfl | exact Or.inl rfl | refine And.intro ?_ ?_)
      repeat' first | exact trivial | exact rfl | refine And.intro ?_ ?_
      all_goals exact (show (100 : Int) = (branA x.cond true n).form by unfold branA; rw [if_pos (show x.cond < 0 by omega)]; rfl)
  · have hc' : ¬ x.cond = -1 := hc
    refine ⟨AI, l, aiP, rfl, show (0 : Int) ≤ (i : Int) by omega, show (i : Int) < (l.length : Int) by omega, fun x1 hx1 => ?_⟩
    obtain rfl : x = x1 := Option.some.inj (hx.symm.trans hx1)
    refine And.intro (fun hc2 => absurd hc2 hc) (fun _ => ?_)
    refine ⟨show (0 : Int) ≤ (i : Int) by omega, show (i : Int) < ((intsP (wI W)).length : Nat) by rw [intsP_len]; omega, Int, wI W, PV.int .i64, rfl, show (i : Int).toNat < (wI W).length by omega, fun v hv => ?_⟩
    obtain rfl : (if w then 1 else 0) = v := Option.some.inj ((wI_get hw).symm.trans hv)
    refine And.intro (fun h0 => ?_) (fun h0 => ?_)
    · skip
      have hw0 : w = false := by cases w <;> simp at h0 ⊢
      subst hw0
      refine retS ?_ (by repeat' first | exact trivial | exact rfl | exact Iff.rfl | exact Or.inl rfl | refine And.intro ?_ ?_)
      repeat' first | exact trivial | exact rfl | refine And.intro ?_ ?_
      all_goals exact (show (46 : Int) = (branA x.cond false n).form by unfold branA; rw [if_neg (show ¬ x.cond < 0 by omega)]; rfl)
    · skip
      have hw0 : w = true := by cases w <;> simp at h0 ⊢
      subst hw0
      refine retS ?_ (by repeat' first | exact trivial | exact rfl | exact Iff.rfl | exact Or.inl rfl | refine And.intro ?_ ?_)
      repeat' first | exact trivial | exact rfl | refine And.intro ?_ ?_
      all_goals exact (show (99 : Int) = (branA x.cond true n).form by unfold branA; rw [if_neg (show ¬ x.cond < 0 by omega)]; rfl)

end Go.Proofs.YtjcacjeoddnmhaaDoor.Pw

/- Chapter 8 over values: all items are laid. -/
set_option linter.unusedVariables false
namespace Go.Proofs.YtjcacjeoddnmhaaDoor.Pw
open Go Go.RowKit

/-- the first ones of a list, then another list's -/
def mixL {α : Type} (new old : List α) (i : Nat) : List α := new.take i ++ old.drop i
theorem mix_len {α : Type} {new old : List α} (h : new.length = old.length) (i : Nat) : (mixL new old i).length = old.length := by
  unfold mixL; rw [List.length_append, List.length_take, List.length_drop]; omega
theorem mix_set {α : Type} {new old : List α} (h : new.length = old.length) {i : Nat} {v : α} (hv : new[i]? = some v) : (mixL new old i).set i v = mixL new old (i + 1) := by
  have hi : i < new.length := (List.getElem?_eq_some_iff.1 hv).1
  unfold mixL
  rw [List.take_add_one, hv, List.set_append_right _ _ (by rw [List.length_take]; omega), List.length_take, Nat.min_eq_left (by omega), Nat.sub_self, List.drop_eq_getElem_cons (show i < old.length by omega), List.set_cons_zero, List.append_assoc]
  rfl
theorem mix_all {α : Type} {new old : List α} (h : new.length = old.length) {i : Nat} (hi : old.length ≤ i) : mixL new old i = new := by
  unfold mixL
  rw [List.take_of_length_le (by omega), List.drop_of_length_le hi, List.append_nil]
theorem mix_none {α : Type} (new old : List α) : mixL new old 0 = old := by unfold mixL; rfl
theorem mix_at {α : Type} {new old : List α} (h : new.length = old.length) {i : Nat} {v : α} (hv : old[i]? = some v) : (mixL new old i)[i]? = some v := by
  have hi := (List.getElem?_eq_some_iff.1 hv).1
  unfold mixL
  rw [List.getElem?_append_right (by rw [List.length_take]; omega), List.length_take, Nat.min_eq_left (by omega), Nat.sub_self, List.getElem?_drop]
  exact hv
theorem mix_same {α : Type} {new old : List α} (h : new.length = old.length) {i : Nat} {v : α} (hv : old[i]? = some v) (hn : new[i]? = some v) : mixL new old (i + 1) = mixL new old i := by
  rw [← mix_set h hn]
  have h1 := mix_at h hv
  obtain ⟨h2, h3⟩ := List.getElem?_eq_some_iff.1 h1
  rw [← h3, List.set_getElem_self]
def atsA (l : List AI) (W : List Bool) : List Int := (List.range l.length).map (atA l W)
def szsA (l : List AI) (W : List Bool) : List Int := (List.range l.length).map fun i => atA l W (i + 1) - atA l W i
theorem atsA_len (l : List AI) (W : List Bool) : (atsA l W).length = l.length := by simp [atsA]
theorem szsA_len (l : List AI) (W : List Bool) : (szsA l W).length = l.length := by simp [szsA]
theorem atsA_get {l : List AI} {W : List Bool} {i : Nat} (h : i < l.length) : (atsA l W)[i]? = some (atA l W i) := by simp [atsA, h]
theorem szsA_get {l : List AI} {W : List Bool} {i : Nat} (h : i < l.length) : (szsA l W)[i]? = some (atA l W (i + 1) - atA l W i) := by simp [szsA, h]
theorem rightA_it {x : AI} (h : rightA x) : ItOk x := ⟨rightA_kind h, fun k => ((rightA_4 k).1 h).2.2⟩
theorem marksT_kvP {l : List AI} {W : List Bool} {L : List (Int × Int)} {i : Nat} {x : AI} (hx : l[i]? = some x) (hk : x.kind = 3) : (L ++ marksT l W i).map kvP ++ [kvP (x.label, atA l W i)] = (L ++ marksT l W (i + 1)).map kvP := by
  rw [marksT, hx]
  simp only
  rw [if_pos hk, ← List.append_assoc, List.map_append (l₂ := [_])]
  rfl
theorem marksT_not {l : List AI} {W : List Bool} {i : Nat} {x : AI} (hx : l[i]? = some x) (hk : ¬ x.kind = 3) : marksT l W (i + 1) = marksT l W i := by
  rw [marksT, hx]
  simp only
  rw [if_neg hk, List.append_nil]
theorem marksT_end {l : List AI} {W : List Bool} : ∀ {i : Nat}, l.length ≤ i → marksT l W i = marksT l W l.length
  | 0, h => by rw [show l.length = 0 by omega]
  | i + 1, h => by
    rcases Nat.eq_or_lt_of_le h with e | e
    · rw [e]
    · rw [marksT, List.getElem?_eq_none (by omega), marksT_end (by omega)]
      simp

set_option maxHeartbeats 4000000 in
set_option maxRecDepth 10000 in
theorem lay_runs {l : List AI} {W : List Bool} {at0 sz0 : List Int} {e0 : Int} {L : List (Int × Int)} (hW : W.length = l.length) (ha0 : at0.length = l.length) (hs0 : sz0.length = l.length) (hr : ∀ x ∈ l, rightA x) (hl : l.length ≤ 10000) (hL : L.length ≤ 1000000000) :
    RunsA 26 [.ptr 5 0] (sLy l W at0 sz0 e0 L) (.tup []) (sLy l W (atsA l W) (szsA l W) (endA l W 0) (L ++ marksT l W l.length)) := by
  have hI : ∀ x ∈ l, ItOk x := fun x hx => rightA_it (hr x hx)
  have la := atsA_len l W
  have ls := szsA_len l W
  have el : (l.map aiP).length = l.length := List.length_map ..
  refine Spec.leS (Spec.enter gTok P26 100 Tryd.func26 rfl (by kernel_rfl) ?_)
  refine fun hm => ?_
  refine SW.loopX gTok P26 (by kernel_rfl) (fun i : Nat => [(0, .ptr 5 0), (2, .int .i64 (atA l W i)), (8, .sl 15 (l.map aiP)), (9, .int .i64 (l.map aiP).length), (10, .int .i64 i)]) (fun i => sLy l W (mixL (atsA l W) at0 i) (mixL (szsA l W) sz0 i) e0 (L ++ marksT l W i)) (fun i => l.length - i) 0 60 [some 0, some 1, some 2, some 3, some 4, some 5] ?_ fun i => ?_
  · repeat' first | exact trivial | exact rfl | exact Iff.rfl | refine And.intro ?_ ?_
    all_goals first | exact (show intsP at0 = intsP _ by rw [mix_none]) | exact (show (L ++ marksT l W 0).map kvP = L.map kvP by rw [marksT, List.append_nil]) | exact (show L.map kvP = (L ++ marksT l W 0).map kvP by rw [marksT, List.append_nil])
  refine And.intro (fun h => ?_) (fun h => ?_)
  · have h' : (i : Int) < ((l.map aiP).length : Nat) := h
    rw [el] at h'
    refine ⟨AI, l, aiP, rfl, show (0 : Int) ≤ (i : Int) by omega, show (i : Int) < (l.length : Int) by omega, fun x hx => ?_⟩
    have hx' : l[i]? = some x := hx
    have hw' : W[i]? = some W[i] := List.getElem?_eq_getElem (by omega)
    have hrx := hr x (List.mem_of_getElem? hx')
    have b1 := atA_bd hW hI i (by omega)
    have b2 := atA_bd hW hI (i + 1) (by omega)
    have es := atA_succ hW hx' hw'
    have hb := bytes_runs .p (W := W) (at_ := mixL (atsA l W) at0 i) (sz := mixL (szsA l W) sz0 i) (e := e0) (L := L ++ marksT l W i) hx' hw' hrx (a := atA l W i) (by omega)
    refine ⟨[], no_rl, hb.useS rfl rfl rfl rfl (by repeat' first | exact trivial | exact rfl | exact Iff.rfl | exact Or.inl rfl | refine And.intro ?_ ?_) (And.intro (by repeat' first | exact trivial | exact rfl | exact Iff.rfl | exact Or.inl rfl | refine And.intro ?_ ?_) (And.intro (by repeat' first | exact trivial | exact rfl | exact Iff.rfl | exact Or.inl rfl | refine And.intro ?_ ?_) (And.intro (by repeat' first | exact trivial | exact rfl | exact Iff.rfl | exact Or.inl rfl | refine And.intro ?_ ?_) (And.intro (by repeat' first | exact trivial | exact rfl | exact Iff.rfl | exact Or.inl rfl | refine And.intro ?_ ?_) (And.intro (by repeat' first | exact trivial | exact rfl | exact Iff.rfl | exact Or.inl rfl | refine And.intro ?_ ?_) (And.intro (by repeat' first | exact trivial | exact rfl | exact Iff.rfl | exact Or.inl rfl | refine And.intro ?_ ?_) ?_))))))⟩
    refine ⟨show (0 : Int) ≤ (i : Int) by omega, show (i : Int) < ((intsP (mixL (atsA l W) at0 i)).length : Nat) by rw [intsP_len, mix_len (by omega)]; omega, show (i : Int).toNat < (intsP (mixL (atsA l W) at0 i)).length by rw [intsP_len, mix_len (by omega)]; omega, ?_⟩
    refine ⟨show (0 : Int) ≤ (i : Int) by omega, show (i : Int) < ((intsP (mixL (szsA l W) sz0 i)).length : Nat) by rw [intsP_len, mix_len (by omega)]; omega, show (i : Int).toNat < (intsP (mixL (szsA l W) sz0 i)).length by rw [intsP_len, mix_len (by omega)]; omega, ?_⟩
    refine And.intro (fun hk3 => ?_) (fun hk3 => ?_)
    · have hk3' : x.kind = 3 := hk3
      have hmay := ((rightA_3 hk3').1 hrx).2.2
      unfold mayV at hmay
      refine pmapPut_ok gTok ?_
      refine ⟨rfl, ?_⟩
      have lm := marksT_len l W i
      refine ⟨show InR .i64 x.label from inR_i64 (by omega), rfl, show InR .i64 (atA l W i) from inR_i64 (by omega), rfl, show ((L ++ marksT l W i).map kvP).length < maxLen by rw [List.length_map, List.length_append]; unfold maxLen; omega, ?_⟩
      refine ⟨show (0 : Int) ≤ (i : Int) by omega, show (i : Int) < (((intsP (mixL (szsA l W) sz0 i)).set i (.int .i64 (bytesA x W[i] (atA l W i)))).length : Nat) by rw [List.length_set, intsP_len, mix_len (by omega)]; omega, Int, (mixL (szsA l W) sz0 i).set i (bytesA x W[i] (atA l W i)), PV.int .i64, show (intsP (mixL (szsA l W) sz0 i)).set i (.int .i64 (bytesA x W[i] (atA l W i))) = _ by unfold intsP; rw [List.map_set], show (i : Int).toNat < ((mixL (szsA l W) sz0 i).set i (bytesA x W[i] (atA l W i))).length by rw [List.length_set, mix_len (by omega)]; omega, fun v hv => ?_⟩
      obtain rfl : bytesA x W[i] (atA l W i) = v := by
        have hv' : ((mixL (szsA l W) sz0 i).set i (bytesA x W[i] (atA l W i)))[i]? = some v := hv
        rw [List.getElem?_set_self (by rw [mix_len (by omega)]; omega)] at hv'
        exact Option.some.inj hv'
      refine .inl ⟨inR_i64 (show _ ≤ atA l W i + bytesA x W[i] (atA l W i) ∧ atA l W i + bytesA x W[i] (atA l W i) ≤ _ by omega), ?_⟩
      refine .inl ⟨inR_i64 (show _ ≤ (i : Int) + 1 ∧ (i : Int) + 1 ≤ _ by omega), ⟨i + 1, [some 0, some 1, some 2, some 3, some 4, some 5], by omega, ?_⟩⟩
      repeat' first | exact trivial | exact rfl | exact Iff.rfl | refine And.intro ?_ ?_
      all_goals first | exact (show atA l W i + bytesA x W[i] (atA l W i) = atA l W (i + 1) by rw [es]) | exact (show (intsP (mixL (atsA l W) at0 i)).set i (.int .i64 (atA l W i)) = intsP (mixL (atsA l W) at0 (i + 1)) by rw [← mix_set (by omega) (atsA_get (by omega))]; unfold intsP; rw [List.map_set]) | exact (show (intsP (mixL (szsA l W) sz0 i)).set i (.int .i64 (bytesA x W[i] (atA l W i))) = intsP (mixL (szsA l W) sz0 (i + 1)) by rw [← mix_set (by omega) (szsA_get (by omega)), es, show atA l W i + bytesA x W[i] (atA l W i) - atA l W i = bytesA x W[i] (atA l W i) by omega]; unfold intsP; rw [List.map_set]) | exact (show (L ++ marksT l W i).map kvP ++ [kvP (x.label, atA l W i)] = (L ++ marksT l W (i + 1)).map kvP by exact marksT_kvP hx' hk3')
    · have hk3' : ¬ x.kind = 3 := hk3
      refine ⟨show (0 : Int) ≤ (i : Int) by omega, show (i : Int) < (((intsP (mixL (szsA l W) sz0 i)).set i (.int .i64 (bytesA x W[i] (atA l W i)))).length : Nat) by rw [List.length_set, intsP_len, mix_len (by omega)]; omega, Int, (mixL (szsA l W) sz0 i).set i (bytesA x W[i] (atA l W i)), PV.int .i64, show (intsP (mixL (szsA l W) sz0 i)).set i (.int .i64 (bytesA x W[i] (atA l W i))) = _ by unfold intsP; rw [List.map_set], show (i : Int).toNat < ((mixL (szsA l W) sz0 i).set i (bytesA x W[i] (atA l W i))).length by rw [List.length_set, mix_len (by omega)]; omega, fun v hv => ?_⟩
      obtain rfl : bytesA x W[i] (atA l W i) = v := by
        have hv' : ((mixL (szsA l W) sz0 i).set i (bytesA x W[i] (atA l W i)))[i]? = some v := hv
        rw [List.getElem?_set_self (by rw [mix_len (by omega)]; omega)] at hv'
        exact Option.some.inj hv'
      refine .inl ⟨inR_i64 (show _ ≤ atA l W i + bytesA x W[i] (atA l W i) ∧ atA l W i + bytesA x W[i] (atA l W i) ≤ _ by omega), ?_⟩
      refine .inl ⟨inR_i64 (show _ ≤ (i : Int) + 1 ∧ (i : Int) + 1 ≤ _ by omega), ⟨i + 1, [some 0, some 1, some 2, some 3, some 4, some 5], by omega, ?_⟩⟩
      repeat' first | exact trivial | exact rfl | exact Iff.rfl | refine And.intro ?_ ?_
      all_goals first | exact (show atA l W i + bytesA x W[i] (atA l W i) = atA l W (i + 1) by rw [es]) | exact (show (intsP (mixL (atsA l W) at0 i)).set i (.int .i64 (atA l W i)) = intsP (mixL (atsA l W) at0 (i + 1)) by rw [← mix_set (by omega) (atsA_get (by omega))]; unfold intsP; rw [List.map_set]) | exact (show (intsP (mixL (szsA l W) sz0 i)).set i (.int .i64 (bytesA x W[i] (atA l W i))) = intsP (mixL (szsA l W) sz0 (i + 1)) by rw [← mix_set (by omega) (szsA_get (by omega)), es, show atA l W i + bytesA x W[i] (atA l W i) - atA l W i = bytesA x W[i] (atA l W i) by omega]; unfold intsP; rw [List.map_set]) | exact (show (L ++ marksT l W i).map kvP = (L ++ marksT l W (i + 1)).map kvP by rw [marksT_not hx' hk3'])
  · have h' : ¬ (i : Int) < ((l.map aiP).length : Nat) := h
    rw [el] at h'
    rw [mix_all (by omega) (show at0.length ≤ i by omega), mix_all (by omega) (show sz0.length ≤ i by omega), marksT_end (show l.length ≤ i by omega), atA_end hW (show l.length ≤ i by omega)]
    (refine retS (by repeat' first | exact trivial | exact rfl | exact Iff.rfl | refine And.intro ?_ ?_) ?_; repeat' first | exact trivial | exact rfl | exact Iff.rfl | exact Or.inl rfl | refine And.intro ?_ ?_)

end Go.Proofs.YtjcacjeoddnmhaaDoor.Pw

/- Chapter 8 over values: jumps that don't reach become wide. -/
set_option linter.unusedVariables false
namespace Go.Proofs.YtjcacjeoddnmhaaDoor.Pw
open Go Go.RowKit

theorem lkM_bd {L : List (Int × Int)} {B : Int} (hB : 0 ≤ B) (h : ∀ p ∈ L, 0 ≤ p.2 ∧ p.2 ≤ B) (k : Int) : 0 ≤ lkM L k ∧ lkM L k ≤ B := by
  unfold lkM
  have key : ∀ (L : List (Int × Int)) (a : Int), (∀ p ∈ L, 0 ≤ p.2 ∧ p.2 ≤ B) → 0 ≤ a ∧ a ≤ B → 0 ≤ L.foldl (fun a x => if x.1 = k then x.2 else a) a ∧ L.foldl (fun a x => if x.1 = k then x.2 else a) a ≤ B := by
    intro L
    induction L with
    | nil => intro a _ h; exact h
    | cons p L ih =>
      intro a h ha
      rw [List.foldl_cons]
      refine ih _ (fun q hq => h q (by simp [hq])) ?_
      split
      · exact h p (by simp)
      · exact ha
  exact key L 0 h ⟨Int.le_refl 0, hB⟩
theorem marksT_bd {l : List AI} {W : List Bool} (hW : W.length = l.length) (hI : ∀ x ∈ l, ItOk x) (hl : l.length ≤ 10000) {i : Nat} (hi : i ≤ l.length) : ∀ p ∈ marksT l W i, 0 ≤ p.2 ∧ p.2 ≤ 1000000 := fun p hp => by
  obtain ⟨j, x, hj, _, _, rfl⟩ := marksT_mem hp
  have := atA_bd hW hI j (by omega)
  show 0 ≤ atA l W j ∧ atA l W j ≤ 1000000
  omega
/-- how many of the first jumps become wide -/
def chgN (l : List AI) (W : List Bool) (i : Nat) : Int := ((W.take i).count false : Nat) - (((nextA l W).take i).count false : Nat)
theorem count_step {V : List Bool} {i : Nat} {v : Bool} (h : V[i]? = some v) : (V.take (i + 1)).count false = (V.take i).count false + (if v then 0 else 1) := by
  rw [List.take_add_one, h, List.count_append]
  cases v <;> simp
theorem chg_step {l : List AI} {W : List Bool} {i : Nat} {v w : Bool} (hv : (nextA l W)[i]? = some v) (hw : W[i]? = some w) : chgN l W (i + 1) = chgN l W i + ((if w then 0 else 1) - (if v then 0 else 1)) := by
  unfold chgN
  rw [count_step hv, count_step hw]
  cases v <;> cases w <;> simp <;> omega
theorem chg_bd {l : List AI} {W : List Bool} (i : Nat) : -(i : Int) ≤ chgN l W i ∧ chgN l W i ≤ i := by
  unfold chgN
  have h1 : (W.take i).count false ≤ i := Nat.le_trans List.count_le_length (by rw [List.length_take]; omega)
  have h2 : ((nextA l W).take i).count false ≤ i := Nat.le_trans List.count_le_length (by rw [List.length_take]; omega)
  omega
theorem chg_end {l : List AI} {W : List Bool} (hl : W.length = l.length) {i : Nat} (hi : l.length ≤ i) : chgN l W i = (narrowN W : Int) - (narrowN (nextA l W) : Int) := by
  unfold chgN narrowN
  rw [List.take_of_length_le (by omega), List.take_of_length_le (by rw [nextA_len hl]; omega)]
set_option maxHeartbeats 4000000 in
set_option maxRecDepth 10000 in
theorem widen_runs {l : List AI} {W : List Bool} {e : Int} {L : List (Int × Int)} (hW : W.length = l.length) (hr : ∀ x ∈ l, rightA x) (hc : ∀ x ∈ l, x.kind = 2 → cntA l x.label = 1) (hl : l.length ≤ 10000) (hL : ∀ p ∈ L, 0 ≤ p.2 ∧ p.2 ≤ 1000000) :
    RunsA 27 [.ptr 5 0] (sLy l W (atsA l W) (szsA l W) e (L ++ marksT l W l.length)) (.int .i64 ((narrowN W : Int) - (narrowN (nextA l W) : Int))) (sLy l (nextA l W) (atsA l W) (szsA l W) e (L ++ marksT l W l.length)) := by
  have hI : ∀ x ∈ l, ItOk x := fun x hx => rightA_it (hr x hx)
  have el : (l.map aiP).length = l.length := List.length_map ..
  have hV := nextA_len hW
  have hO : OffB (L ++ marksT l W l.length) := lkM_bd (by decide) fun p hp => (List.mem_append.1 hp).elim (hL p) (marksT_bd hW hI hl (Nat.le_refl _) p)
  refine Spec.leS (Spec.enter gTok P27 100 Tryd.func27 rfl (by kernel_rfl) ?_)
  refine fun hm => ?_
  refine SW.loopX gTok P27 (by kernel_rfl) (fun i : Nat => [(0, .ptr 5 0), (3, .int .i64 (chgN l W i)), (9, .sl 15 (l.map aiP)), (10, .int .i64 (l.map aiP).length), (11, .int .i64 i)]) (fun i => sLy l (mixL (nextA l W) W i) (atsA l W) (szsA l W) e (L ++ marksT l W l.length)) (fun i => l.length - i) 0 60 [some 0, some 1, some 2, some 3, some 4, some 5] ?_ fun i => ?_
  · repeat' first | exact trivial | exact rfl | exact Iff.rfl | refine And.intro ?_ ?_
    all_goals exact (show intsP (wI W) = intsP (wI (mixL (nextA l W) W 0)) by rw [mix_none])
  refine And.intro (fun h => ?_) (fun h => ?_)
  · have h' : (i : Int) < ((l.map aiP).length : Nat) := h
    rw [el] at h'
    refine ⟨AI, l, aiP, rfl, show (0 : Int) ≤ (i : Int) by omega, show (i : Int) < (l.length : Int) by omega, fun x hx => ?_⟩
    have hx' : l[i]? = some x := hx
    have hw' : W[i]? = some W[i] := List.getElem?_eq_getElem (by omega)
    have hxm := List.mem_of_getElem? hx'
    have hrx := hr x hxm
    have b1 := atA_bd hW hI i (by omega)
    have hv' := nextA_get hx' hw'
    have cs := chg_step hv' hw'
    have cb := chg_bd (l := l) (W := W) i
    have hml := mix_len (hV.trans hW.symm) i
    have hmg := mix_at (hV.trans hW.symm) hw'
    refine And.intro (fun hk => ?_) (fun hk => ?_)
    · have hk' : x.kind = 2 := hk
      have hq := (rightA_2 hk').1 hrx
      have hrc := reaches_runs (W := mixL (nextA l W) W i) (at_ := atsA l W) (sz := szsA l W) (e := e) (L := L ++ marksT l W l.length) hx' hq.2.2.2 hq.2.2.1.1 (atsA_get (by omega)) (by omega) hO
      rw [lk_far L (hc x hxm hk')] at hrc
      generalize hfr : farA l W i x = fr at *
      have hnb : nextB l W i x W[i] = (W[i] || !shortA x.cond fr) := by unfold nextB; rw [decide_eq_true hk', hfr]; simp
      generalize W[i] = w at *
      refine ⟨show (0 : Int) ≤ (i : Int) by omega, show (i : Int) < ((intsP (wI (mixL (nextA l W) W i))).length : Nat) by rw [intsP_len, wI_len, hml]; omega, Int, wI (mixL (nextA l W) W i), PV.int .i64, rfl, show (i : Int).toNat < (wI (mixL (nextA l W) W i)).length by rw [wI_len, hml]; omega, fun v hv => ?_⟩
      obtain rfl : (if w then 1 else 0) = v := Option.some.inj ((wI_get hmg).symm.trans hv)
      refine And.intro (fun h0 => ?_) (fun h0 => ?_)
      · have hw0 : w = false := by cases w <;> simp at h0 ⊢
        subst hw0
        refine ⟨[], no_rl, hrc.useS rfl rfl rfl rfl (by repeat' first | exact trivial | exact rfl | exact Iff.rfl | exact Or.inl rfl | refine And.intro ?_ ?_) (And.intro (by repeat' first | exact trivial | exact rfl | exact Iff.rfl | exact Or.inl rfl | refine And.intro ?_ ?_) (And.intro (by repeat' first | exact trivial | exact rfl | exact Iff.rfl | exact Or.inl rfl | refine And.intro ?_ ?_) (And.intro (by repeat' first | exact trivial | exact rfl | exact Iff.rfl | exact Or.inl rfl | refine And.intro ?_ ?_) (And.intro (by repeat' first | exact trivial | exact rfl | exact Iff.rfl | exact Or.inl rfl | refine And.intro ?_ ?_) (And.intro (by repeat' first | exact trivial | exact rfl | exact Iff.rfl | exact Or.inl rfl | refine And.intro ?_ ?_) (And.intro (by repeat' first | exact trivial | exact rfl | exact Iff.rfl | exact Or.inl rfl | refine And.intro ?_ ?_) ?_))))))⟩
        refine And.intro (fun hns => ?_) (fun hns => ?_)
        · have hns' : ¬ shortA x.cond fr = true := hns
          have hvt : nextB l W i x false = true := by rw [hnb]; simpa using hns'
          rw [hvt] at hv' cs
          have e1 : chgN l W (i + 1) = chgN l W i + 1 := by rw [cs]; simp
          refine ⟨show (0 : Int) ≤ (i : Int) by omega, show (i : Int) < ((intsP (wI (mixL (nextA l W) W i))).length : Nat) by rw [intsP_len, wI_len, hml]; omega, show (i : Int).toNat < (intsP (wI (mixL (nextA l W) W i))).length by rw [intsP_len, wI_len, hml]; omega, ?_⟩
          refine .inl ⟨inR_i64 (show _ ≤ chgN l W i + 1 ∧ chgN l W i + 1 ≤ _ by omega), ?_⟩
          refine .inl ⟨inR_i64 (show _ ≤ (i : Int) + 1 ∧ (i : Int) + 1 ≤ _ by omega), ⟨i + 1, [some 0, some 1, some 2, some 3, some 4, some 5], by omega, ?_⟩⟩
          repeat' first | exact trivial | exact rfl | exact Iff.rfl | refine And.intro ?_ ?_
          all_goals first | exact (show chgN l W i + 1 = chgN l W (i + 1) by rw [e1]) | exact (show (intsP (wI (mixL (nextA l W) W i))).set i (.int .i64 1) = intsP (wI (mixL (nextA l W) W (i + 1))) by rw [← mix_set (hV.trans hW.symm) hv']; unfold wI intsP; rw [List.map_set, List.map_set]; rfl)
        · have hns' : shortA x.cond fr = true := Classical.not_not.1 hns
          have hsame : nextB l W i x false = false := by rw [hnb]; simp [hns']
          rw [hsame] at hv' cs
          have e1 : chgN l W (i + 1) = chgN l W i := by rw [cs]; omega
          have e2 := mix_same (hV.trans hW.symm) hw' hv'
          refine .inl ⟨inR_i64 (show _ ≤ (i : Int) + 1 ∧ (i : Int) + 1 ≤ _ by omega), ⟨i + 1, [some 0, some 1, some 2, some 3, some 4, some 5], by omega, ?_⟩⟩
          repeat' first | exact trivial | exact rfl | exact Iff.rfl | refine And.intro ?_ ?_
          all_goals first | exact (show chgN l W i = chgN l W (i + 1) by rw [e1]) | exact (show intsP (wI (mixL (nextA l W) W i)) = intsP (wI (mixL (nextA l W) W (i + 1))) by rw [e2])
      · have hw0 : w = true := by cases w <;> simp at h0 ⊢
        subst hw0
        have hsame : nextB l W i x true = true := by rw [hnb]; rfl
        rw [hsame] at hv' cs
        have e1 : chgN l W (i + 1) = chgN l W i := by rw [cs]; omega
        have e2 := mix_same (hV.trans hW.symm) hw' hv'
        refine .inl ⟨inR_i64 (show _ ≤ (i : Int) + 1 ∧ (i : Int) + 1 ≤ _ by omega), ⟨i + 1, [some 0, some 1, some 2, some 3, some 4, some 5], by omega, ?_⟩⟩
        repeat' first | exact trivial | exact rfl | exact Iff.rfl | refine And.intro ?_ ?_
        all_goals first | exact (show chgN l W i = chgN l W (i + 1) by rw [e1]) | exact (show intsP (wI (mixL (nextA l W) W i)) = intsP (wI (mixL (nextA l W) W (i + 1))) by rw [e2])
    · have hk' : ¬ x.kind = 2 := hk
      have hsame : nextB l W i x W[i] = W[i] := by unfold nextB; rw [decide_eq_false hk']; simp
      rw [hsame] at hv' cs
      have e1 : chgN l W (i + 1) = chgN l W i := by rw [cs]; omega
      have e2 := mix_same (hV.trans hW.symm) hw' hv'
      refine .inl ⟨inR_i64 (show _ ≤ (i : Int) + 1 ∧ (i : Int) + 1 ≤ _ by omega), ⟨i + 1, [some 0, some 1, some 2, some 3, some 4, some 5], by omega, ?_⟩⟩
      repeat' first | exact trivial | exact rfl | exact Iff.rfl | refine And.intro ?_ ?_
      all_goals first | exact (show chgN l W i = chgN l W (i + 1) by rw [e1]) | exact (show intsP (wI (mixL (nextA l W) W i)) = intsP (wI (mixL (nextA l W) W (i + 1))) by rw [e2])
  · have h' : ¬ (i : Int) < ((l.map aiP).length : Nat) := h
    rw [el] at h'
    rw [mix_all (hV.trans hW.symm) (show W.length ≤ i by omega), chg_end hW (show l.length ≤ i by omega)]
    (refine retS (by repeat' first | exact trivial | exact rfl | exact Iff.rfl | refine And.intro ?_ ?_) ?_; repeat' first | exact trivial | exact rfl | exact Iff.rfl | exact Or.inl rfl | refine And.intro ?_ ?_)

end Go.Proofs.YtjcacjeoddnmhaaDoor.Pw

/- A struct that comes in by value, opened. -/
namespace Go.Proofs.YtjcacjeoddnmhaaDoor.Pw
open Go Go.RowKit

theorem Op.argS {P : Program} {t : TypeId} {S : PV → Prop} (h : Op P t S) (hS : ∀ y, S y → ∃ xs, y = .agg xs) {H : Type} {ec : TypeId × Value → H} {w : World} {base : Nat} {held : Bool} {vs : Array Value} {d : DataW H} {p : List MemPlace} (ht : DataW.Trod ec P w base (fun _ => true) held t (.agg vs) d p) (hwt : ∀ n ∈ d.weights P t, n ≤ reachBytes) :
    ∃ y, S y ∧ y.Is w (In w) no (.agg vs) := by
  obtain ⟨fuel, ht⟩ := ht
  obtain ⟨y, hy, _, hi, _⟩ := h ec w base held fuel _ _ ht hwt
  refine ⟨y, hy, ?_⟩
  obtain ⟨xs, rfl⟩ := hS y hy
  simp only [PV.Is]
  exact ⟨vs, rfl, hi⟩

end Go.Proofs.YtjcacjeoddnmhaaDoor.Pw

/- What comes in to chapter 4's laws, opened; the tables. -/
namespace Go.Proofs.YtjcacjeoddnmhaaDoor.codeLaid
open Go.ChangeShapes Go.WideShapes Go.ChangeAt Go.RowKit Go.Deep

def laidList : List (String × DataW Unit) := [("remontoire/imm.factors", Rows.laid_remontoire_imm_factors), ("remontoire/inst.shapes", Rows.laid_remontoire_inst_shapes)]
def fuel : Nat := 3000
theorem door_met (os : Os) (args : Array Value) : laidMetH Tryd.prog laidList ((World.doorLaid Tryd.prog fuel os).forCall (fun _ _ => 0) ⟨#[], args, []⟩).memory :=
  laidMetH_of_parts3 (fuel := 8) (laidMet_of_run' 8 (by kernel_rfl) (by kernel_rfl)) (by kernel_rfl) (by kernel_rfl)

end Go.Proofs.YtjcacjeoddnmhaaDoor.codeLaid

namespace Go.Proofs.YtjcacjeoddnmhaaDoor.Pw
open Go Go.RowKit

theorem immCode {W : World} (h : laidMetH Tryd.prog codeLaid.laidList W) : ImmOk gT (In W) W :=
  immOk_laid (laid := codeLaid.laidList) (by kernel_rfl) h fun x hx => by
    have hx' : x ∈ [(1, facP), (0, shP)] := hx
    simp only [List.mem_cons, List.not_mem_nil, or_false] at hx'
    rcases hx' with rfl | rfl
    · exact ⟨"remontoire/imm.factors", _, 101, List.mem_cons_self, by kernel_rfl, by kernel_rfl, by kernel_rfl, nofun⟩
    · exact ⟨"remontoire/inst.shapes", _, 86, List.mem_cons_of_mem _ List.mem_cons_self, by kernel_rfl, by kernel_rfl, by kernel_rfl, nofun⟩

theorem inR_i64c {z : Int} (h : InR .i64 z) : I64 z := by unfold InR Ev.kmin Ev.kmax at h; simp only [IntKind.signed, IntKind.bits] at h; unfold I64; simpa using h
theorem opI64c : Op Tryd.prog 3 (SInt .i64) := opInt Tryd.underlying3 (by kernel_rfl)
theorem opIN_ : Op Tryd.prog 24 (SAgg (List.replicate 11 (SInt .i64))) :=
  opAgg (Ss := List.replicate 11 (SInt .i64)) Tryd.underlying24
    ⟨rfl, opInt Tryd.underlying22 (by kernel_rfl), (show _ = _ by kernel_rfl), opI64c, (show _ = _ by kernel_rfl), opI64c, (show _ = _ by kernel_rfl), opI64c, (show _ = _ by kernel_rfl), opI64c, (show _ = _ by kernel_rfl), opI64c, (show _ = _ by kernel_rfl), opI64c, (show _ = _ by kernel_rfl), opI64c, (show _ = _ by kernel_rfl), opI64c, (show _ = _ by kernel_rfl), opI64c, (show _ = _ by kernel_rfl), opI64c, (show _ = _ by kernel_rfl)⟩
theorem in_dec (x : PV) (h : SAgg (List.replicate 11 (SInt .i64)) x) : ∃ i : IN, IOk i ∧ x = inP i := by
  obtain ⟨xs, h, rfl⟩ := h
  obtain ⟨_, _, rfl, ⟨a0, b0, rfl⟩, h_1⟩ := all2_cons (S := SInt .i64) (Ss := List.replicate 10 (SInt .i64)) h
  obtain ⟨_, _, rfl, ⟨a1, b1, rfl⟩, h_2⟩ := all2_cons (S := SInt .i64) (Ss := List.replicate 9 (SInt .i64)) h_1
  obtain ⟨_, _, rfl, ⟨a2, b2, rfl⟩, h_3⟩ := all2_cons (S := SInt .i64) (Ss := List.replicate 8 (SInt .i64)) h_2
  obtain ⟨_, _, rfl, ⟨a3, b3, rfl⟩, h_4⟩ := all2_cons (S := SInt .i64) (Ss := List.replicate 7 (SInt .i64)) h_3
  obtain ⟨_, _, rfl, ⟨a4, b4, rfl⟩, h_5⟩ := all2_cons (S := SInt .i64) (Ss := List.replicate 6 (SInt .i64)) h_4
  obtain ⟨_, _, rfl, ⟨a5, b5, rfl⟩, h_6⟩ := all2_cons (S := SInt .i64) (Ss := List.replicate 5 (SInt .i64)) h_5
  obtain ⟨_, _, rfl, ⟨a6, b6, rfl⟩, h_7⟩ := all2_cons (S := SInt .i64) (Ss := List.replicate 4 (SInt .i64)) h_6
  obtain ⟨_, _, rfl, ⟨a7, b7, rfl⟩, h_8⟩ := all2_cons (S := SInt .i64) (Ss := List.replicate 3 (SInt .i64)) h_7
  obtain ⟨_, _, rfl, ⟨a8, b8, rfl⟩, h_9⟩ := all2_cons (S := SInt .i64) (Ss := List.replicate 2 (SInt .i64)) h_8
  obtain ⟨_, _, rfl, ⟨a9, b9, rfl⟩, h_10⟩ := all2_cons (S := SInt .i64) (Ss := List.replicate 1 (SInt .i64)) h_9
  obtain ⟨_, _, rfl, ⟨a10, b10, rfl⟩, h_11⟩ := all2_cons (S := SInt .i64) (Ss := List.replicate 0 (SInt .i64)) h_10
  obtain rfl := all2_nil h_11
  refine ⟨⟨a0, a1, a2, a3, a4, a5, a6, a7, a8, a9, a10⟩, fun x hx => ?_, rfl⟩
  simp only [inLs, List.mem_cons, List.not_mem_nil, or_false] at hx
  rcases hx with rfl | rfl | rfl | rfl | rfl | rfl | rfl | rfl | rfl | rfl | rfl
  · exact inR_i64c b0
  · exact inR_i64c b1
  · exact inR_i64c b2
  · exact inR_i64c b3
  · exact inR_i64c b4
  · exact inR_i64c b5
  · exact inR_i64c b6
  · exact inR_i64c b7
  · exact inR_i64c b8
  · exact inR_i64c b9
  · exact inR_i64c b10
def SIN (x : PV) : Prop := ∃ i : IN, IOk i ∧ x = inP i
theorem opIN : Op Tryd.prog 24 SIN := opIN_.weak in_dec
end Go.Proofs.YtjcacjeoddnmhaaDoor.Pw

/- Chapter 4 over values: CodeOnce, CodeBegins. -/
namespace Go.Proofs.YtjcacjeoddnmhaaDoor.Pw
open Go Go.RowKit

/-! ### the first half -/
def spanF (l : List (Nat × Nat × Nat × Nat)) : Nat := l.foldl (fun m x => max m (x.2.2.1 + x.2.2.2)) 0
theorem spanF_le : ∀ (l : List (Nat × Nat × Nat × Nat)) (m : Nat), m ≤ l.foldl (fun m x => max m (x.2.2.1 + x.2.2.2)) m ∧ ∀ x ∈ l, x.2.2.1 + x.2.2.2 ≤ l.foldl (fun m x => max m (x.2.2.1 + x.2.2.2)) m
  | [], m => ⟨Nat.le_refl _, fun x hx => by cases hx⟩
  | y :: l, m => by
    have h := spanF_le l (max m (y.2.2.1 + y.2.2.2))
    rw [List.foldl_cons]
    refine ⟨by omega, fun x hx => ?_⟩
    rcases List.mem_cons.1 hx with rfl | hx
    · omega
    · exact h.2 x hx
theorem orF_lt (i : IN) (k : Nat) : ∀ (l : List (Nat × Nat × Nat × Nat)) (V : Nat), V < 2 ^ k → (∀ x ∈ l, x.2.2.1 + x.2.2.2 ≤ k) → l.foldl (fun w x => w ||| B (getV i x.1) x.2.1 x.2.2.2 x.2.2.1) V < 2 ^ k
  | [], V, h, _ => h
  | x :: l, V, h, hl => by
    rw [List.foldl_cons]
    refine orF_lt i k l _ (Nat.or_lt_two_pow h ?_) fun y hy => hl y (List.mem_cons_of_mem _ hy)
    have b := bitsV_bd (getV i x.1) x.2.1 x.2.2.2
    have e := pow_cast x.2.2.2
    have h1 : (bitsV (getV i x.1) x.2.1 x.2.2.2).toNat < 2 ^ x.2.2.2 := by omega
    unfold B
    rw [Nat.shiftLeft_eq]
    calc (bitsV (getV i x.1) x.2.1 x.2.2.2).toNat * 2 ^ x.2.2.1 < 2 ^ x.2.2.2 * 2 ^ x.2.2.1 := Nat.mul_lt_mul_of_pos_right h1 (Nat.two_pow_pos _)
      _ = 2 ^ (x.2.2.2 + x.2.2.1) := (Nat.pow_add ..).symm
      _ ≤ 2 ^ k := Nat.pow_le_pow_right (by omega) (by have := hl x (List.mem_cons_self ..); omega)
theorem or_top_same (a b k : Nat) (h : b < 2 ^ k) : a ||| b < (a / 2 ^ k + 1) * 2 ^ k := by
  have e : (a ||| b) / 2 ^ k = a / 2 ^ k := by
    apply Nat.eq_of_testBit_eq
    intro p
    rw [Nat.testBit_div_two_pow, Nat.testBit_div_two_pow, Nat.testBit_or, Nat.testBit_lt_two_pow (x := b) (Nat.lt_of_lt_of_le h (Nat.pow_le_pow_right (by decide) (by omega))), Bool.or_false]
  have hp := Nat.two_pow_pos k
  have h1 := Nat.lt_mul_div_succ (a ||| b) hp
  rw [e, Nat.mul_comm] at h1
  exact h1
theorem narrow_tab : ((List.range 47).all fun k => decide ((fbN (k + 1) / 2 ^ spanF (fdN (k + 1)) + 1) * 2 ^ spanF (fdN (k + 1)) ≤ 59392)) = true := by decide +kernel
theorem wide_tab : ((List.range 53).all fun k => decide (3892314112 ≤ fbN (k + 48))) = true := by decide +kernel
theorem top_narrow (i : IN) (h : rightV i) (hn : ¬ 48 ≤ i.form) : wordV i < 59392 := by
  have f1 := h.1
  have ef : ((i.form.toNat : Nat) : Int) = i.form := by omega
  have t := of_decide_eq_true (List.all_eq_true.1 narrow_tab (i.form.toNat - 1) (List.mem_range.2 (by omega)))
  rw [show i.form.toNat - 1 + 1 = i.form.toNat by omega] at t
  unfold fbN fdN at t
  rw [ef] at t
  have l := orF_lt (turnI i) (spanF (fieldsV (shapeV i.form))) (fieldsV (shapeV i.form)) 0 (Nat.two_pow_pos _) fun x hx => (spanF_le _ 0).2 x hx
  have o := or_top_same (fbV i.form).toNat _ _ l
  have e : wordV i = (((fbV i.form).toNat ||| orF (turnI i) (fieldsV (shapeV i.form)) : Nat) : Int) := word_or i
  rw [e]
  have o2 : ((fbV i.form).toNat ||| orF (turnI i) (fieldsV (shapeV i.form))) < 59392 := Nat.lt_of_lt_of_le o t
  omega
theorem word_bd (i : IN) : U32 (wordV i) := by
  have := or4_lt (show (fbV i.form).toNat < 4294967296 by have := fb_bd i.form; omega) (orV_lt i)
  rw [word_or]; unfold U32; omega
theorem top_wide (i : IN) (h : rightV i) (hn : 48 ≤ i.form) : 3892314112 ≤ wordV i := by
  have f1 := h.1
  have ef : ((i.form.toNat : Nat) : Int) = i.form := by omega
  have t := of_decide_eq_true (List.all_eq_true.1 wide_tab (i.form.toNat - 48) (List.mem_range.2 (by omega)))
  rw [show i.form.toNat - 48 + 48 = i.form.toNat by omega] at t
  unfold fbN at t
  rw [ef] at t
  have l : (fbV i.form).toNat ≤ (fbV i.form).toNat ||| orF (turnI i) (fieldsV (shapeV i.form)) := Nat.left_le_or
  rw [word_or]; omega

end Go.Proofs.YtjcacjeoddnmhaaDoor.Pw

/- Chapter 4 over values: an instruction's bytes; CodeWords. -/
namespace Go.Proofs.YtjcacjeoddnmhaaDoor.Pw
open Go Go.RowKit

def u8P (l : List Int) : List PV := l.map (PV.int .u8)
/-- an instruction's bytes -/
def byL (i : IN) : List Int := (if 48 ≤ i.form then [wordV i / 65536 % 256, wordV i / 16777216 % 256] else []) ++ [wordV i % 256, wordV i / 256 % 256]
theorem r24 : Ev.pow2 .u32 24 = 16777216 := by decide
set_option maxHeartbeats 4000000 in
set_option maxRecDepth 100000 in
theorem bytes_yes (i : IN) (h : rightV i) (hI : IOk i) : PureF gT 48 [inP i] (.tup [.sl 1 (u8P (byL i)), .int .i64 0]) := by
  have e0 := IntKind.wrap_u8' (wordV i)
  have e1 := IntKind.wrap_u8' (wordV i / Ev.pow2 .u32 8)
  have e2 := IntKind.wrap_u8' (wordV i / Ev.pow2 .u32 16)
  have e3 := IntKind.wrap_u8' (wordV i / Ev.pow2 .u32 24)
  have p8 : Ev.pow2 .u32 8 = 256 := by decide
  have p16 : Ev.pow2 .u32 16 = 65536 := by decide
  refine Spec.enter gTok P48 100 Tryd.func48 rfl (by kernel_rfl) ?_
  refine ⟨[], no_rl, (word_yes i h hI).use (by repeat' first | exact trivial | exact rfl | exact Iff.rfl | exact Or.inl rfl | refine And.intro ?_ ?_) rfl rfl ?_⟩
  refine And.intro (fun h => absurd rfl h) (fun _ => ?_)
  refine .inr ?_
  refine ⟨by decide, .inr ?_⟩
  refine ⟨[], no_rl, (form_wide i.form).use (by repeat' first | exact trivial | exact rfl | exact Iff.rfl | exact Or.inl rfl | refine And.intro ?_ ?_) rfl rfl ?_⟩
  refine And.intro (fun hn => ?_) (fun hn => ?_)
  · have hn' : ¬ 48 ≤ i.form := fun e => hn ⟨e, h.1.2⟩
    refine retE ?_
    refine And.intro ?_ (And.intro rfl trivial)
    show [PV.int .u8 (IntKind.u8.wrap (wordV i)), .int .u8 (IntKind.u8.wrap (wordV i / Ev.pow2 .u32 8))] = u8P (byL i)
    rw [e0, e1, p8]
    unfold byL u8P; rw [if_neg hn']; rfl
  · have hn' : 48 ≤ i.form := (Classical.not_not.1 hn).1
    refine ⟨by decide, .inr ?_⟩
    refine ⟨by decide, .inr ?_⟩
    refine retE ?_
    refine And.intro ?_ (And.intro rfl trivial)
    show [PV.int .u8 (IntKind.u8.wrap (wordV i / Ev.pow2 .u32 16)), .int .u8 (IntKind.u8.wrap (wordV i / Ev.pow2 .u32 24)), PV.int .u8 (IntKind.u8.wrap (wordV i)), .int .u8 (IntKind.u8.wrap (wordV i / Ev.pow2 .u32 8))] = u8P (byL i)
    rw [e0, e1, e2, e3, p8, p16, r24]
    unfold byL u8P; rw [if_pos hn']; rfl
end Go.Proofs.YtjcacjeoddnmhaaDoor.Pw

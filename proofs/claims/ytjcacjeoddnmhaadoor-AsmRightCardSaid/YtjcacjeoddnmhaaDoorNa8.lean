/- What the laws of this claim are proved with, joined (join.py) of 18 texts: no condition. -/
import Derived.Test.YtjcacjeoddnmhaaDoorNa7
import Derived.Test.YtjcacjeoddnmhaaDoorNa6
import Derived.Test.YtjcacjeoddnmhaaDoorNa4
import Derived.Test.YtjcacjeoddnmhaaDoorRows
import Derived.ProofKit
import Derived.LaidMore
import Derived.OpenShut
import Derived.Stop.Joined
import Derived.Lib.LaidTab
import Derived.Test.YtjcacjeoddnmhaaDoorNa5
set_option linter.unusedVariables false
set_option linter.unusedSimpArgs false

/- Chapter 4 over values: the instruction of bits, as the document says; small functions of the laws; CodeReads, CodeOnce, CodeBegins. -/
namespace Go.Proofs.YtjcacjeoddnmhaaDoor.Pw
open Go Go.RowKit

def beginsV (h : Int) : Prop := 29 ≤ h % 65536 / 2048
theorem begins_pure (h : Int) (hh : U32 h) : PureF gT 30 [.int .u32 h] (.bool (beginsV h)) := by
  have e : bits .and .u32 h 65535 = h % 65536 := and_mask h 16 hh.1 hh.2 (by decide)
  refine Spec.enter gTok P30 100 Tryd.func30 rfl (by kernel_rfl) ?_
  refine ⟨by decide, ?_⟩
  refine retE ?_
  show 29 ≤ bits .and .u32 h 65535 / Ev.pow2 .u32 11 ↔ beginsV h
  rw [e, r11]; exact Iff.rfl
def sizeV (f : Int) : Int := if 48 ≤ f ∧ f ≤ 100 then 4 else if 1 ≤ f ∧ f ≤ 47 then 2 else 0
theorem size_pure (f : Int) : PureF gT 32 [.int .i64 f] (.int .i64 (sizeV f)) := by
  refine Spec.enter gTok P32 100 Tryd.func32 rfl (by kernel_rfl) ?_
  refine ⟨[], no_rl, (form_is f).use (by repeat' first | exact trivial | exact rfl | exact Iff.rfl | exact Or.inl rfl | refine And.intro ?_ ?_) rfl rfl ?_⟩
  refine And.intro (fun h => ?_) (fun h => ?_)
  · exact retE (show (0 : Int) = sizeV f by unfold sizeV; rw [if_neg (by omega), if_neg (by omega)])
  refine ⟨[], no_rl, (form_wide f).use (by repeat' first | exact trivial | exact rfl | exact Iff.rfl | exact Or.inl rfl | refine And.intro ?_ ?_) rfl rfl ?_⟩
  refine And.intro (fun h2 => ?_) (fun h2 => ?_)
  · exact retE (show (4 : Int) = sizeV f by unfold sizeV; rw [if_pos h2])
  · exact retE (show (2 : Int) = sizeV f by unfold sizeV; rw [if_neg h2, if_pos (by omega)])
theorem ibytes_pure (i : IN) : PureF gT 19 [inP i] (.int .i64 (sizeV i.form)) := by
  refine Spec.enter gTok P19 100 Tryd.func19 rfl (by kernel_rfl) ?_
  refine ⟨[], no_rl, (size_pure i.form).use (by repeat' first | exact trivial | exact rfl | exact Iff.rfl | exact Or.inl rfl | refine And.intro ?_ ?_) rfl rfl ?_⟩
  exact retE rfl
theorem lit_ok (i : IN) (h : (inLs i).all (fun x => decide (-9223372036854775808 ≤ x ∧ x ≤ 9223372036854775807)) = true) : IOk i := fun x hx => of_decide_eq_true (p := -9223372036854775808 ≤ x ∧ x ≤ 9223372036854775807) (List.all_eq_true.1 h x hx)
end Go.Proofs.YtjcacjeoddnmhaaDoor.Pw

/- Chapter 8 over values: how many bytes an item has; how far a jump goes; does it reach. -/
set_option linter.unusedVariables false
namespace Go.Proofs.YtjcacjeoddnmhaaDoor.Pw
open Go Go.RowKit

def intsP (l : List Int) : List PV := l.map (PV.int .i64)
theorem intsP_len (l : List Int) : (intsP l).length = l.length := List.length_map ..
def wI (W : List Bool) : List Int := W.map fun b => if b then 1 else 0
theorem wI_len (W : List Bool) : (wI W).length = W.length := List.length_map ..
theorem wI_get {W : List Bool} {i : Nat} {w : Bool} (h : W[i]? = some w) : (wI W)[i]? = some (if w then 1 else 0) := by unfold wI; rw [List.getElem?_map, h]; rfl
def dI (cs : List PV) : PBlk := ⟨.dyn, 3, 1, .w, true, cs⟩
def yBm (m : Md) (l : List AI) (e : Int) : PBlk := ⟨.loc, 60, 1, m, true, [.sl 15 (l.map aiP), .wref 1, .wref 2, .wref 3, .int .i64 e, .mref 4]⟩
def yB (l : List AI) (e : Int) : PBlk := yBm .w l e
def zR : PBlk := ⟨.loc, 44, 1, .w, true, [.nil, .nil, .nil, .lit .i64 0]⟩
/-- a layer's memory: what is wide, where items stand, how many bytes they have, the end, what was put into the labels -/
def sLy (l : List AI) (W : List Bool) (at_ sz : List Int) (e : Int) (L : List (Int × Int)) : List PBlk := [zR, dI (intsP (wI W)), dI (intsP at_), dI (intsP sz), mpB L, yB l e]
def sLyM (m : Md) (l : List AI) (W : List Bool) (at_ sz : List Int) (e : Int) (L : List (Int × Int)) : List PBlk := [zR, dI (intsP (wI W)), dI (intsP at_), dI (intsP sz), mpB L, yBm m l e]
def RunsA (f : FuncId) (args : List PV) (S : List PBlk) (res : PV) (S' : List PBlk) : Prop := Spec gT f args S [] fun x S2 => x = res ∧ S2 = S'

theorem size_ok {f : Int} (h : 1 ≤ f ∧ f ≤ 100) : sizeV f = if 47 < f then 4 else 2 := by unfold sizeV; split <;> split <;> omega
set_option maxHeartbeats 2000000 in
set_option maxRecDepth 10000 in
theorem bytes_runs (m : Md) {l : List AI} {W : List Bool} {at_ sz : List Int} {e : Int} {L : List (Int × Int)} {i : Nat} {x : AI} {w : Bool} (hx : l[i]? = some x) (hw : W[i]? = some w) (hr : rightA x) {a : Int} (ha : 0 ≤ a ∧ a ≤ 1000000) :
    RunsA 45 [.ptr 5 0, .int .i64 i, .int .i64 a] (sLyM m l W at_ sz e L) (.int .i64 (bytesA x w a)) (sLyM m l W at_ sz e L) := by
  have hl := (List.getElem?_eq_some_iff.1 hx).1
  have hwl := (List.getElem?_eq_some_iff.1 hw).1
  have elw := wI_len W
  cases m
  all_goals
    refine Spec.leS (Spec.enter gTok P45 100 Tryd.func45 rfl (by kernel_rfl) ?_)
    refine ⟨AI, l, aiP, rfl, show (0 : Int) ≤ (i : Int) by omega, show (i : Int) < (l.length : Int) by omega, fun x' hx' => ?_⟩
    obtain rfl : x = x' := Option.some.inj (hx.symm.trans hx')
    refine And.intro (fun k1 => ?_) (fun k1 => ?_)
    · have k1' : x.kind = 1 := k1
      refine ⟨[], no_rl, (ibytes_pure x.inst).use (by repeat' first | exact trivial | exact rfl | exact Iff.rfl | exact Or.inl rfl | refine And.intro ?_ ?_) rfl rfl ?_⟩
      have e1 := size_ok ((rightA_1 k1').1 hr).2.1.1
      refine retS ?_ (by repeat' first | exact trivial | exact rfl | exact Iff.rfl | exact Or.inl rfl | refine And.intro ?_ ?_)
      exact (show sizeV x.inst.form = bytesA x w a by unfold bytesA; rw [if_pos k1', e1])
    refine And.intro (fun k2 => ?_) (fun k2 => ?_)
    · have k1' : ¬ x.kind = 1 := k1
      have k2' : x.kind = 2 := k2
      refine ⟨show (0 : Int) ≤ (i : Int) by omega, show (i : Int) < ((intsP (wI W)).length : Nat) by rw [intsP_len]; omega, Int, wI W, PV.int .i64, rfl, show (i : Int).toNat < (wI W).length by omega, fun v hv => ?_⟩
      have hv' : (wI W)[i]? = some v := hv
      rw [wI_get hw] at hv'
      obtain rfl : (if w then 1 else 0) = v := Option.some.inj hv'
      have hb : (0 : Int) ≤ (if w then 1 else 0) ∧ (if w then 1 else 0 : Int) ≤ 1 := by cases w <;> simp
      refine .inl ⟨inR_i64 (by omega), ?_⟩
      refine .inl ⟨inR_i64 (by omega), ?_⟩
      refine retS ?_ (by repeat' first | exact trivial | exact rfl | exact Iff.rfl | exact Or.inl rfl | refine And.intro ?_ ?_)
      exact (show (2 : Int) + (if w then 1 else 0) * 2 = bytesA x w a by unfold bytesA; rw [if_neg k1', if_pos k2']; cases w <;> rfl)
    refine And.intro (fun k4 => ?_) (fun k4 => ?_)
    · have k1' : ¬ x.kind = 1 := k1
      have k2' : ¬ x.kind = 2 := k2
      have k4' : x.kind = 4 := k4
      have ht := ((rightA_4 k4').1 hr).2.2
      have h0 := Int.emod_nonneg a (show x.to_ ≠ 0 by omega)
      have h1 := Int.emod_lt_of_pos a (show 0 < x.to_ by omega)
      refine And.intro (show x.to_ ≠ 0 by omega) (.inl ⟨ha.1, show 0 < x.to_ by omega, ?_⟩)
      refine .inl ⟨inR_i64 (by omega), ?_⟩
      refine And.intro (show x.to_ ≠ 0 by omega) (.inl ⟨show 0 ≤ x.to_ - a % x.to_ by omega, show 0 < x.to_ by omega, ?_⟩)
      refine retS ?_ (by repeat' first | exact trivial | exact rfl | exact Iff.rfl | exact Or.inl rfl | refine And.intro ?_ ?_)
      exact (show (x.to_ - a % x.to_) % x.to_ = bytesA x w a by unfold bytesA; rw [if_neg k1', if_neg k2', if_pos k4'])
    · have k1' : ¬ x.kind = 1 := k1
      have k2' : ¬ x.kind = 2 := k2
      have k4' : ¬ x.kind = 4 := k4
      refine retS ?_ (by repeat' first | exact trivial | exact rfl | exact Iff.rfl | exact Or.inl rfl | refine And.intro ?_ ?_)
      exact (show (0 : Int) = bytesA x w a by unfold bytesA; rw [if_neg k1', if_neg k2', if_neg k4'])

end Go.Proofs.YtjcacjeoddnmhaaDoor.Pw

/- Chapter 8 over values: what is wrong with a program, by the program's check and by the document's. -/
set_option linter.unusedVariables false
namespace Go.Proofs.YtjcacjeoddnmhaaDoor.Pw
open Go Go.RowKit

/-- is an item's label not marked as it must be? -/
def wrongA (l : List AI) (x : AI) : Prop := (x.kind = 2 ∧ cntA l x.label ≠ 1) ∨ (x.kind = 3 ∧ 1 < cntA l x.label)
open Classical in
noncomputable def checkA (l : List AI) : Int := if ∃ x ∈ l, ¬ rightA x then 10 else if ∃ x ∈ l, wrongA l x then 80 else 0
theorem cntA_snoc {l : List AI} {i : Nat} {x : AI} (hx : l[i]? = some x) (k : Int) : cntA (l.take (i + 1)) k = cntA (l.take i) k + (if isMark k x = true then 1 else 0) := by
  unfold cntA
  rw [List.take_add_one, hx, List.countP_append]
  simp only [Option.toList_some, List.countP_cons, List.countP_nil, Nat.zero_add]
theorem cntA_le (l : List AI) (k : Int) : cntA l k ≤ l.length := List.countP_le_length
/-- what was put into the marks tells how often each label stands in the first items -/
structure MkOk (l : List AI) (x : Nat × List (Int × Int)) : Prop where
  le : x.2.length ≤ x.1
  cnt : ∀ k, lkM x.2 k = cntA (l.take x.1) k
  right : ∀ y ∈ l.take x.1, rightA y
theorem MkOk.skip {l : List AI} {i : Nat} {H : List (Int × Int)} {x : AI} (h : MkOk l (i, H)) (hx : l[i]? = some x) (hr : rightA x) (hk : ¬ x.kind = 3) : MkOk l (i + 1, H) := by
  refine ⟨Nat.le_succ_of_le h.le, fun k => ?_, fun y hy => ?_⟩
  · have h1 := h.cnt k
    simp only at h1 ⊢
    rw [cntA_snoc hx, if_neg (fun e => hk (isMark_iff.1 e).1), h1, Nat.add_zero]
  · simp only at hy
    rw [List.take_add_one, hx, List.mem_append] at hy
    rcases hy with hy | hy
    · exact h.right y hy
    · have : y = x := by simpa using hy
      rw [this]; exact hr
theorem MkOk.put {l : List AI} {i : Nat} {H : List (Int × Int)} {x : AI} (h : MkOk l (i, H)) (hx : l[i]? = some x) (hr : rightA x) (hk : x.kind = 3) : MkOk l (i + 1, H ++ [(x.label, lkM H x.label + 1)]) := by
  refine ⟨by have := h.le; simp only [List.length_append, List.length_singleton] at this ⊢; omega, fun k => ?_, fun y hy => ?_⟩
  · have h1 := h.cnt
    simp only at h1 ⊢
    rw [cntA_snoc hx, lkM_snoc]
    simp only
    by_cases hkk : x.label = k
    · subst hkk
      rw [if_pos rfl, if_pos (isMark_iff.2 ⟨hk, rfl⟩), h1]; simp
    · rw [if_neg hkk, if_neg (fun e => hkk (isMark_iff.1 e).2), h1, Nat.add_zero]
  · simp only at hy
    rw [List.take_add_one, hx, List.mem_append] at hy
    rcases hy with hy | hy
    · exact h.right y hy
    · have : y = x := by simpa using hy
      rw [this]; exact hr
open Classical in
/-- what is wrong with the first items' labels -/
noncomputable def wrongT (l : List AI) (i : Nat) : Int := if ∃ x ∈ l.take i, wrongA l x then 80 else 0
theorem wrongT_step {l : List AI} {i : Nat} {x : AI} (hx : l[i]? = some x) : (wrongA l x → wrongT l (i + 1) = 80) ∧ (¬ wrongA l x → wrongT l (i + 1) = wrongT l i) := by
  have hm : ∀ y, y ∈ l.take (i + 1) ↔ y ∈ l.take i ∨ y = x := fun y => by rw [List.take_add_one, hx, List.mem_append]; simp
  unfold wrongT
  refine ⟨fun h => if_pos ⟨x, (hm x).2 (.inr rfl), h⟩, fun h => ?_⟩
  by_cases h2 : ∃ y ∈ l.take i, wrongA l y
  · obtain ⟨y, hy, hw⟩ := h2
    rw [if_pos ⟨y, (hm y).2 (.inl hy), hw⟩, if_pos ⟨y, hy, hw⟩]
  · rw [if_neg (fun ⟨y, hy, hw⟩ => ((hm y).1 hy).elim (fun hy => h2 ⟨y, hy, hw⟩) fun e => h (e ▸ hw)), if_neg h2]
set_option maxHeartbeats 4000000 in
set_option maxRecDepth 10000 in
theorem check_pure (l : List AI) (hl : l.length ≤ 10000) (hb : ∀ x ∈ l, I64 x.inst.imm ∧ I64 x.to_) : PureF gT 25 [.sl 15 (l.map aiP)] (.int .i64 (checkA l)) := by
  have el : (l.map aiP).length = l.length := List.length_map ..
  refine Spec.enter gTok P25 100 Tryd.func25 rfl (by kernel_rfl) ?_
  refine pmakeMap_ok ?_
  refine fun hm => ?_
  refine SW.loopX gTok P25 (by kernel_rfl) (α := {x : Nat × List (Int × Int) // MkOk l x}) (fun x => [(0, .sl 15 (l.map aiP)), (3, .mref 0), (4, .lit .i64 0), (10, .sl 15 (l.map aiP)), (11, .int .i64 (l.map aiP).length), (12, .int .i64 x.1.1)]) (fun x => [mpB x.1.2]) (fun x => l.length - x.1.1) ⟨(0, []), ⟨Nat.le_refl _, fun k => rfl, fun y hy => by simp at hy⟩⟩ 60 [some 0] ?_ ?_
  · repeat' first | exact trivial | exact rfl | exact Iff.rfl | refine And.intro ?_ ?_
  rintro ⟨⟨i, H⟩, hH⟩
  have hle := hH.le
  have hcn := hH.cnt
  have hri := hH.right
  simp only at hle hcn hri
  refine And.intro (fun h => ?_) (fun h => ?_)
  · have h' : (i : Int) < ((l.map aiP).length : Nat) := h
    rw [el] at h'
    refine ⟨AI, l, aiP, rfl, show (0 : Int) ≤ (i : Int) by omega, show (i : Int) < (l.length : Int) by omega, fun x hx => ?_⟩
    have hx' : l[i]? = some x := hx
    have hxm := List.mem_of_getElem? hx'
    refine ⟨[], no_rl, (iright_pure x (hb x hxm).1 (hb x hxm).2).use (by repeat' first | exact trivial | exact rfl | exact Iff.rfl | exact Or.inl rfl | refine And.intro ?_ ?_) rfl rfl ?_⟩
    refine And.intro (fun hn => ?_) (fun hn => ?_)
    · have hn' : ¬ rightA x := hn
      refine retE ?_
      exact (show (10 : Int) = checkA l by unfold checkA; rw [if_pos ⟨x, hxm, hn'⟩])
    · have hr : rightA x := Classical.not_not.1 hn
      refine And.intro (fun hk => ?_) (fun hk => ?_)
      · have hk' : x.kind = 3 := hk
        have hmay := ((rightA_3 hk').1 hr).2.2
        unfold mayV at hmay
        have hc1 := cntA_le (l.take i) x.label
        rw [List.length_take] at hc1
        have hc2 := hcn x.label
        refine plookup_ok gTok ?_
        refine ⟨rfl, ?_⟩
        refine ⟨show InR .i64 x.label from inR_i64 (by omega), rfl, H, rfl, ?_⟩
        refine .inl ⟨inR_i64 (show _ ≤ lkM H x.label + 1 ∧ lkM H x.label + 1 ≤ _ by omega), ?_⟩
        refine pmapPut_ok gTok ?_
        refine ⟨rfl, ?_⟩
        refine ⟨show InR .i64 x.label from inR_i64 (by omega), rfl, show InR .i64 (lkM H x.label + 1) from inR_i64 (by omega), rfl, show (H.map kvP).length < maxLen by rw [List.length_map]; unfold maxLen; omega, ?_⟩
        refine .inl ⟨inR_i64 (show _ ≤ (i : Int) + 1 ∧ (i : Int) + 1 ≤ _ by omega), ⟨⟨(i + 1, H ++ [(x.label, lkM H x.label + 1)]), hH.put hx' hr hk'⟩, [some 0], show l.length - (i + 1) < l.length - i by omega, ?_⟩⟩
        repeat' first | exact trivial | exact rfl | exact Iff.rfl | refine And.intro ?_ ?_
        all_goals exact (show H.map kvP ++ [kvP (x.label, lkM H x.label + 1)] = (H ++ [(x.label, lkM H x.label + 1)]).map kvP by rw [List.map_append]; rfl)
      · have hk' : ¬ x.kind = 3 := hk
        refine .inl ⟨inR_i64 (show _ ≤ (i : Int) + 1 ∧ (i : Int) + 1 ≤ _ by omega), ⟨⟨(i + 1, H), hH.skip hx' hr hk'⟩, [some 0], show l.length - (i + 1) < l.length - i by omega, ?_⟩⟩
        repeat' first | exact trivial | exact rfl | exact Iff.rfl | refine And.intro ?_ ?_
  · have h' : ¬ (i : Int) < ((l.map aiP).length : Nat) := h
    rw [el] at h'
    rw [List.take_of_length_le (by omega)] at hri hcn
    have hch : checkA l = wrongT l l.length := by
      unfold checkA wrongT
      rw [if_neg (fun ⟨x, hx, hn⟩ => hn (hri x hx)), List.take_length]
    rw [hch]
    refine fun hm2 => ?_
    refine SW.loopX gTok P25 (by kernel_rfl) (fun j : Nat => [(3, .mref 0), (4, .int .i64 (wrongT l j)), (28, .sl 15 (l.map aiP)), (29, .int .i64 (l.map aiP).length), (30, .int .i64 j)]) (fun _ => [mpB H]) (fun j => l.length - j) 0 60 [some 0] ?_ fun j => ?_
    · repeat' first | exact trivial | exact rfl | exact Iff.rfl | refine And.intro ?_ ?_
      all_goals exact (show (0 : Int) = wrongT l 0 by unfold wrongT; rw [if_neg (fun ⟨x, hx, _⟩ => by simp at hx)])
    refine And.intro (fun h => ?_) (fun h => ?_)
    · have hj' : (j : Int) < ((l.map aiP).length : Nat) := h
      rw [el] at hj'
      refine ⟨AI, l, aiP, rfl, show (0 : Int) ≤ (j : Int) by omega, show (j : Int) < (l.length : Int) by omega, fun x hx => ?_⟩
      have hx' : l[j]? = some x := hx
      have hxm := List.mem_of_getElem? hx'
      have hr := hri x hxm
      obtain ⟨w1, w2⟩ := wrongT_step hx'
      have hcl := hcn x.label
      refine And.intro (fun k2 => ?_) (fun k2 => ?_)
      · have k2' : x.kind = 2 := k2
        have hmay := ((rightA_2 k2').1 hr).2.2.2
        unfold mayV at hmay
        refine plookup_ok gTok ?_
        refine ⟨rfl, ?_⟩
        refine ⟨show InR .i64 x.label from inR_i64 (by omega), rfl, H, rfl, ?_⟩
        refine And.intro (fun h1 => ?_) (fun h1 => ?_)
        · have h1' : ¬ lkM H x.label = 1 := h1
          have e1 := w1 (show wrongA l x from .inl ⟨k2', by omega⟩)
          refine .inl ⟨inR_i64 (show _ ≤ (j : Int) + 1 ∧ (j : Int) + 1 ≤ _ by omega), ⟨j + 1, [some 0], by omega, ?_⟩⟩
          repeat' first | exact trivial | exact rfl | exact Iff.rfl | refine And.intro ?_ ?_
          all_goals exact (show (80 : Int) = wrongT l (j + 1) by rw [e1])
        · have h1' : lkM H x.label = 1 := Classical.not_not.1 h1
          refine And.intro (fun k3 => absurd (show x.kind = 3 from k3) (by omega)) (fun k3 => ?_)
          have e1 := w2 (show ¬ wrongA l x from fun hw => hw.elim (fun e => e.2 (by omega)) (fun e => by omega))
          refine .inl ⟨inR_i64 (show _ ≤ (j : Int) + 1 ∧ (j : Int) + 1 ≤ _ by omega), ⟨j + 1, [some 0], by omega, ?_⟩⟩
          repeat' first | exact trivial | exact rfl | exact Iff.rfl | refine And.intro ?_ ?_
          all_goals exact (show wrongT l j = wrongT l (j + 1) by rw [e1])
      · have k2' : ¬ x.kind = 2 := k2
        refine And.intro (fun k3 => ?_) (fun k3 => ?_)
        · have k3' : x.kind = 3 := k3
          have hmay := ((rightA_3 k3').1 hr).2.2
          unfold mayV at hmay
          refine plookup_ok gTok ?_
          refine ⟨rfl, ?_⟩
          refine ⟨show InR .i64 x.label from inR_i64 (by omega), rfl, H, rfl, ?_⟩
          refine And.intro (fun h1 => ?_) (fun h1 => ?_)
          · have h1' : 1 < lkM H x.label := h1
            have e1 := w1 (show wrongA l x from .inr ⟨k3', by omega⟩)
            refine .inl ⟨inR_i64 (show _ ≤ (j : Int) + 1 ∧ (j : Int) + 1 ≤ _ by omega), ⟨j + 1, [some 0], by omega, ?_⟩⟩
            repeat' first | exact trivial | exact rfl | exact Iff.rfl | refine And.intro ?_ ?_
            all_goals exact (show (80 : Int) = wrongT l (j + 1) by rw [e1])
          · have h1' : ¬ 1 < lkM H x.label := h1
            have e1 := w2 (show ¬ wrongA l x from fun hw => hw.elim (fun e => k2' e.1) (fun e => h1' (by omega)))
            refine .inl ⟨inR_i64 (show _ ≤ (j : Int) + 1 ∧ (j : Int) + 1 ≤ _ by omega), ⟨j + 1, [some 0], by omega, ?_⟩⟩
            repeat' first | exact trivial | exact rfl | exact Iff.rfl | refine And.intro ?_ ?_
            all_goals exact (show wrongT l j = wrongT l (j + 1) by rw [e1])
        · have k3' : ¬ x.kind = 3 := k3
          have e1 := w2 (show ¬ wrongA l x from fun hw => hw.elim (fun e => k2' e.1) (fun e => k3' e.1))
          refine .inl ⟨inR_i64 (show _ ≤ (j : Int) + 1 ∧ (j : Int) + 1 ≤ _ by omega), ⟨j + 1, [some 0], by omega, ?_⟩⟩
          repeat' first | exact trivial | exact rfl | exact Iff.rfl | refine And.intro ?_ ?_
          all_goals exact (show wrongT l j = wrongT l (j + 1) by rw [e1])
    · have hj' : ¬ (j : Int) < ((l.map aiP).length : Nat) := h
      rw [el] at hj'
      refine retE ?_
      exact (show wrongT l j = wrongT l l.length by unfold wrongT; rw [List.take_of_length_le (by omega), List.take_length])

end Go.Proofs.YtjcacjeoddnmhaaDoor.Pw

/- Chapter 8 over values: how far a jump goes; does it reach; its instruction. -/
set_option linter.unusedVariables false
namespace Go.Proofs.YtjcacjeoddnmhaaDoor.Pw
open Go Go.RowKit

/-- numbers that offsets may be -/
def OffB (L : List (Int × Int)) : Prop := ∀ k, 0 ≤ lkM L k ∧ lkM L k ≤ 1000000
set_option maxHeartbeats 2000000 in
set_option maxRecDepth 10000 in
theorem far_runs (m : Md) {l : List AI} {W : List Bool} {at_ sz : List Int} {e : Int} {L : List (Int × Int)} {i : Nat} {x : AI} {a : Int} (hx : l[i]? = some x) (hm : mayV x.label) (hat : at_[i]? = some a) (ha : 0 ≤ a ∧ a ≤ 1000000) (hL : OffB L) :
    RunsA 65 [.ptr 5 0, .int .i64 i] (sLyM m l W at_ sz e L) (.int .i64 (lkM L x.label - a - 4)) (sLyM m l W at_ sz e L) := by
  have hl := (List.getElem?_eq_some_iff.1 hx).1
  have hal := (List.getElem?_eq_some_iff.1 hat).1
  have hk := hL x.label
  unfold mayV at hm
  cases m
  all_goals
    refine Spec.leS (Spec.enter gTok P65 100 Tryd.func65 rfl (by kernel_rfl) ?_)
    refine ⟨AI, l, aiP, rfl, show (0 : Int) ≤ (i : Int) by omega, show (i : Int) < (l.length : Int) by omega, fun x' hx' => ?_⟩
    obtain rfl : x = x' := Option.some.inj (hx.symm.trans hx')
    refine ⟨show (0 : Int) ≤ (i : Int) by omega, show (i : Int) < ((intsP at_).length : Nat) by rw [intsP_len]; omega, Int, at_, PV.int .i64, rfl, show (i : Int).toNat < at_.length by omega, fun v hv => ?_⟩
    obtain rfl : a = v := Option.some.inj (hat.symm.trans hv)
    refine plookup_ok gTok ?_
    refine ⟨rfl, ?_⟩
    refine ⟨show InR .i64 x.label from inR_i64 (by omega), rfl, L, rfl, ?_⟩
    refine .inl ⟨inR_i64 (show _ ≤ lkM L x.label - a ∧ lkM L x.label - a ≤ _ by omega), ?_⟩
    refine .inl ⟨inR_i64 (show _ ≤ lkM L x.label - a - 4 ∧ lkM L x.label - a - 4 ≤ _ by omega), ?_⟩
    exact retS rfl (by repeat' first | exact trivial | exact rfl | exact Iff.rfl | exact Or.inl rfl | refine And.intro ?_ ?_)
/-- does a narrow jump reach? -/
theorem reaches_runs {l : List AI} {W : List Bool} {at_ sz : List Int} {e : Int} {L : List (Int × Int)} {i : Nat} {x : AI} {a : Int} (hx : l[i]? = some x) (hm : mayV x.label) (hcd : -1 ≤ x.cond) (hat : at_[i]? = some a) (ha : 0 ≤ a ∧ a ≤ 1000000) (hL : OffB L) :
    RunsA 46 [.ptr 5 0, .int .i64 i] (sLy l W at_ sz e L) (.bool (shortA x.cond (lkM L x.label - a - 4) = true)) (sLy l W at_ sz e L) := by
  have hl := (List.getElem?_eq_some_iff.1 hx).1
  have hk := hL x.label
  have hf := far_runs .w (W := W) (sz := sz) (e := e) hx hm hat ha hL
  have hn : -1000004 ≤ lkM L x.label - a - 4 ∧ lkM L x.label - a - 4 ≤ 1000000 := by omega
  generalize lkM L x.label - a - 4 = n at hf hn ⊢
  refine Spec.leS (Spec.enter gTok P46 100 Tryd.func46 rfl (by kernel_rfl) ?_)
  refine ⟨AI, l, aiP, rfl, show (0 : Int) ≤ (i : Int) by omega, show (i : Int) < (l.length : Int) by omega, fun x' hx' => ?_⟩
  obtain rfl : x = x' := Option.some.inj (hx.symm.trans hx')
  refine And.intro (fun hc => ?_) (fun hc => ?_)
  · have hc' : x.cond = -1 := hc
    refine ⟨[], no_rl, hf.useS rfl rfl rfl rfl (by repeat' first | exact trivial | exact rfl | exact Iff.rfl | exact Or.inl rfl | refine And.intro ?_ ?_) (And.intro (by repeat' first | exact trivial | exact rfl | exact Iff.rfl | exact Or.inl rfl | refine And.intro ?_ ?_) (And.intro (by repeat' first | exact trivial | exact rfl | exact Iff.rfl | exact Or.inl rfl | refine And.intro ?_ ?_) (And.intro (by repeat' first | exact trivial | exact rfl | exact Iff.rfl | exact Or.inl rfl | refine And.intro ?_ ?_) (And.intro (by repeat' first | exact trivial | exact rfl | exact Iff.rfl | exact Or.inl rfl | refine And.intro ?_ ?_) (And.intro (by repeat' first | exact trivial | exact rfl | exact Iff.rfl | exact Or.inl rfl | refine And.intro ?_ ?_) (And.intro (by repeat' first | exact trivial | exact rfl | exact Iff.rfl | exact Or.inl rfl | refine And.intro ?_ ?_) ?_))))))⟩
    refine And.intro (fun h1 => ?_) (fun h1 => ?_)
    · refine retS ?_ (by repeat' first | exact trivial | exact rfl | exact Iff.rfl | exact Or.inl rfl | refine And.intro ?_ ?_)
      have h1' : -2048 ≤ n := h1
      exact (show n < 2048 ↔ shortA x.cond n = true by unfold shortA; rw [if_pos (by omega), decide_eq_true_eq]; omega)
    · refine retS ?_ (by repeat' first | exact trivial | exact rfl | exact Iff.rfl | exact Or.inl rfl | refine And.intro ?_ ?_)
      have h1' : ¬ -2048 ≤ n := h1
      exact (show ¬ shortA x.cond n = true by unfold shortA; rw [if_pos (by omega), decide_eq_true_eq]; omega)
  · have hc' : ¬ x.cond = -1 := hc
    refine ⟨[], no_rl, hf.useS rfl rfl rfl rfl (by repeat' first | exact trivial | exact rfl | exact Iff.rfl | exact Or.inl rfl | refine And.intro ?_ ?_) (And.intro (by repeat' first | exact trivial | exact rfl | exact Iff.rfl | exact Or.inl rfl | refine And.intro ?_ ?_) (And.intro (by repeat' first | exact trivial | exact rfl | exact Iff.rfl | exact Or.inl rfl | refine And.intro ?_ ?_) (And.intro (by repeat' first | exact trivial | exact rfl | exact Iff.rfl | exact Or.inl rfl | refine And.intro ?_ ?_) (And.intro (by repeat' first | exact trivial | exact rfl | exact Iff.rfl | exact Or.inl rfl | refine And.intro ?_ ?_) (And.intro (by repeat' first | exact trivial | exact rfl | exact Iff.rfl | exact Or.inl rfl | refine And.intro ?_ ?_) (And.intro (by repeat' first | exact trivial | exact rfl | exact Iff.rfl | exact Or.inl rfl | refine And.intro ?_ ?_) ?_))))))⟩
    refine And.intro (fun h1 => ?_) (fun h1 => ?_)
    · refine retS ?_ (by repeat' first | exact trivial | exact rfl | exact Iff.rfl | exact Or.inl rfl | refine And.intro ?_ ?_)
      have h1' : -256 ≤ n := h1
      exact (show n < 256 ↔ shortA x.cond n = true by unfold shortA; rw [if_neg (by omega), decide_eq_true_eq]; omega)
    · refine retS ?_ (by repeat' first | exact trivial | exact rfl | exact Iff.rfl | exact Or.inl rfl | refine And.intro ?_ ?_)
      have h1' : ¬ -256 ≤ n := h1
      exact (show ¬ shortA x.cond n = true by unfold shortA; rw [if_neg (by omega), decide_eq_true_eq]; omega)
/-- a jump's instruction -/
def branA (c : Int) (w : Bool) (n : Int) : IN := ⟨(if w then 100 else 47) - (if c < 0 then 0 else 1), 0, 0, 0, 0, n, 0, 0, 0, max c 0, 0⟩
set_option maxHeartbeats 2000000 in
set_option maxRecDepth 10000 in
theorem branch_runs {l : List AI} {W : List Bool} {at_ sz : List Int} {e : Int} {L : List (Int × Int)} {i : Nat} {x : AI} {w : Bool} {a : Int} (hx : l[i]? = some x) (hw : W[i]? = some w) (hm : mayV x.label) (hcd : -1 ≤ x.cond) (hat : at_[i]? = some a) (ha : 0 ≤ a ∧ a ≤ 1000000) (hL : OffB L) :
    RunsA 66 [.ptr 5 0, .int .i64 i] (sLy l W at_ sz e L) (inP (branA x.cond w (lkM L x.label - a - 4))) (sLy l W at_ sz e L) := by
  have hl := (List.getElem?_eq_some_iff.1 hx).1
  have hwl := (List.getElem?_eq_some_iff.1 hw).1
  have elw := wI_len W
  have hk := hL x.label
  have hf := far_runs .p (W := W) (sz := sz) (e := e) hx hm hat ha hL
  have hn : -1000004 ≤ lkM L x.label - a - 4 ∧ lkM L x.label - a - 4 ≤ 1000000 := by omega
  generalize lkM L x.label - a - 4 = n at hf hn ⊢
  refine Spec.leS (Spec.enter gTok P66 100 Tryd.func66 rfl (by kernel_rfl) ?_)
  refine ⟨AI, l, aiP, rfl, show (0 : Int) ≤ (i : Int) by omega, show (i : Int) < (l.length : Int) by omega, fun x' hx' => ?_⟩
  obtain rfl : x = x' := Option.some.inj (hx.symm.trans hx')
  refine ⟨[], no_rl, hf.useS rfl rfl rfl rfl (by repeat' first | exact trivial | exact rfl | exact Iff.rfl | exact Or.inl rfl | refine And.intro ?_ ?_) (And.intro (by repeat' first | exact trivial | exact rfl | exact Iff.rfl | exact Or.inl rfl | refine And.intro ?_ ?_) (And.intro (by repeat' first | exact trivial | exact rfl | exact Iff.rfl | exact Or.inl rfl | refine And.intro ?_ ?_) (And.intro (by repeat' first | exact trivial | exact rfl | exact Iff.rfl | exact Or.inl rfl | refine And.intro ?_ ?_) (And.intro (by repeat' first | exact trivial | exact rfl | exact Iff.rfl | exact Or.inl rfl | refine And.intro ?_ ?_) (And.intro (by repeat' first | exact trivial | exact rfl | exact Iff.rfl | exact Or.inl rfl | refine And.intro ?_ ?_) (And.intro (by repeat' first | exact trivial | exact rfl | exact Iff.rfl | exact Or.inl rfl | refine And.intro ?_ ?_) ?_))))))⟩
  refine And.intro ?_ (And.intro ?_ trivial)
  rotate_left
  · refine ⟨[], no_rl, hf.useS rfl rfl rfl rfl (by repeat' first | exact trivial | exact rfl | exact Iff.rfl | exact Or.inl rfl | refine And.intro ?_ ?_) (And.intro (by repeat' first | exact trivial | exact rfl | exact Iff.rfl | exact Or.inl rfl | refine And.intro ?_ ?_) (And.intro (by repeat' first | exact trivial | exact rfl | exact Iff.rfl | exact Or.inl rfl | refine And.intro ?_ ?_) (And.intro (by repeat' first | exact trivial | exact rfl | exact Iff.rfl | exact Or.inl rfl | refine And.intro ?_ ?_) (And.intro (by repeat' first | exact trivial | exact rfl | exact Iff.rfl | exact Or.inl rfl | refine And.intro ?_ ?_) (And.intro (by repeat' first | exact trivial | exact rfl | exact Iff.rfl | exact Or.inl rfl | refine And.intro ?_ ?_) (And.intro (by repeat' first | exact trivial | exact rfl | exact Iff.rfl | exact Or.inl rfl | refine And.intro ?_ ?_) ?_))))))⟩
    exact rfl
  refine ⟨AI, l, aiP, rfl, show (0 : Int) ≤ (i : Int) by omega, show (i : Int) < (l.length : Int) by omega, fun x1 hx1 => ?_⟩
  obtain rfl : x = x1 := Option.some.inj (hx.symm.trans hx1)
  refine And.intro (fun hc => ?_) (fun hc => ?_)
  · have hc' : x.cond = -1 := hc
    refine ⟨show (0 : Int) ≤ (i : Int) by omega, show (i : Int) < ((intsP (wI W)).length : Nat) by rw [intsP_len]; omega, Int, wI W, PV.int .i64, rfl, show (i : Int).toNat < (wI W).length by omega, fun v hv => ?_⟩
    obtain rfl : (if w then 1 else 0) = v := Option.some.inj ((wI_get hw).symm.trans hv)
    refine And.intro (fun h0 => ?_) (fun h0 => ?_)
    · skip
      have hw0 : w = false := by cases w <;> simp at h0 ⊢
      subst hw0
      refine retS ?_ (by repeat' first | exact trivial | exact rfl | exact Iff.rfl | exact Or.inl rfl | refine And.intro ?_ ?_)
      repeat' first | exact trivial | exact rfl | refine And.intro ?_ ?_
      all_goals exact (show (47 : Int) = (branA x.cond false n).form by unfold branA; rw [if_pos (show x.cond < 0 by omega)]; rfl)
    · refine ⟨AI, l, aiP, rfl, show (0 : Int) ≤ (i : Int) by omega, show (i : Int) < (l.length : Int) by omega, fun x1 hx1 => ?_⟩
      obtain rfl : x = x1 := Option.some.inj (hx.symm.trans hx1)
      refine And.intro (fun _ => ?_) (fun hc2 => absurd hc hc2)
      have hw0 : w = true := by cases w <;> simp at h0 ⊢
      subst hw0
      refine retS ?_ (by repeat' first | exact trivial | exact rfl | exact Iff.rfl | exact Or.inl rfl | refine And.intro ?_ ?_)
      repeat' first | exact trivial | exact rfl | refine And.intro ?_ ?_
      all_goals exact (show (100 : Int) = (branA x.cond true n).form by unfold branA; rw [if_pos (show x.cond < 0 by omega)]; rfl)
  · have hc' : ¬ x.cond = -1 := hc
    refine ⟨AI, l, aiP, rfl, show (0 : Int) ≤ (i : Int) by omega, show (i : Int) < (l.length : Int) by omega, fun x1 hx1 => ?_⟩
    obtain rfl : x = x1 := Option.some.inj (hx.symm.trans hx1)
    refine And.intro (fun hc2 => absurd hc2 hc) (fun _ => ?_)
    refine ⟨show (0 : Int) ≤ (i : Int) by omega, show (i : Int) < ((intsP (wI W)).length : Nat) by rw [intsP_len]; omega, Int, wI W, PV.int .i64, rfl, show (i : Int).toNat < (wI W).length by omega, fun v hv => ?_⟩
    obtain rfl : (if w then 1 else 0) = v := Option.some.inj ((wI_get hw).symm.trans hv)
    refine And.intro (fun h0 => ?_) (fun h0 => ?_)
    · skip
      have hw0 : w = false := by cases w <;> simp at h0 ⊢
      subst hw0
      refine retS ?_ (by repeat' first | exact trivial | exact rfl | exact Iff.rfl | exact Or.inl rfl | refine And.intro ?_ ?_)
      repeat' first | exact trivial | exact rfl | refine And.intro ?_ ?_
      all_goals exact (show (46 : Int) = (branA x.cond false n).form by unfold branA; rw [if_neg (show ¬ x.cond < 0 by omega)]; rfl)
    · skip
      have hw0 : w = true := by cases w <;> simp at h0 ⊢
      subst hw0
      refine retS ?_ (by repeat' first | exact trivial | exact rfl | exact Iff.rfl | exact Or.inl rfl | refine And.intro ?_ ?_)
      repeat' first | exact trivial | exact rfl | refine And.intro ?_ ?_
      all_goals exact (show (99 : Int) = (branA x.cond true n).form by unfold branA; rw [if_neg (show ¬ x.cond < 0 by omega)]; rfl)

end Go.Proofs.YtjcacjeoddnmhaaDoor.Pw

/- Chapter 8 over values: all items are laid. -/
set_option linter.unusedVariables false
namespace Go.Proofs.YtjcacjeoddnmhaaDoor.Pw
open Go Go.RowKit

/-- the first ones of a list, then another list's -/
def mixL {α : Type} (new old : List α) (i : Nat) : List α := new.take i ++ old.drop i
theorem mix_len {α : Type} {new old : List α} (h : new.length = old.length) (i : Nat) : (mixL new old i).length = old.length := by
  unfold mixL; rw [List.length_append, List.length_take, List.length_drop]; omega
theorem mix_set {α : Type} {new old : List α} (h : new.length = old.length) {i : Nat} {v : α} (hv : new[i]? = some v) : (mixL new old i).set i v = mixL new old (i + 1) := by
  have hi : i < new.length := (List.getElem?_eq_some_iff.1 hv).1
  unfold mixL
  rw [List.take_add_one, hv, List.set_append_right _ _ (by rw [List.length_take]; omega), List.length_take, Nat.min_eq_left (by omega), Nat.sub_self, List.drop_eq_getElem_cons (show i < old.length by omega), List.set_cons_zero, List.append_assoc]
  rfl
theorem mix_all {α : Type} {new old : List α} (h : new.length = old.length) {i : Nat} (hi : old.length ≤ i) : mixL new old i = new := by
  unfold mixL
  rw [List.take_of_length_le (by omega), List.drop_of_length_le hi, List.append_nil]
theorem mix_none {α : Type} (new old : List α) : mixL new old 0 = old := by unfold mixL; rfl
theorem mix_at {α : Type} {new old : List α} (h : new.length = old.length) {i : Nat} {v : α} (hv : old[i]? = some v) : (mixL new old i)[i]? = some v := by
  have hi := (List.getElem?_eq_some_iff.1 hv).1
  unfold mixL
  rw [List.getElem?_append_right (by rw [List.length_take]; omega), List.length_take, Nat.min_eq_left (by omega), Nat.sub_self, List.getElem?_drop]
  exact hv
theorem mix_same {α : Type} {new old : List α} (h : new.length = old.length) {i : Nat} {v : α} (hv : old[i]? = some v) (hn : new[i]? = some v) : mixL new old (i + 1) = mixL new old i := by
  rw [← mix_set h hn]
  have h1 := mix_at h hv
  obtain ⟨h2, h3⟩ := List.getElem?_eq_some_iff.1 h1
  rw [← h3, List.set_getElem_self]
def atsA (l : List AI) (W : List Bool) : List Int := (List.range l.length).map (atA l W)
def szsA (l : List AI) (W : List Bool) : List Int := (List.range l.length).map fun i => atA l W (i + 1) - atA l W i
theorem atsA_len (l : List AI) (W : List Bool) : (atsA l W).length = l.length := by simp [atsA]
theorem szsA_len (l : List AI) (W : List Bool) : (szsA l W).length = l.length := by simp [szsA]
theorem atsA_get {l : List AI} {W : List Bool} {i : Nat} (h : i < l.length) : (atsA l W)[i]? = some (atA l W i) := by simp [atsA, h]
theorem szsA_get {l : List AI} {W : List Bool} {i : Nat} (h : i < l.length) : (szsA l W)[i]? = some (atA l W (i + 1) - atA l W i) := by simp [szsA, h]
theorem rightA_it {x : AI} (h : rightA x) : ItOk x := ⟨rightA_kind h, fun k => ((rightA_4 k).1 h).2.2⟩
theorem marksT_kvP {l : List AI} {W : List Bool} {L : List (Int × Int)} {i : Nat} {x : AI} (hx : l[i]? = some x) (hk : x.kind = 3) : (L ++ marksT l W i).map kvP ++ [kvP (x.label, atA l W i)] = (L ++ marksT l W (i + 1)).map kvP := by
  rw [marksT, hx]
  simp only
  rw [if_pos hk, ← List.append_assoc, List.map_append (l₂ := [_])]
  rfl
theorem marksT_not {l : List AI} {W : List Bool} {i : Nat} {x : AI} (hx : l[i]? = some x) (hk : ¬ x.kind = 3) : marksT l W (i + 1) = marksT l W i := by
  rw [marksT, hx]
  simp only
  rw [if_neg hk, List.append_nil]
theorem marksT_end {l : List AI} {W : List Bool} : ∀ {i : Nat}, l.length ≤ i → marksT l W i = marksT l W l.length
  | 0, h => by rw [show l.length = 0 by omega]
  | i + 1, h => by
    rcases Nat.eq_or_lt_of_le h with e | e
    · rw [e]
    · rw [marksT, List.getElem?_eq_none (by omega), marksT_end (by omega)]
      simp

set_option maxHeartbeats 4000000 in
set_option maxRecDepth 10000 in
theorem lay_runs {l : List AI} {W : List Bool} {at0 sz0 : List Int} {e0 : Int} {L : List (Int × Int)} (hW : W.length = l.length) (ha0 : at0.length = l.length) (hs0 : sz0.length = l.length) (hr : ∀ x ∈ l, rightA x) (hl : l.length ≤ 10000) (hL : L.length ≤ 1000000000) :
    RunsA 26 [.ptr 5 0] (sLy l W at0 sz0 e0 L) (.tup []) (sLy l W (atsA l W) (szsA l W) (endA l W 0) (L ++ marksT l W l.length)) := by
  have hI : ∀ x ∈ l, ItOk x := fun x hx => rightA_it (hr x hx)
  have la := atsA_len l W
  have ls := szsA_len l W
  have el : (l.map aiP).length = l.length := List.length_map ..
  refine Spec.leS (Spec.enter gTok P26 100 Tryd.func26 rfl (by kernel_rfl) ?_)
  refine fun hm => ?_
  refine SW.loopX gTok P26 (by kernel_rfl) (fun i : Nat => [(0, .ptr 5 0), (2, .int .i64 (atA l W i)), (8, .sl 15 (l.map aiP)), (9, .int .i64 (l.map aiP).length), (10, .int .i64 i)]) (fun i => sLy l W (mixL (atsA l W) at0 i) (mixL (szsA l W) sz0 i) e0 (L ++ marksT l W i)) (fun i => l.length - i) 0 60 [some 0, some 1, some 2, some 3, some 4, some 5] ?_ fun i => ?_
  · repeat' first | exact trivial | exact rfl | exact Iff.rfl | refine And.intro ?_ ?_
    all_goals first | exact (show intsP at0 = intsP _ by rw [mix_none]) | exact (show (L ++ marksT l W 0).map kvP = L.map kvP by rw [marksT, List.append_nil]) | exact (show L.map kvP = (L ++ marksT l W 0).map kvP by rw [marksT, List.append_nil])
  refine And.intro (fun h => ?_) (fun h => ?_)
  · have h' : (i : Int) < ((l.map aiP).length : Nat) := h
    rw [el] at h'
    refine ⟨AI, l, aiP, rfl, show (0 : Int) ≤ (i : Int) by omega, show (i : Int) < (l.length : Int) by omega, fun x hx => ?_⟩
    have hx' : l[i]? = some x := hx
    have hw' : W[i]? = some W[i] := List.getElem?_eq_getElem (by omega)
    have hrx := hr x (List.mem_of_getElem? hx')
    have b1 := atA_bd hW hI i (by omega)
    have b2 := atA_bd hW hI (i + 1) (by omega)
    have es := atA_succ hW hx' hw'
    have hb := bytes_runs .p (W := W) (at_ := mixL (atsA l W) at0 i) (sz := mixL (szsA l W) sz0 i) (e := e0) (L := L ++ marksT l W i) hx' hw' hrx (a := atA l W i) (by omega)
    refine ⟨[], no_rl, hb.useS rfl rfl rfl rfl (by repeat' first | exact trivial | exact rfl | exact Iff.rfl | exact Or.inl rfl | refine And.intro ?_ ?_) (And.intro (by repeat' first | exact trivial | exact rfl | exact Iff.rfl | exact Or.inl rfl | refine And.intro ?_ ?_) (And.intro (by repeat' first | exact trivial | exact rfl | exact Iff.rfl | exact Or.inl rfl | refine And.intro ?_ ?_) (And.intro (by repeat' first | exact trivial | exact rfl | exact Iff.rfl | exact Or.inl rfl | refine And.intro ?_ ?_) (And.intro (by repeat' first | exact trivial | exact rfl | exact Iff.rfl | exact Or.inl rfl | refine And.intro ?_ ?_) (And.intro (by repeat' first | exact trivial | exact rfl | exact Iff.rfl | exact Or.inl rfl | refine And.intro ?_ ?_) (And.intro (by repeat' first | exact trivial | exact rfl | exact Iff.rfl | exact Or.inl rfl | refine And.intro ?_ ?_) ?_))))))⟩
    refine ⟨show (0 : Int) ≤ (i : Int) by omega, show (i : Int) < ((intsP (mixL (atsA l W) at0 i)).length : Nat) by rw [intsP_len, mix_len (by omega)]; omega, show (i : Int).toNat < (intsP (mixL (atsA l W) at0 i)).length by rw [intsP_len, mix_len (by omega)]; omega, ?_⟩
    refine ⟨show (0 : Int) ≤ (i : Int) by omega, show (i : Int) < ((intsP (mixL (szsA l W) sz0 i)).length : Nat) by rw [intsP_len, mix_len (by omega)]; omega, show (i : Int).toNat < (intsP (mixL (szsA l W) sz0 i)).length by rw [intsP_len, mix_len (by omega)]; omega, ?_⟩
    refine And.intro (fun hk3 => ?_) (fun hk3 => ?_)
    · have hk3' : x.kind = 3 := hk3
      have hmay := ((rightA_3 hk3').1 hrx).2.2
      unfold mayV at hmay
      refine pmapPut_ok gTok ?_
      refine ⟨rfl, ?_⟩
      have lm := marksT_len l W i
      refine ⟨show InR .i64 x.label from inR_i64 (by omega), rfl, show InR .i64 (atA l W i) from inR_i64 (by omega), rfl, show ((L ++ marksT l W i).map kvP).length < maxLen by rw [List.length_map, List.length_append]; unfold maxLen; omega, ?_⟩
      refine ⟨show (0 : Int) ≤ (i : Int) by omega, show (i : Int) < (((intsP (mixL (szsA l W) sz0 i)).set i (.int .i64 (bytesA x W[i] (atA l W i)))).length : Nat) by rw [List.length_set, intsP_len, mix_len (by omega)]; omega, Int, (mixL (szsA l W) sz0 i).set i (bytesA x W[i] (atA l W i)), PV.int .i64, show (intsP (mixL (szsA l W) sz0 i)).set i (.int .i64 (bytesA x W[i] (atA l W i))) = _ by unfold intsP; rw [List.map_set], show (i : Int).toNat < ((mixL (szsA l W) sz0 i).set i (bytesA x W[i] (atA l W i))).length by rw [List.length_set, mix_len (by omega)]; omega, fun v hv => ?_⟩
      obtain rfl : bytesA x W[i] (atA l W i) = v := by
        have hv' : ((mixL (szsA l W) sz0 i).set i (bytesA x W[i] (atA l W i)))[i]? = some v := hv
        rw [List.getElem?_set_self (by rw [mix_len (by omega)]; omega)] at hv'
        exact Option.some.inj hv'
      refine .inl ⟨inR_i64 (show _ ≤ atA l W i + bytesA x W[i] (atA l W i) ∧ atA l W i + bytesA x W[i] (atA l W i) ≤ _ by omega), ?_⟩
      refine .inl ⟨inR_i64 (show _ ≤ (i : Int) + 1 ∧ (i : Int) + 1 ≤ _ by omega), ⟨i + 1, [some 0, some 1, some 2, some 3, some 4, some 5], by omega, ?_⟩⟩
      repeat' first | exact trivial | exact rfl | exact Iff.rfl | refine And.intro ?_ ?_
      all_goals first | exact (show atA l W i + bytesA x W[i] (atA l W i) = atA l W (i + 1) by rw [es]) | exact (show (intsP (mixL (atsA l W) at0 i)).set i (.int .i64 (atA l W i)) = intsP (mixL (atsA l W) at0 (i + 1)) by rw [← mix_set (by omega) (atsA_get (by omega))]; unfold intsP; rw [List.map_set]) | exact (show (intsP (mixL (szsA l W) sz0 i)).set i (.int .i64 (bytesA x W[i] (atA l W i))) = intsP (mixL (szsA l W) sz0 (i + 1)) by rw [← mix_set (by omega) (szsA_get (by omega)), es, show atA l W i + bytesA x W[i] (atA l W i) - atA l W i = bytesA x W[i] (atA l W i) by omega]; unfold intsP; rw [List.map_set]) | exact (show (L ++ marksT l W i).map kvP ++ [kvP (x.label, atA l W i)] = (L ++ marksT l W (i + 1)).map kvP by exact marksT_kvP hx' hk3')
    · have hk3' : ¬ x.kind = 3 := hk3
      refine ⟨show (0 : Int) ≤ (i : Int) by omega, show (i : Int) < (((intsP (mixL (szsA l W) sz0 i)).set i (.int .i64 (bytesA x W[i] (atA l W i)))).length : Nat) by rw [List.length_set, intsP_len, mix_len (by omega)]; omega, Int, (mixL (szsA l W) sz0 i).set i (bytesA x W[i] (atA l W i)), PV.int .i64, show (intsP (mixL (szsA l W) sz0 i)).set i (.int .i64 (bytesA x W[i] (atA l W i))) = _ by unfold intsP; rw [List.map_set], show (i : Int).toNat < ((mixL (szsA l W) sz0 i).set i (bytesA x W[i] (atA l W i))).length by rw [List.length_set, mix_len (by omega)]; omega, fun v hv => ?_⟩
      obtain rfl : bytesA x W[i] (atA l W i) = v := by
        have hv' : ((mixL (szsA l W) sz0 i).set i (bytesA x W[i] (atA l W i)))[i]? = some v := hv
        rw [List.getElem?_set_self (by rw [mix_len (by omega)]; omega)] at hv'
        exact Option.some.inj hv'
      refine .inl ⟨inR_i64 (show _ ≤ atA l W i + bytesA x W[i] (atA l W i) ∧ atA l W i + bytesA x W[i] (atA l W i) ≤ _ by omega), ?_⟩
      refine .inl ⟨inR_i64 (show _ ≤ (i : Int) + 1 ∧ (i : Int) + 1 ≤ _ by omega), ⟨i + 1, [some 0, some 1, some 2, some 3, some 4, some 5], by omega, ?_⟩⟩
      repeat' first | exact trivial | exact rfl | exact Iff.rfl | refine And.intro ?_ ?_
      all_goals first | exact (show atA l W i + bytesA x W[i] (atA l W i) = atA l W (i + 1) by rw [es]) | exact (show (intsP (mixL (atsA l W) at0 i)).set i (.int .i64 (atA l W i)) = intsP (mixL (atsA l W) at0 (i + 1)) by rw [← mix_set (by omega) (atsA_get (by omega))]; unfold intsP; rw [List.map_set]) | exact (show (intsP (mixL (szsA l W) sz0 i)).set i (.int .i64 (bytesA x W[i] (atA l W i))) = intsP (mixL (szsA l W) sz0 (i + 1)) by rw [← mix_set (by omega) (szsA_get (by omega)), es, show atA l W i + bytesA x W[i] (atA l W i) - atA l W i = bytesA x W[i] (atA l W i) by omega]; unfold intsP; rw [List.map_set]) | exact (show (L ++ marksT l W i).map kvP = (L ++ marksT l W (i + 1)).map kvP by rw [marksT_not hx' hk3'])
  · have h' : ¬ (i : Int) < ((l.map aiP).length : Nat) := h
    rw [el] at h'
    rw [mix_all (by omega) (show at0.length ≤ i by omega), mix_all (by omega) (show sz0.length ≤ i by omega), marksT_end (show l.length ≤ i by omega), atA_end hW (show l.length ≤ i by omega)]
    (refine retS (by repeat' first | exact trivial | exact rfl | exact Iff.rfl | refine And.intro ?_ ?_) ?_; repeat' first | exact trivial | exact rfl | exact Iff.rfl | exact Or.inl rfl | refine And.intro ?_ ?_)

end Go.Proofs.YtjcacjeoddnmhaaDoor.Pw

/- Chapter 8 over values: jumps that don't reach become wide. -/
set_option linter.unusedVariables false
namespace Go.Proofs.YtjcacjeoddnmhaaDoor.Pw
open Go Go.RowKit

theorem lkM_bd {L : List (Int × Int)} {B : Int} (hB : 0 ≤ B) (h : ∀ p ∈ L, 0 ≤ p.2 ∧ p.2 ≤ B) (k : Int) : 0 ≤ lkM L k ∧ lkM L k ≤ B := by
  unfold lkM
  have key : ∀ (L : List (Int × Int)) (a : Int), (∀ p ∈ L, 0 ≤ p.2 ∧ p.2 ≤ B) → 0 ≤ a ∧ a ≤ B → 0 ≤ L.foldl (fun a x => if x.1 = k then x.2 else a) a ∧ L.foldl (fun a x => if x.1 = k then x.2 else a) a ≤ B := by
    intro L
    induction L with
    | nil => intro a _ h; exact h
    | cons p L ih =>
      intro a h ha
      rw [List.foldl_cons]
      refine ih _ (fun q hq => h q (by simp [hq])) ?_
      split
      · exact h p (by simp)
      · exact ha
  exact key L 0 h ⟨Int.le_refl 0, hB⟩
theorem marksT_bd {l : List AI} {W : List Bool} (hW : W.length = l.length) (hI : ∀ x ∈ l, ItOk x) (hl : l.length ≤ 10000) {i : Nat} (hi : i ≤ l.length) : ∀ p ∈ marksT l W i, 0 ≤ p.2 ∧ p.2 ≤ 1000000 := fun p hp => by
  obtain ⟨j, x, hj, _, _, rfl⟩ := marksT_mem hp
  have := atA_bd hW hI j (by omega)
  show 0 ≤ atA l W j ∧ atA l W j ≤ 1000000
  omega
/-- how many of the first jumps become wide -/
def chgN (l : List AI) (W : List Bool) (i : Nat) : Int := ((W.take i).count false : Nat) - (((nextA l W).take i).count false : Nat)
theorem count_step {V : List Bool} {i : Nat} {v : Bool} (h : V[i]? = some v) : (V.take (i + 1)).count false = (V.take i).count false + (if v then 0 else 1) := by
  rw [List.take_add_one, h, List.count_append]
  cases v <;> simp
theorem chg_step {l : List AI} {W : List Bool} {i : Nat} {v w : Bool} (hv : (nextA l W)[i]? = some v) (hw : W[i]? = some w) : chgN l W (i + 1) = chgN l W i + ((if w then 0 else 1) - (if v then 0 else 1)) := by
  unfold chgN
  rw [count_step hv, count_step hw]
  cases v <;> cases w <;> simp <;> omega
theorem chg_bd {l : List AI} {W : List Bool} (i : Nat) : -(i : Int) ≤ chgN l W i ∧ chgN l W i ≤ i := by
  unfold chgN
  have h1 : (W.take i).count false ≤ i := Nat.le_trans List.count_le_length (by rw [List.length_take]; omega)
  have h2 : ((nextA l W).take i).count false ≤ i := Nat.le_trans List.count_le_length (by rw [List.length_take]; omega)
  omega
theorem chg_end {l : List AI} {W : List Bool} (hl : W.length = l.length) {i : Nat} (hi : l.length ≤ i) : chgN l W i = (narrowN W : Int) - (narrowN (nextA l W) : Int) := by
  unfold chgN narrowN
  rw [List.take_of_length_le (by omega), List.take_of_length_le (by rw [nextA_len hl]; omega)]
set_option maxHeartbeats 4000000 in
set_option maxRecDepth 10000 in
theorem widen_runs {l : List AI} {W : List Bool} {e : Int} {L : List (Int × Int)} (hW : W.length = l.length) (hr : ∀ x ∈ l, rightA x) (hc : ∀ x ∈ l, x.kind = 2 → cntA l x.label = 1) (hl : l.length ≤ 10000) (hL : ∀ p ∈ L, 0 ≤ p.2 ∧ p.2 ≤ 1000000) :
    RunsA 27 [.ptr 5 0] (sLy l W (atsA l W) (szsA l W) e (L ++ marksT l W l.length)) (.int .i64 ((narrowN W : Int) - (narrowN (nextA l W) : Int))) (sLy l (nextA l W) (atsA l W) (szsA l W) e (L ++ marksT l W l.length)) := by
  have hI : ∀ x ∈ l, ItOk x := fun x hx => rightA_it (hr x hx)
  have el : (l.map aiP).length = l.length := List.length_map ..
  have hV := nextA_len hW
  have hO : OffB (L ++ marksT l W l.length) := lkM_bd (by decide) fun p hp => (List.mem_append.1 hp).elim (hL p) (marksT_bd hW hI hl (Nat.le_refl _) p)
  refine Spec.leS (Spec.enter gTok P27 100 Tryd.func27 rfl (by kernel_rfl) ?_)
  refine fun hm => ?_
  refine SW.loopX gTok P27 (by kernel_rfl) (fun i : Nat => [(0, .ptr 5 0), (3, .int .i64 (chgN l W i)), (9, .sl 15 (l.map aiP)), (10, .int .i64 (l.map aiP).length), (11, .int .i64 i)]) (fun i => sLy l (mixL (nextA l W) W i) (atsA l W) (szsA l W) e (L ++ marksT l W l.length)) (fun i => l.length - i) 0 60 [some 0, some 1, some 2, some 3, some 4, some 5] ?_ fun i => ?_
  · repeat' first | exact trivial | exact rfl | exact Iff.rfl | refine And.intro ?_ ?_
    all_goals exact (show intsP (wI W) = intsP (wI (mixL (nextA l W) W 0)) by rw [mix_none])
  refine And.intro (fun h => ?_) (fun h => ?_)
  · have h' : (i : Int) < ((l.map aiP).length : Nat) := h
    rw [el] at h'
    refine ⟨AI, l, aiP, rfl, show (0 : Int) ≤ (i : Int) by omega, show (i : Int) < (l.length : Int) by omega, fun x hx => ?_⟩
    have hx' : l[i]? = some x := hx
    have hw' : W[i]? = some W[i] := List.getElem?_eq_getElem (by omega)
    have hxm := List.mem_of_getElem? hx'
    have hrx := hr x hxm
    have b1 := atA_bd hW hI i (by omega)
    have hv' := nextA_get hx' hw'
    have cs := chg_step hv' hw'
    have cb := chg_bd (l := l) (W := W) i
    have hml := mix_len (hV.trans hW.symm) i
    have hmg := mix_at (hV.trans hW.symm) hw'
    refine And.intro (fun hk => ?_) (fun hk => ?_)
    · have hk' : x.kind = 2 := hk
      have hq := (rightA_2 hk').1 hrx
      have hrc := reaches_runs (W := mixL (nextA l W) W i) (at_ := atsA l W) (sz := szsA l W) (e := e) (L := L ++ marksT l W l.length) hx' hq.2.2.2 hq.2.2.1.1 (atsA_get (by omega)) (by omega) hO
      rw [lk_far L (hc x hxm hk')] at hrc
      generalize hfr : farA l W i x = fr at *
      have hnb : nextB l W i x W[i] = (W[i] || !shortA x.cond fr) := by unfold nextB; rw [decide_eq_true hk', hfr]; simp
      generalize W[i] = w at *
      refine ⟨show (0 : Int) ≤ (i : Int) by omega, show (i : Int) < ((intsP (wI (mixL (nextA l W) W i))).length : Nat) by rw [intsP_len, wI_len, hml]; omega, Int, wI (mixL (nextA l W) W i), PV.int .i64, rfl, show (i : Int).toNat < (wI (mixL (nextA l W) W i)).length by rw [wI_len, hml]; omega, fun v hv => ?_⟩
      obtain rfl : (if w then 1 else 0) = v := Option.some.inj ((wI_get hmg).symm.trans hv)
      refine And.intro (fun h0 => ?_) (fun h0 => ?_)
      · have hw0 : w = false := by cases w <;> simp at h0 ⊢
        subst hw0
        refine ⟨[], no_rl, hrc.useS rfl rfl rfl rfl (by repeat' first | exact trivial | exact rfl | exact Iff.rfl | exact Or.inl rfl | refine And.intro ?_ ?_) (And.intro (by repeat' first | exact trivial | exact rfl | exact Iff.rfl | exact Or.inl rfl | refine And.intro ?_ ?_) (And.intro (by repeat' first | exact trivial | exact rfl | exact Iff.rfl | exact Or.inl rfl | refine And.intro ?_ ?_) (And.intro (by repeat' first | exact trivial | exact rfl | exact Iff.rfl | exact Or.inl rfl | refine And.intro ?_ ?_) (And.intro (by repeat' first | exact trivial | exact rfl | exact Iff.rfl | exact Or.inl rfl | refine And.intro ?_ ?_) (And.intro (by repeat' first | exact trivial | exact rfl | exact Iff.rfl | exact Or.inl rfl | refine And.intro ?_ ?_) (And.intro (by repeat' first | exact trivial | exact rfl | exact Iff.rfl | exact Or.inl rfl | refine And.intro ?_ ?_) ?_))))))⟩
        refine And.intro (fun hns => ?_) (fun hns => ?_)
        · have hns' : ¬ shortA x.cond fr = true := hns
          have hvt : nextB l W i x false = true := by rw [hnb]; simpa using hns'
          rw [hvt] at hv' cs
          have e1 : chgN l W (i + 1) = chgN l W i + 1 := by rw [cs]; simp
          refine ⟨show (0 : Int) ≤ (i : Int) by omega, show (i : Int) < ((intsP (wI (mixL (nextA l W) W i))).length : Nat) by rw [intsP_len, wI_len, hml]; omega, show (i : Int).toNat < (intsP (wI (mixL (nextA l W) W i))).length by rw [intsP_len, wI_len, hml]; omega, ?_⟩
          refine .inl ⟨inR_i64 (show _ ≤ chgN l W i + 1 ∧ chgN l W i + 1 ≤ _ by omega), ?_⟩
          refine .inl ⟨inR_i64 (show _ ≤ (i : Int) + 1 ∧ (i : Int) + 1 ≤ _ by omega), ⟨i + 1, [some 0, some 1, some 2, some 3, some 4, some 5], by omega, ?_⟩⟩
          repeat' first | exact trivial | exact rfl | exact Iff.rfl | refine And.intro ?_ ?_
          all_goals first | exact (show chgN l W i + 1 = chgN l W (i + 1) by rw [e1]) | exact (show (intsP (wI (mixL (nextA l W) W i))).set i (.int .i64 1) = intsP (wI (mixL (nextA l W) W (i + 1))) by rw [← mix_set (hV.trans hW.symm) hv']; unfold wI intsP; rw [List.map_set, List.map_set]; rfl)
        · have hns' : shortA x.cond fr = true := Classical.not_not.1 hns
          have hsame : nextB l W i x false = false := by rw [hnb]; simp [hns']
          rw [hsame] at hv' cs
          have e1 : chgN l W (i + 1) = chgN l W i := by rw [cs]; omega
          have e2 := mix_same (hV.trans hW.symm) hw' hv'
          refine .inl ⟨inR_i64 (show _ ≤ (i : Int) + 1 ∧ (i : Int) + 1 ≤ _ by omega), ⟨i + 1, [some 0, some 1, some 2, some 3, some 4, some 5], by omega, ?_⟩⟩
          repeat' first | exact trivial | exact rfl | exact Iff.rfl | refine And.intro ?_ ?_
          all_goals first | exact (show chgN l W i = chgN l W (i + 1) by rw [e1]) | exact (show intsP (wI (mixL (nextA l W) W i)) = intsP (wI (mixL (nextA l W) W (i + 1))) by rw [e2])
      · have hw0 : w = true := by cases w <;> simp at h0 ⊢
        subst hw0
        have hsame : nextB l W i x true = true := by rw [hnb]; rfl
        rw [hsame] at hv' cs
        have e1 : chgN l W (i + 1) = chgN l W i := by rw [cs]; omega
        have e2 := mix_same (hV.trans hW.symm) hw' hv'
        refine .inl ⟨inR_i64 (show _ ≤ (i : Int) + 1 ∧ (i : Int) + 1 ≤ _ by omega), ⟨i + 1, [some 0, some 1, some 2, some 3, some 4, some 5], by omega, ?_⟩⟩
        repeat' first | exact trivial | exact rfl | exact Iff.rfl | refine And.intro ?_ ?_
        all_goals first | exact (show chgN l W i = chgN l W (i + 1) by rw [e1]) | exact (show intsP (wI (mixL (nextA l W) W i)) = intsP (wI (mixL (nextA l W) W (i + 1))) by rw [e2])
    · have hk' : ¬ x.kind = 2 := hk
      have hsame : nextB l W i x W[i] = W[i] := by unfold nextB; rw [decide_eq_false hk']; simp
      rw [hsame] at hv' cs
      have e1 : chgN l W (i + 1) = chgN l W i := by rw [cs]; omega
      have e2 := mix_same (hV.trans hW.symm) hw' hv'
      refine .inl ⟨inR_i64 (show _ ≤ (i : Int) + 1 ∧ (i : Int) + 1 ≤ _ by omega), ⟨i + 1, [some 0, some 1, some 2, some 3, some 4, some 5], by omega, ?_⟩⟩
      repeat' first | exact trivial | exact rfl | exact Iff.rfl | refine And.intro ?_ ?_
      all_goals first | exact (show chgN l W i = chgN l W (i + 1) by rw [e1]) | exact (show intsP (wI (mixL (nextA l W) W i)) = intsP (wI (mixL (nextA l W) W (i + 1))) by rw [e2])
  · have h' : ¬ (i : Int) < ((l.map aiP).length : Nat) := h
    rw [el] at h'
    rw [mix_all (hV.trans hW.symm) (show W.length ≤ i by omega), chg_end hW (show l.length ≤ i by omega)]
    (refine retS (by repeat' first | exact trivial | exact rfl | exact Iff.rfl | refine And.intro ?_ ?_) ?_; repeat' first | exact trivial | exact rfl | exact Iff.rfl | exact Or.inl rfl | refine And.intro ?_ ?_)

end Go.Proofs.YtjcacjeoddnmhaaDoor.Pw

/- A struct that comes in by value, opened. -/
namespace Go.Proofs.YtjcacjeoddnmhaaDoor.Pw
open Go Go.RowKit

theorem Op.argS {P : Program} {t : TypeId} {S : PV → Prop} (h : Op P t S) (hS : ∀ y, S y → ∃ xs, y = .agg xs) {H : Type} {ec : TypeId × Value → H} {w : World} {base : Nat} {held : Bool} {vs : Array Value} {d : DataW H} {p : List MemPlace} (ht : DataW.Trod ec P w base (fun _ => true) held t (.agg vs) d p) (hwt : ∀ n ∈ d.weights P t, n ≤ reachBytes) :
    ∃ y, S y ∧ y.Is w (In w) no (.agg vs) := by
  obtain ⟨fuel, ht⟩ := ht
  obtain ⟨y, hy, _, hi, _⟩ := h ec w base held fuel _ _ ht hwt
  refine ⟨y, hy, ?_⟩
  obtain ⟨xs, rfl⟩ := hS y hy
  simp only [PV.Is]
  exact ⟨vs, rfl, hi⟩

end Go.Proofs.YtjcacjeoddnmhaaDoor.Pw

/- What comes in to chapter 4's laws, opened; the tables. -/
namespace Go.Proofs.YtjcacjeoddnmhaaDoor.codeLaid
open Go.ChangeShapes Go.WideShapes Go.ChangeAt Go.RowKit Go.Deep

def laidList : List (String × DataW Unit) := [("remontoire/imm.factors", Rows.laid_remontoire_imm_factors), ("remontoire/inst.shapes", Rows.laid_remontoire_inst_shapes)]
def fuel : Nat := 3000
theorem door_met (os : Os) (args : Array Value) : laidMetH Tryd.prog laidList ((World.doorLaid Tryd.prog fuel os).forCall (fun _ _ => 0) ⟨#[], args, []⟩).memory :=
  laidMetH_of_parts3 (fuel := 8) (laidMet_of_run' 8 (by kernel_rfl) (by kernel_rfl)) (by kernel_rfl) (by kernel_rfl)

end Go.Proofs.YtjcacjeoddnmhaaDoor.codeLaid

namespace Go.Proofs.YtjcacjeoddnmhaaDoor.Pw
open Go Go.RowKit

theorem immCode {W : World} (h : laidMetH Tryd.prog codeLaid.laidList W) : ImmOk gT (In W) W :=
  immOk_laid (laid := codeLaid.laidList) (by kernel_rfl) h fun x hx => by
    have hx' : x ∈ [(1, facP), (0, shP)] := hx
    simp only [List.mem_cons, List.not_mem_nil, or_false] at hx'
    rcases hx' with rfl | rfl
    · exact ⟨"remontoire/imm.factors", _, 101, List.mem_cons_self, by kernel_rfl, by kernel_rfl, by kernel_rfl, nofun⟩
    · exact ⟨"remontoire/inst.shapes", _, 86, List.mem_cons_of_mem _ List.mem_cons_self, by kernel_rfl, by kernel_rfl, by kernel_rfl, nofun⟩

theorem inR_i64c {z : Int} (h : InR .i64 z) : I64 z := by unfold InR Ev.kmin Ev.kmax at h; simp only [IntKind.signed, IntKind.bits] at h; unfold I64; simpa using h
theorem opI64c : Op Tryd.prog 3 (SInt .i64) := opInt Tryd.underlying3 (by kernel_rfl)
theorem opIN_ : Op Tryd.prog 24 (SAgg (List.replicate 11 (SInt .i64))) :=
  opAgg (Ss := List.replicate 11 (SInt .i64)) Tryd.underlying24
    ⟨rfl, opInt Tryd.underlying22 (by kernel_rfl), (show _ = _ by kernel_rfl), opI64c, (show _ = _ by kernel_rfl), opI64c, (show _ = _ by kernel_rfl), opI64c, (show _ = _ by kernel_rfl), opI64c, (show _ = _ by kernel_rfl), opI64c, (show _ = _ by kernel_rfl), opI64c, (show _ = _ by kernel_rfl), opI64c, (show _ = _ by kernel_rfl), opI64c, (show _ = _ by kernel_rfl), opI64c, (show _ = _ by kernel_rfl), opI64c, (show _ = _ by kernel_rfl)⟩
theorem in_dec (x : PV) (h : SAgg (List.replicate 11 (SInt .i64)) x) : ∃ i : IN, IOk i ∧ x = inP i := by
  obtain ⟨xs, h, rfl⟩ := h
  obtain ⟨_, _, rfl, ⟨a0, b0, rfl⟩, h_1⟩ := all2_cons (S := SInt .i64) (Ss := List.replicate 10 (SInt .i64)) h
  obtain ⟨_, _, rfl, ⟨a1, b1, rfl⟩, h_2⟩ := all2_cons (S := SInt .i64) (Ss := List.replicate 9 (SInt .i64)) h_1
  obtain ⟨_, _, rfl, ⟨a2, b2, rfl⟩, h_3⟩ := all2_cons (S := SInt .i64) (Ss := List.replicate 8 (SInt .i64)) h_2
  obtain ⟨_, _, rfl, ⟨a3, b3, rfl⟩, h_4⟩ := all2_cons (S := SInt .i64) (Ss := List.replicate 7 (SInt .i64)) h_3
  obtain ⟨_, _, rfl, ⟨a4, b4, rfl⟩, h_5⟩ := all2_cons (S := SInt .i64) (Ss := List.replicate 6 (SInt .i64)) h_4
  obtain ⟨_, _, rfl, ⟨a5, b5, rfl⟩, h_6⟩ := all2_cons (S := SInt .i64) (Ss := List.replicate 5 (SInt .i64)) h_5
  obtain ⟨_, _, rfl, ⟨a6, b6, rfl⟩, h_7⟩ := all2_cons (S := SInt .i64) (Ss := List.replicate 4 (SInt .i64)) h_6
  obtain ⟨_, _, rfl, ⟨a7, b7, rfl⟩, h_8⟩ := all2_cons (S := SInt .i64) (Ss := List.replicate 3 (SInt .i64)) h_7
  obtain ⟨_, _, rfl, ⟨a8, b8, rfl⟩, h_9⟩ := all2_cons (S := SInt .i64) (Ss := List.replicate 2 (SInt .i64)) h_8
  obtain ⟨_, _, rfl, ⟨a9, b9, rfl⟩, h_10⟩ := all2_cons (S := SInt .i64) (Ss := List.replicate 1 (SInt .i64)) h_9
  obtain ⟨_, _, rfl, ⟨a10, b10, rfl⟩, h_11⟩ := all2_cons (S := SInt .i64) (Ss := List.replicate 0 (SInt .i64)) h_10
  obtain rfl := all2_nil h_11
  refine ⟨⟨a0, a1, a2, a3, a4, a5, a6, a7, a8, a9, a10⟩, fun x hx => ?_, rfl⟩
  simp only [inLs, List.mem_cons, List.not_mem_nil, or_false] at hx
  rcases hx with rfl | rfl | rfl | rfl | rfl | rfl | rfl | rfl | rfl | rfl | rfl
  · exact inR_i64c b0
  · exact inR_i64c b1
  · exact inR_i64c b2
  · exact inR_i64c b3
  · exact inR_i64c b4
  · exact inR_i64c b5
  · exact inR_i64c b6
  · exact inR_i64c b7
  · exact inR_i64c b8
  · exact inR_i64c b9
  · exact inR_i64c b10
def SIN (x : PV) : Prop := ∃ i : IN, IOk i ∧ x = inP i
theorem opIN : Op Tryd.prog 24 SIN := opIN_.weak in_dec
end Go.Proofs.YtjcacjeoddnmhaaDoor.Pw

/- Chapter 4 over values: CodeOnce, CodeBegins. -/
namespace Go.Proofs.YtjcacjeoddnmhaaDoor.Pw
open Go Go.RowKit

/-! ### the first half -/
def spanF (l : List (Nat × Nat × Nat × Nat)) : Nat := l.foldl (fun m x => max m (x.2.2.1 + x.2.2.2)) 0
theorem spanF_le : ∀ (l : List (Nat × Nat × Nat × Nat)) (m : Nat), m ≤ l.foldl (fun m x => max m (x.2.2.1 + x.2.2.2)) m ∧ ∀ x ∈ l, x.2.2.1 + x.2.2.2 ≤ l.foldl (fun m x => max m (x.2.2.1 + x.2.2.2)) m
  | [], m => ⟨Nat.le_refl _, fun x hx => by cases hx⟩
  | y :: l, m => by
    have h := spanF_le l (max m (y.2.2.1 + y.2.2.2))
    rw [List.foldl_cons]
    refine ⟨by omega, fun x hx => ?_⟩
    rcases List.mem_cons.1 hx with rfl | hx
    · omega
    · exact h.2 x hx
theorem orF_lt (i : IN) (k : Nat) : ∀ (l : List (Nat × Nat × Nat × Nat)) (V : Nat), V < 2 ^ k → (∀ x ∈ l, x.2.2.1 + x.2.2.2 ≤ k) → l.foldl (fun w x => w ||| B (getV i x.1) x.2.1 x.2.2.2 x.2.2.1) V < 2 ^ k
  | [], V, h, _ => h
  | x :: l, V, h, hl => by
    rw [List.foldl_cons]
    refine orF_lt i k l _ (Nat.or_lt_two_pow h ?_) fun y hy => hl y (List.mem_cons_of_mem _ hy)
    have b := bitsV_bd (getV i x.1) x.2.1 x.2.2.2
    have e := pow_cast x.2.2.2
    have h1 : (bitsV (getV i x.1) x.2.1 x.2.2.2).toNat < 2 ^ x.2.2.2 := by omega
    unfold B
    rw [Nat.shiftLeft_eq]
    calc (bitsV (getV i x.1) x.2.1 x.2.2.2).toNat * 2 ^ x.2.2.1 < 2 ^ x.2.2.2 * 2 ^ x.2.2.1 := Nat.mul_lt_mul_of_pos_right h1 (Nat.two_pow_pos _)
      _ = 2 ^ (x.2.2.2 + x.2.2.1) := (Nat.pow_add ..).symm
      _ ≤ 2 ^ k := Nat.pow_le_pow_right (by omega) (by have := hl x (List.mem_cons_self ..); omega)
theorem or_top_same (a b k : Nat) (h : b < 2 ^ k) : a ||| b < (a / 2 ^ k + 1) * 2 ^ k := by
  have e : (a ||| b) / 2 ^ k = a / 2 ^ k := by
    apply Nat.eq_of_testBit_eq
    intro p
    rw [Nat.testBit_div_two_pow, Nat.testBit_div_two_pow, Nat.testBit_or, Nat.testBit_lt_two_pow (x := b) (Nat.lt_of_lt_of_le h (Nat.pow_le_pow_right (by decide) (by omega))), Bool.or_false]
  have hp := Nat.two_pow_pos k
  have h1 := Nat.lt_mul_div_succ (a ||| b) hp
  rw [e, Nat.mul_comm] at h1
  exact h1
theorem narrow_tab : ((List.range 47).all fun k => decide ((fbN (k + 1) / 2 ^ spanF (fdN (k + 1)) + 1) * 2 ^ spanF (fdN (k + 1)) ≤ 59392)) = true := by decide +kernel
theorem wide_tab : ((List.range 53).all fun k => decide (3892314112 ≤ fbN (k + 48))) = true := by decide +kernel
theorem top_narrow (i : IN) (h : rightV i) (hn : ¬ 48 ≤ i.form) : wordV i < 59392 := by
  have f1 := h.1
  have ef : ((i.form.toNat : Nat) : Int) = i.form := by omega
  have t := of_decide_eq_true (List.all_eq_true.1 narrow_tab (i.form.toNat - 1) (List.mem_range.2 (by omega)))
  rw [show i.form.toNat - 1 + 1 = i.form.toNat by omega] at t
  unfold fbN fdN at t
  rw [ef] at t
  have l := orF_lt (turnI i) (spanF (fieldsV (shapeV i.form))) (fieldsV (shapeV i.form)) 0 (Nat.two_pow_pos _) fun x hx => (spanF_le _ 0).2 x hx
  have o := or_top_same (fbV i.form).toNat _ _ l
  have e : wordV i = (((fbV i.form).toNat ||| orF (turnI i) (fieldsV (shapeV i.form)) : Nat) : Int) := word_or i
  rw [e]
  have o2 : ((fbV i.form).toNat ||| orF (turnI i) (fieldsV (shapeV i.form))) < 59392 := Nat.lt_of_lt_of_le o t
  omega
theorem word_bd (i : IN) : U32 (wordV i) := by
  have := or4_lt (show (fbV i.form).toNat < 4294967296 by have := fb_bd i.form; omega) (orV_lt i)
  rw [word_or]; unfold U32; omega
theorem top_wide (i : IN) (h : rightV i) (hn : 48 ≤ i.form) : 3892314112 ≤ wordV i := by
  have f1 := h.1
  have ef : ((i.form.toNat : Nat) : Int) = i.form := by omega
  have t := of_decide_eq_true (List.all_eq_true.1 wide_tab (i.form.toNat - 48) (List.mem_range.2 (by omega)))
  rw [show i.form.toNat - 48 + 48 = i.form.toNat by omega] at t
  unfold fbN at t
  rw [ef] at t
  have l : (fbV i.form).toNat ≤ (fbV i.form).toNat ||| orF (turnI i) (fieldsV (shapeV i.form)) := Nat.left_le_or
  rw [word_or]; omega

end Go.Proofs.YtjcacjeoddnmhaaDoor.Pw

/- Chapter 4 over values: an instruction's bytes; CodeWords. -/
namespace Go.Proofs.YtjcacjeoddnmhaaDoor.Pw
open Go Go.RowKit

def u8P (l : List Int) : List PV := l.map (PV.int .u8)
/-- an instruction's bytes -/
def byL (i : IN) : List Int := (if 48 ≤ i.form then [wordV i / 65536 % 256, wordV i / 16777216 % 256] else []) ++ [wordV i % 256, wordV i / 256 % 256]
theorem r24 : Ev.pow2 .u32 24 = 16777216 := by decide
set_option maxHeartbeats 4000000 in
set_option maxRecDepth 100000 in
theorem bytes_yes (i : IN) (h : rightV i) (hI : IOk i) : PureF gT 48 [inP i] (.tup [.sl 1 (u8P (byL i)), .int .i64 0]) := by
  have e0 := IntKind.wrap_u8' (wordV i)
  have e1 := IntKind.wrap_u8' (wordV i / Ev.pow2 .u32 8)
  have e2 := IntKind.wrap_u8' (wordV i / Ev.pow2 .u32 16)
  have e3 := IntKind.wrap_u8' (wordV i / Ev.pow2 .u32 24)
  have p8 : Ev.pow2 .u32 8 = 256 := by decide
  have p16 : Ev.pow2 .u32 16 = 65536 := by decide
  refine Spec.enter gTok P48 100 Tryd.func48 rfl (by kernel_rfl) ?_
  refine ⟨[], no_rl, (word_yes i h hI).use (by repeat' first | exact trivial | exact rfl | exact Iff.rfl | exact Or.inl rfl | refine And.intro ?_ ?_) rfl rfl ?_⟩
  refine And.intro (fun h => absurd rfl h) (fun _ => ?_)
  refine .inr ?_
  refine ⟨by decide, .inr ?_⟩
  refine ⟨[], no_rl, (form_wide i.form).use (by repeat' first | exact trivial | exact rfl | exact Iff.rfl | exact Or.inl rfl | refine And.intro ?_ ?_) rfl rfl ?_⟩
  refine And.intro (fun hn => ?_) (fun hn => ?_)
  · have hn' : ¬ 48 ≤ i.form := fun e => hn ⟨e, h.1.2⟩
    refine retE ?_
    refine And.intro ?_ (And.intro rfl trivial)
    show [PV.int .u8 (IntKind.u8.wrap (wordV i)), .int .u8 (IntKind.u8.wrap (wordV i / Ev.pow2 .u32 8))] = u8P (byL i)
    rw [e0, e1, p8]
    unfold byL u8P; rw [if_neg hn']; rfl
  · have hn' : 48 ≤ i.form := (Classical.not_not.1 hn).1
    refine ⟨by decide, .inr ?_⟩
    refine ⟨by decide, .inr ?_⟩
    refine retE ?_
    refine And.intro ?_ (And.intro rfl trivial)
    show [PV.int .u8 (IntKind.u8.wrap (wordV i / Ev.pow2 .u32 16)), .int .u8 (IntKind.u8.wrap (wordV i / Ev.pow2 .u32 24)), PV.int .u8 (IntKind.u8.wrap (wordV i)), .int .u8 (IntKind.u8.wrap (wordV i / Ev.pow2 .u32 8))] = u8P (byL i)
    rw [e0, e1, e2, e3, p8, p16, r24]
    unfold byL u8P; rw [if_pos hn']; rfl
end Go.Proofs.YtjcacjeoddnmhaaDoor.Pw

/- Chapter 8 over values: an item's instructions; a program's bytes. -/
set_option linter.unusedVariables false
namespace Go.Proofs.YtjcacjeoddnmhaaDoor.Pw
open Go Go.RowKit

def nopI : IN := ⟨44, 0, 0, 0, 0, 0, 0, 0, 0, 0, 0⟩
/-- an item's instructions -/
def instsA (x : AI) (w : Bool) (n s : Int) : List IN := if x.kind = 1 then [x.inst] else if x.kind = 2 then [branA x.cond w n] else List.replicate (s / 2).toNat nopI
def nB (k : Nat) : PBlk := ⟨.dyn, 24, 11, .w, true, insP (List.replicate k nopI)⟩
set_option maxHeartbeats 4000000 in
set_option maxRecDepth 10000 in
theorem insts_runs {l : List AI} {W : List Bool} {at_ sz : List Int} {e : Int} {L : List (Int × Int)} {i : Nat} {x : AI} {w : Bool} {a s : Int} (hx : l[i]? = some x) (hw : W[i]? = some w) (hr : rightA x) (hat : at_[i]? = some a) (ha : 0 ≤ a ∧ a ≤ 1000000) (hs : sz[i]? = some s) (hsb : 0 ≤ s ∧ s ≤ 16) (hL : OffB L) :
    RunsA 47 [.ptr 5 0, .int .i64 i] (sLy l W at_ sz e L) (.sl 11 (insP (instsA x w (lkM L x.label - a - 4) s))) (sLy l W at_ sz e L) := by
  have hl := (List.getElem?_eq_some_iff.1 hx).1
  have hsl := (List.getElem?_eq_some_iff.1 hs).1
  refine Spec.leS (Spec.enter gTok P47 100 Tryd.func47 rfl (by kernel_rfl) ?_)
  refine ⟨AI, l, aiP, rfl, show (0 : Int) ≤ (i : Int) by omega, show (i : Int) < (l.length : Int) by omega, fun x' hx' => ?_⟩
  obtain rfl : x = x' := Option.some.inj (hx.symm.trans hx')
  refine And.intro (fun k1 => ?_) (fun k1 => ?_)
  · have k1' : x.kind = 1 := k1
    refine retS ?_ (by repeat' first | exact trivial | exact rfl | exact Iff.rfl | exact Or.inl rfl | refine And.intro ?_ ?_)
    exact (show [inP x.inst] = insP (instsA x w (lkM L x.label - a - 4) s) by unfold instsA; rw [if_pos k1']; rfl)
  refine And.intro (fun k2 => ?_) (fun k2 => ?_)
  · have k1' : ¬ x.kind = 1 := k1
    have k2' : x.kind = 2 := k2
    have hq := (rightA_2 k2').1 hr
    have hb := branch_runs (W := W) (sz := sz) (e := e) hx hw hq.2.2.2 hq.2.2.1.1 hat ha hL
    refine ⟨[], no_rl, hb.useS rfl rfl rfl rfl (by repeat' first | exact trivial | exact rfl | exact Iff.rfl | exact Or.inl rfl | refine And.intro ?_ ?_) (And.intro (by repeat' first | exact trivial | exact rfl | exact Iff.rfl | exact Or.inl rfl | refine And.intro ?_ ?_) (And.intro (by repeat' first | exact trivial | exact rfl | exact Iff.rfl | exact Or.inl rfl | refine And.intro ?_ ?_) (And.intro (by repeat' first | exact trivial | exact rfl | exact Iff.rfl | exact Or.inl rfl | refine And.intro ?_ ?_) (And.intro (by repeat' first | exact trivial | exact rfl | exact Iff.rfl | exact Or.inl rfl | refine And.intro ?_ ?_) (And.intro (by repeat' first | exact trivial | exact rfl | exact Iff.rfl | exact Or.inl rfl | refine And.intro ?_ ?_) (And.intro (by repeat' first | exact trivial | exact rfl | exact Iff.rfl | exact Or.inl rfl | refine And.intro ?_ ?_) ?_))))))⟩
    refine retS ?_ (by repeat' first | exact trivial | exact rfl | exact Iff.rfl | exact Or.inl rfl | refine And.intro ?_ ?_)
    exact (show [inP (branA x.cond w (lkM L x.label - a - 4))] = insP (instsA x w (lkM L x.label - a - 4) s) by unfold instsA; rw [if_neg k1', if_pos k2']; rfl)
  have k1' : ¬ x.kind = 1 := k1
  have k2' : ¬ x.kind = 2 := k2
  have ei : instsA x w (lkM L x.label - a - 4) s = List.replicate (s / 2).toNat nopI := by unfold instsA; rw [if_neg k1', if_neg k2']
  rw [ei]
  refine ⟨show (0 : Int) ≤ (i : Int) by omega, show (i : Int) < ((intsP sz).length : Nat) by rw [intsP_len]; omega, Int, sz, PV.int .i64, rfl, show (i : Int).toNat < sz.length by omega, fun v hv => ?_⟩
  obtain rfl : s = v := Option.some.inj (hs.symm.trans hv)
  refine And.intro (show (2 : Int) ≠ 0 by decide) (.inl ⟨hsb.1, show s ≤ 9223372036854775807 by omega, show (0 : Int) < 2 by decide, ?_⟩)
  refine SW.loopX gTok P47 (by kernel_rfl) (α := {k : Nat // (k : Int) ≤ s / 2}) (fun k => [(6, .wref 6), (34, .int .i64 (s / 2)), (35, .int .i64 k.1)]) (fun k => [zR, dI (intsP (wI W)), dI (intsP at_), dI (intsP sz), mpB L, yB l e, nB k.1]) (fun k => 8 - k.1) ⟨0, show ((0 : Nat) : Int) ≤ s / 2 by omega⟩ 60 [some 0, some 1, some 2, some 3, some 4, some 5, none] ?_ ?_
  · repeat' first | exact trivial | exact rfl | exact Iff.rfl | refine And.intro ?_ ?_
  rintro ⟨k, hk⟩
  refine And.intro (fun h => ?_) (fun h => ?_)
  · have h' : (k : Int) < s / 2 := h
    have ek : (insP (List.replicate k nopI)).length = k := by unfold insP; rw [List.length_map, List.length_replicate]
    refine ⟨show (insP (List.replicate k nopI)).length + 1 ≤ maxLen by unfold maxLen; omega, show ((insP (List.replicate k nopI)).length + 1) * 88 ≤ 140737488355328 by omega, ?_⟩
    refine .inl ⟨inR_i64 (show _ ≤ (k : Int) + 1 ∧ (k : Int) + 1 ≤ _ by omega), ⟨⟨k + 1, show ((k + 1 : Nat) : Int) ≤ s / 2 by omega⟩, [some 0, some 1, some 2, some 3, some 4, some 5, some 8], show 8 - (k + 1) < 8 - k by omega, ?_⟩⟩
    repeat' first | exact trivial | exact rfl | exact Iff.rfl | refine And.intro ?_ ?_
    all_goals exact (show insP (List.replicate k nopI) ++ [inP nopI] = insP (List.replicate (k + 1) nopI) by rw [List.replicate_succ']; unfold insP; rw [List.map_append]; rfl)
  · have h' : ¬ (k : Int) < s / 2 := h
    have ek : (s / 2).toNat = k := by omega
    rw [ek]
    refine retS ?_ (by repeat' first | exact trivial | exact rfl | exact Iff.rfl | exact Or.inl rfl | refine And.intro ?_ ?_)
    exact (show insP (List.replicate k nopI) = insP (List.replicate k nopI) from rfl)

/-- the instructions of the item that stands there -/
def insI (l : List AI) (W : List Bool) (i : Nat) : List IN := match l[i]?, W[i]? with
  | some x, some w => instsA x w (farA l W i x) (bytesA x w (atA l W i))
  | _, _ => []
theorem insI_eq {l : List AI} {W : List Bool} {i : Nat} {x : AI} {w : Bool} (hx : l[i]? = some x) (hw : W[i]? = some w) : insI l W i = instsA x w (farA l W i x) (bytesA x w (atA l W i)) := by unfold insI; rw [hx, hw]
theorem insI_len (l : List AI) (W : List Bool) (hr : ∀ x ∈ l, rightA x) (hW : W.length = l.length) (i : Nat) : (insI l W i).length ≤ 8 := by
  unfold insI
  split
  · rename_i x w hx hw
    have hi := (List.getElem?_eq_some_iff.1 hx).1
    have b1 := atA_bd hW (fun x hx => rightA_it (hr x hx)) i (by omega)
    have b2 := bytesA_bd (rightA_it (hr x (List.mem_of_getElem? hx))) w ⟨b1.1, b1.2.2⟩
    unfold instsA
    split
    · simp
    split
    · simp
    · rw [List.length_replicate]; omega
  · simp
def bytI (l : List IN) : List Int := l.flatMap byL
theorem bytI_app (l m : List IN) : bytI (l ++ m) = bytI l ++ bytI m := List.flatMap_append ..
theorem byL_le (i : IN) : (byL i).length ≤ 4 := by unfold byL; split <;> simp
theorem bytI_len : ∀ l : List IN, (bytI l).length ≤ 4 * l.length
  | [] => by simp [bytI]
  | i :: l => by
    have h1 := byL_le i
    have h2 := bytI_len l
    show (byL i ++ bytI l).length ≤ _
    rw [List.length_append, List.length_cons]; omega
/-- the first items' bytes -/
def bytT (l : List AI) (W : List Bool) : Nat → List Int
  | 0 => []
  | i + 1 => bytT l W i ++ bytI (insI l W i)
theorem bytT_len {l : List AI} {W : List Bool} (hr : ∀ x ∈ l, rightA x) (hW : W.length = l.length) : ∀ i, (bytT l W i).length ≤ 32 * i
  | 0 => Nat.le_refl _
  | i + 1 => by
    have h1 := bytT_len hr hW i
    have h2 := bytI_len (insI l W i)
    have h3 := insI_len l W hr hW i
    rw [bytT, List.length_append]; omega
theorem bytT_end {l : List AI} {W : List Bool} : ∀ {i : Nat}, l.length ≤ i → bytT l W i = bytT l W l.length
  | 0, h => by rw [show l.length = 0 by omega]
  | i + 1, h => by
    rcases Nat.eq_or_lt_of_le h with e | e
    · rw [e]
    · have h0 : insI l W i = [] := by unfold insI; rw [List.getElem?_eq_none (by omega)]
      rw [bytT, bytT_end (by omega), h0]
      simp [bytI]
def oB (cs : List PV) : PBlk := ⟨.dyn, 5, 1, .w, true, cs⟩
theorem u8P_app (l m : List Int) : u8P (l ++ m) = u8P l ++ u8P m := List.map_append ..
theorem u8P_len (l : List Int) : (u8P l).length = l.length := List.length_map ..
set_option maxHeartbeats 4000000 in
set_option maxRecDepth 10000 in
theorem write_runs {l : List AI} {W : List Bool} {e : Int} {L : List (Int × Int)} (hW : W.length = l.length) (hr : ∀ x ∈ l, rightA x) (hc : ∀ x ∈ l, x.kind = 2 → cntA l x.label = 1) (hl : l.length ≤ 10000) (hL : ∀ p ∈ L, 0 ≤ p.2 ∧ p.2 ≤ 1000000) (hir : ∀ i, ∀ y ∈ insI l W i, rightV y ∧ IOk y) :
    RunsA 28 [.ptr 5 0] (sLy l W (atsA l W) (szsA l W) e (L ++ marksT l W l.length)) (.tup [.sl 1 (u8P (bytT l W l.length)), .int .i64 0]) (sLy l W (atsA l W) (szsA l W) e (L ++ marksT l W l.length)) := by
  have hI : ∀ x ∈ l, ItOk x := fun x hx => rightA_it (hr x hx)
  have el : (l.map aiP).length = l.length := List.length_map ..
  have hO : OffB (L ++ marksT l W l.length) := lkM_bd (by decide) fun p hp => (List.mem_append.1 hp).elim (hL p) (marksT_bd hW hI hl (Nat.le_refl _) p)
  refine Spec.leS (Spec.enter gTok P28 100 Tryd.func28 rfl (by kernel_rfl) ?_)
  refine fun hm => ?_
  refine SW.loopX gTok P28 (by kernel_rfl) (fun i : Nat => [(0, .ptr 5 0), (4, .wref 6), (14, .int .i64 (l.map aiP).length), (15, .int .i64 i)]) (fun i => [zR, dI (intsP (wI W)), dI (intsP (atsA l W)), dI (intsP (szsA l W)), mpB (L ++ marksT l W l.length), yB l e, oB (u8P (bytT l W i))]) (fun i => l.length - i) 0 60 [some 0, some 1, some 2, some 3, some 4, some 5, none] ?_ fun i => ?_
  · repeat' first | exact trivial | exact rfl | exact Iff.rfl | refine And.intro ?_ ?_
  refine And.intro (fun h => ?_) (fun h => ?_)
  · have h' : (i : Int) < ((l.map aiP).length : Nat) := h
    rw [el] at h'
    have hx' : l[i]? = some l[i] := List.getElem?_eq_getElem (by omega)
    have hw' : W[i]? = some W[i] := List.getElem?_eq_getElem (by omega)
    have hrx := hr l[i] (List.getElem_mem _)
    have b1 := atA_bd hW hI i (by omega)
    have es := atA_succ hW hx' hw'
    have b2 := bytesA_bd (hI l[i] (List.getElem_mem _)) W[i] ⟨b1.1, b1.2.2⟩
    have hin := insts_runs (W := W) (sz := szsA l W) (e := e) (L := L ++ marksT l W l.length) hx' hw' hrx (atsA_get (l := l) (W := W) (by omega)) (by omega) (szsA_get (l := l) (W := W) (by omega)) (by omega) hO
    have e1 : insP (instsA l[i] W[i] (lkM (L ++ marksT l W l.length) l[i].label - atA l W i - 4) (atA l W (i + 1) - atA l W i)) = insP (insI l W i) := by
      rw [insI_eq hx' hw', es, show atA l W i + bytesA l[i] W[i] (atA l W i) - atA l W i = bytesA l[i] W[i] (atA l W i) by omega]
      unfold instsA
      split
      · rfl
      split
      · rename_i hk
        rw [lk_far L (hc l[i] (List.getElem_mem _) hk)]
      · rfl
    rw [e1] at hin
    have hil := insI_len l W hr hW i
    have hi2 := hir i
    have hbt := bytT_len hr hW i
    have ebt : bytT l W (i + 1) = bytT l W i ++ bytI (insI l W i) := rfl
    generalize insI l W i = li at hin hil hi2 ebt ⊢
    have eli : (insP li).length = li.length := List.length_map ..
    refine ⟨[], no_rl, hin.useS rfl rfl rfl rfl (by repeat' first | exact trivial | exact rfl | exact Iff.rfl | exact Or.inl rfl | refine And.intro ?_ ?_) (And.intro (by repeat' first | exact trivial | exact rfl | exact Iff.rfl | exact Or.inl rfl | refine And.intro ?_ ?_) (And.intro (by repeat' first | exact trivial | exact rfl | exact Iff.rfl | exact Or.inl rfl | refine And.intro ?_ ?_) (And.intro (by repeat' first | exact trivial | exact rfl | exact Iff.rfl | exact Or.inl rfl | refine And.intro ?_ ?_) (And.intro (by repeat' first | exact trivial | exact rfl | exact Iff.rfl | exact Or.inl rfl | refine And.intro ?_ ?_) (And.intro (by repeat' first | exact trivial | exact rfl | exact Iff.rfl | exact Or.inl rfl | refine And.intro ?_ ?_) (And.intro (by repeat' first | exact trivial | exact rfl | exact Iff.rfl | exact Or.inl rfl | refine And.intro ?_ ?_) ?_))))))⟩
    refine fun hm2 => ?_
    refine SW.loopX gTok P28 (by kernel_rfl) (fun k : Nat => [(0, .ptr 5 0), (4, .wref 6), (14, .int .i64 (l.map aiP).length), (15, .int .i64 i), (20, .sl 11 (insP li)), (21, .int .i64 (insP li).length), (22, .int .i64 k)]) (fun k => [zR, dI (intsP (wI W)), dI (intsP (atsA l W)), dI (intsP (szsA l W)), mpB (L ++ marksT l W l.length), yB l e, oB (u8P (bytT l W i ++ bytI (li.take k)))]) (fun k => li.length - k) 0 60 [some 0, some 1, some 2, some 3, some 4, some 5, some 6] ?_ fun k => ?_
    · repeat' first | exact trivial | exact rfl | exact Iff.rfl | refine And.intro ?_ ?_
      all_goals exact (show u8P (bytT l W i) = u8P (bytT l W i ++ bytI (li.take 0)) by rw [List.take_zero]; simp [bytI])
    refine And.intro (fun h => ?_) (fun h => ?_)
    · have hk' : (k : Int) < ((insP li).length : Nat) := h
      rw [eli] at hk'
      refine ⟨IN, li, inP, rfl, show (0 : Int) ≤ (k : Int) by omega, show (k : Int) < (li.length : Int) by omega, fun y hy => ?_⟩
      have hy' : li[k]? = some y := hy
      obtain ⟨ry, iy⟩ := hi2 y (List.mem_of_getElem? hy')
      have etk : bytI (li.take (k + 1)) = bytI (li.take k) ++ byL y := by rw [List.take_add_one, hy', bytI_app]; simp [bytI]
      have hb1 := bytI_len (li.take k)
      rw [List.length_take] at hb1
      have hb2 := byL_le y
      refine ⟨[], no_rl, (bytes_yes y ry iy).use (by repeat' first | exact trivial | exact rfl | exact Iff.rfl | exact Or.inl rfl | refine And.intro ?_ ?_) rfl rfl ?_⟩
      refine And.intro (fun h => absurd rfl h) (fun _ => ?_)
      have elen : (u8P (bytT l W i ++ bytI (li.take k))).length + (u8P (byL y)).length ≤ 1000000 := by rw [u8P_len, u8P_len, List.length_append]; omega
      refine ⟨show (u8P (bytT l W i ++ bytI (li.take k))).length + (u8P (byL y)).length ≤ maxLen by unfold maxLen; omega, show ((u8P (bytT l W i ++ bytI (li.take k))).length + (u8P (byL y)).length) * 1 ≤ 140737488355328 by omega, ?_⟩
      refine .inl ⟨inR_i64 (show _ ≤ (k : Int) + 1 ∧ (k : Int) + 1 ≤ _ by omega), ⟨k + 1, [some 0, some 1, some 2, some 3, some 4, some 5, some 8], by omega, ?_⟩⟩
      repeat' first | exact trivial | exact rfl | exact Iff.rfl | refine And.intro ?_ ?_
      all_goals exact (show u8P (bytT l W i ++ bytI (li.take k)) ++ u8P (byL y) = u8P (bytT l W i ++ bytI (li.take (k + 1))) by rw [etk, ← u8P_app, List.append_assoc])
    · have hk' : ¬ (k : Int) < ((insP li).length : Nat) := h
      rw [eli] at hk'
      refine .inl ⟨inR_i64 (show _ ≤ (i : Int) + 1 ∧ (i : Int) + 1 ≤ _ by omega), ⟨i + 1, [some 0, some 1, some 2, some 3, some 4, some 5, some 6], by omega, ?_⟩⟩
      repeat' first | exact trivial | exact rfl | exact Iff.rfl | refine And.intro ?_ ?_
      all_goals exact (show u8P (bytT l W i ++ bytI (li.take k)) = u8P (bytT l W (i + 1)) by rw [ebt, List.take_of_length_le (by omega)])
  · have h' : ¬ (i : Int) < ((l.map aiP).length : Nat) := h
    rw [el] at h'
    have eb : bytT l W i = bytT l W l.length := bytT_end (by omega)
    refine retS ?_ (by repeat' first | exact trivial | exact rfl | exact Iff.rfl | exact Or.inl rfl | refine And.intro ?_ ?_)
    refine And.intro (show u8P (bytT l W i) = u8P (bytT l W l.length) by rw [eb]) (And.intro rfl trivial)

end Go.Proofs.YtjcacjeoddnmhaaDoor.Pw

/- Chapter 8, plain: the instructions of a program that is laid may be. -/
set_option linter.unusedVariables false
namespace Go.Proofs.YtjcacjeoddnmhaaDoor.Pw
open Go Go.RowKit

theorem right_jump {f s i0 i1 i2 : Int} {cb : Bool} (hs : shapeV f = s) (hr : ruW s = {r0U with cond := cb, i0 := i0, i1 := i1, i2 := i2}) (hf : (1 ≤ f ∧ f ≤ 100) ∧ f ≠ 1 ∧ f ≠ 2 ∧ f ≠ 3 ∧ f ≠ 29 ∧ f ≠ 95 ∧ f ≠ 96) (h18 : s ≠ 18 ∧ s ≠ 19 ∧ s ≠ 20) {n c : Int} (hn : spanV i0 i1 i2 n) (hc : c = 0 ∨ (cb = true ∧ 0 < c ∧ c ≤ 13)) : rightV ⟨f, 0, 0, 0, 0, n, 0, 0, 0, c, 0⟩ := by
  show rightR _ (ruW (shapeV f))
  rw [hs, hr]
  have z : (0 : Int) ≠ 1 ∧ (0 : Int) ≠ 2 ∧ (0 : Int) ≠ 3 ∧ (0 : Int) = 0 := by decide
  refine ⟨hf.1, .inr (.inr (.inr z)), .inr (.inr (.inr z)), .inr (.inr (.inr z)), .inr (.inr (.inr z)), .inl ⟨rfl, rfl⟩, hc, hn, .inl rfl, .inr ⟨Bool.false_ne_true, rfl, .inl ⟨rfl, rfl⟩⟩, ?_⟩
  obtain ⟨_, a1, a2, a3, a4, a5, a6⟩ := hf
  refine ⟨fun e => absurd e a1, fun e => e.elim (fun e => absurd e a2) (fun e => absurd e a3), fun e => absurd e a4, fun e => e.elim (fun e => absurd e a5) (fun e => absurd e a6), ?_⟩
  show shapeV f = 18 ∨ shapeV f = 19 ∨ shapeV f = 20 → _
  rw [hs]
  exact fun h => absurd h (by omega)
theorem span_even {a b n : Int} (h : a ≤ n ∧ n ≤ b) (he : n % 2 = 0) : spanV a b 2 n := .inr ⟨by decide, h.1, h.2, Int.tmod_eq_zero_of_dvd (Int.dvd_of_emod_eq_zero he)⟩
theorem branA_right {c n : Int} {w : Bool} (hc : -1 ≤ c ∧ c ≤ 13) (he : n % 2 = 0) (hb : -1000000 ≤ n ∧ n ≤ 1000000) (hs : w = false → shortA c n = true) : rightV (branA c w n) := by
  unfold branA
  cases w with
  | true =>
    by_cases h : c < 0
    · rw [if_pos h, show max c 0 = 0 by omega]
      exact right_jump (f := 100) (s := 34) (i0 := -16777216) (i1 := 16777214) (i2 := 2) (cb := false) (by decide) rfl (by decide) (by decide) (span_even (by omega) he) (.inl rfl)
    · rw [if_neg h, show max c 0 = c by omega]
      exact right_jump (f := 99) (s := 33) (i0 := -1048576) (i1 := 1048574) (i2 := 2) (cb := true) (by decide) rfl (by decide) (by decide) (span_even (by omega) he) ((Classical.em (c = 0)).elim .inl fun h0 => .inr ⟨rfl, by omega, by omega⟩)
  | false =>
    have hs := hs rfl
    unfold shortA at hs
    by_cases h : c < 0
    · rw [if_pos h] at hs
      have hs := of_decide_eq_true hs
      rw [if_pos h, show max c 0 = 0 by omega]
      exact right_jump (f := 47) (s := 16) (i0 := -2048) (i1 := 2046) (i2 := 2) (cb := false) (by decide) rfl (by decide) (by decide) (span_even (by omega) he) (.inl rfl)
    · rw [if_neg h] at hs
      have hs := of_decide_eq_true hs
      rw [if_neg h, show max c 0 = c by omega]
      exact right_jump (f := 46) (s := 15) (i0 := -256) (i1 := 254) (i2 := 2) (cb := true) (by decide) rfl (by decide) (by decide) (span_even (by omega) he) ((Classical.em (c = 0)).elim .inl fun h0 => .inr ⟨rfl, by omega, by omega⟩)
theorem nop_right : rightV nopI := right_jump (f := 44) (s := 13) (i0 := 0) (i1 := 0) (i2 := 0) (cb := false) (by decide) rfl (by decide) (by decide) (.inl ⟨rfl, rfl⟩) (.inl rfl)
theorem IOk_mk {f n c : Int} (hf : I64 f) (hn : I64 n) (hc : I64 c) : IOk ⟨f, 0, 0, 0, 0, n, 0, 0, 0, c, 0⟩ := by
  have z : I64 0 := by unfold I64; omega
  intro x hx
  simp only [inLs, List.mem_cons, List.not_mem_nil, or_false] at hx
  rcases hx with rfl | rfl | rfl | rfl | rfl | rfl | rfl | rfl | rfl | rfl | rfl <;> assumption
theorem farA_bd {l : List AI} {W : List Bool} (hW : W.length = l.length) (hI : ∀ x ∈ l, ItOk x) (hl : l.length ≤ 10000) {i : Nat} (hi : i ≤ l.length) (x : AI) : farA l W i x % 2 = 0 ∧ -1000000 ≤ farA l W i x ∧ farA l W i x ≤ 1000000 := by
  unfold farA
  split
  · rename_i k hk
    have hkl : k < l.length := (List.findIdx?_eq_some_iff_getElem.1 hk).1
    have b1 := atA_bd hW hI i hi
    have b2 := atA_bd hW hI k (by omega)
    omega
  · omega
/-- all instructions of a program that is laid may be -/
theorem insI_right {l : List AI} {W : List Bool} (hW : W.length = l.length) (hr : ∀ x ∈ l, rightA x) (hio : ∀ x ∈ l, IOk x.inst) (hl : l.length ≤ 10000) (hn : nextA l W = W) (i : Nat) : ∀ y ∈ insI l W i, rightV y ∧ IOk y := by
  intro y hy
  unfold insI at hy
  split at hy
  · rename_i x w hx hw
    have hi := (List.getElem?_eq_some_iff.1 hx).1
    have hxm := List.mem_of_getElem? hx
    have hrx := hr x hxm
    have hf := farA_bd hW (fun x hx => rightA_it (hr x hx)) hl (Nat.le_of_lt hi) x
    unfold instsA at hy
    split at hy
    · rename_i k1
      rw [List.mem_singleton] at hy
      subst hy
      exact ⟨((rightA_1 k1).1 hrx).2.1, hio x hxm⟩
    split at hy
    · rename_i k2
      rw [List.mem_singleton] at hy
      subst hy
      have hq := (rightA_2 k2).1 hrx
      have hg := nextA_get hx hw
      rw [hn, hw] at hg
      have hnb : w = nextB l W i x w := Option.some.inj hg
      refine ⟨branA_right hq.2.2.1 hf.1 hf.2 (fun e => ?_), ?_⟩
      · subst e
        unfold nextB at hnb
        rw [decide_eq_true k2] at hnb
        simpa using hnb.symm
      · unfold branA
        exact IOk_mk (by unfold I64; split <;> split <;> omega) (by unfold I64; omega) (by unfold I64; omega)
    · have : y = nopI := List.eq_of_mem_replicate hy
      subst this
      exact ⟨nop_right, IOk_mk (by unfold I64; omega) (by unfold I64; omega) (by unfold I64; omega)⟩
  · simp at hy

end Go.Proofs.YtjcacjeoddnmhaaDoor.Pw

/- Chapter 8 over values: a program is laid. -/
set_option linter.unusedVariables false
namespace Go.Proofs.YtjcacjeoddnmhaaDoor.Pw
open Go Go.RowKit

def laidP (b at_ sz : List Int) (r : Int) : PV := .agg [.sl 1 (u8P b), .sl 1 (intsP at_), .sl 1 (intsP sz), .int .i64 r]
def noLaid : PV := laidP [] [] [] 0
/-- how a program is laid: which jumps are wide, and how often it was laid -/
def goA (l : List AI) : Option (Option (List Bool × Int)) := layA l (l.length + 1) (List.replicate l.length false) 1
def outA (l : List AI) : Option (Option (List Bool × Int)) → PV
  | some (some (W, r)) => .tup [laidP (bytT l W l.length) (atsA l W) (szsA l W) r, .int .i64 0]
  | _ => .tup [noLaid, .int .i64 82]
noncomputable def layR (l : List AI) : PV := if checkA l ≠ 0 then .tup [noLaid, .int .i64 (checkA l)] else outA l (goA l)
/-- a round's beginning -/
structure LyA where
  W : List Bool
  at_ : List Int
  sz : List Int
  e : Int
  L : List (Int × Int)
  r : Int
  n : Nat
structure LyOk (l : List AI) (x : LyA) : Prop where
  W : x.W.length = l.length
  at_ : x.at_.length = l.length
  sz : x.sz.length = l.length
  L : ∀ p ∈ x.L, 0 ≤ p.2 ∧ p.2 ≤ 1000000
  len : x.L.length ≤ 10000 * x.r.toNat
  r : 1 ≤ x.r ∧ x.r + x.n = l.length + 2
  n : narrowN x.W < x.n
  go : goA l = layA l x.n x.W x.r
theorem narrowN_all (n : Nat) : narrowN (List.replicate n false) = n := by unfold narrowN; simp
theorem wI_all (n : Nat) : wI (List.replicate n false) = List.replicate n 0 := by unfold wI; simp
theorem checkA_ok {l : List AI} (h : checkA l = 0) : (∀ x ∈ l, rightA x) ∧ ∀ x ∈ l, x.kind = 2 → cntA l x.label = 1 := by
  unfold checkA at h
  split at h
  · cases h
  · rename_i h1
    split at h
    · cases h
    · rename_i h2
      refine ⟨fun x hx => Classical.byContradiction fun hn => h1 ⟨x, hx, hn⟩, fun x hx hk => Classical.byContradiction fun hn => h2 ⟨x, hx, .inl ⟨hk, hn⟩⟩⟩
/-- a list of noughts that is as long as the items -/
def zsB (l : List AI) : PBlk := dI (List.replicate (l.map aiP).length (.int .i64 0))
/-- what is known when the layer has been made -/
noncomputable def layC (l : List AI) : PSt := ⟨Tryd.f16.ntmps, layF [(2, .ptr 0 0), (3, .lit .i64 0), (5, .ptr 5 0)] .nil, [zR, zsB l, zsB l, zsB l, mpB [], yB l 0], 0, []⟩
set_option maxHeartbeats 8000000 in
set_option maxRecDepth 10000 in
theorem lay_pure (l : List AI) (hl : l.length ≤ 10000) (hio : ∀ x ∈ l, IOk x.inst ∧ I64 x.to_) : PureF gT 16 [.sl 15 (l.map aiP)] (layR l) := by
  have el : (l.map aiP).length = l.length := List.length_map ..
  have hch := check_pure l hl fun x hx => ⟨(hio x hx).1 x.inst.imm (by simp [inLs]), (hio x hx).2⟩
  unfold layR
  obtain ⟨cv, hcv⟩ : ∃ c, checkA l = c := ⟨_, rfl⟩
  have hok := @checkA_ok l
  rw [hcv] at hch hok ⊢
  refine Spec.enter gTok P16 100 Tryd.func16 rfl (by kernel_rfl) ?_
  refine ⟨[], no_rl, hch.use (by repeat' first | exact trivial | exact rfl | exact Iff.rfl | exact Or.inl rfl | refine And.intro ?_ ?_) rfl rfl ?_⟩
  refine And.intro (fun hne => ?_) (fun hne => ?_)
  · have hne' : ¬ cv = 0 := hne
    rw [if_pos hne']
    (refine retE ?_; repeat' first | exact trivial | exact rfl | exact Iff.rfl | exact Or.inl rfl | refine And.intro ?_ ?_)
  have h0 : cv = 0 := Classical.not_not.1 hne
  rw [if_neg (not_not_intro h0)]
  obtain ⟨hr, hc⟩ := hok h0
  refine fun hm1 => ?_
  refine fun hm2 => ?_
  refine fun hm3 => ?_
  have eN : 8 * (l.map aiP).length ≤ 281474976710656 := by omega
  have eM : (l.map aiP).length ≤ maxLen := hm1
  repeat' (first | exact trivial | (refine pmakeN_ok gTok ?_; refine ⟨(l.map aiP).length, rfl, rfl, rfl, rfl, eN, eM, ?_⟩) | (refine pmakeMap_ok ?_) | (refine Exists.intro (layC l) (And.intro ?_ (And.intro ?_ (And.intro ?_ ?_)))) | exact (Sub.refl : Sub gT (layC l) (layC l)) | (refine subK_ok gTok.ok (π := [some 0, some 1, some 2, some 3, some 4, some 5]) ?_; (repeat' first | exact trivial | exact rfl | exact Iff.rfl | refine And.intro ?_ ?_); done) | (refine subK_ok gTok.ok (π := [some 0, some 1, some 2, some 4, some 3, some 5]) ?_; (repeat' first | exact trivial | exact rfl | exact Iff.rfl | refine And.intro ?_ ?_); done) | (refine subK_ok gTok.ok (π := [some 0, some 1, some 3, some 2, some 4, some 5]) ?_; (repeat' first | exact trivial | exact rfl | exact Iff.rfl | refine And.intro ?_ ?_); done) | (refine subK_ok gTok.ok (π := [some 0, some 1, some 3, some 4, some 2, some 5]) ?_; (repeat' first | exact trivial | exact rfl | exact Iff.rfl | refine And.intro ?_ ?_); done) | (refine subK_ok gTok.ok (π := [some 0, some 1, some 4, some 2, some 3, some 5]) ?_; (repeat' first | exact trivial | exact rfl | exact Iff.rfl | refine And.intro ?_ ?_); done) | (refine subK_ok gTok.ok (π := [some 0, some 1, some 4, some 3, some 2, some 5]) ?_; (repeat' first | exact trivial | exact rfl | exact Iff.rfl | refine And.intro ?_ ?_); done) | (refine subK_ok gTok.ok (π := [some 0, some 2, some 1, some 3, some 4, some 5]) ?_; (repeat' first | exact trivial | exact rfl | exact Iff.rfl | refine And.intro ?_ ?_); done) | (refine subK_ok gTok.ok (π := [some 0, some 2, some 1, some 4, some 3, some 5]) ?_; (repeat' first | exact trivial | exact rfl | exact Iff.rfl | refine And.intro ?_ ?_); done) | (refine subK_ok gTok.ok (π := [some 0, some 2, some 3, some 1, some 4, some 5]) ?_; (repeat' first | exact trivial | exact rfl | exact Iff.rfl | refine And.intro ?_ ?_); done) | (refine subK_ok gTok.ok (π := [some 0, some 2, some 3, some 4, some 1, some 5]) ?_; (repeat' first | exact trivial | exact rfl | exact Iff.rfl | refine And.intro ?_ ?_); done) | (refine subK_ok gTok.ok (π := [some 0, some 2, some 4, some 1, some 3, some 5]) ?_; (repeat' first | exact trivial | exact rfl | exact Iff.rfl | refine And.intro ?_ ?_); done) | (refine subK_ok gTok.ok (π := [some 0, some 2, some 4, some 3, some 1, some 5]) ?_; (repeat' first | exact trivial | exact rfl | exact Iff.rfl | refine And.intro ?_ ?_); done) | (refine subK_ok gTok.ok (π := [some 0, some 3, some 1, some 2, some 4, some 5]) ?_; (repeat' first | exact trivial | exact rfl | exact Iff.rfl | refine And.intro ?_ ?_); done) | (refine subK_ok gTok.ok (π := [some 0, some 3, some 1, some 4, some 2, some 5]) ?_; (repeat' first | exact trivial | exact rfl | exact Iff.rfl | refine And.intro ?_ ?_); done) | (refine subK_ok gTok.ok (π := [some 0, some 3, some 2, some 1, some 4, some 5]) ?_; (repeat' first | exact trivial | exact rfl | exact Iff.rfl | refine And.intro ?_ ?_); done) | (refine subK_ok gTok.ok (π := [some 0, some 3, some 2, some 4, some 1, some 5]) ?_; (repeat' first | exact trivial | exact rfl | exact Iff.rfl | refine And.intro ?_ ?_); done) | (refine subK_ok gTok.ok (π := [some 0, some 3, some 4, some 1, some 2, some 5]) ?_; (repeat' first | exact trivial | exact rfl | exact Iff.rfl | refine And.intro ?_ ?_); done) | (refine subK_ok gTok.ok (π := [some 0, some 3, some 4, some 2, some 1, some 5]) ?_; (repeat' first | exact trivial | exact rfl | exact Iff.rfl | refine And.intro ?_ ?_); done) | (refine subK_ok gTok.ok (π := [some 0, some 4, some 1, some 2, some 3, some 5]) ?_; (repeat' first | exact trivial | exact rfl | exact Iff.rfl | refine And.intro ?_ ?_); done) | (refine subK_ok gTok.ok (π := [some 0, some 4, some 1, some 3, some 2, some 5]) ?_; (repeat' first | exact trivial | exact rfl | exact Iff.rfl | refine And.intro ?_ ?_); done) | (refine subK_ok gTok.ok (π := [some 0, some 4, some 2, some 1, some 3, some 5]) ?_; (repeat' first | exact trivial | exact rfl | exact Iff.rfl | refine And.intro ?_ ?_); done) | (refine subK_ok gTok.ok (π := [some 0, some 4, some 2, some 3, some 1, some 5]) ?_; (repeat' first | exact trivial | exact rfl | exact Iff.rfl | refine And.intro ?_ ?_); done) | (refine subK_ok gTok.ok (π := [some 0, some 4, some 3, some 1, some 2, some 5]) ?_; (repeat' first | exact trivial | exact rfl | exact Iff.rfl | refine And.intro ?_ ?_); done) | (refine subK_ok gTok.ok (π := [some 0, some 4, some 3, some 2, some 1, some 5]) ?_; (repeat' first | exact trivial | exact rfl | exact Iff.rfl | refine And.intro ?_ ?_); done) | refine And.intro ?_ ?_)
  obtain ⟨res, hres⟩ : ∃ res, outA l (goA l) = res := ⟨_, rfl⟩
  rw [hres]
  refine SW.loopX gTok P16 (by kernel_rfl) (α := {x : LyA // LyOk l x}) (fun x => [(2, .ptr 0 0), (5, .ptr 5 0), (6, .int .i64 x.1.r)]) (fun x => sLy l x.1.W x.1.at_ x.1.sz x.1.e x.1.L) (fun x => x.1.n) ⟨⟨List.replicate l.length false, List.replicate l.length 0, List.replicate l.length 0, 0, [], 1, l.length + 1⟩, ⟨by simp, by simp, by simp, by simp, by simp, ⟨Int.le_refl _, by show (1 : Int) + ((l.length + 1 : Nat) : Int) = _; omega⟩, by show narrowN (List.replicate l.length false) < l.length + 1; rw [narrowN_all]; omega, rfl⟩⟩ 60 [some 0, some 1, some 2, some 3, some 4, some 5] ?_ ?_
  · repeat' first | exact trivial | exact rfl | exact Iff.rfl | refine And.intro ?_ ?_
    all_goals first | exact (show List.replicate (l.map aiP).length (PV.int .i64 0) = intsP (wI (List.replicate l.length false)) by rw [wI_all, el]; unfold intsP; rw [List.map_replicate]) | exact (show List.replicate (l.map aiP).length (PV.int .i64 0) = intsP (List.replicate l.length 0) by rw [el]; unfold intsP; rw [List.map_replicate])
  rintro ⟨⟨W, at0, sz0, e0, L, r, n⟩, hx⟩
  obtain ⟨hW, ha0, hs0, hL, hLl, hr1, hn, hgo⟩ := hx
  simp only at hW ha0 hs0 hL hLl hr1 hn hgo
  obtain ⟨n, rfl⟩ : ∃ m, n = m + 1 := ⟨n - 1, by omega⟩
  have hlay := lay_runs (e0 := e0) hW ha0 hs0 hr hl (show L.length ≤ 1000000000 by omega)
  have hwid := widen_runs (e := endA l W 0) hW hr hc hl hL
  rw [layA] at hgo
  have hLn : ∀ p ∈ L ++ marksT l W l.length, 0 ≤ p.2 ∧ p.2 ≤ 1000000 := fun p hp => (List.mem_append.1 hp).elim (hL p) (marksT_bd hW (fun x hx => rightA_it (hr x hx)) hl (Nat.le_refl _) p)
  have hml := marksT_len l W l.length
  have hnl := nextA_len hW
  refine ⟨[], no_rl, hlay.useS rfl rfl rfl rfl (by repeat' first | exact trivial | exact rfl | exact Iff.rfl | exact Or.inl rfl | refine And.intro ?_ ?_) (And.intro (by repeat' first | exact trivial | exact rfl | exact Iff.rfl | exact Or.inl rfl | refine And.intro ?_ ?_) (And.intro (by repeat' first | exact trivial | exact rfl | exact Iff.rfl | exact Or.inl rfl | refine And.intro ?_ ?_) (And.intro (by repeat' first | exact trivial | exact rfl | exact Iff.rfl | exact Or.inl rfl | refine And.intro ?_ ?_) (And.intro (by repeat' first | exact trivial | exact rfl | exact Iff.rfl | exact Or.inl rfl | refine And.intro ?_ ?_) (And.intro (by repeat' first | exact trivial | exact rfl | exact Iff.rfl | exact Or.inl rfl | refine And.intro ?_ ?_) (And.intro (by repeat' first | exact trivial | exact rfl | exact Iff.rfl | exact Or.inl rfl | refine And.intro ?_ ?_) ?_))))))⟩
  refine And.intro (fun hbig => ?_) (fun hbig => ?_)
  · have hbig' : 65536 < endA l W 0 := hbig
    rw [if_pos hbig'] at hgo
    rw [← hres, hgo]
    (refine retE ?_; repeat' first | exact trivial | exact rfl | exact Iff.rfl | exact Or.inl rfl | refine And.intro ?_ ?_)
  have hbig' : ¬ 65536 < endA l W 0 := hbig
  rw [if_neg hbig'] at hgo
  refine ⟨[], no_rl, hwid.useS rfl rfl rfl rfl (by repeat' first | exact trivial | exact rfl | exact Iff.rfl | exact Or.inl rfl | refine And.intro ?_ ?_) (And.intro (by repeat' first | exact trivial | exact rfl | exact Iff.rfl | exact Or.inl rfl | refine And.intro ?_ ?_) (And.intro (by repeat' first | exact trivial | exact rfl | exact Iff.rfl | exact Or.inl rfl | refine And.intro ?_ ?_) (And.intro (by repeat' first | exact trivial | exact rfl | exact Iff.rfl | exact Or.inl rfl | refine And.intro ?_ ?_) (And.intro (by repeat' first | exact trivial | exact rfl | exact Iff.rfl | exact Or.inl rfl | refine And.intro ?_ ?_) (And.intro (by repeat' first | exact trivial | exact rfl | exact Iff.rfl | exact Or.inl rfl | refine And.intro ?_ ?_) (And.intro (by repeat' first | exact trivial | exact rfl | exact Iff.rfl | exact Or.inl rfl | refine And.intro ?_ ?_) ?_))))))⟩
  refine And.intro (fun hm4 => ?_) (fun hm4 => ?_)
  · have hm4' : 0 < (narrowN W : Int) - (narrowN (nextA l W) : Int) := hm4
    have hne : nextA l W ≠ W := fun e => by rw [e] at hm4'; omega
    rw [if_neg hne] at hgo
    refine .inl ⟨inR_i64 (show _ ≤ r + 1 ∧ r + 1 ≤ _ by omega), ⟨⟨⟨nextA l W, atsA l W, szsA l W, endA l W 0, L ++ marksT l W l.length, r + 1, n⟩, ⟨hnl, atsA_len l W, szsA_len l W, hLn, by simp only [List.length_append]; omega, by simp only; omega, by simp only; omega, hgo⟩⟩, [some 0, some 1, some 2, some 3, some 4, some 5], show n < n + 1 by omega, ?_⟩⟩
    repeat' first | exact trivial | exact rfl | exact Iff.rfl | refine And.intro ?_ ?_
  · have hm4' : ¬ 0 < (narrowN W : Int) - (narrowN (nextA l W) : Int) := hm4
    have heq : nextA l W = W := Classical.byContradiction fun hne => by have := nextA_less hW hne; omega
    rw [if_pos heq] at hgo
    have hwr := write_runs (e := endA l W 0) hW hr hc hl hL (insI_right hW hr (fun x hx => (hio x hx).1) hl heq)
    rw [heq]
    refine ⟨[], no_rl, hwr.useS rfl rfl rfl rfl (by repeat' first | exact trivial | exact rfl | exact Iff.rfl | exact Or.inl rfl | refine And.intro ?_ ?_) (And.intro (by repeat' first | exact trivial | exact rfl | exact Iff.rfl | exact Or.inl rfl | refine And.intro ?_ ?_) (And.intro (by repeat' first | exact trivial | exact rfl | exact Iff.rfl | exact Or.inl rfl | refine And.intro ?_ ?_) (And.intro (by repeat' first | exact trivial | exact rfl | exact Iff.rfl | exact Or.inl rfl | refine And.intro ?_ ?_) (And.intro (by repeat' first | exact trivial | exact rfl | exact Iff.rfl | exact Or.inl rfl | refine And.intro ?_ ?_) (And.intro (by repeat' first | exact trivial | exact rfl | exact Iff.rfl | exact Or.inl rfl | refine And.intro ?_ ?_) (And.intro (by repeat' first | exact trivial | exact rfl | exact Iff.rfl | exact Or.inl rfl | refine And.intro ?_ ?_) ?_))))))⟩
    refine And.intro (fun hne => absurd rfl hne) (fun _ => ?_)
    rw [← hres, hgo]
    (refine retE ?_; repeat' first | exact trivial | exact rfl | exact Iff.rfl | exact Or.inl rfl | refine And.intro ?_ ?_)

end Go.Proofs.YtjcacjeoddnmhaaDoor.Pw

/- Chapter 4 over values: what stands at a place of bytes; CodeBytes. -/
namespace Go.Proofs.YtjcacjeoddnmhaaDoor.Pw
open Go Go.RowKit

def BOk (l : List Int) : Prop := ∀ z ∈ l, 0 ≤ z ∧ z ≤ 255
theorem or_add_u32 (a b : Int) (k : Nat) (hk : k ≤ 24) (ha : 0 ≤ a ∧ a < 2 ^ k) (hb : 0 ≤ b ∧ b * 2 ^ k ≤ 4294967295) : bits .or .u32 a (b * 2 ^ k) = a + b * 2 ^ k ∧ bits .or .u32 (b * 2 ^ k) a = b * 2 ^ k + a := by
  have p := pow_bd k (by omega)
  have p2 : (2 : Int) ^ k ≤ 16777216 := by
    have h1 : (2 ^ k : Nat) ≤ 2 ^ 24 := Nat.pow_le_pow_right (by omega) hk
    have h3 := pow_cast k
    have h4 : (2 : Nat) ^ 24 = 16777216 := by decide
    omega
  obtain ⟨x, rfl⟩ : ∃ x : Nat, a = x := ⟨a.toNat, by omega⟩
  obtain ⟨y, rfl⟩ : ∃ y : Nat, b = y := ⟨b.toNat, by omega⟩
  have e : ((y : Int) * 2 ^ k) = ((2 ^ k * y : Nat) : Int) := by rw [Int.natCast_mul, pow_cast, Int.mul_comm]
  rw [e] at hb ⊢
  have hx : x < 2 ^ k := by have := pow_cast k; omega
  have h := or_low y x k hx
  constructor
  · rw [u32_or _ _ (by omega) (by omega) (by omega) (by omega), Int.toNat_natCast, Int.toNat_natCast, Nat.or_comm, ← h]; omega
  · rw [u32_or _ _ (by omega) (by omega) (by omega) (by omega), Int.toNat_natCast, Int.toNat_natCast, ← h]; omega
/-- two bytes as a half -/
def hN (l : List Int) (n : Nat) : Int := l.getD n 0 + l.getD (n + 1) 0 * 256
theorem getD_ok {l : List Int} (h : BOk l) (n : Nat) : 0 ≤ l.getD n 0 ∧ l.getD n 0 ≤ 255 := by
  rw [List.getD_eq_getElem?_getD]
  cases e : l[n]? with
  | none => exact ⟨Int.le_refl 0, by decide⟩
  | some z => exact h z (List.mem_of_getElem? e)
theorem hN_bd {l : List Int} (h : BOk l) (n : Nat) : 0 ≤ hN l n ∧ hN l n ≤ 65535 := by
  have a := getD_ok h n
  have b := getD_ok h (n + 1)
  unfold hN; omega
theorem getD_some {l : List Int} {n : Nat} {z : Int} (h : l[n]? = some z) : l.getD n 0 = z := by rw [List.getD_eq_getElem?_getD, h]; rfl
set_option maxHeartbeats 4000000 in
set_option maxRecDepth 100000 in
theorem halfAt_pure (l : List Int) (n : Nat) (hl : BOk l) (hm : l.length ≤ maxLen) (hn : n + 1 < l.length) : PureF gT 29 [.sl 1 (u8P l), .int .i64 n] (.int .u32 (hN l n)) := by
  have hm' : l.length ≤ 2 ^ 63 - 1 := hm
  have e8 : Ev.pow2 .u32 8 = 2 ^ 8 := by decide
  obtain ⟨a, ha⟩ : ∃ a, l[n]? = some a := ⟨_, List.getElem?_eq_getElem (by omega)⟩
  obtain ⟨b, hb⟩ : ∃ b, l[n + 1]? = some b := ⟨_, List.getElem?_eq_getElem (by omega)⟩
  have ab := hl a (List.mem_of_getElem? ha)
  have bb := hl b (List.mem_of_getElem? hb)
  have ea := getD_some ha
  have eb := getD_some hb
  refine Spec.enter gTok P29 100 Tryd.func29 rfl (by kernel_rfl) ?_
  repeat' (first
    | (refine ⟨Int, l, PV.int .u8, rfl, show (0 : Int) ≤ (n : Int) by omega, show (n : Int) < (l.length : Int) by omega, fun z hz => ?_⟩
       obtain rfl : a = z := Option.some.inj (ha.symm.trans hz))
    | (refine ⟨Int, l, PV.int .u8, rfl, show (0 : Int) ≤ (n : Int) + 1 by omega, show (n : Int) + 1 < (l.length : Int) by omega, fun z hz => ?_⟩
       obtain rfl : b = z := Option.some.inj (hb.symm.trans hz))
    | refine Or.inl (And.intro (inR_i64 (show _ ≤ (n : Int) + 1 ∧ (n : Int) + 1 ≤ _ by omega)) ?_)
    | refine Or.inl (And.intro (inR_u32 (show 0 ≤ a ∧ a ≤ _ by omega)) ?_)
    | refine Or.inl (And.intro (inR_u32 (show 0 ≤ b ∧ b ≤ _ by omega)) ?_)
    | refine And.intro (show (0 : Int) ≤ 8 by decide) (Or.inl (And.intro (inR_u32 (show 0 ≤ b * Ev.pow2 .u32 8 ∧ b * Ev.pow2 .u32 8 ≤ _ by rw [e8]; omega)) ?_))
    | exact rfl
    | exact trivial
    | (refine retE ?_
       show bits .or .u32 a (b * Ev.pow2 .u32 8) = hN l n
       rw [e8, (or_add_u32 a b 8 (by decide) (by omega) (by omega)).1, hN, ea, eb]
       rfl)
    | refine And.intro ?_ ?_)

/-! ### what stands at a place -/
def hW (l : List Int) (n : Nat) : Int := hN l n * 65536 + hN l (n + 2)
noncomputable def atI (l : List Int) (n : Nat) : IN := open Classical in
  if l.length < n + 2 then iZ else if ¬ beginsV (hN l n) then ofI (hN l n) False else if l.length < n + 4 then iZ else ofI (hW l n) True
noncomputable def atE (l : List Int) (n : Nat) : Int := open Classical in
  if l.length < n + 2 then 41 else if ¬ beginsV (hN l n) then ofE (hN l n) False else if l.length < n + 4 then 41 else ofE (hW l n) True
theorem hW_or (l : List Int) (hl : BOk l) (n : Nat) : bits .or .u32 (hN l n * Ev.pow2 .u32 16) (hN l (n + 2)) = hW l n := by
  have a := hN_bd hl n
  have b := hN_bd hl (n + 2)
  have e : Ev.pow2 .u32 16 = 2 ^ 16 := by decide
  rw [e, (or_add_u32 (hN l (n + 2)) (hN l n) 16 (by decide) (by omega) (by omega)).2]
  rfl
theorem hW_bd (l : List Int) (hl : BOk l) (n : Nat) : U32 (hW l n) := by
  have a := hN_bd hl n
  have b := hN_bd hl (n + 2)
  unfold hW U32; omega
set_option maxHeartbeats 8000000 in
set_option maxRecDepth 100000 in
theorem at_in (l : List Int) (n : Nat) (hl : BOk l) (hm : l.length ≤ maxLen) (hn : n ≤ l.length) : PureF gT 17 [.sl 1 (u8P l), .int .i64 n] (.tup [inP (atI l n), .int .i64 (atE l n)]) := by
  have el : (u8P l).length = l.length := List.length_map ..
  have hm' : l.length ≤ 2 ^ 63 - 1 := hm
  have h1 := hN_bd hl n
  have h2 := hN_bd hl (n + 2)
  refine Spec.enter gTok P17 100 Tryd.func17 rfl (by kernel_rfl) ?_
  refine And.intro (fun h0 => absurd (show (n : Int) < 0 from h0) (by omega)) (fun _ => ?_)
  intro _
  refine And.intro (fun h0 => absurd (show (((u8P l).length : Nat) : Int) < (n : Int) from h0) (by omega)) (fun _ => ?_)
  intro _
  refine .inl ⟨inR_i64 (show _ ≤ (((u8P l).length : Nat) : Int) - (n : Int) ∧ (((u8P l).length : Nat) : Int) - (n : Int) ≤ _ by omega), ?_⟩
  refine And.intro (fun hs => ?_) (fun hs => ?_)
  · have hs' : (((u8P l).length : Nat) : Int) - (n : Int) < 2 := hs
    have c : l.length < n + 2 := by omega
    rw [show atI l n = iZ from if_pos c, show atE l n = 41 from if_pos c]
    (refine retE ?_; repeat' first | exact trivial | exact rfl | exact Iff.rfl | exact Or.inl rfl | refine And.intro ?_ ?_)
  have hs' : ¬ (((u8P l).length : Nat) : Int) - (n : Int) < 2 := hs
  have c : ¬ l.length < n + 2 := by omega
  refine ⟨[], no_rl, (halfAt_pure l n hl hm (by omega)).use (by repeat' first | exact trivial | exact rfl | exact Iff.rfl | exact Or.inl rfl | refine And.intro ?_ ?_) rfl rfl ?_⟩
  refine ⟨[], no_rl, (begins_pure (hN l n) (by unfold U32; omega)).use (by repeat' first | exact trivial | exact rfl | exact Iff.rfl | exact Or.inl rfl | refine And.intro ?_ ?_) rfl rfl ?_⟩
  refine And.intro (fun hb => ?_) (fun hb => ?_)
  · have hb' : ¬ beginsV (hN l n) := hb
    refine ⟨[], no_rl, (of_pure (hN l n) False (by unfold U32; omega)).use (And.intro rfl (And.intro (show ¬ False from id) trivial)) rfl rfl ?_⟩
    rw [show atI l n = ofI (hN l n) False by unfold atI; rw [if_neg c, if_pos hb'], show atE l n = ofE (hN l n) False by unfold atE; rw [if_neg c, if_pos hb']]
    (refine retE ?_; repeat' first | exact trivial | exact rfl | exact Iff.rfl | exact Or.inl rfl | refine And.intro ?_ ?_)
  have hb' : ¬ ¬ beginsV (hN l n) := hb
  intro _
  refine .inl ⟨inR_i64 (show _ ≤ (((u8P l).length : Nat) : Int) - (n : Int) ∧ (((u8P l).length : Nat) : Int) - (n : Int) ≤ _ by omega), ?_⟩
  refine And.intro (fun hs => ?_) (fun hs => ?_)
  · have hs' : (((u8P l).length : Nat) : Int) - (n : Int) < 4 := hs
    have c2 : l.length < n + 4 := by omega
    rw [show atI l n = iZ by unfold atI; rw [if_neg c, if_neg hb', if_pos c2], show atE l n = 41 by unfold atE; rw [if_neg c, if_neg hb', if_pos c2]]
    (refine retE ?_; repeat' first | exact trivial | exact rfl | exact Iff.rfl | exact Or.inl rfl | refine And.intro ?_ ?_)
  have hs' : ¬ (((u8P l).length : Nat) : Int) - (n : Int) < 4 := hs
  have c2 : ¬ l.length < n + 4 := by omega
  have e16 : Ev.pow2 .u32 16 = 65536 := by decide
  refine ⟨by decide, .inl ⟨inR_u32 (by rw [e16]; omega), ?_⟩⟩
  refine .inl ⟨inR_i64 (show _ ≤ (n : Int) + 2 ∧ (n : Int) + 2 ≤ _ by omega), ?_⟩
  refine ⟨[], no_rl, (halfAt_pure l (n + 2) hl hm (by omega)).use (by repeat' first | exact trivial | exact rfl | exact Iff.rfl | exact Or.inl rfl | refine And.intro ?_ ?_) rfl rfl ?_⟩
  refine ⟨[], no_rl, (of_pure (hW l n) True (hW_bd l hl n)).use (And.intro (hW_or l hl n) (And.intro (show True from trivial) trivial)) rfl rfl ?_⟩
  rw [show atI l n = ofI (hW l n) True by unfold atI; rw [if_neg c, if_neg hb', if_neg c2], show atE l n = ofE (hW l n) True by unfold atE; rw [if_neg c, if_neg hb', if_neg c2]]
  (refine retE ?_; repeat' first | exact trivial | exact rfl | exact Iff.rfl | exact Or.inl rfl | refine And.intro ?_ ?_)

end Go.Proofs.YtjcacjeoddnmhaaDoor.Pw

/- Chapter 8 over values: what is laid is read again; the document's example. -/
set_option linter.unusedVariables false
namespace Go.Proofs.YtjcacjeoddnmhaaDoor.Pw
open Go Go.RowKit

theorem getD_mid (p b q : List Int) (k : Nat) (h : k < b.length) : (p ++ b ++ q).getD (p.length + k) 0 = b.getD k 0 := by
  rw [List.getD_eq_getElem?_getD, List.getD_eq_getElem?_getD, List.append_assoc, List.getElem?_append_right (by omega), Nat.add_sub_cancel_left, List.getElem?_append_left h]
theorem byL_okA (i : IN) : BOk (byL i) := by
  intro z hz
  unfold byL at hz
  split at hz <;> simp only [List.mem_append, List.mem_cons, List.not_mem_nil, or_false, false_or] at hz <;> omega
/-- what is laid in the midst is read again -/
theorem at_mid (p q : List Int) (i : IN) (h : rightV i) (hg : i.regs ≤ 9223372036854775807) : atI (p ++ byL i ++ q) p.length = i ∧ atE (p ++ byL i ++ q) p.length = 0 := by
  have fst := of_word i h hg
  have bk := back i h hg
  have wb := word_bd i
  have tw := top_wide i h
  have tn := top_narrow i h
  have f1 := h.1
  unfold U32 at wb
  have g := getD_mid p (byL i) q
  have el0 : (p ++ byL i ++ q).length = p.length + (byL i).length + q.length := by rw [List.length_append, List.length_append]
  generalize hb0 : byL i = b at g el0 ⊢
  by_cases h48 : 48 ≤ i.form
  · have eb : b = [wordV i / 65536 % 256, wordV i / 16777216 % 256, wordV i % 256, wordV i / 256 % 256] := by rw [← hb0]; unfold byL; rw [if_pos h48]; rfl
    subst eb
    have el : (p ++ [wordV i / 65536 % 256, wordV i / 16777216 % 256, wordV i % 256, wordV i / 256 % 256] ++ q).length = p.length + 4 + q.length := el0
    generalize p ++ [wordV i / 65536 % 256, wordV i / 16777216 % 256, wordV i % 256, wordV i / 256 % 256] ++ q = l at g el ⊢
    have g0 := g 0 (by simp)
    have g1 := g 1 (by simp)
    have g2 := g 2 (by simp)
    have g3 := g 3 (by simp)
    have k0 : hN l p.length = wordV i / 65536 := by
      unfold hN
      rw [Nat.add_zero] at g0
      rw [g0, g1]
      show wordV i / 65536 % 256 + wordV i / 16777216 % 256 * 256 = _
      omega
    have k2 : hN l (p.length + 2) = wordV i % 65536 := by
      unfold hN
      rw [g2, g3]
      show wordV i % 256 + wordV i / 256 % 256 * 256 = _
      omega
    have kW : hW l p.length = wordV i := by unfold hW; rw [k0, k2]; omega
    have hb : ¬ ¬ beginsV (hN l p.length) := by
      have := tw h48
      rw [k0]; unfold beginsV; omega
    have e : (48 ≤ i.form) = True := eq_true h48
    rw [e] at fst
    unfold atI atE
    rw [if_neg (by omega), if_neg hb, if_neg (by omega), if_neg (by omega), if_neg hb, if_neg (by omega), kW, ofI_is fst, ofE_is fst, bk]
    exact ⟨rfl, rfl⟩
  · have eb : b = [wordV i % 256, wordV i / 256 % 256] := by rw [← hb0]; unfold byL; rw [if_neg h48]; rfl
    subst eb
    have el : (p ++ [wordV i % 256, wordV i / 256 % 256] ++ q).length = p.length + 2 + q.length := el0
    generalize p ++ [wordV i % 256, wordV i / 256 % 256] ++ q = l at g el ⊢
    have tn' := tn h48
    have g0 := g 0 (by simp)
    have g1 := g 1 (by simp)
    have k0 : hN l p.length = wordV i := by
      unfold hN
      rw [Nat.add_zero] at g0
      rw [g0, g1]
      show wordV i % 256 + wordV i / 256 % 256 * 256 = _
      omega
    have hb : ¬ beginsV (hN l p.length) := by rw [k0]; unfold beginsV; omega
    have e : (48 ≤ i.form) = False := eq_false h48
    rw [e] at fst
    unfold atI atE
    rw [if_neg (by omega), if_pos hb, if_neg (by omega), if_pos hb, k0, ofI_is fst, ofE_is fst, bk]
    exact ⟨rfl, rfl⟩

/-- the document's example -/
def ancL : List AI := [⟨3, iZ, 0, 1, 0⟩, ⟨1, nopI, 0, 0, 0⟩, ⟨2, iZ, -1, 1, 0⟩]
theorem anc_right : ∀ x ∈ ancL, rightA x := by
  intro x hx
  simp only [ancL, List.mem_cons, List.not_mem_nil, or_false] at hx
  have z : zI iZ := ⟨rfl, rfl, rfl, rfl, rfl, rfl, rfl, rfl, rfl, rfl, rfl⟩
  have m1 : mayV 1 := by unfold mayV; omega
  rcases hx with rfl | rfl | rfl
  · exact .inr (.inr (.inl ⟨rfl, z, ⟨rfl, rfl⟩, m1⟩))
  · exact .inl ⟨rfl, ⟨rfl, rfl, rfl⟩, nop_right, by decide⟩
  · exact .inr (.inl ⟨rfl, z, rfl, by decide, m1⟩)
theorem anc_io : ∀ x ∈ ancL, IOk x.inst ∧ I64 x.to_ := by
  intro x hx
  simp only [ancL, List.mem_cons, List.not_mem_nil, or_false] at hx
  have z : I64 0 := by unfold I64; omega
  rcases hx with rfl | rfl | rfl <;> exact ⟨lit_ok _ (by decide), z⟩
theorem anc_check : checkA ancL = 0 := by
  unfold checkA
  rw [if_neg (fun ⟨x, hx, h⟩ => h (anc_right x hx)), if_neg]
  rintro ⟨x, hx, h⟩
  unfold wrongA at h
  simp only [ancL, List.mem_cons, List.not_mem_nil, or_false] at hx
  have c1 : cntA ancL 1 = 1 := by decide
  rcases hx with rfl | rfl | rfl
  · rcases h with ⟨h, _⟩ | ⟨_, h⟩
    · exact absurd h (by decide)
    · exact absurd h (by rw [c1]; decide)
  · rcases h with ⟨h, _⟩ | ⟨h, _⟩ <;> exact absurd h (by decide)
  · rcases h with ⟨_, h⟩ | ⟨h, _⟩
    · exact h c1
    · exact absurd h (by decide)
theorem anc_go : goA ancL = some (some ([false, false, false], 1)) := by decide
def ancB : IN := ⟨47, 0, 0, 0, 0, -6, 0, 0, 0, 0, 0⟩
theorem ancB_right : rightV ancB := right_jump (f := 47) (s := 16) (i0 := -2048) (i1 := 2046) (i2 := 2) (cb := false) (by decide) rfl (by decide) (by decide) (span_even (by decide) (by decide)) (.inl rfl)
theorem anc_lay : layR ancL = .tup [laidP (byL nopI ++ byL ancB) [0, 0, 2] [0, 2, 2] 1, .int .i64 0] := by
  unfold layR
  rw [anc_check, if_neg (by decide), anc_go]
  show PV.tup [laidP (bytT ancL [false, false, false] 3) (atsA ancL [false, false, false]) (szsA ancL [false, false, false]) 1, .int .i64 0] = _
  have e1 : bytT ancL [false, false, false] 3 = byL nopI ++ byL ancB := by
    have i0 : insI ancL [false, false, false] 0 = [] := by rfl
    have i1 : insI ancL [false, false, false] 1 = [nopI] := by rfl
    have i2 : insI ancL [false, false, false] 2 = [ancB] := by rfl
    rw [bytT, bytT, bytT, bytT, i0, i1, i2]
    simp [bytI]
  rw [e1, show atsA ancL [false, false, false] = [0, 0, 2] by decide, show szsA ancL [false, false, false] = [0, 2, 2] by decide]
set_option maxHeartbeats 2000000 in
set_option maxRecDepth 10000 in
theorem anchor08_pure : PureF gT 7 [] .tt := by
  have hlay := lay_pure ancL (by decide) anc_io
  rw [anc_lay] at hlay
  have l2 : ∀ i : IN, i.form < 48 → (byL i).length = 2 := fun i h => by unfold byL; rw [if_neg (by omega)]; rfl
  have ln : (byL nopI).length = 2 := l2 nopI (by decide)
  have lb : (byL ancB).length = 2 := l2 ancB (by decide)
  have le : (byL nopI ++ byL ancB).length = 4 := by rw [List.length_append, ln, lb]
  have hown := at_mid (byL nopI) [] ancB ancB_right (by decide)
  rw [ln, List.append_nil] at hown
  have hat := at_in (byL nopI ++ byL ancB) 2 (fun z hz => (List.mem_append.1 hz).elim (byL_okA _ z) (byL_okA _ z)) (by rw [le]; decide) (by omega)
  rw [hown.1, hown.2] at hat
  generalize byL nopI ++ byL ancB = bs at hlay le hat
  have le' : (u8P bs).length = 4 := by rw [u8P, List.length_map, le]
  refine Spec.enter gTok P7 100 Tryd.func7 rfl (by kernel_rfl) ?_
  refine ⟨[], no_rl, (ahere_pure 1).use (by repeat' first | exact trivial | exact rfl | exact Iff.rfl | exact Or.inl rfl | refine And.intro ?_ ?_) rfl rfl ?_⟩
  refine ⟨[], no_rl, (ado_pure nopI).use (by repeat' first | exact trivial | exact rfl | exact Iff.rfl | exact Or.inl rfl | refine And.intro ?_ ?_) rfl rfl ?_⟩
  refine ⟨[], no_rl, (ago_pure (-1) 1).use (by repeat' first | exact trivial | exact rfl | exact Iff.rfl | exact Or.inl rfl | refine And.intro ?_ ?_) rfl rfl ?_⟩
  refine ⟨[], no_rl, hlay.useF [0] rfl (And.intro (Or.inl rfl) trivial) rfl rfl ?_⟩
  repeat' ((conv => whnf); first | (refine (And.intro (fun _ => ?_) (fun _ => ?_) : (_ → _) ∧ (_ → _)) <;> (first | (exfalso; first | contradiction | omega) | skip)) | refine Or.inl (And.intro (by first | exact inR_i64 (by omega) | exact inR_u32 (by omega) | exact inR_u64 (by omega) | exact inR_u8 (by omega)) ?_) | (refine And.intro (show (_ : Int) ≠ 0 by omega) (Or.inl (And.intro (show (0 : Int) ≤ _ by omega) (And.intro (show (0 : Int) < _ by omega) ?_)))) | (refine And.intro (show (_ : Int) ≠ 0 by omega) (Or.inl (And.intro (show (0 : Int) ≤ _ by omega) (And.intro (by first | exact (show (_ : Int) ≤ 9223372036854775807 by omega) | exact (show (_ : Int) ≤ 4294967295 by omega)) (And.intro (show (0 : Int) < _ by omega) ?_))))) | (refine ⟨[], no_rl, hat.use (by repeat' first | exact trivial | exact rfl | exact Iff.rfl | exact Or.inl rfl | refine And.intro ?_ ?_) rfl rfl ?_⟩) | (exfalso; first | contradiction | omega) | ((refine retE ?_; repeat' first | exact trivial | exact rfl | exact Iff.rfl | exact Or.inl rfl | refine And.intro ?_ ?_)) | (intro _))
/-- an item whose numbers are ints -/
structure AOk (x : AI) : Prop where
  inst : IOk x.inst
  kind : I64 x.kind
  cond : I64 x.cond
  label : I64 x.label
  to_ : I64 x.to_

end Go.Proofs.YtjcacjeoddnmhaaDoor.Pw

/- AsmRight over values. -/
set_option linter.unusedVariables false
namespace Go.Proofs.YtjcacjeoddnmhaaDoor.Pw
open Go Go.RowKit

set_option maxHeartbeats 4000000 in
set_option maxRecDepth 10000 in
theorem AsmRight_pure (x : AI) (hx : AOk x) : PureF gT 3 [aiP x] .tt := by
  have hr := iright_pure x (hx.inst x.inst.imm (by simp [inLs])) hx.to_
  have ho := aof_pure x
  have hd := refIRight_pure x hx.inst
  have h1 := ado_pure x.inst
  have h2 := ago_pure x.cond x.label
  have h3 := ahere_pure x.label
  have h4 := apad_pure x.to_
  refine Spec.enter gTok P3 100 Tryd.func3 rfl (by kernel_rfl) ?_
  refine ⟨[], no_rl, anchor08_pure.use (by repeat' first | exact trivial | exact rfl | exact Iff.rfl | exact Or.inl rfl | refine And.intro ?_ ?_) rfl rfl ?_⟩
  repeat (first | refine ⟨[], no_rl, hr.use (by repeat' first | exact trivial | exact rfl | exact Iff.rfl | exact Or.inl rfl | refine And.intro ?_ ?_) rfl rfl ?_⟩ | refine ⟨[], no_rl, ho.use (by repeat' first | exact trivial | exact rfl | exact Iff.rfl | exact Or.inl rfl | refine And.intro ?_ ?_) rfl rfl ?_⟩ | refine ⟨[], no_rl, hd.use (by repeat' first | exact trivial | exact rfl | exact Iff.rfl | exact Or.inl rfl | refine And.intro ?_ ?_) rfl rfl ?_⟩)
  refine And.intro (fun h => absurd Iff.rfl h) (fun _ => ?_)
  refine ⟨[], no_rl, h1.use (by repeat' first | exact trivial | exact rfl | exact Iff.rfl | exact Or.inl rfl | refine And.intro ?_ ?_) rfl rfl ?_⟩
  refine And.intro (fun _ => ?_) (fun h => absurd (by repeat' first | exact trivial | exact rfl | refine And.intro ?_ ?_) h)
  refine ⟨[], no_rl, h2.use (by repeat' first | exact trivial | exact rfl | exact Iff.rfl | exact Or.inl rfl | refine And.intro ?_ ?_) rfl rfl ?_⟩
  refine And.intro (fun _ => ?_) (fun h => absurd (by repeat' first | exact trivial | exact rfl | refine And.intro ?_ ?_) h)
  refine ⟨[], no_rl, h3.use (by repeat' first | exact trivial | exact rfl | exact Iff.rfl | exact Or.inl rfl | refine And.intro ?_ ?_) rfl rfl ?_⟩
  refine And.intro (fun _ => ?_) (fun h => absurd (by repeat' first | exact trivial | exact rfl | refine And.intro ?_ ?_) h)
  refine ⟨[], no_rl, h4.use (by repeat' first | exact trivial | exact rfl | exact Iff.rfl | exact Or.inl rfl | refine And.intro ?_ ?_) rfl rfl ?_⟩
  refine retE ?_
  repeat' first | exact trivial | exact rfl | refine And.intro ?_ ?_

end Go.Proofs.YtjcacjeoddnmhaaDoor.Pw

/- What comes in to chapter 8's laws, opened. -/
set_option linter.unusedVariables false
namespace Go.Proofs.YtjcacjeoddnmhaaDoor.Pw
open Go Go.RowKit

def SItem (x : PV) : Prop := ∃ a : AI, AOk a ∧ x = aiP a
theorem item_dec (x : PV) (h : SAgg [SInt .i64, SIN, SInt .i64, SInt .i64, SInt .i64] x) : SItem x := by
  obtain ⟨xs, h, rfl⟩ := h
  obtain ⟨_, _, rfl, ⟨k, bk, rfl⟩, h_1⟩ := all2_cons h
  obtain ⟨_, _, rfl, ⟨i, hi, rfl⟩, h_2⟩ := all2_cons h_1
  obtain ⟨_, _, rfl, ⟨c, bc, rfl⟩, h_3⟩ := all2_cons h_2
  obtain ⟨_, _, rfl, ⟨l, bl, rfl⟩, h_4⟩ := all2_cons h_3
  obtain ⟨_, _, rfl, ⟨t, bt, rfl⟩, h_5⟩ := all2_cons h_4
  obtain rfl := all2_nil h_5
  exact ⟨⟨k, i, c, l, t⟩, ⟨hi, inR_i64c bk, inR_i64c bc, inR_i64c bl, inR_i64c bt⟩, rfl⟩
theorem opItem_ : Op Tryd.prog 26 (SAgg [SInt .i64, SIN, SInt .i64, SInt .i64, SInt .i64]) :=
  opAgg (Ss := [SInt .i64, SIN, SInt .i64, SInt .i64, SInt .i64]) Tryd.underlying26
    ⟨rfl, opI64c, (show _ = _ by kernel_rfl), opIN, (show _ = _ by kernel_rfl), opI64c, (show _ = _ by kernel_rfl), opI64c, (show _ = _ by kernel_rfl), opI64c, (show _ = _ by kernel_rfl)⟩
theorem opItem : Op Tryd.prog 26 SItem := opItem_.weak item_dec
theorem opItem_agg (y : PV) (h : SItem y) : ∃ xs, y = .agg xs := by
  obtain ⟨i, _, rfl⟩ := h; exact ⟨_, rfl⟩
end Go.Proofs.YtjcacjeoddnmhaaDoor.Pw

/- AsmRight as its frame wants it. -/
namespace Go.Proofs.YtjcacjeoddnmhaaDoor.Pw
open Go Go.RowKit

theorem AsmRight_pure' (x : PV) (s : SItem x) : PureF gT 3 [x] .tt := by
  obtain ⟨a, h, rfl⟩ := s
  exact AsmRight_pure a h

end Go.Proofs.YtjcacjeoddnmhaaDoor.Pw

/- What the laws of this claim are proved with, joined (join.py) of 6 texts: no condition. -/
import Derived.Test.YtjcacjeoddnmhaaDoorNc19
import Derived.Test.YtjcacjeoddnmhaaDoorNc11
set_option linter.unusedVariables false
set_option linter.unusedSimpArgs false

/- Chapter 8 over values: an item's instructions; a program's bytes. -/
set_option linter.unusedVariables false
namespace Go.Proofs.YtjcacjeoddnmhaaDoor.Pw
open Go Go.RowKit

def nopI : IN := ⟨44, 0, 0, 0, 0, 0, 0, 0, 0, 0, 0⟩
/-- an item's instructions -/
def instsA (x : AI) (w : Bool) (n s : Int) : List IN := if x.kind = 1 then [x.inst] else if x.kind = 2 then [branA x.cond w n] else List.replicate (s / 2).toNat nopI
def nB (k : Nat) : PBlk := ⟨.dyn, 24, 11, .w, true, insP (List.replicate k nopI)⟩
set_option maxHeartbeats 4000000 in
set_option maxRecDepth 10000 in
theorem insts_runs {l : List AI} {W : List Bool} {at_ sz : List Int} {e : Int} {L : List (Int × Int)} {i : Nat} {x : AI} {w : Bool} {a s : Int} (hx : l[i]? = some x) (hw : W[i]? = some w) (hr : rightA x) (hat : at_[i]? = some a) (ha : 0 ≤ a ∧ a ≤ 1000000) (hs : sz[i]? = some s) (hsb : 0 ≤ s ∧ s ≤ 16) (hL : OffB L) :
    RunsA 47 [.ptr 5 0, .int .i64 i] (sLy l W at_ sz e L) (.sl 11 (insP (instsA x w (lkM L x.label - a - 4) s))) (sLy l W at_ sz e L) := by
  have hl := (List.getElem?_eq_some_iff.1 hx).1
  have hsl := (List.getElem?_eq_some_iff.1 hs).1
  refine Spec.leS (Spec.enter gTok P47 100 Tryd.func47 rfl (by kernel_rfl) ?_)
  refine ⟨AI, l, aiP, rfl, show (0 : Int) ≤ (i : Int) by omega, show (i : Int) < (l.length : Int) by omega, fun x' hx' => ?_⟩
  obtain rfl : x = x' := Option.some.inj (hx.symm.trans hx')
  refine And.intro (fun k1 => ?_) (fun k1 => ?_)
  · have k1' : x.kind = 1 := k1
    refine retS ?_ (by repeat' first | exact trivial | exact rfl | exact Iff.rfl | exact Or.inl rfl | refine And.intro ?_ ?_)
    exact (show [inP x.inst] = insP (instsA x w (lkM L x.label - a - 4) s) by unfold instsA; rw [if_pos k1']; rfl)
  refine And.intro (fun k2 => ?_) (fun k2 => ?_)
  · have k1' : ¬ x.kind = 1 := k1
    have k2' : x.kind = 2 := k2
    have hq := (rightA_2 k2').1 hr
    have hb := branch_runs (W := W) (sz := sz) (e := e) hx hw hq.2.2.2 hq.2.2.1.1 hat ha hL
    refine ⟨[], no_rl, hb.useS rfl rfl rfl rfl (by repeat' first | exact trivial | exact rfl | exact Iff.rfl | exact Or.inl rfl | refine And.intro ?_ ?_) (And.intro (by repeat' first | exact trivial | exact rfl | exact Iff.rfl | exact Or.inl rfl | refine And.intro ?_ ?_) (And.intro (by repeat' first | exact trivial | exact rfl | exact Iff.rfl | exact Or.inl rfl | refine And.intro ?_ ?_) (And.intro (by repeat' first | exact trivial | exact rfl | exact Iff.rfl | exact Or.inl rfl | refine And.intro ?_ ?_) (And.intro (by repeat' first | exact trivial | exact rfl | exact Iff.rfl | exact Or.inl rfl | refine And.intro ?_ ?_) (And.intro (by repeat' first | exact trivial | exact rfl | exact Iff.rfl | exact Or.inl rfl | refine And.intro ?_ ?_) (And.intro (by repeat' first | exact trivial | exact rfl | exact Iff.rfl | exact Or.inl rfl | refine And.intro ?_ ?_) ?_))))))⟩
    refine retS ?_ (by repeat' first | exact trivial | exact rfl | exact Iff.rfl | exact Or.inl rfl | refine And.intro ?_ ?_)
    exact (show [inP (branA x.cond w (lkM L x.label - a - 4))] = insP (instsA x w (lkM L x.label - a - 4) s) by unfold instsA; rw [if_neg k1', if_pos k2']; rfl)
  have k1' : ¬ x.kind = 1 := k1
  have k2' : ¬ x.kind = 2 := k2
  have ei : instsA x w (lkM L x.label - a - 4) s = List.replicate (s / 2).toNat nopI := by unfold instsA; rw [if_neg k1', if_neg k2']
  rw [ei]
  refine ⟨show (0 : Int) ≤ (i : Int) by omega, show (i : Int) < ((intsP sz).length : Nat) by rw [intsP_len]; omega, Int, sz, PV.int .i64, rfl, show (i : Int).toNat < sz.length by omega, fun v hv => ?_⟩
  obtain rfl : s = v := Option.some.inj (hs.symm.trans hv)
  refine And.intro (show (2 : Int) ≠ 0 by decide) (.inl ⟨hsb.1, show s ≤ 9223372036854775807 by omega, show (0 : Int) < 2 by decide, ?_⟩)
  refine SW.loopX gTok P47 (by kernel_rfl) (α := {k : Nat // (k : Int) ≤ s / 2}) (fun k => [(6, .wref 6), (34, .int .i64 (s / 2)), (35, .int .i64 k.1)]) (fun k => [zR, dI (intsP (wI W)), dI (intsP at_), dI (intsP sz), mpB L, yB l e, nB k.1]) (fun k => 8 - k.1) ⟨0, show ((0 : Nat) : Int) ≤ s / 2 by omega⟩ 60 [some 0, some 1, some 2, some 3, some 4, some 5, none] ?_ ?_
  · repeat' first | exact trivial | exact rfl | exact Iff.rfl | refine And.intro ?_ ?_
  rintro ⟨k, hk⟩
  refine And.intro (fun h => ?_) (fun h => ?_)
  · have h' : (k : Int) < s / 2 := h
    have ek : (insP (List.replicate k nopI)).length = k := by unfold insP; rw [List.length_map, List.length_replicate]
    refine ⟨show (insP (List.replicate k nopI)).length + 1 ≤ maxLen by unfold maxLen; omega, show ((insP (List.replicate k nopI)).length + 1) * 88 ≤ 140737488355328 by omega, ?_⟩
    refine .inl ⟨inR_i64 (show _ ≤ (k : Int) + 1 ∧ (k : Int) + 1 ≤ _ by omega), ⟨⟨k + 1, show ((k + 1 : Nat) : Int) ≤ s / 2 by omega⟩, [some 0, some 1, some 2, some 3, some 4, some 5, some 8], show 8 - (k + 1) < 8 - k by omega, ?_⟩⟩
    repeat' first | exact trivial | exact rfl | exact Iff.rfl | refine And.intro ?_ ?_
    all_goals exact (show insP (List.replicate k nopI) ++ [inP nopI] = insP (List.replicate (k + 1) nopI) by rw [List.replicate_succ']; unfold insP; rw [List.map_append]; rfl)
  · have h' : ¬ (k : Int) < s / 2 := h
    have ek : (s / 2).toNat = k := by omega
    rw [ek]
    refine retS ?_ (by repeat' first | exact trivial | exact rfl | exact Iff.rfl | exact Or.inl rfl | refine And.intro ?_ ?_)
    exact (show insP (List.replicate k nopI) = insP (List.replicate k nopI) from rfl)

/-- the instructions of the item that stands there -/
def insI (l : List AI) (W : List Bool) (i : Nat) : List IN := match l[i]?, W[i]? with
  | some x, some w => instsA x w (farA l W i x) (bytesA x w (atA l W i))
  | _, _ => []
theorem insI_eq {l : List AI} {W : List Bool} {i : Nat} {x : AI} {w : Bool} (hx : l[i]? = some x) (hw : W[i]? = some w) : insI l W i = instsA x w (farA l W i x) (bytesA x w (atA l W i)) := by unfold insI; rw [hx, hw]
theorem insI_len (l : List AI) (W : List Bool) (hr : ∀ x ∈ l, rightA x) (hW : W.length = l.length) (i : Nat) : (insI l W i).length ≤ 8 := by
  unfold insI
  split
  · rename_i x w hx hw
    have hi := (List.getElem?_eq_some_iff.1 hx).1
    have b1 := atA_bd hW (fun x hx => rightA_it (hr x hx)) i (by omega)
    have b2 := bytesA_bd (rightA_it (hr x (List.mem_of_getElem? hx))) w ⟨b1.1, b1.2.2⟩
    unfold instsA
    split
    · simp
    split
    · simp
    · rw [List.length_replicate]; omega
  · simp
def bytI (l : List IN) : List Int := l.flatMap byL
theorem bytI_app (l m : List IN) : bytI (l ++ m) = bytI l ++ bytI m := List.flatMap_append ..
theorem byL_le (i : IN) : (byL i).length ≤ 4 := by unfold byL; split <;> simp
theorem bytI_len : ∀ l : List IN, (bytI l).length ≤ 4 * l.length
  | [] => by simp [bytI]
  | i :: l => by
    have h1 := byL_le i
    have h2 := bytI_len l
    show (byL i ++ bytI l).length ≤ _
    rw [List.length_append, List.length_cons]; omega
/-- the first items' bytes -/
def bytT (l : List AI) (W : List Bool) : Nat → List Int
  | 0 => []
  | i + 1 => bytT l W i ++ bytI (insI l W i)
theorem bytT_len {l : List AI} {W : List Bool} (hr : ∀ x ∈ l, rightA x) (hW : W.length = l.length) : ∀ i, (bytT l W i).length ≤ 32 * i
  | 0 => Nat.le_refl _
  | i + 1 => by
    have h1 := bytT_len hr hW i
    have h2 := bytI_len (insI l W i)
    have h3 := insI_len l W hr hW i
    rw [bytT, List.length_append]; omega
theorem bytT_end {l : List AI} {W : List Bool} : ∀ {i : Nat}, l.length ≤ i → bytT l W i = bytT l W l.length
  | 0, h => by rw [show l.length = 0 by omega]
  | i + 1, h => by
    rcases Nat.eq_or_lt_of_le h with e | e
    · rw [e]
    · have h0 : insI l W i = [] := by unfold insI; rw [List.getElem?_eq_none (by omega)]
      rw [bytT, bytT_end (by omega), h0]
      simp [bytI]
def oB (cs : List PV) : PBlk := ⟨.dyn, 5, 1, .w, true, cs⟩
theorem u8P_app (l m : List Int) : u8P (l ++ m) = u8P l ++ u8P m := List.map_append ..
theorem u8P_len (l : List Int) : (u8P l).length = l.length := List.length_map ..
set_option maxHeartbeats 4000000 in
set_option maxRecDepth 10000 in
theorem write_runs {l : List AI} {W : List Bool} {e : Int} {L : List (Int × Int)} (hW : W.length = l.length) (hr : ∀ x ∈ l, rightA x) (hc : ∀ x ∈ l, x.kind = 2 → cntA l x.label = 1) (hl : l.length ≤ 10000) (hL : ∀ p ∈ L, 0 ≤ p.2 ∧ p.2 ≤ 1000000) (hir : ∀ i, ∀ y ∈ insI l W i, rightV y ∧ IOk y) :
    RunsA 28 [.ptr 5 0] (sLy l W (atsA l W) (szsA l W) e (L ++ marksT l W l.length)) (.tup [.sl 1 (u8P (bytT l W l.length)), .int .i64 0]) (sLy l W (atsA l W) (szsA l W) e (L ++ marksT l W l.length)) := by
  have hI : ∀ x ∈ l, ItOk x := fun x hx => rightA_it (hr x hx)
  have el : (l.map aiP).length = l.length := List.length_map ..
  have hO : OffB (L ++ marksT l W l.length) := lkM_bd (by decide) fun p hp => (List.mem_append.1 hp).elim (hL p) (marksT_bd hW hI hl (Nat.le_refl _) p)
  refine Spec.leS (Spec.enter gTok P28 100 Tryd.func28 rfl (by kernel_rfl) ?_)
  refine fun hm => ?_
  refine SW.loopX gTok P28 (by kernel_rfl) (fun i : Nat => [(0, .ptr 5 0), (4, .wref 6), (14, .int .i64 (l.map aiP).length), (15, .int .i64 i)]) (fun i => [zR, dI (intsP (wI W)), dI (intsP (atsA l W)), dI (intsP (szsA l W)), mpB (L ++ marksT l W l.length), yB l e, oB (u8P (bytT l W i))]) (fun i => l.length - i) 0 60 [some 0, some 1, some 2, some 3, some 4, some 5, none] ?_ fun i => ?_
  · repeat' first | exact trivial | exact rfl | exact Iff.rfl | refine And.intro ?_ ?_
  refine And.intro (fun h => ?_) (fun h => ?_)
  · have h' : (i : Int) < ((l.map aiP).length : Nat) := h
    rw [el] at h'
    have hx' : l[i]? = some l[i] := List.getElem?_eq_getElem (by omega)
    have hw' : W[i]? = some W[i] := List.getElem?_eq_getElem (by omega)
    have hrx := hr l[i] (List.getElem_mem _)
    have b1 := atA_bd hW hI i (by omega)
    have es := atA_succ hW hx' hw'
    have b2 := bytesA_bd (hI l[i] (List.getElem_mem _)) W[i] ⟨b1.1, b1.2.2⟩
    have hin := insts_runs (W := W) (sz := szsA l W) (e := e) (L := L ++ marksT l W l.length) hx' hw' hrx (atsA_get (l := l) (W := W) (by omega)) (by omega) (szsA_get (l := l) (W := W) (by omega)) (by omega) hO
    have e1 : insP (instsA l[i] W[i] (lkM (L ++ marksT l W l.length) l[i].label - atA l W i - 4) (atA l W (i + 1) - atA l W i)) = insP (insI l W i) := by
      rw [insI_eq hx' hw', es, show atA l W i + bytesA l[i] W[i] (atA l W i) - atA l W i = bytesA l[i] W[i] (atA l W i) by omega]
      unfold instsA
      split
      · rfl
      split
      · rename_i hk
        rw [lk_far L (hc l[i] (List.getElem_mem _) hk)]
      · rfl
    rw [e1] at hin
    have hil := insI_len l W hr hW i
    have hi2 := hir i
    have hbt := bytT_len hr hW i
    have ebt : bytT l W (i + 1) = bytT l W i ++ bytI (insI l W i) := rfl
    generalize insI l W i = li at hin hil hi2 ebt ⊢
    have eli : (insP li).length = li.length := List.length_map ..
    refine ⟨[], no_rl, hin.useS rfl rfl rfl rfl (by repeat' first | exact trivial | exact rfl | exact Iff.rfl | exact Or.inl rfl | refine And.intro ?_ ?_) (And.intro (by repeat' first | exact trivial | exact rfl | exact Iff.rfl | exact Or.inl rfl | refine And.intro ?_ ?_) (And.intro (by repeat' first | exact trivial | exact rfl | exact Iff.rfl | exact Or.inl rfl | refine And.intro ?_ ?_) (And.intro (by repeat' first | exact trivial | exact rfl | exact Iff.rfl | exact Or.inl rfl | refine And.intro ?_ ?_) (And.intro (by repeat' first | exact trivial | exact rfl | exact Iff.rfl | exact Or.inl rfl | refine And.intro ?_ ?_) (And.intro (by repeat' first | exact trivial | exact rfl | exact Iff.rfl | exact Or.inl rfl | refine And.intro ?_ ?_) (And.intro (by repeat' first | exact trivial | exact rfl | exact Iff.rfl | exact Or.inl rfl | refine And.intro ?_ ?_) ?_))))))⟩
    refine fun hm2 => ?_
    refine SW.loopX gTok P28 (by kernel_rfl) (fun k : Nat => [(0, .ptr 5 0), (4, .wref 6), (14, .int .i64 (l.map aiP).length), (15, .int .i64 i), (20, .sl 11 (insP li)), (21, .int .i64 (insP li).length), (22, .int .i64 k)]) (fun k => [zR, dI (intsP (wI W)), dI (intsP (atsA l W)), dI (intsP (szsA l W)), mpB (L ++ marksT l W l.length), yB l e, oB (u8P (bytT l W i ++ bytI (li.take k)))]) (fun k => li.length - k) 0 60 [some 0, some 1, some 2, some 3, some 4, some 5, some 6] ?_ fun k => ?_
    · repeat' first | exact trivial | exact rfl | exact Iff.rfl | refine And.intro ?_ ?_
      all_goals exact (show u8P (bytT l W i) = u8P (bytT l W i ++ bytI (li.take 0)) by rw [List.take_zero]; simp [bytI])
    refine And.intro (fun h => ?_) (fun h => ?_)
    · have hk' : (k : Int) < ((insP li).length : Nat) := h
      rw [eli] at hk'
      refine ⟨IN, li, inP, rfl, show (0 : Int) ≤ (k : Int) by omega, show (k : Int) < (li.length : Int) by omega, fun y hy => ?_⟩
      have hy' : li[k]? = some y := hy
      obtain ⟨ry, iy⟩ := hi2 y (List.mem_of_getElem? hy')
      have etk : bytI (li.take (k + 1)) = bytI (li.take k) ++ byL y := by rw [List.take_add_one, hy', bytI_app]; simp [bytI]
      have hb1 := bytI_len (li.take k)
      rw [List.length_take] at hb1
      have hb2 := byL_le y
      refine ⟨[], no_rl, (bytes_yes y ry iy).use (by repeat' first | exact trivial | exact rfl | exact Iff.rfl | exact Or.inl rfl | refine And.intro ?_ ?_) rfl rfl ?_⟩
      refine And.intro (fun h => absurd rfl h) (fun _ => ?_)
      have elen : (u8P (bytT l W i ++ bytI (li.take k))).length + (u8P (byL y)).length ≤ 1000000 := by rw [u8P_len, u8P_len, List.length_append]; omega
      refine ⟨show (u8P (bytT l W i ++ bytI (li.take k))).length + (u8P (byL y)).length ≤ maxLen by unfold maxLen; omega, show ((u8P (bytT l W i ++ bytI (li.take k))).length + (u8P (byL y)).length) * 1 ≤ 140737488355328 by omega, ?_⟩
      refine .inl ⟨inR_i64 (show _ ≤ (k : Int) + 1 ∧ (k : Int) + 1 ≤ _ by omega), ⟨k + 1, [some 0, some 1, some 2, some 3, some 4, some 5, some 8], by omega, ?_⟩⟩
      repeat' first | exact trivial | exact rfl | exact Iff.rfl | refine And.intro ?_ ?_
      all_goals exact (show u8P (bytT l W i ++ bytI (li.take k)) ++ u8P (byL y) = u8P (bytT l W i ++ bytI (li.take (k + 1))) by rw [etk, ← u8P_app, List.append_assoc])
    · have hk' : ¬ (k : Int) < ((insP li).length : Nat) := h
      rw [eli] at hk'
      refine .inl ⟨inR_i64 (show _ ≤ (i : Int) + 1 ∧ (i : Int) + 1 ≤ _ by omega), ⟨i + 1, [some 0, some 1, some 2, some 3, some 4, some 5, some 6], by omega, ?_⟩⟩
      repeat' first | exact trivial | exact rfl | exact Iff.rfl | refine And.intro ?_ ?_
      all_goals exact (show u8P (bytT l W i ++ bytI (li.take k)) = u8P (bytT l W (i + 1)) by rw [ebt, List.take_of_length_le (by omega)])
  · have h' : ¬ (i : Int) < ((l.map aiP).length : Nat) := h
    rw [el] at h'
    have eb : bytT l W i = bytT l W l.length := bytT_end (by omega)
    refine retS ?_ (by repeat' first | exact trivial | exact rfl | exact Iff.rfl | exact Or.inl rfl | refine And.intro ?_ ?_)
    refine And.intro (show u8P (bytT l W i) = u8P (bytT l W l.length) by rw [eb]) (And.intro rfl trivial)

end Go.Proofs.YtjcacjeoddnmhaaDoor.Pw

/- Chapter 8, plain: the instructions of a program that is laid may be. -/
set_option linter.unusedVariables false
namespace Go.Proofs.YtjcacjeoddnmhaaDoor.Pw
open Go Go.RowKit

theorem right_jump {f s i0 i1 i2 : Int} {cb : Bool} (hs : shapeV f = s) (hr : ruW s = {r0U with cond := cb, i0 := i0, i1 := i1, i2 := i2}) (hf : (1 ≤ f ∧ f ≤ 100) ∧ f ≠ 1 ∧ f ≠ 2 ∧ f ≠ 3 ∧ f ≠ 29 ∧ f ≠ 95 ∧ f ≠ 96) (h18 : s ≠ 18 ∧ s ≠ 19 ∧ s ≠ 20) {n c : Int} (hn : spanV i0 i1 i2 n) (hc : c = 0 ∨ (cb = true ∧ 0 < c ∧ c ≤ 13)) : rightV ⟨f, 0, 0, 0, 0, n, 0, 0, 0, c, 0⟩ := by
  show rightR _ (ruW (shapeV f))
  rw [hs, hr]
  have z : (0 : Int) ≠ 1 ∧ (0 : Int) ≠ 2 ∧ (0 : Int) ≠ 3 ∧ (0 : Int) = 0 := by decide
  refine ⟨hf.1, .inr (.inr (.inr z)), .inr (.inr (.inr z)), .inr (.inr (.inr z)), .inr (.inr (.inr z)), .inl ⟨rfl, rfl⟩, hc, hn, .inl rfl, .inr ⟨Bool.false_ne_true, rfl, .inl ⟨rfl, rfl⟩⟩, ?_⟩
  obtain ⟨_, a1, a2, a3, a4, a5, a6⟩ := hf
  refine ⟨fun e => absurd e a1, fun e => e.elim (fun e => absurd e a2) (fun e => absurd e a3), fun e => absurd e a4, fun e => e.elim (fun e => absurd e a5) (fun e => absurd e a6), ?_⟩
  show shapeV f = 18 ∨ shapeV f = 19 ∨ shapeV f = 20 → _
  rw [hs]
  exact fun h => absurd h (by omega)
theorem span_even {a b n : Int} (h : a ≤ n ∧ n ≤ b) (he : n % 2 = 0) : spanV a b 2 n := .inr ⟨by decide, h.1, h.2, Int.tmod_eq_zero_of_dvd (Int.dvd_of_emod_eq_zero he)⟩
theorem branA_right {c n : Int} {w : Bool} (hc : -1 ≤ c ∧ c ≤ 13) (he : n % 2 = 0) (hb : -1000000 ≤ n ∧ n ≤ 1000000) (hs : w = false → shortA c n = true) : rightV (branA c w n) := by
  unfold branA
  cases w with
  | true =>
    by_cases h : c < 0
    · rw [if_pos h, show max c 0 = 0 by omega]
      exact right_jump (f := 100) (s := 34) (i0 := -16777216) (i1 := 16777214) (i2 := 2) (cb := false) (by decide) rfl (by decide) (by decide) (span_even (by omega) he) (.inl rfl)
    · rw [if_neg h, show max c 0 = c by omega]
      exact right_jump (f := 99) (s := 33) (i0 := -1048576) (i1 := 1048574) (i2 := 2) (cb := true) (by decide) rfl (by decide) (by decide) (span_even (by omega) he) ((Classical.em (c = 0)).elim .inl fun h0 => .inr ⟨rfl, by omega, by omega⟩)
  | false =>
    have hs := hs rfl
    unfold shortA at hs
    by_cases h : c < 0
    · rw [if_pos h] at hs
      have hs := of_decide_eq_true hs
      rw [if_pos h, show max c 0 = 0 by omega]
      exact right_jump (f := 47) (s := 16) (i0 := -2048) (i1 := 2046) (i2 := 2) (cb := false) (by decide) rfl (by decide) (by decide) (span_even (by omega) he) (.inl rfl)
    · rw [if_neg h] at hs
      have hs := of_decide_eq_true hs
      rw [if_neg h, show max c 0 = c by omega]
      exact right_jump (f := 46) (s := 15) (i0 := -256) (i1 := 254) (i2 := 2) (cb := true) (by decide) rfl (by decide) (by decide) (span_even (by omega) he) ((Classical.em (c = 0)).elim .inl fun h0 => .inr ⟨rfl, by omega, by omega⟩)
theorem nop_right : rightV nopI := right_jump (f := 44) (s := 13) (i0 := 0) (i1 := 0) (i2 := 0) (cb := false) (by decide) rfl (by decide) (by decide) (.inl ⟨rfl, rfl⟩) (.inl rfl)
theorem IOk_mk {f n c : Int} (hf : I64 f) (hn : I64 n) (hc : I64 c) : IOk ⟨f, 0, 0, 0, 0, n, 0, 0, 0, c, 0⟩ := by
  have z : I64 0 := by unfold I64; omega
  intro x hx
  simp only [inLs, List.mem_cons, List.not_mem_nil, or_false] at hx
  rcases hx with rfl | rfl | rfl | rfl | rfl | rfl | rfl | rfl | rfl | rfl | rfl <;> assumption
theorem farA_bd {l : List AI} {W : List Bool} (hW : W.length = l.length) (hI : ∀ x ∈ l, ItOk x) (hl : l.length ≤ 10000) {i : Nat} (hi : i ≤ l.length) (x : AI) : farA l W i x % 2 = 0 ∧ -1000000 ≤ farA l W i x ∧ farA l W i x ≤ 1000000 := by
  unfold farA
  split
  · rename_i k hk
    have hkl : k < l.length := (List.findIdx?_eq_some_iff_getElem.1 hk).1
    have b1 := atA_bd hW hI i hi
    have b2 := atA_bd hW hI k (by omega)
    omega
  · omega
/-- all instructions of a program that is laid may be -/
theorem insI_right {l : List AI} {W : List Bool} (hW : W.length = l.length) (hr : ∀ x ∈ l, rightA x) (hio : ∀ x ∈ l, IOk x.inst) (hl : l.length ≤ 10000) (hn : nextA l W = W) (i : Nat) : ∀ y ∈ insI l W i, rightV y ∧ IOk y := by
  intro y hy
  unfold insI at hy
  split at hy
  · rename_i x w hx hw
    have hi := (List.getElem?_eq_some_iff.1 hx).1
    have hxm := List.mem_of_getElem? hx
    have hrx := hr x hxm
    have hf := farA_bd hW (fun x hx => rightA_it (hr x hx)) hl (Nat.le_of_lt hi) x
    unfold instsA at hy
    split at hy
    · rename_i k1
      rw [List.mem_singleton] at hy
      subst hy
      exact ⟨((rightA_1 k1).1 hrx).2.1, hio x hxm⟩
    split at hy
    · rename_i k2
      rw [List.mem_singleton] at hy
      subst hy
      have hq := (rightA_2 k2).1 hrx
      have hg := nextA_get hx hw
      rw [hn, hw] at hg
      have hnb : w = nextB l W i x w := Option.some.inj hg
      refine ⟨branA_right hq.2.2.1 hf.1 hf.2 (fun e => ?_), ?_⟩
      · subst e
        unfold nextB at hnb
        rw [decide_eq_true k2] at hnb
        simpa using hnb.symm
      · unfold branA
        exact IOk_mk (by unfold I64; split <;> split <;> omega) (by unfold I64; omega) (by unfold I64; omega)
    · have : y = nopI := List.eq_of_mem_replicate hy
      subst this
      exact ⟨nop_right, IOk_mk (by unfold I64; omega) (by unfold I64; omega) (by unfold I64; omega)⟩
  · simp at hy

end Go.Proofs.YtjcacjeoddnmhaaDoor.Pw

/- Chapter 8 over values: a program is laid. -/
set_option linter.unusedVariables false
namespace Go.Proofs.YtjcacjeoddnmhaaDoor.Pw
open Go Go.RowKit

def laidP (b at_ sz : List Int) (r : Int) : PV := .agg [.sl 1 (u8P b), .sl 1 (intsP at_), .sl 1 (intsP sz), .int .i64 r]
def noLaid : PV := laidP [] [] [] 0
/-- how a program is laid: which jumps are wide, and how often it was laid -/
def goA (l : List AI) : Option (Option (List Bool × Int)) := layA l (l.length + 1) (List.replicate l.length false) 1
def outA (l : List AI) : Option (Option (List Bool × Int)) → PV
  | some (some (W, r)) => .tup [laidP (bytT l W l.length) (atsA l W) (szsA l W) r, .int .i64 0]
  | _ => .tup [noLaid, .int .i64 82]
noncomputable def layR (l : List AI) : PV := if checkA l ≠ 0 then .tup [noLaid, .int .i64 (checkA l)] else outA l (goA l)
/-- a round's beginning -/
structure LyA where
  W : List Bool
  at_ : List Int
  sz : List Int
  e : Int
  L : List (Int × Int)
  r : Int
  n : Nat
structure LyOk (l : List AI) (x : LyA) : Prop where
  W : x.W.length = l.length
  at_ : x.at_.length = l.length
  sz : x.sz.length = l.length
  L : ∀ p ∈ x.L, 0 ≤ p.2 ∧ p.2 ≤ 1000000
  len : x.L.length ≤ 10000 * x.r.toNat
  r : 1 ≤ x.r ∧ x.r + x.n = l.length + 2
  n : narrowN x.W < x.n
  go : goA l = layA l x.n x.W x.r
theorem narrowN_all (n : Nat) : narrowN (List.replicate n false) = n := by unfold narrowN; simp
theorem wI_all (n : Nat) : wI (List.replicate n false) = List.replicate n 0 := by unfold wI; simp
theorem checkA_ok {l : List AI} (h : checkA l = 0) : (∀ x ∈ l, rightA x) ∧ ∀ x ∈ l, x.kind = 2 → cntA l x.label = 1 := by
  unfold checkA at h
  split at h
  · cases h
  · rename_i h1
    split at h
    · cases h
    · rename_i h2
      refine ⟨fun x hx => Classical.byContradiction fun hn => h1 ⟨x, hx, hn⟩, fun x hx hk => Classical.byContradiction fun hn => h2 ⟨x, hx, .inl ⟨hk, hn⟩⟩⟩
/-- a list of noughts that is as long as the items -/
def zsB (l : List AI) : PBlk := dI (List.replicate (l.map aiP).length (.int .i64 0))
/-- what is known when the layer has been made -/
noncomputable def layC (l : List AI) : PSt := ⟨Tryd.f16.ntmps, layF [(2, .ptr 0 0), (3, .lit .i64 0), (5, .ptr 5 0)] .nil, [zR, zsB l, zsB l, zsB l, mpB [], yB l 0], 0, []⟩
set_option maxHeartbeats 8000000 in
set_option maxRecDepth 10000 in
theorem lay_pure (l : List AI) (hl : l.length ≤ 10000) (hio : ∀ x ∈ l, IOk x.inst ∧ I64 x.to_) : PureF gT 16 [.sl 15 (l.map aiP)] (layR l) := by
  have el : (l.map aiP).length = l.length := List.length_map ..
  have hch := check_pure l hl fun x hx => ⟨(hio x hx).1 x.inst.imm (by simp [inLs]), (hio x hx).2⟩
  unfold layR
  obtain ⟨cv, hcv⟩ : ∃ c, checkA l = c := ⟨_, rfl⟩
  have hok := @checkA_ok l
  rw [hcv] at hch hok ⊢
  refine Spec.enter gTok P16 100 Tryd.func16 rfl (by kernel_rfl) ?_
  refine ⟨[], no_rl, hch.use (by repeat' first | exact trivial | exact rfl | exact Iff.rfl | exact Or.inl rfl | refine And.intro ?_ ?_) rfl rfl ?_⟩
  refine And.intro (fun hne => ?_) (fun hne => ?_)
  · have hne' : ¬ cv = 0 := hne
    rw [if_pos hne']
    (refine retE ?_; repeat' first | exact trivial | exact rfl | exact Iff.rfl | exact Or.inl rfl | refine And.intro ?_ ?_)
  have h0 : cv = 0 := Classical.not_not.1 hne
  rw [if_neg (not_not_intro h0)]
  obtain ⟨hr, hc⟩ := hok h0
  refine fun hm1 => ?_
  refine fun hm2 => ?_
  refine fun hm3 => ?_
  have eN : 8 * (l.map aiP).length ≤ 281474976710656 := by omega
  have eM : (l.map aiP).length ≤ maxLen := hm1
  repeat' (first | exact trivial | (refine pmakeN_ok gTok ?_; refine ⟨(l.map aiP).length, rfl, rfl, rfl, rfl, eN, eM, ?_⟩) | (refine pmakeMap_ok ?_) | (refine Exists.intro (layC l) (And.intro ?_ (And.intro ?_ (And.intro ?_ ?_)))) | exact (Sub.refl : Sub gT (layC l) (layC l)) | (refine subK_ok gTok.ok (π := [some 0, some 1, some 2, some 3, some 4, some 5]) ?_; (repeat' first | exact trivial | exact rfl | exact Iff.rfl | refine And.intro ?_ ?_); done) | (refine subK_ok gTok.ok (π := [some 0, some 1, some 2, some 4, some 3, some 5]) ?_; (repeat' first | exact trivial | exact rfl | exact Iff.rfl | refine And.intro ?_ ?_); done) | (refine subK_ok gTok.ok (π := [some 0, some 1, some 3, some 2, some 4, some 5]) ?_; (repeat' first | exact trivial | exact rfl | exact Iff.rfl | refine And.intro ?_ ?_); done) | (refine subK_ok gTok.ok (π := [some 0, some 1, some 3, some 4, some 2, some 5]) ?_; (repeat' first | exact trivial | exact rfl | exact Iff.rfl | refine And.intro ?_ ?_); done) | (refine subK_ok gTok.ok (π := [some 0, some 1, some 4, some 2, some 3, some 5]) ?_; (repeat' first | exact trivial | exact rfl | exact Iff.rfl | refine And.intro ?_ ?_); done) | (refine subK_ok gTok.ok (π := [some 0, some 1, some 4, some 3, some 2, some 5]) ?_; (repeat' first | exact trivial | exact rfl | exact Iff.rfl | refine And.intro ?_ ?_); done) | (refine subK_ok gTok.ok (π := [some 0, some 2, some 1, some 3, some 4, some 5]) ?_; (repeat' first | exact trivial | exact rfl | exact Iff.rfl | refine And.intro ?_ ?_); done) | (refine subK_ok gTok.ok (π := [some 0, some 2, some 1, some 4, some 3, some 5]) ?_; (repeat' first | exact trivial | exact rfl | exact Iff.rfl | refine And.intro ?_ ?_); done) | (refine subK_ok gTok.ok (π := [some 0, some 2, some 3, some 1, some 4, some 5]) ?_; (repeat' first | exact trivial | exact rfl | exact Iff.rfl | refine And.intro ?_ ?_); done) | (refine subK_ok gTok.ok (π := [some 0, some 2, some 3, some 4, some 1, some 5]) ?_; (repeat' first | exact trivial | exact rfl | exact Iff.rfl | refine And.intro ?_ ?_); done) | (refine subK_ok gTok.ok (π := [some 0, some 2, some 4, some 1, some 3, some 5]) ?_; (repeat' first | exact trivial | exact rfl | exact Iff.rfl | refine And.intro ?_ ?_); done) | (refine subK_ok gTok.ok (π := [some 0, some 2, some 4, some 3, some 1, some 5]) ?_; (repeat' first | exact trivial | exact rfl | exact Iff.rfl | refine And.intro ?_ ?_); done) | (refine subK_ok gTok.ok (π := [some 0, some 3, some 1, some 2, some 4, some 5]) ?_; (repeat' first | exact trivial | exact rfl | exact Iff.rfl | refine And.intro ?_ ?_); done) | (refine subK_ok gTok.ok (π := [some 0, some 3, some 1, some 4, some 2, some 5]) ?_; (repeat' first | exact trivial | exact rfl | exact Iff.rfl | refine And.intro ?_ ?_); done) | (refine subK_ok gTok.ok (π := [some 0, some 3, some 2, some 1, some 4, some 5]) ?_; (repeat' first | exact trivial | exact rfl | exact Iff.rfl | refine And.intro ?_ ?_); done) | (refine subK_ok gTok.ok (π := [some 0, some 3, some 2, some 4, some 1, some 5]) ?_; (repeat' first | exact trivial | exact rfl | exact Iff.rfl | refine And.intro ?_ ?_); done) | (refine subK_ok gTok.ok (π := [some 0, some 3, some 4, some 1, some 2, some 5]) ?_; (repeat' first | exact trivial | exact rfl | exact Iff.rfl | refine And.intro ?_ ?_); done) | (refine subK_ok gTok.ok (π := [some 0, some 3, some 4, some 2, some 1, some 5]) ?_; (repeat' first | exact trivial | exact rfl | exact Iff.rfl | refine And.intro ?_ ?_); done) | (refine subK_ok gTok.ok (π := [some 0, some 4, some 1, some 2, some 3, some 5]) ?_; (repeat' first | exact trivial | exact rfl | exact Iff.rfl | refine And.intro ?_ ?_); done) | (refine subK_ok gTok.ok (π := [some 0, some 4, some 1, some 3, some 2, some 5]) ?_; (repeat' first | exact trivial | exact rfl | exact Iff.rfl | refine And.intro ?_ ?_); done) | (refine subK_ok gTok.ok (π := [some 0, some 4, some 2, some 1, some 3, some 5]) ?_; (repeat' first | exact trivial | exact rfl | exact Iff.rfl | refine And.intro ?_ ?_); done) | (refine subK_ok gTok.ok (π := [some 0, some 4, some 2, some 3, some 1, some 5]) ?_; (repeat' first | exact trivial | exact rfl | exact Iff.rfl | refine And.intro ?_ ?_); done) | (refine subK_ok gTok.ok (π := [some 0, some 4, some 3, some 1, some 2, some 5]) ?_; (repeat' first | exact trivial | exact rfl | exact Iff.rfl | refine And.intro ?_ ?_); done) | (refine subK_ok gTok.ok (π := [some 0, some 4, some 3, some 2, some 1, some 5]) ?_; (repeat' first | exact trivial | exact rfl | exact Iff.rfl | refine And.intro ?_ ?_); done) | refine And.intro ?_ ?_)
  obtain ⟨res, hres⟩ : ∃ res, outA l (goA l) = res := ⟨_, rfl⟩
  rw [hres]
  refine SW.loopX gTok P16 (by kernel_rfl) (α := {x : LyA // LyOk l x}) (fun x => [(2, .ptr 0 0), (5, .ptr 5 0), (6, .int .i64 x.1.r)]) (fun x => sLy l x.1.W x.1.at_ x.1.sz x.1.e x.1.L) (fun x => x.1.n) ⟨⟨List.replicate l.length false, List.replicate l.length 0, List.replicate l.length 0, 0, [], 1, l.length + 1⟩, ⟨by simp, by simp, by simp, by simp, by simp, ⟨Int.le_refl _, by show (1 : Int) + ((l.length + 1 : Nat) : Int) = _; omega⟩, by show narrowN (List.replicate l.length false) < l.length + 1; rw [narrowN_all]; omega, rfl⟩⟩ 60 [some 0, some 1, some 2, some 3, some 4, some 5] ?_ ?_
  · repeat' first | exact trivial | exact rfl | exact Iff.rfl | refine And.intro ?_ ?_
    all_goals first | exact (show List.replicate (l.map aiP).length (PV.int .i64 0) = intsP (wI (List.replicate l.length false)) by rw [wI_all, el]; unfold intsP; rw [List.map_replicate]) | exact (show List.replicate (l.map aiP).length (PV.int .i64 0) = intsP (List.replicate l.length 0) by rw [el]; unfold intsP; rw [List.map_replicate])
  rintro ⟨⟨W, at0, sz0, e0, L, r, n⟩, hx⟩
  obtain ⟨hW, ha0, hs0, hL, hLl, hr1, hn, hgo⟩ := hx
  simp only at hW ha0 hs0 hL hLl hr1 hn hgo
  obtain ⟨n, rfl⟩ : ∃ m, n = m + 1 := ⟨n - 1, by omega⟩
  have hlay := lay_runs (e0 := e0) hW ha0 hs0 hr hl (show L.length ≤ 1000000000 by omega)
  have hwid := widen_runs (e := endA l W 0) hW hr hc hl hL
  rw [layA] at hgo
  have hLn : ∀ p ∈ L ++ marksT l W l.length, 0 ≤ p.2 ∧ p.2 ≤ 1000000 := fun p hp => (List.mem_append.1 hp).elim (hL p) (marksT_bd hW (fun x hx => rightA_it (hr x hx)) hl (Nat.le_refl _) p)
  have hml := marksT_len l W l.length
  have hnl := nextA_len hW
  refine ⟨[], no_rl, hlay.useS rfl rfl rfl rfl (by repeat' first | exact trivial | exact rfl | exact Iff.rfl | exact Or.inl rfl | refine And.intro ?_ ?_) (And.intro (by repeat' first | exact trivial | exact rfl | exact Iff.rfl | exact Or.inl rfl | refine And.intro ?_ ?_) (And.intro (by repeat' first | exact trivial | exact rfl | exact Iff.rfl | exact Or.inl rfl | refine And.intro ?_ ?_) (And.intro (by repeat' first | exact trivial | exact rfl | exact Iff.rfl | exact Or.inl rfl | refine And.intro ?_ ?_) (And.intro (by repeat' first | exact trivial | exact rfl | exact Iff.rfl | exact Or.inl rfl | refine And.intro ?_ ?_) (And.intro (by repeat' first | exact trivial | exact rfl | exact Iff.rfl | exact Or.inl rfl | refine And.intro ?_ ?_) (And.intro (by repeat' first | exact trivial | exact rfl | exact Iff.rfl | exact Or.inl rfl | refine And.intro ?_ ?_) ?_))))))⟩
  refine And.intro (fun hbig => ?_) (fun hbig => ?_)
  · have hbig' : 65536 < endA l W 0 := hbig
    rw [if_pos hbig'] at hgo
    rw [← hres, hgo]
    (refine retE ?_; repeat' first | exact trivial | exact rfl | exact Iff.rfl | exact Or.inl rfl | refine And.intro ?_ ?_)
  have hbig' : ¬ 65536 < endA l W 0 := hbig
  rw [if_neg hbig'] at hgo
  refine ⟨[], no_rl, hwid.useS rfl rfl rfl rfl (by repeat' first | exact trivial | exact rfl | exact Iff.rfl | exact Or.inl rfl | refine And.intro ?_ ?_) (And.intro (by repeat' first | exact trivial | exact rfl | exact Iff.rfl | exact Or.inl rfl | refine And.intro ?_ ?_) (And.intro (by repeat' first | exact trivial | exact rfl | exact Iff.rfl | exact Or.inl rfl | refine And.intro ?_ ?_) (And.intro (by repeat' first | exact trivial | exact rfl | exact Iff.rfl | exact Or.inl rfl | refine And.intro ?_ ?_) (And.intro (by repeat' first | exact trivial | exact rfl | exact Iff.rfl | exact Or.inl rfl | refine And.intro ?_ ?_) (And.intro (by repeat' first | exact trivial | exact rfl | exact Iff.rfl | exact Or.inl rfl | refine And.intro ?_ ?_) (And.intro (by repeat' first | exact trivial | exact rfl | exact Iff.rfl | exact Or.inl rfl | refine And.intro ?_ ?_) ?_))))))⟩
  refine And.intro (fun hm4 => ?_) (fun hm4 => ?_)
  · have hm4' : 0 < (narrowN W : Int) - (narrowN (nextA l W) : Int) := hm4
    have hne : nextA l W ≠ W := fun e => by rw [e] at hm4'; omega
    rw [if_neg hne] at hgo
    refine .inl ⟨inR_i64 (show _ ≤ r + 1 ∧ r + 1 ≤ _ by omega), ⟨⟨⟨nextA l W, atsA l W, szsA l W, endA l W 0, L ++ marksT l W l.length, r + 1, n⟩, ⟨hnl, atsA_len l W, szsA_len l W, hLn, by simp only [List.length_append]; omega, by simp only; omega, by simp only; omega, hgo⟩⟩, [some 0, some 1, some 2, some 3, some 4, some 5], show n < n + 1 by omega, ?_⟩⟩
    repeat' first | exact trivial | exact rfl | exact Iff.rfl | refine And.intro ?_ ?_
  · have hm4' : ¬ 0 < (narrowN W : Int) - (narrowN (nextA l W) : Int) := hm4
    have heq : nextA l W = W := Classical.byContradiction fun hne => by have := nextA_less hW hne; omega
    rw [if_pos heq] at hgo
    have hwr := write_runs (e := endA l W 0) hW hr hc hl hL (insI_right hW hr (fun x hx => (hio x hx).1) hl heq)
    rw [heq]
    refine ⟨[], no_rl, hwr.useS rfl rfl rfl rfl (by repeat' first | exact trivial | exact rfl | exact Iff.rfl | exact Or.inl rfl | refine And.intro ?_ ?_) (And.intro (by repeat' first | exact trivial | exact rfl | exact Iff.rfl | exact Or.inl rfl | refine And.intro ?_ ?_) (And.intro (by repeat' first | exact trivial | exact rfl | exact Iff.rfl | exact Or.inl rfl | refine And.intro ?_ ?_) (And.intro (by repeat' first | exact trivial | exact rfl | exact Iff.rfl | exact Or.inl rfl | refine And.intro ?_ ?_) (And.intro (by repeat' first | exact trivial | exact rfl | exact Iff.rfl | exact Or.inl rfl | refine And.intro ?_ ?_) (And.intro (by repeat' first | exact trivial | exact rfl | exact Iff.rfl | exact Or.inl rfl | refine And.intro ?_ ?_) (And.intro (by repeat' first | exact trivial | exact rfl | exact Iff.rfl | exact Or.inl rfl | refine And.intro ?_ ?_) ?_))))))⟩
    refine And.intro (fun hne => absurd rfl hne) (fun _ => ?_)
    rw [← hres, hgo]
    (refine retE ?_; repeat' first | exact trivial | exact rfl | exact Iff.rfl | exact Or.inl rfl | refine And.intro ?_ ?_)

end Go.Proofs.YtjcacjeoddnmhaaDoor.Pw

/- Chapter 4 over values: what stands at a place of bytes; CodeBytes. -/
namespace Go.Proofs.YtjcacjeoddnmhaaDoor.Pw
open Go Go.RowKit

def BOk (l : List Int) : Prop := ∀ z ∈ l, 0 ≤ z ∧ z ≤ 255
theorem or_add_u32 (a b : Int) (k : Nat) (hk : k ≤ 24) (ha : 0 ≤ a ∧ a < 2 ^ k) (hb : 0 ≤ b ∧ b * 2 ^ k ≤ 4294967295) : bits .or .u32 a (b * 2 ^ k) = a + b * 2 ^ k ∧ bits .or .u32 (b * 2 ^ k) a = b * 2 ^ k + a := by
  have p := pow_bd k (by omega)
  have p2 : (2 : Int) ^ k ≤ 16777216 := by
    have h1 : (2 ^ k : Nat) ≤ 2 ^ 24 := Nat.pow_le_pow_right (by omega) hk
    have h3 := pow_cast k
    have h4 : (2 : Nat) ^ 24 = 16777216 := by decide
    omega
  obtain ⟨x, rfl⟩ : ∃ x : Nat, a = x := ⟨a.toNat, by omega⟩
  obtain ⟨y, rfl⟩ : ∃ y : Nat, b = y := ⟨b.toNat, by omega⟩
  have e : ((y : Int) * 2 ^ k) = ((2 ^ k * y : Nat) : Int) := by rw [Int.natCast_mul, pow_cast, Int.mul_comm]
  rw [e] at hb ⊢
  have hx : x < 2 ^ k := by have := pow_cast k; omega
  have h := or_low y x k hx
  constructor
  · rw [u32_or _ _ (by omega) (by omega) (by omega) (by omega), Int.toNat_natCast, Int.toNat_natCast, Nat.or_comm, ← h]; omega
  · rw [u32_or _ _ (by omega) (by omega) (by omega) (by omega), Int.toNat_natCast, Int.toNat_natCast, ← h]; omega
/-- two bytes as a half -/
def hN (l : List Int) (n : Nat) : Int := l.getD n 0 + l.getD (n + 1) 0 * 256
theorem getD_ok {l : List Int} (h : BOk l) (n : Nat) : 0 ≤ l.getD n 0 ∧ l.getD n 0 ≤ 255 := by
  rw [List.getD_eq_getElem?_getD]
  cases e : l[n]? with
  | none => exact ⟨Int.le_refl 0, by decide⟩
  | some z => exact h z (List.mem_of_getElem? e)
theorem hN_bd {l : List Int} (h : BOk l) (n : Nat) : 0 ≤ hN l n ∧ hN l n ≤ 65535 := by
  have a := getD_ok h n
  have b := getD_ok h (n + 1)
  unfold hN; omega
theorem getD_some {l : List Int} {n : Nat} {z : Int} (h : l[n]? = some z) : l.getD n 0 = z := by rw [List.getD_eq_getElem?_getD, h]; rfl
set_option maxHeartbeats 4000000 in
set_option maxRecDepth 100000 in
theorem halfAt_pure (l : List Int) (n : Nat) (hl : BOk l) (hm : l.length ≤ maxLen) (hn : n + 1 < l.length) : PureF gT 29 [.sl 1 (u8P l), .int .i64 n] (.int .u32 (hN l n)) := by
  have hm' : l.length ≤ 2 ^ 63 - 1 := hm
  have e8 : Ev.pow2 .u32 8 = 2 ^ 8 := by decide
  obtain ⟨a, ha⟩ : ∃ a, l[n]? = some a := ⟨_, List.getElem?_eq_getElem (by omega)⟩
  obtain ⟨b, hb⟩ : ∃ b, l[n + 1]? = some b := ⟨_, List.getElem?_eq_getElem (by omega)⟩
  have ab := hl a (List.mem_of_getElem? ha)
  have bb := hl b (List.mem_of_getElem? hb)
  have ea := getD_some ha
  have eb := getD_some hb
  refine Spec.enter gTok P29 100 Tryd.func29 rfl (by kernel_rfl) ?_
  repeat' (first
    | (refine ⟨Int, l, PV.int .u8, rfl, show (0 : Int) ≤ (n : Int) by omega, show (n : Int) < (l.length : Int) by omega, fun z hz => ?_⟩
       obtain rfl : a = z := Option.some.inj (ha.symm.trans hz))
    | (refine ⟨Int, l, PV.int .u8, rfl, show (0 : Int) ≤ (n : Int) + 1 by omega, show (n : Int) + 1 < (l.length : Int) by omega, fun z hz => ?_⟩
       obtain rfl : b = z := Option.some.inj (hb.symm.trans hz))
    | refine Or.inl (And.intro (inR_i64 (show _ ≤ (n : Int) + 1 ∧ (n : Int) + 1 ≤ _ by omega)) ?_)
    | refine Or.inl (And.intro (inR_u32 (show 0 ≤ a ∧ a ≤ _ by omega)) ?_)
    | refine Or.inl (And.intro (inR_u32 (show 0 ≤ b ∧ b ≤ _ by omega)) ?_)
    | refine And.intro (show (0 : Int) ≤ 8 by decide) (Or.inl (And.intro (inR_u32 (show 0 ≤ b * Ev.pow2 .u32 8 ∧ b * Ev.pow2 .u32 8 ≤ _ by rw [e8]; omega)) ?_))
    | exact rfl
    | exact trivial
    | (refine retE ?_
       show bits .or .u32 a (b * Ev.pow2 .u32 8) = hN l n
       rw [e8, (or_add_u32 a b 8 (by decide) (by omega) (by omega)).1, hN, ea, eb]
       rfl)
    | refine And.intro ?_ ?_)

/-! ### what stands at a place -/
def hW (l : List Int) (n : Nat) : Int := hN l n * 65536 + hN l (n + 2)
noncomputable def atI (l : List Int) (n : Nat) : IN := open Classical in
  if l.length < n + 2 then iZ else if ¬ beginsV (hN l n) then ofI (hN l n) False else if l.length < n + 4 then iZ else ofI (hW l n) True
noncomputable def atE (l : List Int) (n : Nat) : Int := open Classical in
  if l.length < n + 2 then 41 else if ¬ beginsV (hN l n) then ofE (hN l n) False else if l.length < n + 4 then 41 else ofE (hW l n) True
theorem hW_or (l : List Int) (hl : BOk l) (n : Nat) : bits .or .u32 (hN l n * Ev.pow2 .u32 16) (hN l (n + 2)) = hW l n := by
  have a := hN_bd hl n
  have b := hN_bd hl (n + 2)
  have e : Ev.pow2 .u32 16 = 2 ^ 16 := by decide
  rw [e, (or_add_u32 (hN l (n + 2)) (hN l n) 16 (by decide) (by omega) (by omega)).2]
  rfl
theorem hW_bd (l : List Int) (hl : BOk l) (n : Nat) : U32 (hW l n) := by
  have a := hN_bd hl n
  have b := hN_bd hl (n + 2)
  unfold hW U32; omega
set_option maxHeartbeats 8000000 in
set_option maxRecDepth 100000 in
theorem at_in (l : List Int) (n : Nat) (hl : BOk l) (hm : l.length ≤ maxLen) (hn : n ≤ l.length) : PureF gT 17 [.sl 1 (u8P l), .int .i64 n] (.tup [inP (atI l n), .int .i64 (atE l n)]) := by
  have el : (u8P l).length = l.length := List.length_map ..
  have hm' : l.length ≤ 2 ^ 63 - 1 := hm
  have h1 := hN_bd hl n
  have h2 := hN_bd hl (n + 2)
  refine Spec.enter gTok P17 100 Tryd.func17 rfl (by kernel_rfl) ?_
  refine And.intro (fun h0 => absurd (show (n : Int) < 0 from h0) (by omega)) (fun _ => ?_)
  intro _
  refine And.intro (fun h0 => absurd (show (((u8P l).length : Nat) : Int) < (n : Int) from h0) (by omega)) (fun _ => ?_)
  intro _
  refine .inl ⟨inR_i64 (show _ ≤ (((u8P l).length : Nat) : Int) - (n : Int) ∧ (((u8P l).length : Nat) : Int) - (n : Int) ≤ _ by omega), ?_⟩
  refine And.intro (fun hs => ?_) (fun hs => ?_)
  · have hs' : (((u8P l).length : Nat) : Int) - (n : Int) < 2 := hs
    have c : l.length < n + 2 := by omega
    rw [show atI l n = iZ from if_pos c, show atE l n = 41 from if_pos c]
    (refine retE ?_; repeat' first | exact trivial | exact rfl | exact Iff.rfl | exact Or.inl rfl | refine And.intro ?_ ?_)
  have hs' : ¬ (((u8P l).length : Nat) : Int) - (n : Int) < 2 := hs
  have c : ¬ l.length < n + 2 := by omega
  refine ⟨[], no_rl, (halfAt_pure l n hl hm (by omega)).use (by repeat' first | exact trivial | exact rfl | exact Iff.rfl | exact Or.inl rfl | refine And.intro ?_ ?_) rfl rfl ?_⟩
  refine ⟨[], no_rl, (begins_pure (hN l n) (by unfold U32; omega)).use (by repeat' first | exact trivial | exact rfl | exact Iff.rfl | exact Or.inl rfl | refine And.intro ?_ ?_) rfl rfl ?_⟩
  refine And.intro (fun hb => ?_) (fun hb => ?_)
  · have hb' : ¬ beginsV (hN l n) := hb
    refine ⟨[], no_rl, (of_pure (hN l n) False (by unfold U32; omega)).use (And.intro rfl (And.intro (show ¬ False from id) trivial)) rfl rfl ?_⟩
    rw [show atI l n = ofI (hN l n) False by unfold atI; rw [if_neg c, if_pos hb'], show atE l n = ofE (hN l n) False by unfold atE; rw [if_neg c, if_pos hb']]
    (refine retE ?_; repeat' first | exact trivial | exact rfl | exact Iff.rfl | exact Or.inl rfl | refine And.intro ?_ ?_)
  have hb' : ¬ ¬ beginsV (hN l n) := hb
  intro _
  refine .inl ⟨inR_i64 (show _ ≤ (((u8P l).length : Nat) : Int) - (n : Int) ∧ (((u8P l).length : Nat) : Int) - (n : Int) ≤ _ by omega), ?_⟩
  refine And.intro (fun hs => ?_) (fun hs => ?_)
  · have hs' : (((u8P l).length : Nat) : Int) - (n : Int) < 4 := hs
    have c2 : l.length < n + 4 := by omega
    rw [show atI l n = iZ by unfold atI; rw [if_neg c, if_neg hb', if_pos c2], show atE l n = 41 by unfold atE; rw [if_neg c, if_neg hb', if_pos c2]]
    (refine retE ?_; repeat' first | exact trivial | exact rfl | exact Iff.rfl | exact Or.inl rfl | refine And.intro ?_ ?_)
  have hs' : ¬ (((u8P l).length : Nat) : Int) - (n : Int) < 4 := hs
  have c2 : ¬ l.length < n + 4 := by omega
  have e16 : Ev.pow2 .u32 16 = 65536 := by decide
  refine ⟨by decide, .inl ⟨inR_u32 (by rw [e16]; omega), ?_⟩⟩
  refine .inl ⟨inR_i64 (show _ ≤ (n : Int) + 2 ∧ (n : Int) + 2 ≤ _ by omega), ?_⟩
  refine ⟨[], no_rl, (halfAt_pure l (n + 2) hl hm (by omega)).use (by repeat' first | exact trivial | exact rfl | exact Iff.rfl | exact Or.inl rfl | refine And.intro ?_ ?_) rfl rfl ?_⟩
  refine ⟨[], no_rl, (of_pure (hW l n) True (hW_bd l hl n)).use (And.intro (hW_or l hl n) (And.intro (show True from trivial) trivial)) rfl rfl ?_⟩
  rw [show atI l n = ofI (hW l n) True by unfold atI; rw [if_neg c, if_neg hb', if_neg c2], show atE l n = ofE (hW l n) True by unfold atE; rw [if_neg c, if_neg hb', if_neg c2]]
  (refine retE ?_; repeat' first | exact trivial | exact rfl | exact Iff.rfl | exact Or.inl rfl | refine And.intro ?_ ?_)

end Go.Proofs.YtjcacjeoddnmhaaDoor.Pw

/- Chapter 8 over values: what is laid is read again; the document's example. -/
set_option linter.unusedVariables false
namespace Go.Proofs.YtjcacjeoddnmhaaDoor.Pw
open Go Go.RowKit

theorem getD_mid (p b q : List Int) (k : Nat) (h : k < b.length) : (p ++ b ++ q).getD (p.length + k) 0 = b.getD k 0 := by
  rw [List.getD_eq_getElem?_getD, List.getD_eq_getElem?_getD, List.append_assoc, List.getElem?_append_right (by omega), Nat.add_sub_cancel_left, List.getElem?_append_left h]
theorem byL_okA (i : IN) : BOk (byL i) := by
  intro z hz
  unfold byL at hz
  split at hz <;> simp only [List.mem_append, List.mem_cons, List.not_mem_nil, or_false, false_or] at hz <;> omega
/-- what is laid in the midst is read again -/
theorem at_mid (p q : List Int) (i : IN) (h : rightV i) (hg : i.regs ≤ 9223372036854775807) : atI (p ++ byL i ++ q) p.length = i ∧ atE (p ++ byL i ++ q) p.length = 0 := by
  have fst := of_word i h hg
  have bk := back i h hg
  have wb := word_bd i
  have tw := top_wide i h
  have tn := top_narrow i h
  have f1 := h.1
  unfold U32 at wb
  have g := getD_mid p (byL i) q
  have el0 : (p ++ byL i ++ q).length = p.length + (byL i).length + q.length := by rw [List.length_append, List.length_append]
  generalize hb0 : byL i = b at g el0 ⊢
  by_cases h48 : 48 ≤ i.form
  · have eb : b = [wordV i / 65536 % 256, wordV i / 16777216 % 256, wordV i % 256, wordV i / 256 % 256] := by rw [← hb0]; unfold byL; rw [if_pos h48]; rfl
    subst eb
    have el : (p ++ [wordV i / 65536 % 256, wordV i / 16777216 % 256, wordV i % 256, wordV i / 256 % 256] ++ q).length = p.length + 4 + q.length := el0
    generalize p ++ [wordV i / 65536 % 256, wordV i / 16777216 % 256, wordV i % 256, wordV i / 256 % 256] ++ q = l at g el ⊢
    have g0 := g 0 (by simp)
    have g1 := g 1 (by simp)
    have g2 := g 2 (by simp)
    have g3 := g 3 (by simp)
    have k0 : hN l p.length = wordV i / 65536 := by
      unfold hN
      rw [Nat.add_zero] at g0
      rw [g0, g1]
      show wordV i / 65536 % 256 + wordV i / 16777216 % 256 * 256 = _
      omega
    have k2 : hN l (p.length + 2) = wordV i % 65536 := by
      unfold hN
      rw [g2, g3]
      show wordV i % 256 + wordV i / 256 % 256 * 256 = _
      omega
    have kW : hW l p.length = wordV i := by unfold hW; rw [k0, k2]; omega
    have hb : ¬ ¬ beginsV (hN l p.length) := by
      have := tw h48
      rw [k0]; unfold beginsV; omega
    have e : (48 ≤ i.form) = True := eq_true h48
    rw [e] at fst
    unfold atI atE
    rw [if_neg (by omega), if_neg hb, if_neg (by omega), if_neg (by omega), if_neg hb, if_neg (by omega), kW, ofI_is fst, ofE_is fst, bk]
    exact ⟨rfl, rfl⟩
  · have eb : b = [wordV i % 256, wordV i / 256 % 256] := by rw [← hb0]; unfold byL; rw [if_neg h48]; rfl
    subst eb
    have el : (p ++ [wordV i % 256, wordV i / 256 % 256] ++ q).length = p.length + 2 + q.length := el0
    generalize p ++ [wordV i % 256, wordV i / 256 % 256] ++ q = l at g el ⊢
    have tn' := tn h48
    have g0 := g 0 (by simp)
    have g1 := g 1 (by simp)
    have k0 : hN l p.length = wordV i := by
      unfold hN
      rw [Nat.add_zero] at g0
      rw [g0, g1]
      show wordV i % 256 + wordV i / 256 % 256 * 256 = _
      omega
    have hb : ¬ beginsV (hN l p.length) := by rw [k0]; unfold beginsV; omega
    have e : (48 ≤ i.form) = False := eq_false h48
    rw [e] at fst
    unfold atI atE
    rw [if_neg (by omega), if_pos hb, if_neg (by omega), if_pos hb, k0, ofI_is fst, ofE_is fst, bk]
    exact ⟨rfl, rfl⟩

/-- the document's example -/
def ancL : List AI := [⟨3, iZ, 0, 1, 0⟩, ⟨1, nopI, 0, 0, 0⟩, ⟨2, iZ, -1, 1, 0⟩]
theorem anc_right : ∀ x ∈ ancL, rightA x := by
  intro x hx
  simp only [ancL, List.mem_cons, List.not_mem_nil, or_false] at hx
  have z : zI iZ := ⟨rfl, rfl, rfl, rfl, rfl, rfl, rfl, rfl, rfl, rfl, rfl⟩
  have m1 : mayV 1 := by unfold mayV; omega
  rcases hx with rfl | rfl | rfl
  · exact .inr (.inr (.inl ⟨rfl, z, ⟨rfl, rfl⟩, m1⟩))
  · exact .inl ⟨rfl, ⟨rfl, rfl, rfl⟩, nop_right, by decide⟩
  · exact .inr (.inl ⟨rfl, z, rfl, by decide, m1⟩)
theorem anc_io : ∀ x ∈ ancL, IOk x.inst ∧ I64 x.to_ := by
  intro x hx
  simp only [ancL, List.mem_cons, List.not_mem_nil, or_false] at hx
  have z : I64 0 := by unfold I64; omega
  rcases hx with rfl | rfl | rfl <;> exact ⟨lit_ok _ (by decide), z⟩
theorem anc_check : checkA ancL = 0 := by
  unfold checkA
  rw [if_neg (fun ⟨x, hx, h⟩ => h (anc_right x hx)), if_neg]
  rintro ⟨x, hx, h⟩
  unfold wrongA at h
  simp only [ancL, List.mem_cons, List.not_mem_nil, or_false] at hx
  have c1 : cntA ancL 1 = 1 := by decide
  rcases hx with rfl | rfl | rfl
  · rcases h with ⟨h, _⟩ | ⟨_, h⟩
    · exact absurd h (by decide)
    · exact absurd h (by rw [c1]; decide)
  · rcases h with ⟨h, _⟩ | ⟨h, _⟩ <;> exact absurd h (by decide)
  · rcases h with ⟨_, h⟩ | ⟨h, _⟩
    · exact h c1
    · exact absurd h (by decide)
theorem anc_go : goA ancL = some (some ([false, false, false], 1)) := by decide
def ancB : IN := ⟨47, 0, 0, 0, 0, -6, 0, 0, 0, 0, 0⟩
theorem ancB_right : rightV ancB := right_jump (f := 47) (s := 16) (i0 := -2048) (i1 := 2046) (i2 := 2) (cb := false) (by decide) rfl (by decide) (by decide) (span_even (by decide) (by decide)) (.inl rfl)
theorem anc_lay : layR ancL = .tup [laidP (byL nopI ++ byL ancB) [0, 0, 2] [0, 2, 2] 1, .int .i64 0] := by
  unfold layR
  rw [anc_check, if_neg (by decide), anc_go]
  show PV.tup [laidP (bytT ancL [false, false, false] 3) (atsA ancL [false, false, false]) (szsA ancL [false, false, false]) 1, .int .i64 0] = _
  have e1 : bytT ancL [false, false, false] 3 = byL nopI ++ byL ancB := by
    have i0 : insI ancL [false, false, false] 0 = [] := by rfl
    have i1 : insI ancL [false, false, false] 1 = [nopI] := by rfl
    have i2 : insI ancL [false, false, false] 2 = [ancB] := by rfl
    rw [bytT, bytT, bytT, bytT, i0, i1, i2]
    simp [bytI]
  rw [e1, show atsA ancL [false, false, false] = [0, 0, 2] by decide, show szsA ancL [false, false, false] = [0, 2, 2] by decide]
set_option maxHeartbeats 2000000 in
set_option maxRecDepth 10000 in
theorem anchor08_pure : PureF gT 7 [] .tt := by
  have hlay := lay_pure ancL (by decide) anc_io
  rw [anc_lay] at hlay
  have l2 : ∀ i : IN, i.form < 48 → (byL i).length = 2 := fun i h => by unfold byL; rw [if_neg (by omega)]; rfl
  have ln : (byL nopI).length = 2 := l2 nopI (by decide)
  have lb : (byL ancB).length = 2 := l2 ancB (by decide)
  have le : (byL nopI ++ byL ancB).length = 4 := by rw [List.length_append, ln, lb]
  have hown := at_mid (byL nopI) [] ancB ancB_right (by decide)
  rw [ln, List.append_nil] at hown
  have hat := at_in (byL nopI ++ byL ancB) 2 (fun z hz => (List.mem_append.1 hz).elim (byL_okA _ z) (byL_okA _ z)) (by rw [le]; decide) (by omega)
  rw [hown.1, hown.2] at hat
  generalize byL nopI ++ byL ancB = bs at hlay le hat
  have le' : (u8P bs).length = 4 := by rw [u8P, List.length_map, le]
  refine Spec.enter gTok P7 100 Tryd.func7 rfl (by kernel_rfl) ?_
  refine ⟨[], no_rl, (ahere_pure 1).use (by repeat' first | exact trivial | exact rfl | exact Iff.rfl | exact Or.inl rfl | refine And.intro ?_ ?_) rfl rfl ?_⟩
  refine ⟨[], no_rl, (ado_pure nopI).use (by repeat' first | exact trivial | exact rfl | exact Iff.rfl | exact Or.inl rfl | refine And.intro ?_ ?_) rfl rfl ?_⟩
  refine ⟨[], no_rl, (ago_pure (-1) 1).use (by repeat' first | exact trivial | exact rfl | exact Iff.rfl | exact Or.inl rfl | refine And.intro ?_ ?_) rfl rfl ?_⟩
  refine ⟨[], no_rl, hlay.useF [0] rfl (And.intro (Or.inl rfl) trivial) rfl rfl ?_⟩
  repeat' ((conv => whnf); first | (refine (And.intro (fun _ => ?_) (fun _ => ?_) : (_ → _) ∧ (_ → _)) <;> (first | (exfalso; first | contradiction | omega) | skip)) | refine Or.inl (And.intro (by first | exact inR_i64 (by omega) | exact inR_u32 (by omega) | exact inR_u64 (by omega) | exact inR_u8 (by omega)) ?_) | (refine And.intro (show (_ : Int) ≠ 0 by omega) (Or.inl (And.intro (show (0 : Int) ≤ _ by omega) (And.intro (show (0 : Int) < _ by omega) ?_)))) | (refine And.intro (show (_ : Int) ≠ 0 by omega) (Or.inl (And.intro (show (0 : Int) ≤ _ by omega) (And.intro (by first | exact (show (_ : Int) ≤ 9223372036854775807 by omega) | exact (show (_ : Int) ≤ 4294967295 by omega)) (And.intro (show (0 : Int) < _ by omega) ?_))))) | (refine ⟨[], no_rl, hat.use (by repeat' first | exact trivial | exact rfl | exact Iff.rfl | exact Or.inl rfl | refine And.intro ?_ ?_) rfl rfl ?_⟩) | (exfalso; first | contradiction | omega) | ((refine retE ?_; repeat' first | exact trivial | exact rfl | exact Iff.rfl | exact Or.inl rfl | refine And.intro ?_ ?_)) | (intro _))
/-- an item whose numbers are ints -/
structure AOk (x : AI) : Prop where
  inst : IOk x.inst
  kind : I64 x.kind
  cond : I64 x.cond
  label : I64 x.label
  to_ : I64 x.to_

end Go.Proofs.YtjcacjeoddnmhaaDoor.Pw

/- Chapter 8, plain: what is known of a program that is laid. -/
set_option linter.unusedVariables false
namespace Go.Proofs.YtjcacjeoddnmhaaDoor.Pw
open Go Go.RowKit

theorem bytes_mono {x : AI} (h : ItOk x) {w v : Bool} (hwv : w = true → v = true) {a b : Int} (ha : 0 ≤ a) (hab : a ≤ b) : a + bytesA x w a ≤ b + bytesA x v b := by
  unfold bytesA
  by_cases h1 : x.kind = 1
  · simp only [if_pos h1]; split <;> omega
  by_cases h2 : x.kind = 2
  · simp only [if_neg h1, if_pos h2]
    cases w with
    | true => rw [hwv rfl]; simp; omega
    | false => cases v <;> simp <;> omega
  by_cases h4 : x.kind = 4
  · simp only [if_neg h1, if_neg h2, if_pos h4]
    rcases h.to_ h4 with e | e | e <;> rw [e] <;> omega
  · simp only [if_neg h1, if_neg h2, if_neg h4]; omega
theorem endA_mono : ∀ {l : List AI} {W V : List Bool} {a b : Int}, (∀ x ∈ l, ItOk x) → W.length = l.length → V.length = l.length → (∀ i : Nat, W[i]? = some true → V[i]? = some true) → (0 ≤ a ∧ a % 2 = 0) → a ≤ b → endA l W a ≤ endA l V b
  | [], _, _, _, _, _, _, _, _, _, h => h
  | x :: l, [], _, _, _, _, h, _, _, _, _ => by cases h
  | x :: l, _ :: _, [], _, _, _, _, h, _, _, _ => by cases h
  | x :: l, w :: W, v :: V, a, b, hI, hW, hV, hwv, ha, hab => by
    have hx := hI x List.mem_cons_self
    have h1 := bytes_mono hx (w := w) (v := v) (fun e => by simpa using hwv 0 (by simpa using e)) ha.1 hab
    have h2 := bytesA_bd hx w ha
    exact endA_mono (l := l) (W := W) (V := V) (fun y hy => hI y (List.mem_cons_of_mem _ hy)) (by simpa using hW) (by simpa using hV) (fun i hi => by simpa using hwv (i + 1) (by simpa using hi)) (by omega) h1

/-- who has a wide jump has some bytes -/
def Wide200 (l : List AI) (W : List Bool) : Prop := (∃ i : Nat, W[i]? = some true) → 200 ≤ endA l W 0
theorem far_200 {l : List AI} {W : List Bool} (hW : W.length = l.length) (hI : ∀ x ∈ l, ItOk x) {i : Nat} {x : AI} (hi : i < l.length) (h : shortA x.cond (farA l W i x) = false) : 200 ≤ endA l W 0 := by
  have hb : farA l W i x < -256 ∨ 255 < farA l W i x := by
    unfold shortA at h
    split at h <;> (have := of_decide_eq_false h; omega)
  unfold farA at hb
  split at hb
  · rename_i k hk
    have hkl : k < l.length := (List.findIdx?_eq_some_iff_getElem.1 hk).1
    have e := atA_end (l := l) (W := W) hW (Nat.le_refl _)
    have m1 := atA_mono hW hI k l.length (by omega) (Nat.le_refl _)
    have m2 := atA_mono hW hI i l.length (by omega) (Nat.le_refl _)
    have b1 := atA_bd hW hI k (by omega)
    have b2 := atA_bd hW hI i (by omega)
    omega
  · omega
theorem Wide200.next {l : List AI} {W : List Bool} (hW : W.length = l.length) (hI : ∀ x ∈ l, ItOk x) (h : Wide200 l W) : Wide200 l (nextA l W) := by
  rintro ⟨i, hi⟩
  have hlt : i < l.length := by rw [← nextA_len hW]; exact (List.getElem?_eq_some_iff.1 hi).1
  have hm := endA_mono (a := 0) (b := 0) hI hW (nextA_len hW) (nextA_up hW) (by decide) (Int.le_refl _)
  have hw : W[i]? = some W[i] := List.getElem?_eq_getElem (by omega)
  rw [nextA_get (List.getElem?_eq_getElem hlt) hw] at hi
  have hi := Option.some.inj hi
  cases hwi : W[i] with
  | true => exact Int.le_trans (h ⟨i, by rw [hw, hwi]⟩) hm
  | false =>
    rw [hwi] at hi
    unfold nextB at hi
    simp only [Bool.false_or, Bool.and_eq_true, Bool.not_eq_true'] at hi
    exact Int.le_trans (far_200 hW hI hlt hi.2) hm
/-- which jumps are wide when a program has been laid, and how often it was laid -/
structure LaidW (l : List AI) (W : List Bool) : Prop where
  len : W.length = l.length
  fix : nextA l W = W
  big : endA l W 0 ≤ 65536
  wide : Wide200 l W
theorem layA_facts {l : List AI} (hI : ∀ x ∈ l, ItOk x) : ∀ {n : Nat} {W : List Bool} {r : Int} {W' : List Bool} {r' : Int}, W.length = l.length → Wide200 l W → layA l n W r = some (some (W', r')) → LaidW l W' ∧ r ≤ r' ∧ r' < r + n
  | 0, _, _, _, _, _, _, h => by cases h
  | n + 1, W, r, W', r', hW, h2, h => by
    rw [layA] at h
    split at h
    · cases h
    · rename_i hbig
      split at h
      · rename_i hfix
        have e := Option.some.inj (Option.some.inj h)
        obtain ⟨rfl, rfl⟩ := Prod.mk.inj e
        exact ⟨⟨hW, hfix, by omega, h2⟩, by omega, by omega⟩
      · obtain ⟨a, b, c⟩ := layA_facts hI (nextA_len hW) (h2.next hW hI) h
        exact ⟨a, by omega, by omega⟩
theorem wide_none (l : List AI) : Wide200 l (List.replicate l.length false) := by
  rintro ⟨i, hi⟩
  have := List.eq_of_mem_replicate (List.mem_of_getElem? hi)
  cases this
theorem goA_some (l : List AI) : ∃ o, goA l = some o := by
  have := layA_some l (l.length + 1) (List.replicate l.length false) 1 (by simp) (by rw [narrowN_all]; omega)
  unfold goA
  exact Option.isSome_iff_exists.1 this
theorem byL_l (i : IN) : (byL i).length = if 48 ≤ i.form then 4 else 2 := by
  unfold byL
  split <;> rfl
theorem bytI_nop (k : Nat) : (bytI (List.replicate k nopI)).length = 2 * k := by
  induction k with
  | zero => rfl
  | succ k ih =>
    have e : bytI (List.replicate (k + 1) nopI) = byL nopI ++ bytI (List.replicate k nopI) := by rw [List.replicate_succ]; rfl
    rw [e, List.length_append, ih, byL_l, if_neg (by decide)]; omega
theorem insts_bytes {x : AI} (hr : rightA x) (w : Bool) (n a : Int) (ha : 0 ≤ a ∧ a % 2 = 0) : ((bytI (instsA x w n (bytesA x w a))).length : Int) = bytesA x w a := by
  have hb := bytesA_bd (rightA_it hr) w ha
  have one : ∀ i : IN, bytI [i] = byL i := fun i => by unfold bytI; simp
  unfold instsA
  split
  · rename_i h1
    rw [one, byL_l]
    unfold bytesA
    rw [if_pos h1]
    split <;> split <;> omega
  split
  · rename_i h1 h2
    rw [one, byL_l]
    unfold bytesA branA
    rw [if_neg h1, if_pos h2]
    by_cases hc : x.cond < 0 <;> cases w <;> simp [hc]
  · rw [bytI_nop]; omega
theorem bytT_at {l : List AI} {W : List Bool} (hW : W.length = l.length) (hr : ∀ x ∈ l, rightA x) : ∀ i, i ≤ l.length → ((bytT l W i).length : Int) = atA l W i
  | 0, _ => rfl
  | i + 1, h => by
    have ih := bytT_at hW hr i (by omega)
    have hx : l[i]? = some l[i] := List.getElem?_eq_getElem (by omega)
    have hw : W[i]? = some W[i] := List.getElem?_eq_getElem (by omega)
    have hb := atA_bd hW (fun x hx => rightA_it (hr x hx)) i (by omega)
    have h2 := insts_bytes (hr l[i] (List.getElem_mem _)) W[i] (farA l W i l[i]) (atA l W i) ⟨hb.1, hb.2.2⟩
    rw [atA_succ hW hx hw, bytT, insI_eq hx hw, List.length_append, Int.natCast_add, ih, h2]
end Go.Proofs.YtjcacjeoddnmhaaDoor.Pw

/- What the laws of this claim are proved with, joined (join.py) of 9 texts: no condition. -/
import Derived.Test.YtnbngokbamifbaaGreatDoorNa24
import Derived.Test.YtnbngokbamifbaaGreatDoorNa23
import Derived.Test.YtnbngokbamifbaaGreatDoorNa14
import Derived.Test.YtnbngokbamifbaaGreatDoorNa16
set_option linter.unusedVariables false
set_option linter.unusedSimpArgs false

/- Chapter 4 over values: what stands at a place of bytes; CodeBytes. -/
namespace Go.Proofs.YtnbngokbamifbaaGreatDoor.Pw
open Go Go.RowKit

def BOk (l : List Int) : Prop := ∀ z ∈ l, 0 ≤ z ∧ z ≤ 255
theorem or_add_u32 (a b : Int) (k : Nat) (hk : k ≤ 24) (ha : 0 ≤ a ∧ a < 2 ^ k) (hb : 0 ≤ b ∧ b * 2 ^ k ≤ 4294967295) : bits .or .u32 a (b * 2 ^ k) = a + b * 2 ^ k ∧ bits .or .u32 (b * 2 ^ k) a = b * 2 ^ k + a := by
  have p := pow_bd k (by omega)
  have p2 : (2 : Int) ^ k ≤ 16777216 := by
    have h1 : (2 ^ k : Nat) ≤ 2 ^ 24 := Nat.pow_le_pow_right (by omega) hk
    have h3 := pow_cast k
    have h4 : (2 : Nat) ^ 24 = 16777216 := by decide
    omega
  obtain ⟨x, rfl⟩ : ∃ x : Nat, a = x := ⟨a.toNat, by omega⟩
  obtain ⟨y, rfl⟩ : ∃ y : Nat, b = y := ⟨b.toNat, by omega⟩
  have e : ((y : Int) * 2 ^ k) = ((2 ^ k * y : Nat) : Int) := by rw [Int.natCast_mul, pow_cast, Int.mul_comm]
  rw [e] at hb ⊢
  have hx : x < 2 ^ k := by have := pow_cast k; omega
  have h := or_low y x k hx
  constructor
  · rw [u32_or _ _ (by omega) (by omega) (by omega) (by omega), Int.toNat_natCast, Int.toNat_natCast, Nat.or_comm, ← h]; omega
  · rw [u32_or _ _ (by omega) (by omega) (by omega) (by omega), Int.toNat_natCast, Int.toNat_natCast, ← h]; omega
/-- two bytes as a half -/
def hN (l : List Int) (n : Nat) : Int := l.getD n 0 + l.getD (n + 1) 0 * 256
theorem getD_ok {l : List Int} (h : BOk l) (n : Nat) : 0 ≤ l.getD n 0 ∧ l.getD n 0 ≤ 255 := by
  rw [List.getD_eq_getElem?_getD]
  cases e : l[n]? with
  | none => exact ⟨Int.le_refl 0, by decide⟩
  | some z => exact h z (List.mem_of_getElem? e)
theorem hN_bd {l : List Int} (h : BOk l) (n : Nat) : 0 ≤ hN l n ∧ hN l n ≤ 65535 := by
  have a := getD_ok h n
  have b := getD_ok h (n + 1)
  unfold hN; omega
theorem getD_some {l : List Int} {n : Nat} {z : Int} (h : l[n]? = some z) : l.getD n 0 = z := by rw [List.getD_eq_getElem?_getD, h]; rfl
set_option maxHeartbeats 4000000 in
set_option maxRecDepth 100000 in
theorem halfAt_pure (l : List Int) (n : Nat) (hl : BOk l) (hm : l.length ≤ maxLen) (hn : n + 1 < l.length) : PureF gT 67 [.sl 1 (u8P l), .int .i64 n] (.int .u32 (hN l n)) := by
  have hm' : l.length ≤ 2 ^ 63 - 1 := hm
  have e8 : Ev.pow2 .u32 8 = 2 ^ 8 := by decide
  obtain ⟨a, ha⟩ : ∃ a, l[n]? = some a := ⟨_, List.getElem?_eq_getElem (by omega)⟩
  obtain ⟨b, hb⟩ : ∃ b, l[n + 1]? = some b := ⟨_, List.getElem?_eq_getElem (by omega)⟩
  have ab := hl a (List.mem_of_getElem? ha)
  have bb := hl b (List.mem_of_getElem? hb)
  have ea := getD_some ha
  have eb := getD_some hb
  refine Spec.enter gTok P67 100 Tryz.func67 rfl (by kernel_rfl) ?_
  repeat' (first
    | (refine ⟨Int, l, PV.int .u8, rfl, show (0 : Int) ≤ (n : Int) by omega, show (n : Int) < (l.length : Int) by omega, fun z hz => ?_⟩
       obtain rfl : a = z := Option.some.inj (ha.symm.trans hz))
    | (refine ⟨Int, l, PV.int .u8, rfl, show (0 : Int) ≤ (n : Int) + 1 by omega, show (n : Int) + 1 < (l.length : Int) by omega, fun z hz => ?_⟩
       obtain rfl : b = z := Option.some.inj (hb.symm.trans hz))
    | refine Or.inl (And.intro (inR_i64 (show _ ≤ (n : Int) + 1 ∧ (n : Int) + 1 ≤ _ by omega)) ?_)
    | refine Or.inl (And.intro (inR_u32 (show 0 ≤ a ∧ a ≤ _ by omega)) ?_)
    | refine Or.inl (And.intro (inR_u32 (show 0 ≤ b ∧ b ≤ _ by omega)) ?_)
    | refine And.intro (show (0 : Int) ≤ 8 by decide) (Or.inl (And.intro (inR_u32 (show 0 ≤ b * Ev.pow2 .u32 8 ∧ b * Ev.pow2 .u32 8 ≤ _ by rw [e8]; omega)) ?_))
    | exact rfl
    | exact trivial
    | (refine retE ?_
       show bits .or .u32 a (b * Ev.pow2 .u32 8) = hN l n
       rw [e8, (or_add_u32 a b 8 (by decide) (by omega) (by omega)).1, hN, ea, eb]
       rfl)
    | refine And.intro ?_ ?_)

/-! ### what stands at a place -/
def hW (l : List Int) (n : Nat) : Int := hN l n * 65536 + hN l (n + 2)
noncomputable def atI (l : List Int) (n : Nat) : IN := open Classical in
  if l.length < n + 2 then iZ else if ¬ beginsV (hN l n) then ofI (hN l n) False else if l.length < n + 4 then iZ else ofI (hW l n) True
noncomputable def atE (l : List Int) (n : Nat) : Int := open Classical in
  if l.length < n + 2 then 41 else if ¬ beginsV (hN l n) then ofE (hN l n) False else if l.length < n + 4 then 41 else ofE (hW l n) True
theorem hW_or (l : List Int) (hl : BOk l) (n : Nat) : bits .or .u32 (hN l n * Ev.pow2 .u32 16) (hN l (n + 2)) = hW l n := by
  have a := hN_bd hl n
  have b := hN_bd hl (n + 2)
  have e : Ev.pow2 .u32 16 = 2 ^ 16 := by decide
  rw [e, (or_add_u32 (hN l (n + 2)) (hN l n) 16 (by decide) (by omega) (by omega)).2]
  rfl
theorem hW_bd (l : List Int) (hl : BOk l) (n : Nat) : U32 (hW l n) := by
  have a := hN_bd hl n
  have b := hN_bd hl (n + 2)
  unfold hW U32; omega
set_option maxHeartbeats 8000000 in
set_option maxRecDepth 100000 in
theorem at_in (l : List Int) (n : Nat) (hl : BOk l) (hm : l.length ≤ maxLen) (hn : n ≤ l.length) : PureF gT 35 [.sl 1 (u8P l), .int .i64 n] (.tup [inP (atI l n), .int .i64 (atE l n)]) := by
  have el : (u8P l).length = l.length := List.length_map ..
  have hm' : l.length ≤ 2 ^ 63 - 1 := hm
  have h1 := hN_bd hl n
  have h2 := hN_bd hl (n + 2)
  refine Spec.enter gTok P35 100 Tryz.func35 rfl (by kernel_rfl) ?_
  refine And.intro (fun h0 => absurd (show (n : Int) < 0 from h0) (by omega)) (fun _ => ?_)
  intro _
  refine And.intro (fun h0 => absurd (show (((u8P l).length : Nat) : Int) < (n : Int) from h0) (by omega)) (fun _ => ?_)
  intro _
  refine .inl ⟨inR_i64 (show _ ≤ (((u8P l).length : Nat) : Int) - (n : Int) ∧ (((u8P l).length : Nat) : Int) - (n : Int) ≤ _ by omega), ?_⟩
  refine And.intro (fun hs => ?_) (fun hs => ?_)
  · have hs' : (((u8P l).length : Nat) : Int) - (n : Int) < 2 := hs
    have c : l.length < n + 2 := by omega
    rw [show atI l n = iZ from if_pos c, show atE l n = 41 from if_pos c]
    (refine retE ?_; repeat' first | exact trivial | exact rfl | exact Iff.rfl | exact Or.inl rfl | refine And.intro ?_ ?_)
  have hs' : ¬ (((u8P l).length : Nat) : Int) - (n : Int) < 2 := hs
  have c : ¬ l.length < n + 2 := by omega
  refine ⟨[], no_rl, (halfAt_pure l n hl hm (by omega)).use (by repeat' first | exact trivial | exact rfl | exact Iff.rfl | exact Or.inl rfl | refine And.intro ?_ ?_) rfl rfl ?_⟩
  refine ⟨[], no_rl, (begins_pure (hN l n) (by unfold U32; omega)).use (by repeat' first | exact trivial | exact rfl | exact Iff.rfl | exact Or.inl rfl | refine And.intro ?_ ?_) rfl rfl ?_⟩
  refine And.intro (fun hb => ?_) (fun hb => ?_)
  · have hb' : ¬ beginsV (hN l n) := hb
    refine ⟨[], no_rl, (of_pure (hN l n) False (by unfold U32; omega)).use (And.intro rfl (And.intro (show ¬ False from id) trivial)) rfl rfl ?_⟩
    rw [show atI l n = ofI (hN l n) False by unfold atI; rw [if_neg c, if_pos hb'], show atE l n = ofE (hN l n) False by unfold atE; rw [if_neg c, if_pos hb']]
    (refine retE ?_; repeat' first | exact trivial | exact rfl | exact Iff.rfl | exact Or.inl rfl | refine And.intro ?_ ?_)
  have hb' : ¬ ¬ beginsV (hN l n) := hb
  intro _
  refine .inl ⟨inR_i64 (show _ ≤ (((u8P l).length : Nat) : Int) - (n : Int) ∧ (((u8P l).length : Nat) : Int) - (n : Int) ≤ _ by omega), ?_⟩
  refine And.intro (fun hs => ?_) (fun hs => ?_)
  · have hs' : (((u8P l).length : Nat) : Int) - (n : Int) < 4 := hs
    have c2 : l.length < n + 4 := by omega
    rw [show atI l n = iZ by unfold atI; rw [if_neg c, if_neg hb', if_pos c2], show atE l n = 41 by unfold atE; rw [if_neg c, if_neg hb', if_pos c2]]
    (refine retE ?_; repeat' first | exact trivial | exact rfl | exact Iff.rfl | exact Or.inl rfl | refine And.intro ?_ ?_)
  have hs' : ¬ (((u8P l).length : Nat) : Int) - (n : Int) < 4 := hs
  have c2 : ¬ l.length < n + 4 := by omega
  have e16 : Ev.pow2 .u32 16 = 65536 := by decide
  refine ⟨by decide, .inl ⟨inR_u32 (by rw [e16]; omega), ?_⟩⟩
  refine .inl ⟨inR_i64 (show _ ≤ (n : Int) + 2 ∧ (n : Int) + 2 ≤ _ by omega), ?_⟩
  refine ⟨[], no_rl, (halfAt_pure l (n + 2) hl hm (by omega)).use (by repeat' first | exact trivial | exact rfl | exact Iff.rfl | exact Or.inl rfl | refine And.intro ?_ ?_) rfl rfl ?_⟩
  refine ⟨[], no_rl, (of_pure (hW l n) True (hW_bd l hl n)).use (And.intro (hW_or l hl n) (And.intro (show True from trivial) trivial)) rfl rfl ?_⟩
  rw [show atI l n = ofI (hW l n) True by unfold atI; rw [if_neg c, if_neg hb', if_neg c2], show atE l n = ofE (hW l n) True by unfold atE; rw [if_neg c, if_neg hb', if_neg c2]]
  (refine retE ?_; repeat' first | exact trivial | exact rfl | exact Iff.rfl | exact Or.inl rfl | refine And.intro ?_ ?_)

end Go.Proofs.YtnbngokbamifbaaGreatDoor.Pw

/- Chapter 8 over values: what is laid is read again; the document's example. -/
set_option linter.unusedVariables false
namespace Go.Proofs.YtnbngokbamifbaaGreatDoor.Pw
open Go Go.RowKit

theorem getD_mid (p b q : List Int) (k : Nat) (h : k < b.length) : (p ++ b ++ q).getD (p.length + k) 0 = b.getD k 0 := by
  rw [List.getD_eq_getElem?_getD, List.getD_eq_getElem?_getD, List.append_assoc, List.getElem?_append_right (by omega), Nat.add_sub_cancel_left, List.getElem?_append_left h]
theorem byL_okA (i : IN) : BOk (byL i) := by
  intro z hz
  unfold byL at hz
  split at hz <;> simp only [List.mem_append, List.mem_cons, List.not_mem_nil, or_false, false_or] at hz <;> omega
/-- what is laid in the midst is read again -/
theorem at_mid (p q : List Int) (i : IN) (h : rightV i) (hg : i.regs ≤ 9223372036854775807) : atI (p ++ byL i ++ q) p.length = i ∧ atE (p ++ byL i ++ q) p.length = 0 := by
  have fst := of_word i h hg
  have bk := back i h hg
  have wb := word_bd i
  have tw := top_wide i h
  have tn := top_narrow i h
  have f1 := h.1
  unfold U32 at wb
  have g := getD_mid p (byL i) q
  have el0 : (p ++ byL i ++ q).length = p.length + (byL i).length + q.length := by rw [List.length_append, List.length_append]
  generalize hb0 : byL i = b at g el0 ⊢
  by_cases h48 : 48 ≤ i.form
  · have eb : b = [wordV i / 65536 % 256, wordV i / 16777216 % 256, wordV i % 256, wordV i / 256 % 256] := by rw [← hb0]; unfold byL; rw [if_pos h48]; rfl
    subst eb
    have el : (p ++ [wordV i / 65536 % 256, wordV i / 16777216 % 256, wordV i % 256, wordV i / 256 % 256] ++ q).length = p.length + 4 + q.length := el0
    generalize p ++ [wordV i / 65536 % 256, wordV i / 16777216 % 256, wordV i % 256, wordV i / 256 % 256] ++ q = l at g el ⊢
    have g0 := g 0 (by simp)
    have g1 := g 1 (by simp)
    have g2 := g 2 (by simp)
    have g3 := g 3 (by simp)
    have k0 : hN l p.length = wordV i / 65536 := by
      unfold hN
      rw [Nat.add_zero] at g0
      rw [g0, g1]
      show wordV i / 65536 % 256 + wordV i / 16777216 % 256 * 256 = _
      omega
    have k2 : hN l (p.length + 2) = wordV i % 65536 := by
      unfold hN
      rw [g2, g3]
      show wordV i % 256 + wordV i / 256 % 256 * 256 = _
      omega
    have kW : hW l p.length = wordV i := by unfold hW; rw [k0, k2]; omega
    have hb : ¬ ¬ beginsV (hN l p.length) := by
      have := tw h48
      rw [k0]; unfold beginsV; omega
    have e : (48 ≤ i.form) = True := eq_true h48
    rw [e] at fst
    unfold atI atE
    rw [if_neg (by omega), if_neg hb, if_neg (by omega), if_neg (by omega), if_neg hb, if_neg (by omega), kW, ofI_is fst, ofE_is fst, bk]
    exact ⟨rfl, rfl⟩
  · have eb : b = [wordV i % 256, wordV i / 256 % 256] := by rw [← hb0]; unfold byL; rw [if_neg h48]; rfl
    subst eb
    have el : (p ++ [wordV i % 256, wordV i / 256 % 256] ++ q).length = p.length + 2 + q.length := el0
    generalize p ++ [wordV i % 256, wordV i / 256 % 256] ++ q = l at g el ⊢
    have tn' := tn h48
    have g0 := g 0 (by simp)
    have g1 := g 1 (by simp)
    have k0 : hN l p.length = wordV i := by
      unfold hN
      rw [Nat.add_zero] at g0
      rw [g0, g1]
      show wordV i % 256 + wordV i / 256 % 256 * 256 = _
      omega
    have hb : ¬ beginsV (hN l p.length) := by rw [k0]; unfold beginsV; omega
    have e : (48 ≤ i.form) = False := eq_false h48
    rw [e] at fst
    unfold atI atE
    rw [if_neg (by omega), if_pos hb, if_neg (by omega), if_pos hb, k0, ofI_is fst, ofE_is fst, bk]
    exact ⟨rfl, rfl⟩

/-- the document's example -/
def ancL : List AI := [⟨3, iZ, 0, 1, 0⟩, ⟨1, nopI, 0, 0, 0⟩, ⟨2, iZ, -1, 1, 0⟩]
theorem anc_right : ∀ x ∈ ancL, rightA x := by
  intro x hx
  simp only [ancL, List.mem_cons, List.not_mem_nil, or_false] at hx
  have z : zI iZ := ⟨rfl, rfl, rfl, rfl, rfl, rfl, rfl, rfl, rfl, rfl, rfl⟩
  have m1 : mayV 1 := by unfold mayV; omega
  rcases hx with rfl | rfl | rfl
  · exact .inr (.inr (.inl ⟨rfl, z, ⟨rfl, rfl⟩, m1⟩))
  · exact .inl ⟨rfl, ⟨rfl, rfl, rfl⟩, nop_right, by decide⟩
  · exact .inr (.inl ⟨rfl, z, rfl, by decide, m1⟩)
theorem anc_io : ∀ x ∈ ancL, IOk x.inst ∧ I64 x.to_ := by
  intro x hx
  simp only [ancL, List.mem_cons, List.not_mem_nil, or_false] at hx
  have z : I64 0 := by unfold I64; omega
  rcases hx with rfl | rfl | rfl <;> exact ⟨lit_ok _ (by decide), z⟩
theorem anc_check : checkA ancL = 0 := by
  unfold checkA
  rw [if_neg (fun ⟨x, hx, h⟩ => h (anc_right x hx)), if_neg]
  rintro ⟨x, hx, h⟩
  unfold wrongA at h
  simp only [ancL, List.mem_cons, List.not_mem_nil, or_false] at hx
  have c1 : cntA ancL 1 = 1 := by decide
  rcases hx with rfl | rfl | rfl
  · rcases h with ⟨h, _⟩ | ⟨_, h⟩
    · exact absurd h (by decide)
    · exact absurd h (by rw [c1]; decide)
  · rcases h with ⟨h, _⟩ | ⟨h, _⟩ <;> exact absurd h (by decide)
  · rcases h with ⟨_, h⟩ | ⟨h, _⟩
    · exact h c1
    · exact absurd h (by decide)
theorem anc_go : goA ancL = some (some ([false, false, false], 1)) := by decide
def ancB : IN := ⟨47, 0, 0, 0, 0, -6, 0, 0, 0, 0, 0⟩
theorem ancB_right : rightV ancB := right_jump (f := 47) (s := 16) (i0 := -2048) (i1 := 2046) (i2 := 2) (cb := false) (by decide) rfl (by decide) (by decide) (span_even (by decide) (by decide)) (.inl rfl)
theorem anc_lay : layR ancL = .tup [laidP (byL nopI ++ byL ancB) [0, 0, 2] [0, 2, 2] 1, .int .i64 0] := by
  unfold layR
  rw [anc_check, if_neg (by decide), anc_go]
  show PV.tup [laidP (bytT ancL [false, false, false] 3) (atsA ancL [false, false, false]) (szsA ancL [false, false, false]) 1, .int .i64 0] = _
  have e1 : bytT ancL [false, false, false] 3 = byL nopI ++ byL ancB := by
    have i0 : insI ancL [false, false, false] 0 = [] := by rfl
    have i1 : insI ancL [false, false, false] 1 = [nopI] := by rfl
    have i2 : insI ancL [false, false, false] 2 = [ancB] := by rfl
    rw [bytT, bytT, bytT, bytT, i0, i1, i2]
    simp [bytI]
  rw [e1, show atsA ancL [false, false, false] = [0, 0, 2] by decide, show szsA ancL [false, false, false] = [0, 2, 2] by decide]
set_option maxHeartbeats 2000000 in
set_option maxRecDepth 10000 in
theorem anchor08_pure : PureF gT 8 [] .tt := by
  have hlay := lay_pure ancL (by decide) anc_io
  rw [anc_lay] at hlay
  have l2 : ∀ i : IN, i.form < 48 → (byL i).length = 2 := fun i h => by unfold byL; rw [if_neg (by omega)]; rfl
  have ln : (byL nopI).length = 2 := l2 nopI (by decide)
  have lb : (byL ancB).length = 2 := l2 ancB (by decide)
  have le : (byL nopI ++ byL ancB).length = 4 := by rw [List.length_append, ln, lb]
  have hown := at_mid (byL nopI) [] ancB ancB_right (by decide)
  rw [ln, List.append_nil] at hown
  have hat := at_in (byL nopI ++ byL ancB) 2 (fun z hz => (List.mem_append.1 hz).elim (byL_okA _ z) (byL_okA _ z)) (by rw [le]; decide) (by omega)
  rw [hown.1, hown.2] at hat
  generalize byL nopI ++ byL ancB = bs at hlay le hat
  have le' : (u8P bs).length = 4 := by rw [u8P, List.length_map, le]
  refine Spec.enter gTok P8 100 Tryz.func8 rfl (by kernel_rfl) ?_
  refine ⟨[], no_rl, (ahere_pure 1).use (by repeat' first | exact trivial | exact rfl | exact Iff.rfl | exact Or.inl rfl | refine And.intro ?_ ?_) rfl rfl ?_⟩
  refine ⟨[], no_rl, (ado_pure nopI).use (by repeat' first | exact trivial | exact rfl | exact Iff.rfl | exact Or.inl rfl | refine And.intro ?_ ?_) rfl rfl ?_⟩
  refine ⟨[], no_rl, (ago_pure (-1) 1).use (by repeat' first | exact trivial | exact rfl | exact Iff.rfl | exact Or.inl rfl | refine And.intro ?_ ?_) rfl rfl ?_⟩
  refine ⟨[], no_rl, hlay.useF [0] rfl (And.intro (Or.inl rfl) trivial) rfl rfl ?_⟩
  repeat' ((conv => whnf); first | (refine (And.intro (fun _ => ?_) (fun _ => ?_) : (_ → _) ∧ (_ → _)) <;> (first | (exfalso; first | contradiction | omega) | skip)) | refine Or.inl (And.intro (by first | exact inR_i64 (by omega) | exact inR_u32 (by omega) | exact inR_u64 (by omega) | exact inR_u8 (by omega)) ?_) | (refine And.intro (show (_ : Int) ≠ 0 by omega) (Or.inl (And.intro (show (0 : Int) ≤ _ by omega) (And.intro (show (0 : Int) < _ by omega) ?_)))) | (refine And.intro (show (_ : Int) ≠ 0 by omega) (Or.inl (And.intro (show (0 : Int) ≤ _ by omega) (And.intro (by first | exact (show (_ : Int) ≤ 9223372036854775807 by omega) | exact (show (_ : Int) ≤ 4294967295 by omega)) (And.intro (show (0 : Int) < _ by omega) ?_))))) | (refine ⟨[], no_rl, hat.use (by repeat' first | exact trivial | exact rfl | exact Iff.rfl | exact Or.inl rfl | refine And.intro ?_ ?_) rfl rfl ?_⟩) | (exfalso; first | contradiction | omega) | ((refine retE ?_; repeat' first | exact trivial | exact rfl | exact Iff.rfl | exact Or.inl rfl | refine And.intro ?_ ?_)) | (intro _))
/-- an item whose numbers are ints -/
structure AOk (x : AI) : Prop where
  inst : IOk x.inst
  kind : I64 x.kind
  cond : I64 x.cond
  label : I64 x.label
  to_ : I64 x.to_

end Go.Proofs.YtnbngokbamifbaaGreatDoor.Pw

/- Chapter 8, plain: what is known of a program that is laid. -/
set_option linter.unusedVariables false
namespace Go.Proofs.YtnbngokbamifbaaGreatDoor.Pw
open Go Go.RowKit

theorem bytes_mono {x : AI} (h : ItOk x) {w v : Bool} (hwv : w = true → v = true) {a b : Int} (ha : 0 ≤ a) (hab : a ≤ b) : a + bytesA x w a ≤ b + bytesA x v b := by
  unfold bytesA
  by_cases h1 : x.kind = 1
  · simp only [if_pos h1]; split <;> omega
  by_cases h2 : x.kind = 2
  · simp only [if_neg h1, if_pos h2]
    cases w with
    | true => rw [hwv rfl]; simp; omega
    | false => cases v <;> simp <;> omega
  by_cases h4 : x.kind = 4
  · simp only [if_neg h1, if_neg h2, if_pos h4]
    rcases h.to_ h4 with e | e | e <;> rw [e] <;> omega
  · simp only [if_neg h1, if_neg h2, if_neg h4]; omega
theorem endA_mono : ∀ {l : List AI} {W V : List Bool} {a b : Int}, (∀ x ∈ l, ItOk x) → W.length = l.length → V.length = l.length → (∀ i : Nat, W[i]? = some true → V[i]? = some true) → (0 ≤ a ∧ a % 2 = 0) → a ≤ b → endA l W a ≤ endA l V b
  | [], _, _, _, _, _, _, _, _, _, h => h
  | x :: l, [], _, _, _, _, h, _, _, _, _ => by cases h
  | x :: l, _ :: _, [], _, _, _, _, h, _, _, _ => by cases h
  | x :: l, w :: W, v :: V, a, b, hI, hW, hV, hwv, ha, hab => by
    have hx := hI x List.mem_cons_self
    have h1 := bytes_mono hx (w := w) (v := v) (fun e => by simpa using hwv 0 (by simpa using e)) ha.1 hab
    have h2 := bytesA_bd hx w ha
    exact endA_mono (l := l) (W := W) (V := V) (fun y hy => hI y (List.mem_cons_of_mem _ hy)) (by simpa using hW) (by simpa using hV) (fun i hi => by simpa using hwv (i + 1) (by simpa using hi)) (by omega) h1

/-- who has a wide jump has some bytes -/
def Wide200 (l : List AI) (W : List Bool) : Prop := (∃ i : Nat, W[i]? = some true) → 200 ≤ endA l W 0
theorem far_200 {l : List AI} {W : List Bool} (hW : W.length = l.length) (hI : ∀ x ∈ l, ItOk x) {i : Nat} {x : AI} (hi : i < l.length) (h : shortA x.cond (farA l W i x) = false) : 200 ≤ endA l W 0 := by
  have hb : farA l W i x < -256 ∨ 255 < farA l W i x := by
    unfold shortA at h
    split at h <;> (have := of_decide_eq_false h; omega)
  unfold farA at hb
  split at hb
  · rename_i k hk
    have hkl : k < l.length := (List.findIdx?_eq_some_iff_getElem.1 hk).1
    have e := atA_end (l := l) (W := W) hW (Nat.le_refl _)
    have m1 := atA_mono hW hI k l.length (by omega) (Nat.le_refl _)
    have m2 := atA_mono hW hI i l.length (by omega) (Nat.le_refl _)
    have b1 := atA_bd hW hI k (by omega)
    have b2 := atA_bd hW hI i (by omega)
    omega
  · omega
theorem Wide200.next {l : List AI} {W : List Bool} (hW : W.length = l.length) (hI : ∀ x ∈ l, ItOk x) (h : Wide200 l W) : Wide200 l (nextA l W) := by
  rintro ⟨i, hi⟩
  have hlt : i < l.length := by rw [← nextA_len hW]; exact (List.getElem?_eq_some_iff.1 hi).1
  have hm := endA_mono (a := 0) (b := 0) hI hW (nextA_len hW) (nextA_up hW) (by decide) (Int.le_refl _)
  have hw : W[i]? = some W[i] := List.getElem?_eq_getElem (by omega)
  rw [nextA_get (List.getElem?_eq_getElem hlt) hw] at hi
  have hi := Option.some.inj hi
  cases hwi : W[i] with
  | true => exact Int.le_trans (h ⟨i, by rw [hw, hwi]⟩) hm
  | false =>
    rw [hwi] at hi
    unfold nextB at hi
    simp only [Bool.false_or, Bool.and_eq_true, Bool.not_eq_true'] at hi
    exact Int.le_trans (far_200 hW hI hlt hi.2) hm
/-- which jumps are wide when a program has been laid, and how often it was laid -/
structure LaidW (l : List AI) (W : List Bool) : Prop where
  len : W.length = l.length
  fix : nextA l W = W
  big : endA l W 0 ≤ 65536
  wide : Wide200 l W
theorem layA_facts {l : List AI} (hI : ∀ x ∈ l, ItOk x) : ∀ {n : Nat} {W : List Bool} {r : Int} {W' : List Bool} {r' : Int}, W.length = l.length → Wide200 l W → layA l n W r = some (some (W', r')) → LaidW l W' ∧ r ≤ r' ∧ r' < r + n
  | 0, _, _, _, _, _, _, h => by cases h
  | n + 1, W, r, W', r', hW, h2, h => by
    rw [layA] at h
    split at h
    · cases h
    · rename_i hbig
      split at h
      · rename_i hfix
        have e := Option.some.inj (Option.some.inj h)
        obtain ⟨rfl, rfl⟩ := Prod.mk.inj e
        exact ⟨⟨hW, hfix, by omega, h2⟩, by omega, by omega⟩
      · obtain ⟨a, b, c⟩ := layA_facts hI (nextA_len hW) (h2.next hW hI) h
        exact ⟨a, by omega, by omega⟩
theorem wide_none (l : List AI) : Wide200 l (List.replicate l.length false) := by
  rintro ⟨i, hi⟩
  have := List.eq_of_mem_replicate (List.mem_of_getElem? hi)
  cases this
theorem goA_some (l : List AI) : ∃ o, goA l = some o := by
  have := layA_some l (l.length + 1) (List.replicate l.length false) 1 (by simp) (by rw [narrowN_all]; omega)
  unfold goA
  exact Option.isSome_iff_exists.1 this
end Go.Proofs.YtnbngokbamifbaaGreatDoor.Pw

/- Chapter 8 over values: the document's: a program is laid. -/
set_option linter.unusedVariables false
namespace Go.Proofs.YtnbngokbamifbaaGreatDoor.Pw
open Go Go.RowKit

/-- do the first ones differ? -/
def difA (V W : List Bool) : Nat → Bool
  | 0 => false
  | i + 1 => difA V W i || (match V[i]?, W[i]? with
    | some v, some w => v != w
    | _, _ => false)
theorem dif_same {V W : List Bool} (hl : V.length = W.length) : ∀ i, difA V W i = false → ∀ j, j < i → V[j]? = W[j]?
  | 0, _, j, hj => by omega
  | i + 1, h, j, hj => by
    rw [difA, Bool.or_eq_false_iff] at h
    rcases Nat.lt_or_ge j i with hji | hji
    · exact dif_same hl i h.1 j hji
    · obtain rfl : j = i := by omega
      have h2 := h.2
      cases hv : V[j]? with
      | none => rw [List.getElem?_eq_none (by rw [← hl]; exact List.getElem?_eq_none_iff.1 hv)]
      | some v =>
        cases hw : W[j]? with
        | none => rw [List.getElem?_eq_none (by rw [hl]; exact List.getElem?_eq_none_iff.1 hw)] at hv; cases hv
        | some w =>
          rw [hv, hw] at h2
          have : v = w := by simpa using h2
          rw [this]
theorem dif_self (W : List Bool) : ∀ i, difA W W i = false
  | 0 => rfl
  | i + 1 => by
    rw [difA, dif_self W i]
    cases W[i]? <;> simp
theorem dif_end {V W : List Bool} (hl : V.length = W.length) : difA V W W.length = false ↔ V = W := by
  constructor
  · intro h
    refine List.ext_getElem? fun j => ?_
    rcases Nat.lt_or_ge j W.length with hj | hj
    · exact dif_same hl _ h j hj
    · rw [List.getElem?_eq_none (by omega), List.getElem?_eq_none hj]
  · rintro rfl; exact dif_self V _
theorem dif_step {V W : List Bool} {i : Nat} {v w : Bool} (hv : V[i]? = some v) (hw : W[i]? = some w) : difA V W (i + 1) = (difA V W i || v != w) := by rw [difA, hv, hw]
def bB (W : List Bool) : PBlk := ⟨.dyn, 4, 1, .w, true, bP W⟩
def bBr (W : List Bool) : PBlk := ⟨.dyn, 4, 1, .r, true, bP W⟩
theorem bP_len (W : List Bool) : (bP W).length = W.length := List.length_map ..
/-- what the document tells -/
def dres (is : List IN) (at_ : List Int) (r e : Int) : PV := .tup [.sl 11 (insP is), .sl 1 (intsP at_), .int .i64 r, .int .i64 e]
def doutA (l : List AI) : Option (Option (List Bool × Int)) → PV
  | some (some (W, r)) => dres (insT l W l.length) (offA l W) r 0
  | _ => dres [] [] 0 82
noncomputable def dlayR (l : List AI) : PV := if checkA l ≠ 0 then dres [] [] 0 (checkA l) else doutA l (goA l)
theorem dshort_E (c n : Int) : PureF gT 43 [.int .i64 c, .int .i64 n] (bE (shortA c n)) := by
  have h := dshort_pure c n
  cases hs : shortA c n with
  | true => rw [hs] at h; exact h.weak (leK_ok (x := .bool (true = true)) (y := .tt) rfl)
  | false => rw [hs] at h; exact h.weak (leK_ok (x := .bool (false = true)) (y := .ff) (show ¬ (false = true) by decide))
structure DlOk (l : List AI) (x : List Bool × Int × Nat) : Prop where
  W : x.1.length = l.length
  r : 0 ≤ x.2.1 ∧ x.2.1 + x.2.2 = l.length + 1
  n : narrowN x.1 < x.2.2
  go : goA l = layA l x.2.2 x.1 (x.2.1 + 1)
set_option maxHeartbeats 8000000 in
set_option maxRecDepth 10000 in
theorem dlay_pure (l : List AI) (hl : l.length ≤ 10000) (hio : ∀ x ∈ l, IOk x.inst) : PureF gT 11 [.sl 15 (l.map aiP)] (dlayR l) := by
  have el : (l.map aiP).length = l.length := List.length_map ..
  have hch := dcheck_pure l hl hio
  unfold dlayR
  obtain ⟨cv, hcv⟩ : ∃ c, checkA l = c := ⟨_, rfl⟩
  have hok := @checkA_ok l
  rw [hcv] at hch hok ⊢
  refine Spec.enter gTok P11 100 Tryz.func11 rfl (by kernel_rfl) ?_
  refine ⟨[], no_rl, hch.use (by repeat' first | exact trivial | exact rfl | exact Iff.rfl | exact Or.inl rfl | refine And.intro ?_ ?_) rfl rfl ?_⟩
  refine And.intro (fun hne => ?_) (fun hne => ?_)
  · have hne' : ¬ cv = 0 := hne
    rw [if_pos hne']
    refine ⟨[], no_rl, hch.use (by repeat' first | exact trivial | exact rfl | exact Iff.rfl | exact Or.inl rfl | refine And.intro ?_ ?_) rfl rfl ?_⟩
    (refine retE ?_; repeat' first | exact trivial | exact rfl | exact Iff.rfl | exact Or.inl rfl | refine And.intro ?_ ?_)
  have h0 : cv = 0 := Classical.not_not.1 hne
  rw [if_neg (not_not_intro h0)]
  obtain ⟨hr, hc⟩ := hok h0
  have hI : ∀ x ∈ l, ItOk x := fun x hx => rightA_it (hr x hx)
  obtain ⟨res, hres⟩ : ∃ res, doutA l (goA l) = res := ⟨_, rfl⟩
  rw [hres]
  refine fun hm => ?_
  have eN : 1 * (l.map aiP).length ≤ 281474976710656 := by omega
  refine pmakeN_ok gTok ?_
  refine ⟨(l.map aiP).length, rfl, rfl, rfl, rfl, eN, hm, ?_⟩
  refine SW.loopX gTok P11 (by kernel_rfl) (α := {x : List Bool × Int × Nat // DlOk l x}) (fun x => [(0, .sl 15 (l.map aiP)), (6, .wref 0), (7, .int .i64 x.1.2.1)]) (fun x => [bB x.1.1]) (fun x => x.1.2.2) ⟨(List.replicate l.length false, 0, l.length + 1), ⟨by simp, ⟨Int.le_refl _, by show (0 : Int) + ((l.length + 1 : Nat) : Int) = _; omega⟩, by show narrowN (List.replicate l.length false) < l.length + 1; rw [narrowN_all]; omega, rfl⟩⟩ 60 [some 0] ?_ ?_
  · repeat' first | exact trivial | exact rfl | exact Iff.rfl | refine And.intro ?_ ?_
    all_goals exact (show List.replicate (l.map aiP).length PV.ff = bP (List.replicate l.length false) by rw [el]; unfold bP; rw [List.map_replicate]; rfl)
  rintro ⟨⟨W, r, n⟩, hx⟩
  obtain ⟨hW, hr1, hn, hgo⟩ := hx
  simp only at hW hr1 hn hgo
  obtain ⟨n, rfl⟩ : ∃ m, n = m + 1 := ⟨n - 1, by omega⟩
  have hof := doffsets_pure hW hI hl
  have hol := offA_len l W
  have gl := offA_get (l := l) (W := W) (i := l.length) (Nat.le_refl _)
  rw [atA_end hW (Nat.le_refl _)] at gl
  have hV := nextA_len hW
  rw [layA] at hgo
  refine .inl ⟨inR_i64 (show _ ≤ r + 1 ∧ r + 1 ≤ _ by omega), ?_⟩
  refine ⟨[], no_rl, hof.useF [0] rfl (And.intro (by repeat' first | exact trivial | exact rfl | exact Iff.rfl | exact Or.inl rfl | refine And.intro ?_ ?_) (And.intro rfl trivial)) rfl rfl ?_⟩
  refine fun hm2 => ?_
  refine ⟨Int, offA l W, PV.int .i64, rfl, show (0 : Int) ≤ (((l.map aiP).length : Nat) : Int) by omega, show (((l.map aiP).length : Nat) : Int) < ((offA l W).length : Int) by rw [el, hol]; omega, fun v hv => ?_⟩
  have hv' : (offA l W)[l.length]? = some v := by rw [← hv]; congr 1; rw [el]; rfl
  obtain rfl : endA l W 0 = v := Option.some.inj (gl.symm.trans hv')
  refine And.intro (fun hbig => ?_) (fun hbig => ?_)
  · have hbig' : 65536 < endA l W 0 := hbig
    rw [if_pos hbig'] at hgo
    rw [← hres, hgo]
    (refine retE ?_; repeat' first | exact trivial | exact rfl | exact Iff.rfl | exact Or.inl rfl | refine And.intro ?_ ?_)
  have hbig' : ¬ 65536 < endA l W 0 := hbig
  rw [if_neg hbig'] at hgo
  refine fun hm3 => ?_
  refine pmakeN_ok gTok ?_
  refine ⟨(l.map aiP).length, rfl, rfl, rfl, rfl, eN, hm3, ?_⟩
  have hVW : (nextA l W).length = (List.replicate l.length false).length := by rw [hV, List.length_replicate]
  refine SW.loopX gTok P11 (by kernel_rfl) (α := {x : Nat × Bool // x.1 ≤ l.length ∧ difA (nextA l W) W x.1 = x.2}) (fun x => [(0, .sl 15 (l.map aiP)), (6, .wref 0), (7, .int .i64 (r + 1)), (8, .sl 1 (intsP (offA l W))), (9, bE x.1.2), (10, .wref 1), (11, .int .i64 x.1.1)]) (fun x => [bBr W, bB (mixL (nextA l W) (List.replicate l.length false) x.1.1)]) (fun x => l.length - x.1.1) ⟨(0, false), Nat.zero_le _, rfl⟩ 60 [some 0, some 1] ?_ ?_
  · repeat' first | exact trivial | exact rfl | exact Iff.rfl | refine And.intro ?_ ?_
    all_goals exact (show List.replicate (l.map aiP).length PV.ff = bP (mixL (nextA l W) (List.replicate l.length false) 0) by rw [mix_none, el]; unfold bP; rw [List.map_replicate]; rfl)
  rintro ⟨⟨i, b⟩, hi, hdb⟩
  simp only at hi hdb
  cases b
  all_goals
   refine fun hm4 => ?_
   refine And.intro (fun h => ?_) (fun h => ?_)
   · have h' : (i : Int) < ((l.map aiP).length : Nat) := h
     rw [el] at h'
     obtain ⟨x, hx⟩ : ∃ x, l[i]? = some x := ⟨_, List.getElem?_eq_getElem (by omega)⟩
     obtain ⟨w, hw⟩ : ∃ w, W[i]? = some w := ⟨_, List.getElem?_eq_getElem (by omega)⟩
     have hv' := nextA_get hx hw
     have hfar := dfar_pure hW hI hl hx
     have hsh := dshort_E x.cond (farA l W i x)
     have hml := mix_len hVW i
     have hmg := mix_set hVW hv'
     have hmn := mix_get (old := List.replicate l.length false) (show i < (nextA l W).length by omega)
     rw [hv'] at hmn
     have hds := dif_step hv' hw
     have bi0 : (0 : Int) ≤ (i : Int) := by omega
     have bi1 : (i : Int) < (l.length : Int) := by omega
     have biW : (i : Int) < (((bP W).length : Nat) : Int) := by rw [bP_len]; omega
     have bnW : (i : Int).toNat < W.length := by omega
     have emx : (mixL (nextA l W) (List.replicate l.length false) i).length = l.length := by rw [hml, List.length_replicate]
     have emx2 : (mixL (nextA l W) (List.replicate l.length false) (i + 1)).length = l.length := by rw [mix_len hVW, List.length_replicate]
     have biM : (i : Int) < (((bP (mixL (nextA l W) (List.replicate l.length false) i)).length : Nat) : Int) := by rw [bP_len]; omega
     have bnM : (i : Int).toNat < (bP (mixL (nextA l W) (List.replicate l.length false) i)).length := by rw [bP_len]; omega
     have bir := inR_i64 (show _ ≤ (i : Int) + 1 ∧ (i : Int) + 1 ≤ _ by omega)
     have bmu : l.length - (i + 1) < l.length - i := by omega
     refine ⟨bi0, biW, Bool, W, bE, rfl, bnW, fun v hv => ?_⟩
     obtain rfl : w = v := Option.some.inj (hw.symm.trans hv)
     have eset : ∀ v : Bool, nextB l W i x w = v → (bP (mixL (nextA l W) (List.replicate l.length false) i)).set (i : Int).toNat (bE v) = bP (mixL (nextA l W) (List.replicate l.length false) (i + 1)) := fun v e => by rw [← hmg, e]; unfold bP; rw [List.map_set]; rfl
     have biM2 : ∀ y : PV, (i : Int) < ((((bP (mixL (nextA l W) (List.replicate l.length false) i)).set (i : Int).toNat y).length : Nat) : Int) := fun y => by rw [List.length_set, bP_len]; omega
     have bnM2 : (i : Int).toNat < (mixL (nextA l W) (List.replicate l.length false) (i + 1)).length := by omega
     cases w
     · have hb2 : x.kind = 2 → nextB l W i x false = !shortA x.cond (farA l W i x) := fun h => by unfold nextB; rw [decide_eq_true h]; simp
       have hb0 : ¬ x.kind = 2 → nextB l W i x false = false := fun h => by unfold nextB; rw [decide_eq_false h]; simp
       refine ⟨AI, l, aiP, rfl, bi0, bi1, fun x' hx2 => ?_⟩; obtain rfl : x = x' := Option.some.inj (hx.symm.trans hx2)
       refine And.intro (fun k2 => ?_) (fun k2 => ?_)
       · have e0 := hb2 k2
         refine ⟨AI, l, aiP, rfl, bi0, bi1, fun x' hx2 => ?_⟩; obtain rfl : x = x' := Option.some.inj (hx.symm.trans hx2)
         refine ⟨[], no_rl, hfar.use (And.intro rfl (And.intro rfl (And.intro rfl trivial))) rfl rfl ?_⟩
         cases hs : shortA x.cond (farA l W i x) with
         | true =>
           rw [hs] at hsh e0
           refine ⟨[], no_rl, hsh.use (by repeat' first | exact trivial | exact rfl | exact Iff.rfl | exact Or.inl rfl | refine And.intro ?_ ?_) rfl rfl ?_⟩
           have e1 : nextB l W i x false = false := e0
           rw [e1] at hds hmn
           refine ⟨bi0, biM, bnM, ?_⟩
           first
             | (refine ⟨bi0, biM2 _, bi0, biW, Bool, mixL (nextA l W) (List.replicate l.length false) (i + 1), bE, eset false e1, bnM2, fun v hv => ?_⟩
                obtain rfl : false = v := Option.some.inj (hmn.symm.trans hv)
                refine ⟨Bool, W, bE, rfl, bnW, fun v hv => ?_⟩
                obtain rfl : false = v := Option.some.inj (hw.symm.trans hv)
                refine .inl ⟨bir, ⟨⟨(i + 1, false), by omega, by rw [hds, hdb]; rfl⟩, [some 0, some 1], bmu, ?_⟩⟩)
             | refine .inl ⟨bir, ⟨⟨(i + 1, true), by omega, by rw [hds, hdb]; rfl⟩, [some 0, some 1], bmu, ?_⟩⟩
           repeat' first | exact trivial | exact rfl | exact Iff.rfl | exact eset false e1 | exact (fun h => h Iff.rfl : ¬ ¬ (True ↔ True)) | exact (fun h => h Iff.rfl : ¬ ¬ (False ↔ False)) | exact (fun h => h.1 trivial : ¬ (True ↔ False)) | refine And.intro ?_ ?_
         | false =>
           rw [hs] at hsh e0
           refine ⟨[], no_rl, hsh.use (by repeat' first | exact trivial | exact rfl | exact Iff.rfl | exact Or.inl rfl | refine And.intro ?_ ?_) rfl rfl ?_⟩
           have e1 : nextB l W i x false = true := e0
           rw [e1] at hds hmn
           refine ⟨bi0, biM, bnM, ?_⟩
           first
             | (refine ⟨bi0, biM2 _, bi0, biW, Bool, mixL (nextA l W) (List.replicate l.length false) (i + 1), bE, eset true e1, bnM2, fun v hv => ?_⟩
                obtain rfl : true = v := Option.some.inj (hmn.symm.trans hv)
                refine ⟨Bool, W, bE, rfl, bnW, fun v hv => ?_⟩
                obtain rfl : false = v := Option.some.inj (hw.symm.trans hv)
                refine .inl ⟨bir, ⟨⟨(i + 1, true), by omega, by rw [hds, hdb]; rfl⟩, [some 0, some 1], bmu, ?_⟩⟩)
             | refine .inl ⟨bir, ⟨⟨(i + 1, true), by omega, by rw [hds, hdb]; rfl⟩, [some 0, some 1], bmu, ?_⟩⟩
           repeat' first | exact trivial | exact rfl | exact Iff.rfl | exact eset true e1 | exact (fun h => h Iff.rfl : ¬ ¬ (True ↔ True)) | exact (fun h => h Iff.rfl : ¬ ¬ (False ↔ False)) | exact (fun h => h.1 trivial : ¬ (True ↔ False)) | refine And.intro ?_ ?_
       · have e1 := hb0 k2
         rw [e1] at hds hmn
         refine ⟨bi0, biM, bnM, ?_⟩
         first
           | (refine ⟨bi0, biM2 _, bi0, biW, Bool, mixL (nextA l W) (List.replicate l.length false) (i + 1), bE, eset false e1, bnM2, fun v hv => ?_⟩
              obtain rfl : false = v := Option.some.inj (hmn.symm.trans hv)
              refine ⟨Bool, W, bE, rfl, bnW, fun v hv => ?_⟩
              obtain rfl : false = v := Option.some.inj (hw.symm.trans hv)
              refine .inl ⟨bir, ⟨⟨(i + 1, false), by omega, by rw [hds, hdb]; rfl⟩, [some 0, some 1], bmu, ?_⟩⟩)
           | refine .inl ⟨bir, ⟨⟨(i + 1, true), by omega, by rw [hds, hdb]; rfl⟩, [some 0, some 1], bmu, ?_⟩⟩
         repeat' first | exact trivial | exact rfl | exact Iff.rfl | exact eset false e1 | exact (fun h => h Iff.rfl : ¬ ¬ (True ↔ True)) | exact (fun h => h Iff.rfl : ¬ ¬ (False ↔ False)) | exact (fun h => h.1 trivial : ¬ (True ↔ False)) | refine And.intro ?_ ?_
     · have e1 : nextB l W i x true = true := rfl
       rw [e1] at hds hmn
       refine ⟨bi0, biM, bnM, ?_⟩
       first
         | (refine ⟨bi0, biM2 _, bi0, biW, Bool, mixL (nextA l W) (List.replicate l.length false) (i + 1), bE, eset true e1, bnM2, fun v hv => ?_⟩
            obtain rfl : true = v := Option.some.inj (hmn.symm.trans hv)
            refine ⟨Bool, W, bE, rfl, bnW, fun v hv => ?_⟩
            obtain rfl : true = v := Option.some.inj (hw.symm.trans hv)
            refine .inl ⟨bir, ⟨⟨(i + 1, false), by omega, by rw [hds, hdb]; rfl⟩, [some 0, some 1], bmu, ?_⟩⟩)
         | refine .inl ⟨bir, ⟨⟨(i + 1, true), by omega, by rw [hds, hdb]; rfl⟩, [some 0, some 1], bmu, ?_⟩⟩
       repeat' first | exact trivial | exact rfl | exact Iff.rfl | exact eset true e1 | exact (fun h => h Iff.rfl : ¬ ¬ (True ↔ True)) | exact (fun h => h Iff.rfl : ¬ ¬ (False ↔ False)) | exact (fun h => h.1 trivial : ¬ (True ↔ False)) | refine And.intro ?_ ?_
  · have h' : ¬ (i : Int) < ((l.map aiP).length : Nat) := h
    rw [el] at h'
    obtain rfl : i = l.length := by omega
    have hde := dif_end (hV.trans hW.symm)
    rw [hW, hdb] at hde
    have hmx : mixL (nextA l W) (List.replicate l.length false) l.length = nextA l W := mix_all hVW (by rw [List.length_replicate]; omega)
    have heq := hde.1 rfl
    rw [if_pos heq] at hgo
    refine ⟨[], no_rl, (dinsts_pure hW hr hl).useF [0] rfl (And.intro (by repeat' first | exact trivial | exact rfl | exact Iff.rfl | exact Or.inl rfl | refine And.intro ?_ ?_) (And.intro rfl (And.intro (by repeat' first | exact trivial | exact rfl | exact Iff.rfl | exact Or.inl rfl | refine And.intro ?_ ?_) trivial))) rfl rfl ?_⟩
    rw [← hres, hgo]
    exact retE (by repeat' first | exact trivial | exact rfl | exact Iff.rfl | exact Or.inl rfl | refine And.intro ?_ ?_)
  · have h' : ¬ (i : Int) < ((l.map aiP).length : Nat) := h
    rw [el] at h'
    obtain rfl : i = l.length := by omega
    have hde := dif_end (hV.trans hW.symm)
    rw [hW, hdb] at hde
    have hmx : mixL (nextA l W) (List.replicate l.length false) l.length = nextA l W := mix_all hVW (by rw [List.length_replicate]; omega)
    have hne : nextA l W ≠ W := fun e => by have := hde.2 e; cases this
    rw [if_neg hne] at hgo
    have hless := nextA_less hW hne
    refine ⟨⟨(nextA l W, r + 1, n), ⟨hV, by simp only; omega, by simp only; omega, hgo⟩⟩, [some 1], show n < n + 1 by omega, ?_⟩
    repeat' first | exact trivial | exact rfl | exact Iff.rfl | refine And.intro ?_ ?_
    all_goals exact (show bP (mixL (nextA l W) (List.replicate l.length false) l.length) = bP (nextA l W) by rw [hmx])

end Go.Proofs.YtnbngokbamifbaaGreatDoor.Pw

/- Chapter 8 over values: the document's: instructions' bytes. -/
set_option linter.unusedVariables false
namespace Go.Proofs.YtnbngokbamifbaaGreatDoor.Pw
open Go Go.RowKit

def byB (cs : List PV) : PBlk := ⟨.dyn, 5, 1, .w, true, cs⟩
theorem wb_right {i : IN} (h : rightV i) (hi : IOk i) : WB i := fun k hk => by
  have := right_bd h ((hi i.regs (by simp [inLs])).2) k hk
  omega
theorem u8R {z : Int} (h : 0 ≤ z) (h2 : z ≤ 255) : InR .u8 z := ⟨h, h2⟩
theorem bytI_snoc {l : List IN} {k : Nat} {i : IN} (h : l[k]? = some i) : bytI (l.take (k + 1)) = bytI (l.take k) ++ byL i := by
  rw [List.take_add_one, h, bytI_app]; simp [bytI]
set_option maxHeartbeats 4000000 in
set_option maxRecDepth 10000 in
theorem dbytes_pure (l : List IN) (hl : l.length ≤ 100000) (hr : ∀ i ∈ l, rightV i ∧ IOk i) : PureF gT 12 [.sl 11 (insP l)] (.sl 1 (u8P (bytI l))) := by
  have el : (insP l).length = l.length := List.length_map ..
  refine Spec.enter gTok P12 100 Tryz.func12 rfl (by kernel_rfl) ?_
  refine SW.loopX gTok P12 (by kernel_rfl) (fun k : Nat => [(0, .sl 11 (insP l)), (3, .wref 0), (4, .int .i64 k)]) (fun k => [byB (u8P (bytI (l.take k)))]) (fun k => l.length - k) 0 60 [none] ?_ fun k => ?_
  · repeat' first | exact trivial | exact rfl | exact Iff.rfl | refine And.intro ?_ ?_
  refine fun hm => ?_
  refine And.intro (fun h => ?_) (fun h => ?_)
  · have h' : (k : Int) < ((insP l).length : Nat) := h
    rw [el] at h'
    obtain ⟨i, hi⟩ : ∃ i, l[k]? = some i := ⟨_, List.getElem?_eq_getElem (by omega)⟩
    obtain ⟨ri, oi⟩ := hr i (List.mem_of_getElem? hi)
    have hw := word_pure i (oi i.form (by simp [inLs])) (wb_right ri oi)
    have wb := word_bd i
    unfold U32 at wb
    have hs := bytI_snoc hi
    have hbl := bytI_len (l.take k)
    rw [List.length_take] at hbl
    have bk0 : (0 : Int) ≤ (k : Int) := by omega
    have bk1 : (k : Int) < (l.length : Int) := by omega
    have ebl : (u8P (bytI (l.take k))).length = (bytI (l.take k)).length := List.length_map ..
    refine ⟨IN, l, inP, rfl, bk0, bk1, fun i' hi2 => ?_⟩; obtain rfl : i = i' := Option.some.inj (hi.symm.trans hi2)
    refine ⟨[], no_rl, hw.use (by repeat' first | exact trivial | exact rfl | exact Iff.rfl | exact Or.inl rfl | refine And.intro ?_ ?_) rfl rfl ?_⟩
    refine ⟨IN, l, inP, rfl, bk0, bk1, fun i' hi2 => ?_⟩; obtain rfl : i = i' := Option.some.inj (hi.symm.trans hi2)
    refine And.intro (fun hf => ?_) (fun hf => ?_)
    · have hf' : 47 < i.form := hf
      have eb : byL i = [wordV i / 65536 % 256, wordV i / 16777216 % 256, wordV i % 256, wordV i / 256 % 256] := by unfold byL; rw [if_pos (show 48 ≤ i.form by omega)]; rfl
      have e24 : wordV i / 16777216 = wordV i / 16777216 % 256 := by omega
      rw [eb] at hs
      generalize wordV i = w at hs wb e24
      refine And.intro (show (65536 : Int) ≠ 0 by decide) (.inl ⟨wb.1, show w ≤ 4294967295 from wb.2, show (0 : Int) < 65536 by decide, ?_⟩)
      refine And.intro (show (256 : Int) ≠ 0 by decide) (.inl ⟨show 0 ≤ w / 65536 by omega, show (0 : Int) < 256 by decide, ?_⟩)
      refine .inl ⟨u8R (by omega) (by omega), ?_⟩
      refine And.intro (show (16777216 : Int) ≠ 0 by decide) (.inl ⟨wb.1, show w ≤ 4294967295 from wb.2, show (0 : Int) < 16777216 by decide, ?_⟩)
      refine .inl ⟨u8R (by omega) (by omega), ?_⟩
      refine ⟨show (u8P (bytI (l.take k))).length + 2 ≤ maxLen by rw [ebl]; unfold maxLen; omega, show ((u8P (bytI (l.take k))).length + 2) * 1 ≤ 140737488355328 by rw [ebl]; omega, ?_⟩
      refine And.intro (show (256 : Int) ≠ 0 by decide) (.inl ⟨wb.1, show (0 : Int) < 256 by decide, ?_⟩)
      refine .inl ⟨u8R (by omega) (by omega), ?_⟩
      refine And.intro (show (256 : Int) ≠ 0 by decide) (.inl ⟨wb.1, show w ≤ 4294967295 from wb.2, show (0 : Int) < 256 by decide, ?_⟩)
      refine And.intro (show (256 : Int) ≠ 0 by decide) (.inl ⟨show 0 ≤ w / 256 by omega, show (0 : Int) < 256 by decide, ?_⟩)
      refine .inl ⟨u8R (by omega) (by omega), ?_⟩
      have e2l : (u8P (bytI (l.take k)) ++ [PV.int .u8 (w / 65536 % 256), PV.int .u8 (w / 16777216)]).length = (bytI (l.take k)).length + 2 := by rw [List.length_append, ebl]; rfl
      refine ⟨show (u8P (bytI (l.take k)) ++ [PV.int .u8 (w / 65536 % 256), PV.int .u8 (w / 16777216)]).length + 2 ≤ maxLen by rw [e2l]; unfold maxLen; omega, show ((u8P (bytI (l.take k)) ++ [PV.int .u8 (w / 65536 % 256), PV.int .u8 (w / 16777216)]).length + 2) * 1 ≤ 140737488355328 by rw [e2l]; omega, ?_⟩
      refine .inl ⟨inR_i64 (show _ ≤ (k : Int) + 1 ∧ (k : Int) + 1 ≤ _ by omega), ⟨k + 1, [some 4], show l.length - (k + 1) < l.length - k by omega, ?_⟩⟩
      repeat' first | exact trivial | exact rfl | exact Iff.rfl | refine And.intro ?_ ?_
      all_goals exact (show (u8P (bytI (l.take k)) ++ [PV.int .u8 (w / 65536 % 256), PV.int .u8 (w / 16777216)]) ++ [.int .u8 (w % 256), .int .u8 (w / 256 % 256)] = u8P (bytI (l.take (k + 1))) by rw [hs, u8P_app, ← e24, List.append_assoc]; rfl)
    · have hf' : ¬ 47 < i.form := hf
      have eb : byL i = [wordV i % 256, wordV i / 256 % 256] := by unfold byL; rw [if_neg (show ¬ 48 ≤ i.form by omega)]; rfl
      rw [eb] at hs
      generalize wordV i = w at hs wb
      refine And.intro (show (256 : Int) ≠ 0 by decide) (.inl ⟨wb.1, show (0 : Int) < 256 by decide, ?_⟩)
      refine .inl ⟨u8R (by omega) (by omega), ?_⟩
      refine And.intro (show (256 : Int) ≠ 0 by decide) (.inl ⟨wb.1, show w ≤ 4294967295 from wb.2, show (0 : Int) < 256 by decide, ?_⟩)
      refine And.intro (show (256 : Int) ≠ 0 by decide) (.inl ⟨show 0 ≤ w / 256 by omega, show (0 : Int) < 256 by decide, ?_⟩)
      refine .inl ⟨u8R (by omega) (by omega), ?_⟩
      refine ⟨show (u8P (bytI (l.take k))).length + 2 ≤ maxLen by rw [ebl]; unfold maxLen; omega, show ((u8P (bytI (l.take k))).length + 2) * 1 ≤ 140737488355328 by rw [ebl]; omega, ?_⟩
      refine .inl ⟨inR_i64 (show _ ≤ (k : Int) + 1 ∧ (k : Int) + 1 ≤ _ by omega), ⟨k + 1, [some 2], show l.length - (k + 1) < l.length - k by omega, ?_⟩⟩
      repeat' first | exact trivial | exact rfl | exact Iff.rfl | refine And.intro ?_ ?_
      all_goals exact (show u8P (bytI (l.take k)) ++ [.int .u8 (w % 256), .int .u8 (w / 256 % 256)] = u8P (bytI (l.take (k + 1))) by rw [hs, u8P_app]; rfl)
  · have h' : ¬ (k : Int) < ((insP l).length : Nat) := h
    rw [el] at h'
    rw [List.take_of_length_le (by omega)]
    exact retE (by repeat' first | exact trivial | exact rfl | exact Iff.rfl | exact Or.inl rfl | refine And.intro ?_ ?_)

end Go.Proofs.YtnbngokbamifbaaGreatDoor.Pw

/- Chapter 8 over values: items, each one again and again. -/
set_option linter.unusedVariables false
namespace Go.Proofs.YtnbngokbamifbaaGreatDoor.Pw
open Go Go.RowKit

/-- how often an item stands -/
def nA (x : AI) (t : Int) : Nat := if x.kind = 1 then (max (min t 300) 1).toNat else 1
def allA (l : List AI) (t : Int) : List AI := l.flatMap fun x => List.replicate (nA x t) x
theorem nA_bd (x : AI) (t : Int) : 1 ≤ nA x t ∧ nA x t ≤ 300 := by unfold nA; split <;> omega
theorem allA_len (l : List AI) (t : Int) : (allA l t).length ≤ 300 * l.length := by
  unfold allA
  induction l with
  | nil => simp
  | cons x l ih =>
    have := nA_bd x t
    rw [List.flatMap_cons, List.length_append, List.length_replicate, List.length_cons]; omega
theorem allA_mem {l : List AI} {t : Int} {x : AI} (h : x ∈ allA l t) : x ∈ l := by
  unfold allA at h
  obtain ⟨y, hy, h⟩ := List.mem_flatMap.1 h
  rw [List.eq_of_mem_replicate h]; exact hy
theorem allA_snoc {l : List AI} {t : Int} {i : Nat} {x : AI} (hx : l[i]? = some x) : allA (l.take (i + 1)) t = allA (l.take i) t ++ List.replicate (nA x t) x := by
  unfold allA
  rw [List.take_add_one, hx, List.flatMap_append]
  simp
def aB (l : List AI) : PBlk := ⟨.dyn, 85, 15, .w, true, l.map aiP⟩
def dB8 (l : List AI) : PBlk := ⟨.dyn, 94, 15, .w, true, l.map aiP⟩
def xB (x : AI) : PBlk := ⟨.loc, 85, 1, .w, true, aiFs x⟩
theorem aiP_snoc (l : List AI) (k : Nat) (x : AI) : (l ++ List.replicate k x).map aiP ++ [aiP x] = (l ++ List.replicate (k + 1) x).map aiP := by
  rw [List.replicate_succ', ← List.append_assoc, List.map_append (l₁ := l ++ List.replicate k x)]; rfl
set_option maxHeartbeats 4000000 in
set_option maxRecDepth 10000 in
theorem all_pure (l : List AI) (t : Int) (hl : l.length ≤ 30) : PureF gT 9 [.sl 15 (l.map aiP), .int .i64 t] (.tup [.sl 15 ((allA l t).map aiP), .sl 15 ((allA l t).map aiP)]) := by
  have el : (l.map aiP).length = l.length := List.length_map ..
  refine Spec.enter gTok P9 100 Tryz.func9 rfl (by kernel_rfl) ?_
  refine fun hm => ?_
  refine SW.loopX gTok P9 (by kernel_rfl) (fun i : Nat => [(1, .int .i64 t), (6, .wref 0), (7, .wref 1), (11, .sl 15 (l.map aiP)), (12, .int .i64 (l.map aiP).length), (13, .int .i64 i)]) (fun i => [aB (allA (l.take i) t), dB8 (allA (l.take i) t)]) (fun i => l.length - i) 0 60 [none, none] ?_ fun i => ?_
  · repeat' first | exact trivial | exact rfl | exact Iff.rfl | refine And.intro ?_ ?_
  refine And.intro (fun h => ?_) (fun h => ?_)
  · have h' : (i : Int) < ((l.map aiP).length : Nat) := h
    rw [el] at h'
    refine ⟨AI, l, aiP, rfl, show (0 : Int) ≤ (i : Int) by omega, show (i : Int) < (l.length : Int) by omega, fun x hx => ?_⟩
    have hx' : l[i]? = some x := hx
    have hs := allA_snoc (t := t) hx'
    have hn := nA_bd x t
    have hln := allA_len (l.take i) t
    have htl : (l.take i).length ≤ 30 := by rw [List.length_take]; omega
    generalize allA (l.take i) t = A at hs hln ⊢
    have ho := aof_pure x
    have hnk1 : x.kind = 1 → max (min t 300) 1 = ((nA x t : Nat) : Int) := fun e => by unfold nA; rw [if_pos e]; omega
    have hnk2 : ¬ x.kind = 1 → (1 : Int) = ((nA x t : Nat) : Int) := fun e => by unfold nA; rw [if_neg e]; rfl
    refine And.intro (fun k1 => ?_) (fun k1 => ?_)
    all_goals
      refine SW.loopX gTok P9 (by kernel_rfl) (α := {k : Nat // k ≤ nA x t}) (fun k => [(1, .int .i64 t), (6, .wref 0), (7, .wref 1), (9, .ptr 2 0), (11, .sl 15 (l.map aiP)), (12, .int .i64 (l.map aiP).length), (13, .int .i64 i), (23, .int .i64 (nA x t : Nat)), (24, .int .i64 k.1)]) (fun k => [aB (A ++ List.replicate k.1 x), dB8 (A ++ List.replicate k.1 x), xB x]) (fun k => nA x t - k.1) ⟨0, Nat.zero_le _⟩ 60 [some 0, some 1, some 2] ?_ ?_
      · repeat' first | exact trivial | exact rfl | exact Iff.rfl | refine And.intro ?_ ?_
        all_goals first | exact hnk1 k1 | exact hnk2 k1 | exact (show A.map aiP = (A ++ List.replicate 0 x).map aiP by rw [List.replicate_zero, List.append_nil])
      rintro ⟨k, hkn⟩
      have eA : ((A ++ List.replicate k x).map aiP).length = A.length + k := by rw [List.length_map, List.length_append, List.length_replicate]
      have b1 : ((A ++ List.replicate k x).map aiP).length + 1 ≤ maxLen := by rw [eA]; unfold maxLen; omega
      have b2 : (((A ++ List.replicate k x).map aiP).length + 1) * 120 ≤ 140737488355328 := by rw [eA]; omega
      refine And.intro (fun hk => ?_) (fun hk => ?_)
      · have hk' : (k : Int) < ((nA x t : Nat) : Int) := hk
        refine ⟨b1, b2, ?_⟩
        refine ⟨[], no_rl, ho.use (by repeat' first | exact trivial | exact rfl | exact Iff.rfl | exact Or.inl rfl | refine And.intro ?_ ?_) rfl rfl ?_⟩
        refine ⟨b1, b2, ?_⟩
        refine .inl ⟨inR_i64 (show _ ≤ (k : Int) + 1 ∧ (k : Int) + 1 ≤ _ by omega), ⟨⟨k + 1, by omega⟩, [some 4, some 6, some 2], show nA x t - (k + 1) < nA x t - k by omega, ?_⟩⟩
        repeat' first | exact trivial | exact rfl | exact Iff.rfl | refine And.intro ?_ ?_
        all_goals exact aiP_snoc A k x
      · have hk' : ¬ (k : Int) < ((nA x t : Nat) : Int) := hk
        obtain rfl : k = nA x t := by omega
        refine .inl ⟨inR_i64 (show _ ≤ (i : Int) + 1 ∧ (i : Int) + 1 ≤ _ by omega), ⟨i + 1, [some 0, some 1], show l.length - (i + 1) < l.length - i by omega, ?_⟩⟩
        repeat' first | exact trivial | exact rfl | exact Iff.rfl | refine And.intro ?_ ?_
        all_goals exact (show (A ++ List.replicate (nA x t) x).map aiP = (allA (l.take (i + 1)) t).map aiP by rw [hs])
  · have h' : ¬ (i : Int) < ((l.map aiP).length : Nat) := h
    rw [el] at h'
    rw [List.take_of_length_le (by omega)]
    exact retE (by repeat' first | exact trivial | exact rfl | exact Iff.rfl | exact Or.inl rfl | refine And.intro ?_ ?_)

end Go.Proofs.YtnbngokbamifbaaGreatDoor.Pw

/- AsmLays over values. -/
set_option linter.unusedVariables false
namespace Go.Proofs.YtnbngokbamifbaaGreatDoor.Pw
open Go Go.RowKit

theorem both_cases (l : List AI) : (∃ e : Int, e ≠ 0 ∧ layR l = .tup [noLaid, .int .i64 e] ∧ dlayR l = dres [] [] 0 e) ∨
    ∃ (W : List Bool) (r : Int), LaidW l W ∧ (∀ x ∈ l, rightA x) ∧ layR l = .tup [laidP (bytT l W l.length) (atsA l W) (szsA l W) r, .int .i64 0] ∧ dlayR l = dres (insT l W l.length) (offA l W) r 0 := by
  by_cases hc : checkA l = 0
  · obtain ⟨hr, h1⟩ := checkA_ok hc
    obtain ⟨o, ho⟩ := goA_some l
    have e : layR l = outA l (goA l) := by unfold layR; rw [if_neg (not_not_intro hc)]
    have e2 : dlayR l = doutA l (goA l) := by unfold dlayR; rw [if_neg (not_not_intro hc)]
    rw [ho] at e e2
    cases o with
    | none => exact .inl ⟨82, by decide, e, e2⟩
    | some p =>
      obtain ⟨W, r⟩ := p
      unfold goA at ho
      obtain ⟨a, b, c⟩ := layA_facts (fun x hx => rightA_it (hr x hx)) (by simp) (wide_none l) ho
      exact .inr ⟨W, r, a, hr, e, e2⟩
  · exact .inl ⟨checkA l, hc, by unfold layR; rw [if_pos hc], by unfold dlayR; rw [if_pos hc]⟩
theorem insT_all {l : List AI} {W : List Bool} {p : IN → Prop} (h : ∀ i, ∀ y ∈ insI l W i, p y) : ∀ {n : Nat}, ∀ y ∈ insT l W n, p y
  | 0, y, hy => by simp [insT] at hy
  | n + 1, y, hy => by
    rw [insT, List.mem_append] at hy
    exact hy.elim (insT_all h y) (h n y)
set_option maxHeartbeats 8000000 in
set_option maxRecDepth 10000 in
theorem AsmLays_pure (l : List AI) (hA : ∀ x ∈ l, AOk x) (t : Int) : PureF gT 3 [.sl 15 (l.map aiP), .int .i64 t] .tt := by
  have el : (l.map aiP).length = l.length := List.length_map ..
  refine Spec.enter gTok P3 100 Tryz.func3 rfl (by kernel_rfl) ?_
  refine ⟨[], no_rl, anchor08_pure.use (by repeat' first | exact trivial | exact rfl | exact Iff.rfl | exact Or.inl rfl | refine And.intro ?_ ?_) rfl rfl ?_⟩
  refine fun hm => ?_
  refine And.intro (fun h30 => ?_) (fun h30 => ?_)
  · (refine retE ?_; repeat' first | exact trivial | exact rfl | exact Iff.rfl | exact Or.inl rfl | refine And.intro ?_ ?_)
  have h30' : ¬ (30 : Int) < ((l.map aiP).length : Nat) := h30
  rw [el] at h30'
  refine ⟨[], no_rl, (all_pure l t (by omega)).use (by repeat' first | exact trivial | exact rfl | exact Iff.rfl | exact Or.inl rfl | refine And.intro ?_ ?_) rfl rfl ?_⟩
  have hn := allA_len l t
  have hmem : ∀ x ∈ allA l t, AOk x := fun x hx => hA x (allA_mem hx)
  generalize allA l t = a at hn hmem ⊢
  have hal : a.length ≤ 9000 := by omega
  have ea : (a.map aiP).length = a.length := List.length_map ..
  have hlay := lay_pure a (by omega) fun x hx => ⟨(hmem x hx).inst, (hmem x hx).to_⟩
  have hdl := dlay_pure a (by omega) fun x hx => (hmem x hx).inst
  rcases both_cases a with ⟨e, he, hR, hD⟩ | ⟨W, r, hW, hri, hR, hD⟩
  · rw [hR] at hlay
    rw [hD] at hdl
    refine ⟨[], no_rl, hlay.use (by repeat' first | exact trivial | exact rfl | exact Iff.rfl | exact Or.inl rfl | refine And.intro ?_ ?_) rfl rfl ?_⟩
    refine ⟨[], no_rl, hdl.use (by repeat' first | exact trivial | exact rfl | exact Iff.rfl | exact Or.inl rfl | refine And.intro ?_ ?_) rfl rfl ?_⟩
    refine And.intro (fun h => absurd rfl h) (fun _ => ?_)
    refine And.intro (fun h => absurd rfl h) (fun _ => ?_)
    refine And.intro (fun h => ?_) (fun h => absurd he h)
    refine fun hm2 => ?_
    refine And.intro (fun _ => ?_) (fun h => absurd rfl h)
    refine fun hm3 => ?_
    refine retE ?_
    exact rfl
  · rw [hR] at hlay
    rw [hD] at hdl
    refine ⟨[], no_rl, hlay.use (by repeat' first | exact trivial | exact rfl | exact Iff.rfl | exact Or.inl rfl | refine And.intro ?_ ?_) rfl rfl ?_⟩
    refine ⟨[], no_rl, hdl.use (by repeat' first | exact trivial | exact rfl | exact Iff.rfl | exact Or.inl rfl | refine And.intro ?_ ?_) rfl rfl ?_⟩
    refine And.intro (fun h => absurd rfl h) (fun _ => ?_)
    refine And.intro (fun h => absurd rfl h) (fun _ => ?_)
    refine And.intro (fun h => absurd rfl h) (fun _ => ?_)
    -- region 12 and the loop are lacking
    have hin : ∀ y ∈ insT a W a.length, rightV y ∧ IOk y := insT_all fun i y hy => insI_right hW.len hri (fun x hx => (hmem x hx).inst) (by omega) hW.fix i y hy
    have hil := insT_len hri hW.len a.length
    have hby := dbytes_pure (insT a W a.length) (by omega) hin
    rw [← bytT_ins] at hby
    have e1 : (intsP (atsA a W)).length = (a.map aiP).length := by rw [ea]; exact (List.length_map ..).trans (atsA_len a W)
    have e2 : (intsP (szsA a W)).length = (a.map aiP).length := by rw [ea]; exact (List.length_map ..).trans (szsA_len a W)
    have e1i : (((intsP (atsA a W)).length : Nat) : Int) = (((a.map aiP).length : Nat) : Int) := by rw [e1]
    have e2i : (((intsP (szsA a W)).length : Nat) : Int) = (((a.map aiP).length : Nat) : Int) := by rw [e2]
    generalize hB : bytT a W a.length = B at hby ⊢
    refine pstr_ok gTok ?_
    refine ⟨rfl, B, rfl, ?_⟩
    refine ⟨[], no_rl, hby.use (by repeat' first | exact trivial | exact rfl | exact Iff.rfl | exact Or.inl rfl | refine And.intro ?_ ?_) rfl rfl ?_⟩
    refine pstr_ok gTok ?_
    refine ⟨rfl, B, rfl, ?_⟩
    conv => whnf
    rw [beq_self_eq_true]
    refine fun hm2 => ?_
    refine fun hm3 => ?_
    refine And.intro (fun h => absurd e1i h) (fun _ => ?_)
    refine fun hm4 => ?_
    refine fun hm5 => ?_
    refine And.intro ?_ ?_
    · refine And.intro (fun h => absurd e2i h) (fun _ => ?_)
      have hatl : (atsA a W).length = a.length := atsA_len a W
      have hszl : (szsA a W).length = a.length := szsA_len a W
      have hofl : (offA a W).length = a.length + 1 := offA_len a W
      refine fun hm6 => ?_
      refine SW.loopX gTok P3 (by kernel_rfl) (fun i : Nat => [(5, .sl 15 (a.map aiP)), (7, .ptr 0 0), (10, .sl 1 (intsP (offA a W))), (81, .sl 15 (a.map aiP)), (82, .int .i64 (a.map aiP).length), (83, .int .i64 i)]) (fun i => [⟨.loc, 30, 1, .w, true, [.sl 1 (u8P B), .sl 1 (intsP (atsA a W)), .sl 1 (intsP (szsA a W)), .int .i64 r]⟩]) (fun i => a.length - i) 0 60 [some 0] ?_ fun i => ?_
      · repeat' first | exact trivial | exact rfl | exact Iff.rfl | refine And.intro ?_ ?_
      refine And.intro (fun h => ?_) (fun h => ?_)
      · have h' : (i : Int) < ((a.map aiP).length : Nat) := h
        rw [ea] at h'
        have hb0 := atA_bd hW.len (fun x hx => rightA_it (hri x hx)) i (by omega)
        have hb1 := atA_bd hW.len (fun x hx => rightA_it (hri x hx)) (i + 1) (by omega)
        have bk0 : (0 : Int) ≤ (i : Int) := by omega
        repeat' (first
          | (refine ⟨Int, atsA a W, PV.int .i64, rfl, bk0, show (i : Int) < ((atsA a W).length : Nat) by rw [hatl]; omega, fun v hv => ?_⟩
             obtain rfl : atA a W i = v := Option.some.inj ((atsA_get (by omega)).symm.trans hv))
          | (refine ⟨Int, szsA a W, PV.int .i64, rfl, bk0, show (i : Int) < ((szsA a W).length : Nat) by rw [hszl]; omega, fun v hv => ?_⟩
             obtain rfl : atA a W (i + 1) - atA a W i = v := Option.some.inj ((szsA_get (by omega)).symm.trans hv))
          | (refine ⟨Int, offA a W, PV.int .i64, rfl, bk0, show (i : Int) < ((offA a W).length : Nat) by rw [hofl]; omega, fun v hv => ?_⟩
             obtain rfl : atA a W i = v := Option.some.inj ((offA_get (by omega)).symm.trans hv))
          | (refine ⟨Int, offA a W, PV.int .i64, rfl, show (0 : Int) ≤ (i : Int) + 1 by omega, show (i : Int) + 1 < ((offA a W).length : Nat) by rw [hofl]; omega, fun v hv => ?_⟩
             obtain rfl : atA a W (i + 1) = v := Option.some.inj ((offA_get (by omega)).symm.trans hv))
          | refine Or.inl (And.intro (inR_i64 (show _ ≤ (i : Int) + 1 ∧ (i : Int) + 1 ≤ _ by omega)) ?_)
          | refine Or.inl (And.intro (inR_i64 (show _ ≤ atA a W (i + 1) - atA a W i ∧ atA a W (i + 1) - atA a W i ≤ _ by omega)) ?_)
          | refine And.intro (fun h => absurd rfl h) (fun _ => ?_))
        refine ⟨i + 1, [some 0], show a.length - (i + 1) < a.length - i by omega, ?_⟩
        repeat' first | exact trivial | exact rfl | exact Iff.rfl | refine And.intro ?_ ?_
      · refine retE ?_
        exact trivial
    · repeat' ((try (conv => whnf)); first
        | exact trivial
        | exact rfl
        | (refine pstr_ok gTok ?_; refine ⟨rfl, B, rfl, ?_⟩)
        | refine ⟨[], no_rl, hby.use (by repeat' first | exact trivial | exact rfl | exact Iff.rfl | exact Or.inl rfl | refine And.intro ?_ ?_) rfl rfl ?_⟩
        | (rw [beq_self_eq_true])
        | refine And.intro (fun h => absurd e1i h) (fun _ => ?_)
        | refine And.intro (fun h => absurd e2i h) (fun _ => ?_)
        | (refine fun _ => ?_)
        | refine And.intro ?_ ?_)
      all_goals (conv => whnf)

end Go.Proofs.YtnbngokbamifbaaGreatDoor.Pw

/- What comes in to chapter 8's laws, opened. -/
set_option linter.unusedVariables false
namespace Go.Proofs.YtnbngokbamifbaaGreatDoor.Pw
open Go Go.RowKit

def SItem (x : PV) : Prop := ∃ a : AI, AOk a ∧ x = aiP a
theorem item_dec (x : PV) (h : SAgg [SInt .i64, SIN, SInt .i64, SInt .i64, SInt .i64] x) : SItem x := by
  obtain ⟨xs, h, rfl⟩ := h
  obtain ⟨_, _, rfl, ⟨k, bk, rfl⟩, h_1⟩ := all2_cons h
  obtain ⟨_, _, rfl, ⟨i, hi, rfl⟩, h_2⟩ := all2_cons h_1
  obtain ⟨_, _, rfl, ⟨c, bc, rfl⟩, h_3⟩ := all2_cons h_2
  obtain ⟨_, _, rfl, ⟨l, bl, rfl⟩, h_4⟩ := all2_cons h_3
  obtain ⟨_, _, rfl, ⟨t, bt, rfl⟩, h_5⟩ := all2_cons h_4
  obtain rfl := all2_nil h_5
  exact ⟨⟨k, i, c, l, t⟩, ⟨hi, inR_i64c bk, inR_i64c bc, inR_i64c bl, inR_i64c bt⟩, rfl⟩
theorem opItem_ : Op Tryz.prog 85 (SAgg [SInt .i64, SIN, SInt .i64, SInt .i64, SInt .i64]) :=
  opAgg (Ss := [SInt .i64, SIN, SInt .i64, SInt .i64, SInt .i64]) Tryz.underlying85
    ⟨rfl, opI64c, (show _ = _ by kernel_rfl), opIN, (show _ = _ by kernel_rfl), opI64c, (show _ = _ by kernel_rfl), opI64c, (show _ = _ by kernel_rfl), opI64c, (show _ = _ by kernel_rfl)⟩
theorem opItem : Op Tryz.prog 85 SItem := opItem_.weak item_dec
abbrev SItems := SLs 15 120 aiP AOk
theorem opItems : Op Tryz.prog 22 SItems :=
  opList (opSlice opItem 15 120 (by kernel_rfl) Tryz.underlying22 (by kernel_rfl) (by decide) (by kernel_rfl)) fun x ⟨a, h, e⟩ => ⟨a, h, e⟩

end Go.Proofs.YtnbngokbamifbaaGreatDoor.Pw

/- AsmLays as its frame wants it. -/
namespace Go.Proofs.YtnbngokbamifbaaGreatDoor.Pw
open Go Go.RowKit

theorem AsmLays_pure' (x : PV) (s : SItems x) (y : PV) (t : SInt .i64 y) : PureF gT 3 [x, y] .tt := by
  obtain ⟨l, h1, h2, rfl⟩ := s
  obtain ⟨n, hn, rfl⟩ := t
  exact AsmLays_pure l h2 n

end Go.Proofs.YtnbngokbamifbaaGreatDoor.Pw

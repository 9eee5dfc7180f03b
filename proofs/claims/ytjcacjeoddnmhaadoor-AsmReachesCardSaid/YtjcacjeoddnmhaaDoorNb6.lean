/- What the laws of this claim are proved with, joined (join.py) of 16 texts: no condition. -/
import Derived.Test.YtjcacjeoddnmhaaDoorNb5
set_option linter.unusedVariables false
set_option linter.unusedSimpArgs false

/- Chapter 4 over values: the document's fields of each shape, as known numbers (by gen_tu.py). -/
namespace Go.Proofs.YtjcacjeoddnmhaaDoor.Pw
open Go Go.RowKit

/-- a contract whose result says less -/
theorem PureF.weak {G : Gx} {f : FuncId} {args : List PV} {r r' : PV} (h : PureF G f args r) (hle : PLe r r') : PureF G f args r' := by
  refine Spec.intro h.run.1 fun I β w vals hH hM hA => ?_
  refine (h.run.2 I β w vals hH hM hA).mono fun e w' ⟨v, r1, S', I', β', he, hr, hi, hrest⟩ => ?_
  subst hr
  exact ⟨v, r', S', I', β', he, rfl, hle _ _ _ _ hi, hrest⟩
theorem pshapeLit {f K : Int} (h : shapeV f = K) : PureF gT 35 [.int .i64 f] (.lit .i64 K) :=
  (shape_pure f).weak (leK_ok (x := .int .i64 (shapeV f)) (y := .lit .i64 K) h)
end Go.Proofs.YtjcacjeoddnmhaaDoor.Pw

/- Chapter 4 over values: the program's bits of fields (by gen_tx.py). -/
namespace Go.Proofs.YtjcacjeoddnmhaaDoor.Pw
open Go Go.RowKit

/-- a field's bits in their place -/
def B (v : Int) (l w a : Nat) : Nat := (bitsV v l w).toNat <<< a
theorem B_lt (v : Int) {l w a : Nat} (h : w + a ≤ 32) : B v l w a < 4294967296 := by
  have b := bitsV_bd v l w
  have e := pow_cast w
  have h1 : (bitsV v l w).toNat < 2 ^ w := by omega
  unfold B
  rw [Nat.shiftLeft_eq]
  calc (bitsV v l w).toNat * 2 ^ a < 2 ^ w * 2 ^ a := Nat.mul_lt_mul_of_pos_right h1 (Nat.two_pow_pos a)
    _ = 2 ^ (w + a) := (Nat.pow_add ..).symm
    _ ≤ 2 ^ 32 := Nat.pow_le_pow_right (by omega) h
theorem B_eq (v : Int) (l w a : Nat) (p : Int) (hp : p = 2 ^ a) : bitsV v l w * p = ((B v l w a : Nat) : Int) := by
  have b := bitsV_bd v l w
  unfold B
  rw [Nat.shiftLeft_eq, hp, Int.natCast_mul, Int.toNat_of_nonneg b.1, pow_cast]
/-- a word as a number of nature, within its bounds -/
def IsN (x : Int) (a : Nat) : Prop := x = (a : Int) ∧ a < 4294967296
theorem IsN.or {x y : Int} {a b : Nat} (hx : IsN x a) (hy : IsN y b) : IsN (bits .or .u32 x y) (a ||| b) := by
  obtain ⟨rfl, ha⟩ := hx
  obtain ⟨rfl, hb⟩ := hy
  refine ⟨?_, Nat.or_lt_two_pow (n := 32) ha hb⟩
  rw [u32_or _ _ (by omega) (by omega) (by omega) (by omega), Int.toNat_natCast, Int.toNat_natCast]
theorem isB (v : Int) (l w a : Nat) {p : Int} (hp : p = 2 ^ a) (h : w + a ≤ 32) : IsN (bitsV v l w * p) (B v l w a) := ⟨B_eq v l w a p hp, B_lt v h⟩
theorem isB0 (v : Int) (l w : Nat) (h : w ≤ 32) : IsN (bitsV v l w) (B v l w 0) := ⟨by have := B_eq v l w 0 1 rfl; rwa [Int.mul_one] at this, B_lt v h⟩
theorem bits_id {v : Int} {w : Nat} (h : 0 ≤ v ∧ v < 2 ^ w) : bitsV v 0 w = v := by
  unfold bitsV
  rw [if_neg (by omega), show (2 : Int) ^ 0 = 1 from rfl, Int.ediv_one]
  exact Int.emod_eq_of_lt h.1 h.2
theorem isR (v : Int) (w a : Nat) {p : Int} (hp : p = 2 ^ a) (h : w + a ≤ 32) (hv : 0 ≤ v ∧ v < 2 ^ w) : IsN (v * p) (B v 0 w a) := by
  have := isB v 0 w a hp h
  rwa [bits_id hv] at this
theorem isR0 (v : Int) (w : Nat) (h : w ≤ 32) (hv : 0 ≤ v ∧ v < 2 ^ w) : IsN v (B v 0 w 0) := by
  have := isB0 v 0 w h
  rwa [bits_id hv] at this
theorem B_zero {v : Int} {l w a : Nat} (h : bitsV v l w = 0) : B v l w a = 0 := by unfold B; rw [h]; simp
theorem B_0 {v : Int} {l w a : Nat} (h : v = 0) : B v l w a = 0 := by
  subst h
  apply B_zero
  unfold bitsV
  rw [if_neg (by omega), Int.zero_ediv, Int.zero_emod]
/-- fields or-ed together -/
def orF (i : IN) (l : List (Nat × Nat × Nat × Nat)) : Nat := l.foldl (fun w x => w ||| B (getV i x.1) x.2.1 x.2.2.2 x.2.2.1) 0
theorem fold_or (i : IN) : ∀ (l : List (Nat × Nat × Nat × Nat)) (W V : Nat), l.foldl (putF i) (W ||| V) = W ||| l.foldl (fun w x => w ||| B (getV i x.1) x.2.1 x.2.2.2 x.2.2.1) V
  | [], _, _ => rfl
  | x :: l, W, V => by
    rw [List.foldl_cons, List.foldl_cons]
    have e : putF i (W ||| V) x = W ||| (V ||| B (getV i x.1) x.2.1 x.2.2.2 x.2.2.1) := by
      have h : (bitsV (getV i x.1) x.2.1 x.2.2.2).toNat < 2 ^ x.2.2.2 := vF_lt i x
      unfold putF plus B
      rw [Nat.mod_eq_of_lt h, Nat.or_assoc]
    rw [e, fold_or i l]
theorem wordF_or (i : IN) (l : List (Nat × Nat × Nat × Nat)) : wordF i l = (fbV i.form).toNat ||| orF i l := by
  unfold wordF orF
  rw [← fold_or i l, Nat.or_zero]
theorem word_or (i : IN) : wordV i = (((fbV i.form).toNat ||| orF (turnI i) (fieldsV (shapeV i.form)) : Nat) : Int) := by
  unfold wordV
  rw [wordF_or, turnI_form]
theorem or4_lt {a b : Nat} (ha : a < 4294967296) (hb : b < 4294967296) : a ||| b < 4294967296 := Nat.or_lt_two_pow (n := 32) ha hb
theorem isPlain (i : IN) : IsN ((B i.set 0 1 20 ||| B i.rn 0 4 16 ||| B i.ra 0 4 12 ||| B i.rd 0 4 8 ||| B i.rm 0 4 0 : Nat) : Int) (B i.set 0 1 20 ||| B i.rn 0 4 16 ||| B i.ra 0 4 12 ||| B i.rd 0 4 8 ||| B i.rm 0 4 0) :=
  ⟨rfl, or4_lt (or4_lt (or4_lt (or4_lt (B_lt _ (by decide)) (B_lt _ (by decide))) (B_lt _ (by decide))) (B_lt _ (by decide))) (B_lt _ (by decide))⟩
theorem isTwelve (n : Int) : IsN ((B n 11 1 26 ||| B n 12 4 16 ||| B n 8 3 12 ||| B n 0 8 0 : Nat) : Int) (B n 11 1 26 ||| B n 12 4 16 ||| B n 8 3 12 ||| B n 0 8 0) :=
  ⟨rfl, or4_lt (or4_lt (or4_lt (B_lt _ (by decide)) (B_lt _ (by decide))) (B_lt _ (by decide))) (B_lt _ (by decide))⟩
/-- a cut of a word, as the document's bits -/
theorem cutB (x : Int) (l w : Nat) (hx : U32 x) (hw : 1 ≤ w ∧ w ≤ 31) (hl : l ≤ 31) : PureF gT 83 [.int .u32 x, .int .i64 ((l : Int) + w - 1), .int .i64 l] (.int .u32 (bitsV x l w)) := by
  have h := cut_pure x l w hx hw hl
  rwa [cut_bits hx.1 l w] at h
theorem wrap_bits (v : Int) (l w : Nat) (h : l + w ≤ 32) (hv : -1099511627776 ≤ v) : cutV (IntKind.u32.wrap v) l w = bitsV v l w := by
  rw [IntKind.wrap_u32', cut_bits (by omega)]
  obtain ⟨n, hn⟩ : ∃ n : Nat, (n : Int) = if v < 0 then v + 1099511627776 else v := ⟨(if v < 0 then v + 1099511627776 else v).toNat, Int.toNat_of_nonneg (by split <;> omega)⟩
  have e : v % 4294967296 = ((n % 4294967296 : Nat) : Int) := by
    rw [Int.natCast_emod, hn]
    split <;> omega
  rw [e, bitsV_nat]
  unfold bitsV
  rw [← hn]
  have key : n % 4294967296 / 2 ^ l % 2 ^ w = n / 2 ^ l % 2 ^ w := by
    apply Nat.eq_of_testBit_eq
    intro p
    rw [Nat.testBit_mod_two_pow, Nat.testBit_mod_two_pow, Nat.testBit_div_two_pow, Nat.testBit_div_two_pow, show (4294967296 : Nat) = 2 ^ 32 from rfl, Nat.testBit_mod_two_pow]
    by_cases hp : p < w
    · rw [decide_eq_true hp, decide_eq_true (show p + l < 32 by omega)]; simp
    · rw [decide_eq_false hp]; simp
  rw [key, ← pow_cast, ← pow_cast]
  norm_cast
theorem cutW (v : Int) (l w : Nat) (hv : -1099511627776 ≤ v) (hw : 1 ≤ w ∧ w ≤ 31) (hl : l ≤ 31) (h : l + w ≤ 32) : PureF gT 83 [.int .u32 (IntKind.u32.wrap v), .int .i64 ((l : Int) + w - 1), .int .i64 l] (.int .u32 (bitsV v l w)) := by
  have hx : 0 ≤ IntKind.u32.wrap v ∧ IntKind.u32.wrap v ≤ 4294967295 := by rw [IntKind.wrap_u32']; omega
  have k := cut_pure (IntKind.u32.wrap v) l w hx hw hl
  rwa [wrap_bits v l w h hv] at k
theorem bits_div {v : Int} (h : 0 ≤ v) (w : Nat) : bitsV (v / 4) 0 w = bitsV v 2 w := by
  unfold bitsV
  rw [if_neg (by omega), if_neg (by omega), show (2 : Int) ^ 0 = 1 from rfl, show (2 : Int) ^ 2 = 4 from rfl, Int.ediv_one]
theorem B_div {v : Int} {w a : Nat} (h : 0 ≤ v) : B (v / 4) 0 w a = B v 2 w a := by unfold B; rw [bits_div h]
theorem isD (v : Int) (w : Nat) (h : w ≤ 32) (h0 : 0 ≤ v) (hv : v / 4 < 2 ^ w) : IsN (v / 4) (B v 2 w 0) := by
  have := isR0 (v / 4) w h ⟨by omega, hv⟩
  rwa [B_div h0] at this
set_option maxHeartbeats 4000000 in
set_option maxRecDepth 100000 in
theorem small_pure (i : IN) (v : Int) (w : Nat) (hv : 0 ≤ v ∧ v < 2 ^ w) (hd : 0 ≤ i.rd ∧ i.rd < 8) (hn : 0 ≤ i.rn ∧ i.rn < 8) (hw : w ≤ 20) : PureF gT 89 [inP i, .int .u32 v] (.int .u32 ((B v 0 w 6 ||| B i.rn 0 3 3 ||| B i.rd 0 3 0 : Nat) : Int)) := by
  have hp := pow_bd w (by omega)
  have hp2 : (2 : Int) ^ w ≤ 1048576 := by
    have h1 : (2 ^ w : Nat) ≤ 2 ^ 20 := Nat.pow_le_pow_right (by omega) hw
    have h3 := pow_cast w
    omega
  refine Spec.enter gTok P89 100 Tryd.func89 rfl (by kernel_rfl) ?_
  refine ⟨by decide, .inl ⟨inR_u32 (by rw [r6]; omega), ?_⟩⟩
  refine .inl ⟨inR_u32 (by omega), ?_⟩
  refine ⟨by decide, .inl ⟨inR_u32 (by rw [r3]; omega), ?_⟩⟩
  refine .inl ⟨inR_u32 (by omega), ?_⟩
  refine retE ?_
  exact (show bits .or .u32 (bits .or .u32 (v * Ev.pow2 .u32 6) (i.rn * Ev.pow2 .u32 3)) i.rd = _ from (((isR v w 6 (by decide) (by omega) hv).or (isR i.rn 3 3 (by decide) (by decide) hn)).or (isR0 i.rd 3 (by decide) hd)).1)
set_option maxHeartbeats 4000000 in
set_option maxRecDepth 100000 in
theorem plain_pure (i : IN) (hs : 0 ≤ i.set ∧ i.set < 2) (hd : 0 ≤ i.rd ∧ i.rd < 16) (hn : 0 ≤ i.rn ∧ i.rn < 16) (hm : 0 ≤ i.rm ∧ i.rm < 16) (ha : 0 ≤ i.ra ∧ i.ra < 16) : PureF gT 85 [inP i] (.int .u32 ((B i.set 0 1 20 ||| B i.rn 0 4 16 ||| B i.ra 0 4 12 ||| B i.rd 0 4 8 ||| B i.rm 0 4 0 : Nat) : Int)) := by
  refine Spec.enter gTok P85 100 Tryd.func85 rfl (by kernel_rfl) ?_
  refine .inl ⟨inR_u32 (by omega), ?_⟩
  refine ⟨by decide, .inl ⟨inR_u32 (by rw [r20]; omega), ?_⟩⟩
  refine .inl ⟨inR_u32 (by omega), ?_⟩
  refine ⟨by decide, .inl ⟨inR_u32 (by rw [r16]; omega), ?_⟩⟩
  refine .inl ⟨inR_u32 (by omega), ?_⟩
  refine ⟨by decide, .inl ⟨inR_u32 (by rw [r12]; omega), ?_⟩⟩
  refine .inl ⟨inR_u32 (by omega), ?_⟩
  refine ⟨by decide, .inl ⟨inR_u32 (by rw [r8]; omega), ?_⟩⟩
  refine .inl ⟨inR_u32 (by omega), ?_⟩
  refine retE ?_
  exact (show bits .or .u32 (bits .or .u32 (bits .or .u32 (bits .or .u32 (i.set * Ev.pow2 .u32 20) (i.rn * Ev.pow2 .u32 16)) (i.ra * Ev.pow2 .u32 12)) (i.rd * Ev.pow2 .u32 8)) i.rm = _ from (((((isR i.set 1 20 (by decide) (by decide) hs).or (isR i.rn 4 16 (by decide) (by decide) hn)).or (isR i.ra 4 12 (by decide) (by decide) ha)).or (isR i.rd 4 8 (by decide) (by decide) hd)).or (isR0 i.rm 4 (by decide) hm)).1)
set_option maxHeartbeats 4000000 in
set_option maxRecDepth 100000 in
theorem twelve_pure (n : Int) (hn : U32 n) : PureF gT 86 [.int .u32 n] (.int .u32 ((B n 11 1 26 ||| B n 12 4 16 ||| B n 8 3 12 ||| B n 0 8 0 : Nat) : Int)) := by
  have b0 := bitsV_bd n 11 1
  have b1 := bitsV_bd n 12 4
  have b2 := bitsV_bd n 8 3
  have b3 := bitsV_bd n 0 8
  refine Spec.enter gTok P86 100 Tryd.func86 rfl (by kernel_rfl) ?_
  refine ⟨[], no_rl, (cutB n 11 1 hn (by decide) (by decide)).use (by repeat' first | exact trivial | exact rfl | exact Iff.rfl | exact Or.inl rfl | refine And.intro ?_ ?_) rfl rfl ?_⟩
  refine ⟨by decide, .inl ⟨inR_u32 (by rw [r26]; omega), ?_⟩⟩
  refine ⟨[], no_rl, (cutB n 12 4 hn (by decide) (by decide)).use (by repeat' first | exact trivial | exact rfl | exact Iff.rfl | exact Or.inl rfl | refine And.intro ?_ ?_) rfl rfl ?_⟩
  refine ⟨by decide, .inl ⟨inR_u32 (by rw [r16]; omega), ?_⟩⟩
  refine ⟨[], no_rl, (cutB n 8 3 hn (by decide) (by decide)).use (by repeat' first | exact trivial | exact rfl | exact Iff.rfl | exact Or.inl rfl | refine And.intro ?_ ?_) rfl rfl ?_⟩
  refine ⟨by decide, .inl ⟨inR_u32 (by rw [r12]; omega), ?_⟩⟩
  refine ⟨[], no_rl, (cutB n 0 8 hn (by decide) (by decide)).use (by repeat' first | exact trivial | exact rfl | exact Iff.rfl | exact Or.inl rfl | refine And.intro ?_ ?_) rfl rfl ?_⟩
  refine retE ?_
  exact (show bits .or .u32 (bits .or .u32 (bits .or .u32 (bitsV n 11 1 * Ev.pow2 .u32 26) (bitsV n 12 4 * Ev.pow2 .u32 16)) (bitsV n 8 3 * Ev.pow2 .u32 12)) (bitsV n 0 8) = _ from ((((isB n 11 1 26 (by decide) (by decide)).or (isB n 12 4 16 (by decide) (by decide))).or (isB n 8 3 12 (by decide) (by decide))).or (isB0 n 0 8 (by decide))).1)

end Go.Proofs.YtjcacjeoddnmhaaDoor.Pw

/- Chapter 4 over values: the program's bits of narrow shapes (by gen_tx.py). -/
namespace Go.Proofs.YtjcacjeoddnmhaaDoor.Pw
open Go Go.RowKit

set_option maxHeartbeats 8000000 in
set_option maxRecDepth 100000 in
theorem narrow_1 (i : IN) (hs : shapeV i.form = 1) (hr : rightR i (ruW 1)) (hg : i.regs ≤ 9223372036854775807) : PureF gT 80 [inP i] (.int .u32 ((orF i (fieldsV 1) : Nat) : Int)) := by
  obtain ⟨hf, h1, h2, h3, h4, h5, h6, h7, h8, h9, h10⟩ := hr
  have g0 := has_1 (r := i.rd) h1
  have g1 := has_0 (r := i.rn) h2
  have g2 := has_1 (r := i.rm) h3
  have g3 := has_0 (r := i.ra) h4
  have g4 : 0 ≤ i.imm ∧ i.imm ≤ 32 ∧ i.imm % 1 = 0 := sp_s (s := 1) (by decide) h7
  have g5 : i.kind = 0 := (sh_0 rfl h9).1
  have g6 : i.by_ = 0 := sp_0 (sh_0 rfl h9).2
  have g7 : i.set = 0 := h8.elim id fun e => absurd (show false = true from e.2) Bool.false_ne_true
  have g8 : i.cond = 0 := h6.elim id fun e => absurd (show false = true from e.1) Bool.false_ne_true
  clear h1 h2 h3 h4 h5 h6 h7 h8 h9 h10
  have b0 := bitsV_bd i.imm 0 5
  refine Spec.enter gTok P80 100 Tryd.func80 rfl (by kernel_rfl) ?_
  refine .inl ⟨inR_u32 (by omega), ?_⟩
  refine .inl ⟨inR_u32 (by omega), ?_⟩
  refine .inl ⟨inR_u32 (by omega), ?_⟩
  refine ⟨[], no_rl, (pshapeLit hs).use (And.intro rfl trivial) rfl rfl ?_⟩
  refine ⟨[], no_rl, (cutB i.imm 0 5 (by unfold U32; omega) (by decide) (by decide)).use (And.intro rfl (And.intro rfl (And.intro rfl trivial))) rfl rfl ?_⟩
  refine ⟨by decide, .inl ⟨inR_u32 (by rw [r6]; omega), ?_⟩⟩
  refine ⟨by decide, .inl ⟨inR_u32 (by rw [r3]; omega), ?_⟩⟩
  refine retE ?_
  have eo : orF i (fieldsV 1) = 0 ||| B i.imm 0 5 6 ||| B i.rm 0 3 3 ||| B i.rd 0 3 0 := rfl
  rw [eo]
  refine (show bits .or .u32 (bits .or .u32 (bitsV i.imm 0 5 * Ev.pow2 .u32 6) (i.rm * Ev.pow2 .u32 3)) (i.rd) = _ from ?_)
  refine ((((((isB i.imm 0 5 6 (by decide) (by decide))).or (isR i.rm 3 3 (by decide) (by decide) (by omega)))).or (isR0 i.rd 3 (by decide) (by omega)))).1.trans (congrArg (fun n : Nat => (n : Int)) ?_)
  first
  | (simp only [Nat.or_zero, Nat.zero_or]; done)
  | (simp only [Nat.or_zero, Nat.zero_or]
     generalize B i.imm 0 5 6 = n0
     generalize B i.rm 0 3 3 = n1
     generalize B i.rd 0 3 0 = n2
     ac_rfl)
set_option maxHeartbeats 8000000 in
set_option maxRecDepth 100000 in
theorem narrow_2 (i : IN) (hs : shapeV i.form = 2) (hr : rightR i (ruW 2)) (hg : i.regs ≤ 9223372036854775807) : PureF gT 80 [inP i] (.int .u32 ((orF i (fieldsV 2) : Nat) : Int)) := by
  obtain ⟨hf, h1, h2, h3, h4, h5, h6, h7, h8, h9, h10⟩ := hr
  have g0 := has_1 (r := i.rd) h1
  have g1 := has_1 (r := i.rn) h2
  have g2 := has_1 (r := i.rm) h3
  have g3 := has_0 (r := i.ra) h4
  have g4 : i.imm = 0 := sp_0 h7
  have g5 : i.kind = 0 := (sh_0 rfl h9).1
  have g6 : i.by_ = 0 := sp_0 (sh_0 rfl h9).2
  have g7 : i.set = 0 := h8.elim id fun e => absurd (show false = true from e.2) Bool.false_ne_true
  have g8 : i.cond = 0 := h6.elim id fun e => absurd (show false = true from e.1) Bool.false_ne_true
  clear h1 h2 h3 h4 h5 h6 h7 h8 h9 h10
  refine Spec.enter gTok P80 100 Tryd.func80 rfl (by kernel_rfl) ?_
  refine .inl ⟨inR_u32 (by omega), ?_⟩
  refine .inl ⟨inR_u32 (by omega), ?_⟩
  refine .inl ⟨inR_u32 (by omega), ?_⟩
  refine ⟨[], no_rl, (pshapeLit hs).use (And.intro rfl trivial) rfl rfl ?_⟩
  refine ⟨[], no_rl, (small_pure i i.rm 3 (by omega) (by omega) (by omega) (by decide)).use (by repeat' first | exact trivial | exact rfl | exact Iff.rfl | exact Or.inl rfl | refine And.intro ?_ ?_) rfl rfl ?_⟩
  refine retE ?_
  have eo : orF i (fieldsV 2) = 0 ||| B i.rm 0 3 6 ||| B i.rn 0 3 3 ||| B i.rd 0 3 0 := rfl
  rw [eo]
  refine (show _ = _ from congrArg (fun n : Nat => (n : Int)) ?_)
  simp only [Nat.zero_or]
set_option maxHeartbeats 8000000 in
set_option maxRecDepth 100000 in
theorem narrow_3 (i : IN) (hs : shapeV i.form = 3) (hr : rightR i (ruW 3)) (hg : i.regs ≤ 9223372036854775807) : PureF gT 80 [inP i] (.int .u32 ((orF i (fieldsV 3) : Nat) : Int)) := by
  obtain ⟨hf, h1, h2, h3, h4, h5, h6, h7, h8, h9, h10⟩ := hr
  have g0 := has_1 (r := i.rd) h1
  have g1 := has_1 (r := i.rn) h2
  have g2 := has_0 (r := i.rm) h3
  have g3 := has_0 (r := i.ra) h4
  have g4 : 0 ≤ i.imm ∧ i.imm ≤ 7 ∧ i.imm % 1 = 0 := sp_s (s := 1) (by decide) h7
  have g5 : i.kind = 0 := (sh_0 rfl h9).1
  have g6 : i.by_ = 0 := sp_0 (sh_0 rfl h9).2
  have g7 : i.set = 0 := h8.elim id fun e => absurd (show false = true from e.2) Bool.false_ne_true
  have g8 : i.cond = 0 := h6.elim id fun e => absurd (show false = true from e.1) Bool.false_ne_true
  clear h1 h2 h3 h4 h5 h6 h7 h8 h9 h10
  refine Spec.enter gTok P80 100 Tryd.func80 rfl (by kernel_rfl) ?_
  refine .inl ⟨inR_u32 (by omega), ?_⟩
  refine .inl ⟨inR_u32 (by omega), ?_⟩
  refine .inl ⟨inR_u32 (by omega), ?_⟩
  refine ⟨[], no_rl, (pshapeLit hs).use (And.intro rfl trivial) rfl rfl ?_⟩
  refine ⟨[], no_rl, (small_pure i i.imm 3 (by omega) (by omega) (by omega) (by decide)).use (by repeat' first | exact trivial | exact rfl | exact Iff.rfl | exact Or.inl rfl | refine And.intro ?_ ?_) rfl rfl ?_⟩
  refine retE ?_
  have eo : orF i (fieldsV 3) = 0 ||| B i.imm 0 3 6 ||| B i.rn 0 3 3 ||| B i.rd 0 3 0 := rfl
  rw [eo]
  refine (show _ = _ from congrArg (fun n : Nat => (n : Int)) ?_)
  simp only [Nat.zero_or]
set_option maxHeartbeats 8000000 in
set_option maxRecDepth 100000 in
theorem narrow_4 (i : IN) (hs : shapeV i.form = 4) (hr : rightR i (ruW 4)) (hg : i.regs ≤ 9223372036854775807) : PureF gT 80 [inP i] (.int .u32 ((orF i (fieldsV 4) : Nat) : Int)) := by
  obtain ⟨hf, h1, h2, h3, h4, h5, h6, h7, h8, h9, h10⟩ := hr
  have g0 := has_1 (r := i.rd) h1
  have g1 := has_0 (r := i.rn) h2
  have g2 := has_0 (r := i.rm) h3
  have g3 := has_0 (r := i.ra) h4
  have g4 : 0 ≤ i.imm ∧ i.imm ≤ 255 ∧ i.imm % 1 = 0 := sp_s (s := 1) (by decide) h7
  have g5 : i.kind = 0 := (sh_0 rfl h9).1
  have g6 : i.by_ = 0 := sp_0 (sh_0 rfl h9).2
  have g7 : i.set = 0 := h8.elim id fun e => absurd (show false = true from e.2) Bool.false_ne_true
  have g8 : i.cond = 0 := h6.elim id fun e => absurd (show false = true from e.1) Bool.false_ne_true
  clear h1 h2 h3 h4 h5 h6 h7 h8 h9 h10
  refine Spec.enter gTok P80 100 Tryd.func80 rfl (by kernel_rfl) ?_
  refine .inl ⟨inR_u32 (by omega), ?_⟩
  refine .inl ⟨inR_u32 (by omega), ?_⟩
  refine .inl ⟨inR_u32 (by omega), ?_⟩
  refine ⟨[], no_rl, (pshapeLit hs).use (And.intro rfl trivial) rfl rfl ?_⟩
  refine ⟨by decide, .inl ⟨inR_u32 (by rw [r8]; omega), ?_⟩⟩
  refine retE ?_
  have eo : orF i (fieldsV 4) = 0 ||| B i.rd 0 3 8 ||| B i.imm 0 8 0 := rfl
  rw [eo]
  refine (show bits .or .u32 (i.rd * Ev.pow2 .u32 8) (i.imm) = _ from ?_)
  refine ((((isR i.rd 3 8 (by decide) (by decide) (by omega))).or (isR0 i.imm 8 (by decide) (by omega)))).1.trans (congrArg (fun n : Nat => (n : Int)) ?_)
  first
  | (simp only [Nat.or_zero, Nat.zero_or]; done)
  | (simp only [Nat.or_zero, Nat.zero_or]
     generalize B i.rd 0 3 8 = n0
     generalize B i.imm 0 8 0 = n1
     ac_rfl)
set_option maxHeartbeats 8000000 in
set_option maxRecDepth 100000 in
theorem narrow_5 (i : IN) (hs : shapeV i.form = 5) (hr : rightR i (ruW 5)) (hg : i.regs ≤ 9223372036854775807) : PureF gT 80 [inP i] (.int .u32 ((orF i (fieldsV 5) : Nat) : Int)) := by
  obtain ⟨hf, h1, h2, h3, h4, h5, h6, h7, h8, h9, h10⟩ := hr
  have g0 := has_1 (r := i.rd) h1
  have g1 := has_0 (r := i.rn) h2
  have g2 := has_1 (r := i.rm) h3
  have g3 := has_0 (r := i.ra) h4
  have g4 : i.imm = 0 := sp_0 h7
  have g5 : i.kind = 0 := (sh_0 rfl h9).1
  have g6 : i.by_ = 0 := sp_0 (sh_0 rfl h9).2
  have g7 : i.set = 0 := h8.elim id fun e => absurd (show false = true from e.2) Bool.false_ne_true
  have g8 : i.cond = 0 := h6.elim id fun e => absurd (show false = true from e.1) Bool.false_ne_true
  clear h1 h2 h3 h4 h5 h6 h7 h8 h9 h10
  refine Spec.enter gTok P80 100 Tryd.func80 rfl (by kernel_rfl) ?_
  refine .inl ⟨inR_u32 (by omega), ?_⟩
  refine .inl ⟨inR_u32 (by omega), ?_⟩
  refine .inl ⟨inR_u32 (by omega), ?_⟩
  refine ⟨[], no_rl, (pshapeLit hs).use (And.intro rfl trivial) rfl rfl ?_⟩
  refine ⟨by decide, .inl ⟨inR_u32 (by rw [r3]; omega), ?_⟩⟩
  refine retE ?_
  have eo : orF i (fieldsV 5) = 0 ||| B i.rm 0 3 3 ||| B i.rd 0 3 0 := rfl
  rw [eo]
  refine (show bits .or .u32 (i.rm * Ev.pow2 .u32 3) (i.rd) = _ from ?_)
  refine ((((isR i.rm 3 3 (by decide) (by decide) (by omega))).or (isR0 i.rd 3 (by decide) (by omega)))).1.trans (congrArg (fun n : Nat => (n : Int)) ?_)
  first
  | (simp only [Nat.or_zero, Nat.zero_or]; done)
  | (simp only [Nat.or_zero, Nat.zero_or]
     generalize B i.rm 0 3 3 = n0
     generalize B i.rd 0 3 0 = n1
     ac_rfl)
set_option maxHeartbeats 8000000 in
set_option maxRecDepth 100000 in
theorem narrow_6 (i : IN) (hs : shapeV i.form = 6) (hr : rightR i (ruW 6)) (hg : i.regs ≤ 9223372036854775807) : PureF gT 80 [inP i] (.int .u32 ((orF i (fieldsV 6) : Nat) : Int)) := by
  obtain ⟨hf, h1, h2, h3, h4, h5, h6, h7, h8, h9, h10⟩ := hr
  have g0 := has_2 (r := i.rd) h1
  have g1 := has_0 (r := i.rn) h2
  have g2 := has_2 (r := i.rm) h3
  have g3 := has_0 (r := i.ra) h4
  have g4 : i.imm = 0 := sp_0 h7
  have g5 : i.kind = 0 := (sh_0 rfl h9).1
  have g6 : i.by_ = 0 := sp_0 (sh_0 rfl h9).2
  have g7 : i.set = 0 := h8.elim id fun e => absurd (show false = true from e.2) Bool.false_ne_true
  have g8 : i.cond = 0 := h6.elim id fun e => absurd (show false = true from e.1) Bool.false_ne_true
  clear h1 h2 h3 h4 h5 h6 h7 h8 h9 h10
  have b0 := bitsV_bd i.rd 3 1
  have b1 := bitsV_bd i.rd 0 3
  refine Spec.enter gTok P80 100 Tryd.func80 rfl (by kernel_rfl) ?_
  refine .inl ⟨inR_u32 (by omega), ?_⟩
  refine .inl ⟨inR_u32 (by omega), ?_⟩
  refine .inl ⟨inR_u32 (by omega), ?_⟩
  refine ⟨[], no_rl, (pshapeLit hs).use (And.intro rfl trivial) rfl rfl ?_⟩
  refine ⟨[], no_rl, (cutB i.rd 3 1 (by unfold U32; omega) (by decide) (by decide)).use (And.intro rfl (And.intro rfl (And.intro rfl trivial))) rfl rfl ?_⟩
  refine ⟨by decide, .inl ⟨inR_u32 (by rw [r7]; omega), ?_⟩⟩
  refine ⟨by decide, .inl ⟨inR_u32 (by rw [r3]; omega), ?_⟩⟩
  refine ⟨[], no_rl, (cutB i.rd 0 3 (by unfold U32; omega) (by decide) (by decide)).use (And.intro rfl (And.intro rfl (And.intro rfl trivial))) rfl rfl ?_⟩
  refine retE ?_
  have eo : orF i (fieldsV 6) = 0 ||| B i.rd 3 1 7 ||| B i.rm 0 4 3 ||| B i.rd 0 3 0 := rfl
  rw [eo]
  refine (show bits .or .u32 (bits .or .u32 (bitsV i.rd 3 1 * Ev.pow2 .u32 7) (i.rm * Ev.pow2 .u32 3)) (bitsV i.rd 0 3) = _ from ?_)
  refine ((((((isB i.rd 3 1 7 (by decide) (by decide))).or (isR i.rm 4 3 (by decide) (by decide) (by omega)))).or (isB0 i.rd 0 3 (by decide)))).1.trans (congrArg (fun n : Nat => (n : Int)) ?_)
  first
  | (simp only [Nat.or_zero, Nat.zero_or]; done)
  | (simp only [Nat.or_zero, Nat.zero_or]
     generalize B i.rd 3 1 7 = n0
     generalize B i.rm 0 4 3 = n1
     generalize B i.rd 0 3 0 = n2
     ac_rfl)
set_option maxHeartbeats 8000000 in
set_option maxRecDepth 100000 in
theorem narrow_7 (i : IN) (hs : shapeV i.form = 7) (hr : rightR i (ruW 7)) (hg : i.regs ≤ 9223372036854775807) : PureF gT 80 [inP i] (.int .u32 ((orF i (fieldsV 7) : Nat) : Int)) := by
  obtain ⟨hf, h1, h2, h3, h4, h5, h6, h7, h8, h9, h10⟩ := hr
  have g0 := has_0 (r := i.rd) h1
  have g1 := has_0 (r := i.rn) h2
  have g2 := has_2 (r := i.rm) h3
  have g3 := has_0 (r := i.ra) h4
  have g4 : i.imm = 0 := sp_0 h7
  have g5 : i.kind = 0 := (sh_0 rfl h9).1
  have g6 : i.by_ = 0 := sp_0 (sh_0 rfl h9).2
  have g7 : i.set = 0 := h8.elim id fun e => absurd (show false = true from e.2) Bool.false_ne_true
  have g8 : i.cond = 0 := h6.elim id fun e => absurd (show false = true from e.1) Bool.false_ne_true
  clear h1 h2 h3 h4 h5 h6 h7 h8 h9 h10
  refine Spec.enter gTok P80 100 Tryd.func80 rfl (by kernel_rfl) ?_
  refine .inl ⟨inR_u32 (by omega), ?_⟩
  refine .inl ⟨inR_u32 (by omega), ?_⟩
  refine .inl ⟨inR_u32 (by omega), ?_⟩
  refine ⟨[], no_rl, (pshapeLit hs).use (And.intro rfl trivial) rfl rfl ?_⟩
  refine ⟨by decide, .inl ⟨inR_u32 (by rw [r3]; omega), ?_⟩⟩
  refine retE ?_
  have eo : orF i (fieldsV 7) = 0 ||| B i.rm 0 4 3 := rfl
  rw [eo]
  refine (show i.rm * Ev.pow2 .u32 3 = _ from ?_)
  refine ((isR i.rm 4 3 (by decide) (by decide) (by omega))).1.trans (congrArg (fun n : Nat => (n : Int)) ?_)
  first
  | (simp only [Nat.or_zero, Nat.zero_or]; done)
  | (simp only [Nat.or_zero, Nat.zero_or]
     generalize B i.rm 0 4 3 = n0
     ac_rfl)
set_option maxHeartbeats 8000000 in
set_option maxRecDepth 100000 in
theorem narrow_8 (i : IN) (hs : shapeV i.form = 8) (hr : rightR i (ruW 8)) (hg : i.regs ≤ 9223372036854775807) : PureF gT 80 [inP i] (.int .u32 ((orF i (fieldsV 8) : Nat) : Int)) := by
  obtain ⟨hf, h1, h2, h3, h4, h5, h6, h7, h8, h9, h10⟩ := hr
  have g0 := has_1 (r := i.rd) h1
  have g1 := has_0 (r := i.rn) h2
  have g2 := has_0 (r := i.rm) h3
  have g3 := has_0 (r := i.ra) h4
  have g4 : 0 ≤ i.imm ∧ i.imm ≤ 1020 ∧ i.imm % 4 = 0 := sp_s (s := 4) (by decide) h7
  have g5 : i.kind = 0 := (sh_0 rfl h9).1
  have g6 : i.by_ = 0 := sp_0 (sh_0 rfl h9).2
  have g7 : i.set = 0 := h8.elim id fun e => absurd (show false = true from e.2) Bool.false_ne_true
  have g8 : i.cond = 0 := h6.elim id fun e => absurd (show false = true from e.1) Bool.false_ne_true
  clear h1 h2 h3 h4 h5 h6 h7 h8 h9 h10
  refine Spec.enter gTok P80 100 Tryd.func80 rfl (by kernel_rfl) ?_
  refine .inl ⟨inR_u32 (by omega), ?_⟩
  refine .inl ⟨inR_u32 (by omega), ?_⟩
  refine .inl ⟨inR_u32 (by omega), ?_⟩
  refine ⟨[], no_rl, (pshapeLit hs).use (And.intro rfl trivial) rfl rfl ?_⟩
  refine ⟨by decide, .inl ⟨inR_u32 (by rw [r8]; omega), ?_⟩⟩
  refine ⟨by decide, .inl ⟨by omega, by first | exact (show (_ : Int) ≤ 4294967295 by omega) | omega, by decide, ?_⟩⟩
  refine retE ?_
  have eo : orF i (fieldsV 8) = 0 ||| B i.rd 0 3 8 ||| B i.imm 2 8 0 := rfl
  rw [eo]
  refine (show bits .or .u32 (i.rd * Ev.pow2 .u32 8) (i.imm / 4) = _ from ?_)
  refine ((((isR i.rd 3 8 (by decide) (by decide) (by omega))).or (isD i.imm 8 (by decide) (by omega) (by omega)))).1.trans (congrArg (fun n : Nat => (n : Int)) ?_)
  first
  | (simp only [Nat.or_zero, Nat.zero_or]; done)
  | (simp only [Nat.or_zero, Nat.zero_or]
     generalize B i.rd 0 3 8 = n0
     generalize B i.imm 2 8 0 = n1
     ac_rfl)
set_option maxHeartbeats 8000000 in
set_option maxRecDepth 100000 in
theorem narrow_9 (i : IN) (hs : shapeV i.form = 9) (hr : rightR i (ruW 9)) (hg : i.regs ≤ 9223372036854775807) : PureF gT 80 [inP i] (.int .u32 ((orF i (fieldsV 9) : Nat) : Int)) := by
  obtain ⟨hf, h1, h2, h3, h4, h5, h6, h7, h8, h9, h10⟩ := hr
  have g0 := has_1 (r := i.rd) h1
  have g1 := has_1 (r := i.rn) h2
  have g2 := has_0 (r := i.rm) h3
  have g3 := has_0 (r := i.ra) h4
  have g4 : 0 ≤ i.imm ∧ i.imm ≤ 124 ∧ i.imm % 4 = 0 := sp_s (s := 4) (by decide) h7
  have g5 : i.kind = 0 := (sh_0 rfl h9).1
  have g6 : i.by_ = 0 := sp_0 (sh_0 rfl h9).2
  have g7 : i.set = 0 := h8.elim id fun e => absurd (show false = true from e.2) Bool.false_ne_true
  have g8 : i.cond = 0 := h6.elim id fun e => absurd (show false = true from e.1) Bool.false_ne_true
  clear h1 h2 h3 h4 h5 h6 h7 h8 h9 h10
  refine Spec.enter gTok P80 100 Tryd.func80 rfl (by kernel_rfl) ?_
  refine .inl ⟨inR_u32 (by omega), ?_⟩
  refine .inl ⟨inR_u32 (by omega), ?_⟩
  refine .inl ⟨inR_u32 (by omega), ?_⟩
  refine ⟨[], no_rl, (pshapeLit hs).use (And.intro rfl trivial) rfl rfl ?_⟩
  refine ⟨by decide, .inl ⟨by omega, by first | exact (show (_ : Int) ≤ 4294967295 by omega) | omega, by decide, ?_⟩⟩
  refine ⟨[], no_rl, (small_pure i (i.imm / 4) 5 (by omega) (by omega) (by omega) (by decide)).use (by repeat' first | exact trivial | exact rfl | exact Iff.rfl | exact Or.inl rfl | refine And.intro ?_ ?_) rfl rfl ?_⟩
  refine retE ?_
  have eo : orF i (fieldsV 9) = 0 ||| B i.imm 2 5 6 ||| B i.rn 0 3 3 ||| B i.rd 0 3 0 := rfl
  rw [eo]
  refine (show _ = _ from congrArg (fun n : Nat => (n : Int)) ?_)
  rw [B_div (by omega)]; simp only [Nat.zero_or]
set_option maxHeartbeats 8000000 in
set_option maxRecDepth 100000 in
theorem narrow_10 (i : IN) (hs : shapeV i.form = 10) (hr : rightR i (ruW 10)) (hg : i.regs ≤ 9223372036854775807) : PureF gT 80 [inP i] (.int .u32 ((orF i (fieldsV 10) : Nat) : Int)) := by
  obtain ⟨hf, h1, h2, h3, h4, h5, h6, h7, h8, h9, h10⟩ := hr
  have g0 := has_0 (r := i.rd) h1
  have g1 := has_0 (r := i.rn) h2
  have g2 := has_0 (r := i.rm) h3
  have g3 := has_0 (r := i.ra) h4
  have g4 : 0 ≤ i.imm ∧ i.imm ≤ 508 ∧ i.imm % 4 = 0 := sp_s (s := 4) (by decide) h7
  have g5 : i.kind = 0 := (sh_0 rfl h9).1
  have g6 : i.by_ = 0 := sp_0 (sh_0 rfl h9).2
  have g7 : i.set = 0 := h8.elim id fun e => absurd (show false = true from e.2) Bool.false_ne_true
  have g8 : i.cond = 0 := h6.elim id fun e => absurd (show false = true from e.1) Bool.false_ne_true
  clear h1 h2 h3 h4 h5 h6 h7 h8 h9 h10
  refine Spec.enter gTok P80 100 Tryd.func80 rfl (by kernel_rfl) ?_
  refine .inl ⟨inR_u32 (by omega), ?_⟩
  refine .inl ⟨inR_u32 (by omega), ?_⟩
  refine .inl ⟨inR_u32 (by omega), ?_⟩
  refine ⟨[], no_rl, (pshapeLit hs).use (And.intro rfl trivial) rfl rfl ?_⟩
  refine ⟨by decide, .inl ⟨by omega, by first | exact (show (_ : Int) ≤ 4294967295 by omega) | omega, by decide, ?_⟩⟩
  refine retE ?_
  have eo : orF i (fieldsV 10) = 0 ||| B i.imm 2 7 0 := rfl
  rw [eo]
  refine (show i.imm / 4 = _ from ?_)
  refine ((isD i.imm 7 (by decide) (by omega) (by omega))).1.trans (congrArg (fun n : Nat => (n : Int)) ?_)
  first
  | (simp only [Nat.or_zero, Nat.zero_or]; done)
  | (simp only [Nat.or_zero, Nat.zero_or]
     generalize B i.imm 2 7 0 = n0
     ac_rfl)
set_option maxHeartbeats 8000000 in
set_option maxRecDepth 100000 in
theorem narrow_11 (i : IN) (hs : shapeV i.form = 11) (hr : rightR i (ruW 11)) (hg : i.regs ≤ 9223372036854775807) : PureF gT 80 [inP i] (.int .u32 ((orF i (fieldsV 11) : Nat) : Int)) := by
  obtain ⟨hf, h1, h2, h3, h4, h5, h6, h7, h8, h9, h10⟩ := hr
  have g0 := has_0 (r := i.rd) h1
  have g1 := has_0 (r := i.rn) h2
  have g2 := has_0 (r := i.rm) h3
  have g3 := has_0 (r := i.ra) h4
  have g4 : i.imm = 0 := sp_0 h7
  have g5 : i.kind = 0 := (sh_0 rfl h9).1
  have g6 : i.by_ = 0 := sp_0 (sh_0 rfl h9).2
  have g7 : i.set = 0 := h8.elim id fun e => absurd (show false = true from e.2) Bool.false_ne_true
  have g8 : i.cond = 0 := h6.elim id fun e => absurd (show false = true from e.1) Bool.false_ne_true
  have g9 : 0 < i.regs ∧ i.regs / 16384 % 2 * 16384 + i.regs % 256 = i.regs := lis_k 14 (by decide) (by decide) rfl h5 hg
  clear h1 h2 h3 h4 h5 h6 h7 h8 h9 h10
  have b0 := bitsV_bd i.regs 14 1
  have b1 := bitsV_bd i.regs 0 8
  refine Spec.enter gTok P80 100 Tryd.func80 rfl (by kernel_rfl) ?_
  refine .inl ⟨inR_u32 (by omega), ?_⟩
  refine .inl ⟨inR_u32 (by omega), ?_⟩
  refine .inl ⟨inR_u32 (by omega), ?_⟩
  refine ⟨[], no_rl, (pshapeLit hs).use (And.intro rfl trivial) rfl rfl ?_⟩
  repeat (refine Or.inl (And.intro (inR_u32 (by omega)) ?_))
  refine ⟨[], no_rl, (cutB i.regs 14 1 (by unfold U32; omega) (by decide) (by decide)).use (And.intro rfl (And.intro rfl (And.intro rfl trivial))) rfl rfl ?_⟩
  refine ⟨by decide, .inl ⟨inR_u32 (by rw [r8]; omega), ?_⟩⟩
  repeat (refine Or.inl (And.intro (inR_u32 (by omega)) ?_))
  refine ⟨[], no_rl, (cutB i.regs 0 8 (by unfold U32; omega) (by decide) (by decide)).use (And.intro rfl (And.intro rfl (And.intro rfl trivial))) rfl rfl ?_⟩
  refine retE ?_
  have eo : orF i (fieldsV 11) = 0 ||| B i.regs 14 1 8 ||| B i.regs 0 8 0 := rfl
  rw [eo]
  refine (show bits .or .u32 (bitsV i.regs 14 1 * Ev.pow2 .u32 8) (bitsV i.regs 0 8) = _ from ?_)
  refine ((((isB i.regs 14 1 8 (by decide) (by decide))).or (isB0 i.regs 0 8 (by decide)))).1.trans (congrArg (fun n : Nat => (n : Int)) ?_)
  first
  | (simp only [Nat.or_zero, Nat.zero_or]; done)
  | (simp only [Nat.or_zero, Nat.zero_or]
     generalize B i.regs 14 1 8 = n0
     generalize B i.regs 0 8 0 = n1
     ac_rfl)
set_option maxHeartbeats 8000000 in
set_option maxRecDepth 100000 in
theorem narrow_12 (i : IN) (hs : shapeV i.form = 12) (hr : rightR i (ruW 12)) (hg : i.regs ≤ 9223372036854775807) : PureF gT 80 [inP i] (.int .u32 ((orF i (fieldsV 12) : Nat) : Int)) := by
  obtain ⟨hf, h1, h2, h3, h4, h5, h6, h7, h8, h9, h10⟩ := hr
  have g0 := has_0 (r := i.rd) h1
  have g1 := has_0 (r := i.rn) h2
  have g2 := has_0 (r := i.rm) h3
  have g3 := has_0 (r := i.ra) h4
  have g4 : i.imm = 0 := sp_0 h7
  have g5 : i.kind = 0 := (sh_0 rfl h9).1
  have g6 : i.by_ = 0 := sp_0 (sh_0 rfl h9).2
  have g7 : i.set = 0 := h8.elim id fun e => absurd (show false = true from e.2) Bool.false_ne_true
  have g8 : i.cond = 0 := h6.elim id fun e => absurd (show false = true from e.1) Bool.false_ne_true
  have g9 : 0 < i.regs ∧ i.regs / 32768 % 2 * 32768 + i.regs % 256 = i.regs := lis_k 15 (by decide) (by decide) rfl h5 hg
  clear h1 h2 h3 h4 h5 h6 h7 h8 h9 h10
  have b0 := bitsV_bd i.regs 15 1
  have b1 := bitsV_bd i.regs 0 8
  refine Spec.enter gTok P80 100 Tryd.func80 rfl (by kernel_rfl) ?_
  refine .inl ⟨inR_u32 (by omega), ?_⟩
  refine .inl ⟨inR_u32 (by omega), ?_⟩
  refine .inl ⟨inR_u32 (by omega), ?_⟩
  refine ⟨[], no_rl, (pshapeLit hs).use (And.intro rfl trivial) rfl rfl ?_⟩
  repeat (refine Or.inl (And.intro (inR_u32 (by omega)) ?_))
  refine ⟨[], no_rl, (cutB i.regs 15 1 (by unfold U32; omega) (by decide) (by decide)).use (And.intro rfl (And.intro rfl (And.intro rfl trivial))) rfl rfl ?_⟩
  refine ⟨by decide, .inl ⟨inR_u32 (by rw [r8]; omega), ?_⟩⟩
  repeat (refine Or.inl (And.intro (inR_u32 (by omega)) ?_))
  refine ⟨[], no_rl, (cutB i.regs 0 8 (by unfold U32; omega) (by decide) (by decide)).use (And.intro rfl (And.intro rfl (And.intro rfl trivial))) rfl rfl ?_⟩
  refine retE ?_
  have eo : orF i (fieldsV 12) = 0 ||| B i.regs 15 1 8 ||| B i.regs 0 8 0 := rfl
  rw [eo]
  refine (show bits .or .u32 (bitsV i.regs 15 1 * Ev.pow2 .u32 8) (bitsV i.regs 0 8) = _ from ?_)
  refine ((((isB i.regs 15 1 8 (by decide) (by decide))).or (isB0 i.regs 0 8 (by decide)))).1.trans (congrArg (fun n : Nat => (n : Int)) ?_)
  first
  | (simp only [Nat.or_zero, Nat.zero_or]; done)
  | (simp only [Nat.or_zero, Nat.zero_or]
     generalize B i.regs 15 1 8 = n0
     generalize B i.regs 0 8 0 = n1
     ac_rfl)
set_option maxHeartbeats 8000000 in
set_option maxRecDepth 100000 in
theorem narrow_13 (i : IN) (hs : shapeV i.form = 13) (hr : rightR i (ruW 13)) (hg : i.regs ≤ 9223372036854775807) : PureF gT 80 [inP i] (.int .u32 ((orF i (fieldsV 13) : Nat) : Int)) := by
  obtain ⟨hf, h1, h2, h3, h4, h5, h6, h7, h8, h9, h10⟩ := hr
  have g0 := has_0 (r := i.rd) h1
  have g1 := has_0 (r := i.rn) h2
  have g2 := has_0 (r := i.rm) h3
  have g3 := has_0 (r := i.ra) h4
  have g4 : i.imm = 0 := sp_0 h7
  have g5 : i.kind = 0 := (sh_0 rfl h9).1
  have g6 : i.by_ = 0 := sp_0 (sh_0 rfl h9).2
  have g7 : i.set = 0 := h8.elim id fun e => absurd (show false = true from e.2) Bool.false_ne_true
  have g8 : i.cond = 0 := h6.elim id fun e => absurd (show false = true from e.1) Bool.false_ne_true
  clear h1 h2 h3 h4 h5 h6 h7 h8 h9 h10
  refine Spec.enter gTok P80 100 Tryd.func80 rfl (by kernel_rfl) ?_
  refine .inl ⟨inR_u32 (by omega), ?_⟩
  refine .inl ⟨inR_u32 (by omega), ?_⟩
  refine .inl ⟨inR_u32 (by omega), ?_⟩
  refine ⟨[], no_rl, (pshapeLit hs).use (And.intro rfl trivial) rfl rfl ?_⟩
  exact retE rfl
set_option maxHeartbeats 8000000 in
set_option maxRecDepth 100000 in
theorem narrow_14 (i : IN) (hs : shapeV i.form = 14) (hr : rightR i (ruW 14)) (hg : i.regs ≤ 9223372036854775807) : PureF gT 80 [inP i] (.int .u32 ((orF i (fieldsV 14) : Nat) : Int)) := by
  obtain ⟨hf, h1, h2, h3, h4, h5, h6, h7, h8, h9, h10⟩ := hr
  have g0 := has_0 (r := i.rd) h1
  have g1 := has_0 (r := i.rn) h2
  have g2 := has_0 (r := i.rm) h3
  have g3 := has_0 (r := i.ra) h4
  have g4 : 0 ≤ i.imm ∧ i.imm ≤ 255 ∧ i.imm % 1 = 0 := sp_s (s := 1) (by decide) h7
  have g5 : i.kind = 0 := (sh_0 rfl h9).1
  have g6 : i.by_ = 0 := sp_0 (sh_0 rfl h9).2
  have g7 : i.set = 0 := h8.elim id fun e => absurd (show false = true from e.2) Bool.false_ne_true
  have g8 : i.cond = 0 := h6.elim id fun e => absurd (show false = true from e.1) Bool.false_ne_true
  clear h1 h2 h3 h4 h5 h6 h7 h8 h9 h10
  refine Spec.enter gTok P80 100 Tryd.func80 rfl (by kernel_rfl) ?_
  refine .inl ⟨inR_u32 (by omega), ?_⟩
  refine .inl ⟨inR_u32 (by omega), ?_⟩
  refine .inl ⟨inR_u32 (by omega), ?_⟩
  refine ⟨[], no_rl, (pshapeLit hs).use (And.intro rfl trivial) rfl rfl ?_⟩
  refine retE ?_
  have eo : orF i (fieldsV 14) = 0 ||| B i.imm 0 8 0 := rfl
  rw [eo]
  refine (show i.imm = _ from ?_)
  refine ((isR0 i.imm 8 (by decide) (by omega))).1.trans (congrArg (fun n : Nat => (n : Int)) ?_)
  first
  | (simp only [Nat.or_zero, Nat.zero_or]; done)
  | (simp only [Nat.or_zero, Nat.zero_or]
     generalize B i.imm 0 8 0 = n0
     ac_rfl)
set_option maxHeartbeats 8000000 in
set_option maxRecDepth 100000 in
theorem narrow_15 (i : IN) (hs : shapeV i.form = 15) (hr : rightR i (ruW 15)) (hg : i.regs ≤ 9223372036854775807) : PureF gT 80 [inP i] (.int .u32 ((orF i (fieldsV 15) : Nat) : Int)) := by
  obtain ⟨hf, h1, h2, h3, h4, h5, h6, h7, h8, h9, h10⟩ := hr
  have g0 := has_0 (r := i.rd) h1
  have g1 := has_0 (r := i.rn) h2
  have g2 := has_0 (r := i.rm) h3
  have g3 := has_0 (r := i.ra) h4
  have g4 : -256 ≤ i.imm ∧ i.imm ≤ 254 ∧ i.imm % 2 = 0 := sp_s (s := 2) (by decide) h7
  have g5 : i.kind = 0 := (sh_0 rfl h9).1
  have g6 : i.by_ = 0 := sp_0 (sh_0 rfl h9).2
  have g7 : i.set = 0 := h8.elim id fun e => absurd (show false = true from e.2) Bool.false_ne_true
  have g8 : 0 ≤ i.cond ∧ i.cond ≤ 13 := by rcases h6 with h6 | h6 <;> omega
  clear h1 h2 h3 h4 h5 h6 h7 h8 h9 h10
  have b0 := bitsV_bd i.imm 1 8
  refine Spec.enter gTok P80 100 Tryd.func80 rfl (by kernel_rfl) ?_
  refine .inr ?_
  refine .inl ⟨inR_u32 (by omega), ?_⟩
  refine .inl ⟨inR_u32 (by omega), ?_⟩
  refine ⟨[], no_rl, (pshapeLit hs).use (And.intro rfl trivial) rfl rfl ?_⟩
  refine .inl ⟨inR_u32 (by omega), ?_⟩
  refine ⟨by decide, .inl ⟨inR_u32 (by rw [r8]; omega), ?_⟩⟩
  refine ⟨[], no_rl, (cutW i.imm 1 8 (by omega) (by decide) (by decide) (by decide)).use (And.intro rfl (And.intro rfl (And.intro rfl trivial))) rfl rfl ?_⟩
  refine retE ?_
  have eo : orF i (fieldsV 15) = 0 ||| B i.cond 0 4 8 ||| B i.imm 1 8 0 := rfl
  rw [eo]
  refine (show bits .or .u32 (i.cond * Ev.pow2 .u32 8) (bitsV i.imm 1 8) = _ from ?_)
  refine ((((isR i.cond 4 8 (by decide) (by decide) (by omega))).or (isB0 i.imm 1 8 (by decide)))).1.trans (congrArg (fun n : Nat => (n : Int)) ?_)
  first
  | (simp only [Nat.or_zero, Nat.zero_or]; done)
  | (simp only [Nat.or_zero, Nat.zero_or]
     generalize B i.cond 0 4 8 = n0
     generalize B i.imm 1 8 0 = n1
     ac_rfl)
set_option maxHeartbeats 8000000 in
set_option maxRecDepth 100000 in
theorem narrow_16 (i : IN) (hs : shapeV i.form = 16) (hr : rightR i (ruW 16)) (hg : i.regs ≤ 9223372036854775807) : PureF gT 80 [inP i] (.int .u32 ((orF i (fieldsV 16) : Nat) : Int)) := by
  obtain ⟨hf, h1, h2, h3, h4, h5, h6, h7, h8, h9, h10⟩ := hr
  have g0 := has_0 (r := i.rd) h1
  have g1 := has_0 (r := i.rn) h2
  have g2 := has_0 (r := i.rm) h3
  have g3 := has_0 (r := i.ra) h4
  have g4 : -2048 ≤ i.imm ∧ i.imm ≤ 2046 ∧ i.imm % 2 = 0 := sp_s (s := 2) (by decide) h7
  have g5 : i.kind = 0 := (sh_0 rfl h9).1
  have g6 : i.by_ = 0 := sp_0 (sh_0 rfl h9).2
  have g7 : i.set = 0 := h8.elim id fun e => absurd (show false = true from e.2) Bool.false_ne_true
  have g8 : i.cond = 0 := h6.elim id fun e => absurd (show false = true from e.1) Bool.false_ne_true
  clear h1 h2 h3 h4 h5 h6 h7 h8 h9 h10
  have b0 := bitsV_bd i.imm 1 11
  refine Spec.enter gTok P80 100 Tryd.func80 rfl (by kernel_rfl) ?_
  refine .inr ?_
  refine .inl ⟨inR_u32 (by omega), ?_⟩
  refine .inl ⟨inR_u32 (by omega), ?_⟩
  refine ⟨[], no_rl, (pshapeLit hs).use (And.intro rfl trivial) rfl rfl ?_⟩
  refine ⟨[], no_rl, (cutW i.imm 1 11 (by omega) (by decide) (by decide) (by decide)).use (And.intro rfl (And.intro rfl (And.intro rfl trivial))) rfl rfl ?_⟩
  refine retE ?_
  have eo : orF i (fieldsV 16) = 0 ||| B i.imm 1 11 0 := rfl
  rw [eo]
  refine (show bitsV i.imm 1 11 = _ from ?_)
  refine ((isB0 i.imm 1 11 (by decide))).1.trans (congrArg (fun n : Nat => (n : Int)) ?_)
  first
  | (simp only [Nat.or_zero, Nat.zero_or]; done)
  | (simp only [Nat.or_zero, Nat.zero_or]
     generalize B i.imm 1 11 0 = n0
     ac_rfl)

end Go.Proofs.YtjcacjeoddnmhaaDoor.Pw

/- Chapter 4 over values: the program's bits of wide shapes (by gen_tx.py). -/
namespace Go.Proofs.YtjcacjeoddnmhaaDoor.Pw
open Go Go.RowKit

set_option maxHeartbeats 8000000 in
set_option maxRecDepth 100000 in
theorem wide_17 (i : IN) (hs : shapeV i.form = 17) (hr : rightR i (ruW 17)) (hg : i.regs ≤ 9223372036854775807) : PureF gT 79 [inP i] (.int .u32 ((orF i (fieldsV 17) : Nat) : Int)) := by
  obtain ⟨hf, h1, h2, h3, h4, h5, h6, h7, h8, h9, h10⟩ := hr
  have g0 := has_3 (r := i.rd) h1
  have g1 := has_0 (r := i.rn) h2
  have g2 := has_0 (r := i.rm) h3
  have g3 := has_0 (r := i.ra) h4
  have g4 : 0 ≤ i.imm ∧ i.imm ≤ 65535 ∧ i.imm % 1 = 0 := sp_s (s := 1) (by decide) h7
  have g5 : i.kind = 0 := (sh_0 rfl h9).1
  have g6 : i.by_ = 0 := sp_0 (sh_0 rfl h9).2
  have g7 : i.set = 0 := h8.elim id fun e => absurd (show false = true from e.2) Bool.false_ne_true
  have g8 : i.cond = 0 := h6.elim id fun e => absurd (show false = true from e.1) Bool.false_ne_true
  clear h1 h2 h3 h4 h5 h6 h7 h8 h9 h10
  refine Spec.enter gTok P79 100 Tryd.func79 rfl (by kernel_rfl) ?_
  refine .inl ⟨inR_u32 (by omega), ?_⟩
  refine .inl ⟨inR_u32 (by omega), ?_⟩
  refine ⟨[], no_rl, (pshapeLit hs).use (And.intro rfl trivial) rfl rfl ?_⟩
  refine ⟨[], no_rl, (plain_pure i (by omega) (by omega) (by omega) (by omega) (by omega)).use (by repeat' first | exact trivial | exact rfl | exact Iff.rfl | exact Or.inl rfl | refine And.intro ?_ ?_) rfl rfl ?_⟩
  refine ⟨[], no_rl, (twelve_pure i.imm (by unfold U32; omega)).use (And.intro rfl trivial) rfl rfl ?_⟩
  refine retE ?_
  have eo : orF i (fieldsV 17) = 0 ||| B i.imm 11 1 26 ||| B i.imm 12 4 16 ||| B i.imm 8 3 12 ||| B i.imm 0 8 0 ||| B i.rd 0 4 8 := rfl
  rw [eo]
  refine (show bits .or .u32 (((B i.set 0 1 20 ||| B i.rn 0 4 16 ||| B i.ra 0 4 12 ||| B i.rd 0 4 8 ||| B i.rm 0 4 0 : Nat) : Int)) (((B i.imm 11 1 26 ||| B i.imm 12 4 16 ||| B i.imm 8 3 12 ||| B i.imm 0 8 0 : Nat) : Int)) = _ from ?_)
  refine ((((isPlain i)).or (isTwelve i.imm))).1.trans (congrArg (fun n : Nat => (n : Int)) ?_)
  first
  | (simp only [B_0 g1, B_0 g2, B_0 g3, B_0 g7, Nat.or_zero, Nat.zero_or]; done)
  | (simp only [B_0 g1, B_0 g2, B_0 g3, B_0 g7, Nat.or_zero, Nat.zero_or]
     generalize B i.imm 11 1 26 = n0
     generalize B i.imm 12 4 16 = n1
     generalize B i.imm 8 3 12 = n2
     generalize B i.imm 0 8 0 = n3
     generalize B i.rd 0 4 8 = n4
     ac_rfl)
set_option maxHeartbeats 8000000 in
set_option maxRecDepth 100000 in
theorem wide_18 (i : IN) (hs : shapeV i.form = 18) (hr : rightR i (ruW 18)) (hg : i.regs ≤ 9223372036854775807) : PureF gT 79 [inP i] (.int .u32 ((orF i (fieldsV 18) : Nat) : Int)) := by
  obtain ⟨hf, h1, h2, h3, h4, h5, h6, h7, h8, h9, h10⟩ := hr
  have g0 := has_3 (r := i.rd) h1
  have g1 := has_3 (r := i.rn) h2
  have g2 := has_0 (r := i.rm) h3
  have g3 := has_0 (r := i.ra) h4
  have g4 : 0 ≤ i.imm ∧ i.imm ≤ 4095 ∧ i.imm % 1 = 0 := sp_s (s := 1) (by decide) h7
  have g5 : i.kind = 0 := (sh_0 rfl h9).1
  have g6 : i.by_ = 0 := sp_0 (sh_0 rfl h9).2
  have g7 : i.set = 0 ∨ i.set = 1 := h8.imp id fun e => e.1
  have g8 : i.cond = 0 := h6.elim id fun e => absurd (show false = true from e.1) Bool.false_ne_true
  clear h1 h2 h3 h4 h5 h6 h7 h8 h9 h10
  refine Spec.enter gTok P79 100 Tryd.func79 rfl (by kernel_rfl) ?_
  refine .inl ⟨inR_u32 (by omega), ?_⟩
  refine .inl ⟨inR_u32 (by omega), ?_⟩
  refine ⟨[], no_rl, (pshapeLit hs).use (And.intro rfl trivial) rfl rfl ?_⟩
  refine ⟨[], no_rl, (plain_pure i (by omega) (by omega) (by omega) (by omega) (by omega)).use (by repeat' first | exact trivial | exact rfl | exact Iff.rfl | exact Or.inl rfl | refine And.intro ?_ ?_) rfl rfl ?_⟩
  refine ⟨[], no_rl, (twelve_pure i.imm (by unfold U32; omega)).use (And.intro rfl trivial) rfl rfl ?_⟩
  refine retE ?_
  have eo : orF i (fieldsV 18) = 0 ||| B i.imm 11 1 26 ||| B i.imm 8 3 12 ||| B i.imm 0 8 0 ||| B i.set 0 1 20 ||| B i.rn 0 4 16 ||| B i.rd 0 4 8 := rfl
  have z12 : B i.imm 12 4 16 = 0 := B_zero (by unfold bitsV; split <;> omega)
  rw [eo]
  refine (show bits .or .u32 (((B i.set 0 1 20 ||| B i.rn 0 4 16 ||| B i.ra 0 4 12 ||| B i.rd 0 4 8 ||| B i.rm 0 4 0 : Nat) : Int)) (((B i.imm 11 1 26 ||| B i.imm 12 4 16 ||| B i.imm 8 3 12 ||| B i.imm 0 8 0 : Nat) : Int)) = _ from ?_)
  refine ((((isPlain i)).or (isTwelve i.imm))).1.trans (congrArg (fun n : Nat => (n : Int)) ?_)
  first
  | (simp only [B_0 g2, B_0 g3, z12, Nat.or_zero, Nat.zero_or]; done)
  | (simp only [B_0 g2, B_0 g3, z12, Nat.or_zero, Nat.zero_or]
     generalize B i.imm 11 1 26 = n0
     generalize B i.imm 8 3 12 = n1
     generalize B i.imm 0 8 0 = n2
     generalize B i.set 0 1 20 = n3
     generalize B i.rn 0 4 16 = n4
     generalize B i.rd 0 4 8 = n5
     ac_rfl)
set_option maxHeartbeats 8000000 in
set_option maxRecDepth 100000 in
theorem wide_19 (i : IN) (hs : shapeV i.form = 19) (hr : rightR i (ruW 19)) (hg : i.regs ≤ 9223372036854775807) : PureF gT 79 [inP i] (.int .u32 ((orF i (fieldsV 19) : Nat) : Int)) := by
  obtain ⟨hf, h1, h2, h3, h4, h5, h6, h7, h8, h9, h10⟩ := hr
  have g0 := has_3 (r := i.rd) h1
  have g1 := has_0 (r := i.rn) h2
  have g2 := has_0 (r := i.rm) h3
  have g3 := has_0 (r := i.ra) h4
  have g4 : 0 ≤ i.imm ∧ i.imm ≤ 4095 ∧ i.imm % 1 = 0 := sp_s (s := 1) (by decide) h7
  have g5 : i.kind = 0 := (sh_0 rfl h9).1
  have g6 : i.by_ = 0 := sp_0 (sh_0 rfl h9).2
  have g7 : i.set = 0 ∨ i.set = 1 := h8.imp id fun e => e.1
  have g8 : i.cond = 0 := h6.elim id fun e => absurd (show false = true from e.1) Bool.false_ne_true
  clear h1 h2 h3 h4 h5 h6 h7 h8 h9 h10
  refine Spec.enter gTok P79 100 Tryd.func79 rfl (by kernel_rfl) ?_
  refine .inl ⟨inR_u32 (by omega), ?_⟩
  refine .inl ⟨inR_u32 (by omega), ?_⟩
  refine ⟨[], no_rl, (pshapeLit hs).use (And.intro rfl trivial) rfl rfl ?_⟩
  refine ⟨[], no_rl, (plain_pure i (by omega) (by omega) (by omega) (by omega) (by omega)).use (by repeat' first | exact trivial | exact rfl | exact Iff.rfl | exact Or.inl rfl | refine And.intro ?_ ?_) rfl rfl ?_⟩
  refine ⟨[], no_rl, (twelve_pure i.imm (by unfold U32; omega)).use (And.intro rfl trivial) rfl rfl ?_⟩
  refine retE ?_
  have eo : orF i (fieldsV 19) = 0 ||| B i.imm 11 1 26 ||| B i.imm 8 3 12 ||| B i.imm 0 8 0 ||| B i.set 0 1 20 ||| B i.rd 0 4 8 := rfl
  have z12 : B i.imm 12 4 16 = 0 := B_zero (by unfold bitsV; split <;> omega)
  rw [eo]
  refine (show bits .or .u32 (((B i.set 0 1 20 ||| B i.rn 0 4 16 ||| B i.ra 0 4 12 ||| B i.rd 0 4 8 ||| B i.rm 0 4 0 : Nat) : Int)) (((B i.imm 11 1 26 ||| B i.imm 12 4 16 ||| B i.imm 8 3 12 ||| B i.imm 0 8 0 : Nat) : Int)) = _ from ?_)
  refine ((((isPlain i)).or (isTwelve i.imm))).1.trans (congrArg (fun n : Nat => (n : Int)) ?_)
  first
  | (simp only [B_0 g1, B_0 g2, B_0 g3, z12, Nat.or_zero, Nat.zero_or]; done)
  | (simp only [B_0 g1, B_0 g2, B_0 g3, z12, Nat.or_zero, Nat.zero_or]
     generalize B i.imm 11 1 26 = n0
     generalize B i.imm 8 3 12 = n1
     generalize B i.imm 0 8 0 = n2
     generalize B i.set 0 1 20 = n3
     generalize B i.rd 0 4 8 = n4
     ac_rfl)
set_option maxHeartbeats 8000000 in
set_option maxRecDepth 100000 in
theorem wide_20 (i : IN) (hs : shapeV i.form = 20) (hr : rightR i (ruW 20)) (hg : i.regs ≤ 9223372036854775807) : PureF gT 79 [inP i] (.int .u32 ((orF i (fieldsV 20) : Nat) : Int)) := by
  obtain ⟨hf, h1, h2, h3, h4, h5, h6, h7, h8, h9, h10⟩ := hr
  have g0 := has_0 (r := i.rd) h1
  have g1 := has_3 (r := i.rn) h2
  have g2 := has_0 (r := i.rm) h3
  have g3 := has_0 (r := i.ra) h4
  have g4 : 0 ≤ i.imm ∧ i.imm ≤ 4095 ∧ i.imm % 1 = 0 := sp_s (s := 1) (by decide) h7
  have g5 : i.kind = 0 := (sh_0 rfl h9).1
  have g6 : i.by_ = 0 := sp_0 (sh_0 rfl h9).2
  have g7 : i.set = 0 := h8.elim id fun e => absurd (show false = true from e.2) Bool.false_ne_true
  have g8 : i.cond = 0 := h6.elim id fun e => absurd (show false = true from e.1) Bool.false_ne_true
  clear h1 h2 h3 h4 h5 h6 h7 h8 h9 h10
  refine Spec.enter gTok P79 100 Tryd.func79 rfl (by kernel_rfl) ?_
  refine .inl ⟨inR_u32 (by omega), ?_⟩
  refine .inl ⟨inR_u32 (by omega), ?_⟩
  refine ⟨[], no_rl, (pshapeLit hs).use (And.intro rfl trivial) rfl rfl ?_⟩
  refine ⟨[], no_rl, (plain_pure i (by omega) (by omega) (by omega) (by omega) (by omega)).use (by repeat' first | exact trivial | exact rfl | exact Iff.rfl | exact Or.inl rfl | refine And.intro ?_ ?_) rfl rfl ?_⟩
  refine ⟨[], no_rl, (twelve_pure i.imm (by unfold U32; omega)).use (And.intro rfl trivial) rfl rfl ?_⟩
  refine retE ?_
  have eo : orF i (fieldsV 20) = 0 ||| B i.imm 11 1 26 ||| B i.imm 8 3 12 ||| B i.imm 0 8 0 ||| B i.rn 0 4 16 := rfl
  have z12 : B i.imm 12 4 16 = 0 := B_zero (by unfold bitsV; split <;> omega)
  rw [eo]
  refine (show bits .or .u32 (((B i.set 0 1 20 ||| B i.rn 0 4 16 ||| B i.ra 0 4 12 ||| B i.rd 0 4 8 ||| B i.rm 0 4 0 : Nat) : Int)) (((B i.imm 11 1 26 ||| B i.imm 12 4 16 ||| B i.imm 8 3 12 ||| B i.imm 0 8 0 : Nat) : Int)) = _ from ?_)
  refine ((((isPlain i)).or (isTwelve i.imm))).1.trans (congrArg (fun n : Nat => (n : Int)) ?_)
  first
  | (simp only [B_0 g0, B_0 g2, B_0 g3, B_0 g7, z12, Nat.or_zero, Nat.zero_or]; done)
  | (simp only [B_0 g0, B_0 g2, B_0 g3, B_0 g7, z12, Nat.or_zero, Nat.zero_or]
     generalize B i.imm 11 1 26 = n0
     generalize B i.imm 8 3 12 = n1
     generalize B i.imm 0 8 0 = n2
     generalize B i.rn 0 4 16 = n3
     ac_rfl)
set_option maxHeartbeats 8000000 in
set_option maxRecDepth 100000 in
theorem wide_21 (i : IN) (hs : shapeV i.form = 21) (hr : rightR i (ruW 21)) (hg : i.regs ≤ 9223372036854775807) : PureF gT 79 [inP i] (.int .u32 ((orF i (fieldsV 21) : Nat) : Int)) := by
  obtain ⟨hf, h1, h2, h3, h4, h5, h6, h7, h8, h9, h10⟩ := hr
  have g0 := has_3 (r := i.rd) h1
  have g1 := has_3 (r := i.rn) h2
  have g2 := has_3 (r := i.rm) h3
  have g3 := has_0 (r := i.ra) h4
  have g4 : i.imm = 0 := sp_0 h7
  have g6 : barrelV i.kind i.by_ := sh_1 rfl h9
  have g5 := kind_bd g6
  have g6b : 0 ≤ i.by_ ∧ i.by_ ≤ 32 := by unfold barrelV at g6; omega
  have g7 : i.set = 0 ∨ i.set = 1 := h8.imp id fun e => e.1
  have g8 : i.cond = 0 := h6.elim id fun e => absurd (show false = true from e.1) Bool.false_ne_true
  clear h1 h2 h3 h4 h5 h6 h7 h8 h9 h10
  have b0 := bitsV_bd i.by_ 2 3
  have b1 := bitsV_bd i.by_ 0 2
  refine Spec.enter gTok P79 100 Tryd.func79 rfl (by kernel_rfl) ?_
  refine .inl ⟨inR_u32 (by omega), ?_⟩
  refine .inl ⟨inR_u32 (by omega), ?_⟩
  refine ⟨[], no_rl, (pshapeLit hs).use (And.intro rfl trivial) rfl rfl ?_⟩
  refine .inl ⟨inR_u32 (by omega), ?_⟩
  refine ⟨by decide, .inl ⟨inR_u32 (by rw [r4]; omega), ?_⟩⟩
  refine ⟨[], no_rl, (plain_pure i (by omega) (by omega) (by omega) (by omega) (by omega)).use (by repeat' first | exact trivial | exact rfl | exact Iff.rfl | exact Or.inl rfl | refine And.intro ?_ ?_) rfl rfl ?_⟩
  repeat (first
    | (refine ⟨[], no_rl, (cutB i.by_ 2 3 (by unfold U32; omega) (by decide) (by decide)).use (And.intro rfl (And.intro rfl (And.intro rfl trivial))) rfl rfl ?_⟩)
    | (refine ⟨by decide, .inl ⟨inR_u32 (by rw [r12]; omega), ?_⟩⟩)
    | (refine ⟨[], no_rl, (cutB i.by_ 0 2 (by unfold U32; omega) (by decide) (by decide)).use (And.intro rfl (And.intro rfl (And.intro rfl trivial))) rfl rfl ?_⟩)
    | (refine ⟨by decide, .inl ⟨inR_u32 (by rw [r6]; omega), ?_⟩⟩)
    | (refine .inl ⟨inR_u32 (by omega), ?_⟩)
    | (refine ⟨by decide, .inl ⟨inR_u32 (by rw [r4]; omega), ?_⟩⟩))
  refine retE ?_
  have eo : orF i (fieldsV 21) = 0 ||| B i.by_ 2 3 12 ||| B i.by_ 0 2 6 ||| B i.kind 0 2 4 ||| B i.set 0 1 20 ||| B i.rn 0 4 16 ||| B i.rd 0 4 8 ||| B i.rm 0 4 0 := rfl
  rw [eo]
  refine (show bits .or .u32 (bits .or .u32 (bits .or .u32 (((B i.set 0 1 20 ||| B i.rn 0 4 16 ||| B i.ra 0 4 12 ||| B i.rd 0 4 8 ||| B i.rm 0 4 0 : Nat) : Int)) (bitsV i.by_ 2 3 * Ev.pow2 .u32 12)) (bitsV i.by_ 0 2 * Ev.pow2 .u32 6)) (i.kind * Ev.pow2 .u32 4) = _ from ?_)
  refine ((((((((isPlain i)).or (isB i.by_ 2 3 12 (by decide) (by decide)))).or (isB i.by_ 0 2 6 (by decide) (by decide)))).or (isR i.kind 2 4 (by decide) (by decide) (by omega)))).1.trans (congrArg (fun n : Nat => (n : Int)) ?_)
  first
  | (simp only [B_0 g3, Nat.or_zero, Nat.zero_or]; done)
  | (simp only [B_0 g3, Nat.or_zero, Nat.zero_or]
     generalize B i.by_ 2 3 12 = n0
     generalize B i.by_ 0 2 6 = n1
     generalize B i.kind 0 2 4 = n2
     generalize B i.set 0 1 20 = n3
     generalize B i.rn 0 4 16 = n4
     generalize B i.rd 0 4 8 = n5
     generalize B i.rm 0 4 0 = n6
     ac_rfl)
set_option maxHeartbeats 8000000 in
set_option maxRecDepth 100000 in
theorem wide_22 (i : IN) (hs : shapeV i.form = 22) (hr : rightR i (ruW 22)) (hg : i.regs ≤ 9223372036854775807) : PureF gT 79 [inP i] (.int .u32 ((orF i (fieldsV 22) : Nat) : Int)) := by
  obtain ⟨hf, h1, h2, h3, h4, h5, h6, h7, h8, h9, h10⟩ := hr
  have g0 := has_3 (r := i.rd) h1
  have g1 := has_0 (r := i.rn) h2
  have g2 := has_3 (r := i.rm) h3
  have g3 := has_0 (r := i.ra) h4
  have g4 : i.imm = 0 := sp_0 h7
  have g6 : barrelV i.kind i.by_ := sh_1 rfl h9
  have g5 := kind_bd g6
  have g6b : 0 ≤ i.by_ ∧ i.by_ ≤ 32 := by unfold barrelV at g6; omega
  have g7 : i.set = 0 ∨ i.set = 1 := h8.imp id fun e => e.1
  have g8 : i.cond = 0 := h6.elim id fun e => absurd (show false = true from e.1) Bool.false_ne_true
  clear h1 h2 h3 h4 h5 h6 h7 h8 h9 h10
  have b0 := bitsV_bd i.by_ 2 3
  have b1 := bitsV_bd i.by_ 0 2
  refine Spec.enter gTok P79 100 Tryd.func79 rfl (by kernel_rfl) ?_
  refine .inl ⟨inR_u32 (by omega), ?_⟩
  refine .inl ⟨inR_u32 (by omega), ?_⟩
  refine ⟨[], no_rl, (pshapeLit hs).use (And.intro rfl trivial) rfl rfl ?_⟩
  refine .inl ⟨inR_u32 (by omega), ?_⟩
  refine ⟨by decide, .inl ⟨inR_u32 (by rw [r4]; omega), ?_⟩⟩
  refine ⟨[], no_rl, (plain_pure i (by omega) (by omega) (by omega) (by omega) (by omega)).use (by repeat' first | exact trivial | exact rfl | exact Iff.rfl | exact Or.inl rfl | refine And.intro ?_ ?_) rfl rfl ?_⟩
  repeat (first
    | (refine ⟨[], no_rl, (cutB i.by_ 2 3 (by unfold U32; omega) (by decide) (by decide)).use (And.intro rfl (And.intro rfl (And.intro rfl trivial))) rfl rfl ?_⟩)
    | (refine ⟨by decide, .inl ⟨inR_u32 (by rw [r12]; omega), ?_⟩⟩)
    | (refine ⟨[], no_rl, (cutB i.by_ 0 2 (by unfold U32; omega) (by decide) (by decide)).use (And.intro rfl (And.intro rfl (And.intro rfl trivial))) rfl rfl ?_⟩)
    | (refine ⟨by decide, .inl ⟨inR_u32 (by rw [r6]; omega), ?_⟩⟩)
    | (refine .inl ⟨inR_u32 (by omega), ?_⟩)
    | (refine ⟨by decide, .inl ⟨inR_u32 (by rw [r4]; omega), ?_⟩⟩))
  refine retE ?_
  have eo : orF i (fieldsV 22) = 0 ||| B i.by_ 2 3 12 ||| B i.by_ 0 2 6 ||| B i.kind 0 2 4 ||| B i.set 0 1 20 ||| B i.rd 0 4 8 ||| B i.rm 0 4 0 := rfl
  rw [eo]
  refine (show bits .or .u32 (bits .or .u32 (bits .or .u32 (((B i.set 0 1 20 ||| B i.rn 0 4 16 ||| B i.ra 0 4 12 ||| B i.rd 0 4 8 ||| B i.rm 0 4 0 : Nat) : Int)) (bitsV i.by_ 2 3 * Ev.pow2 .u32 12)) (bitsV i.by_ 0 2 * Ev.pow2 .u32 6)) (i.kind * Ev.pow2 .u32 4) = _ from ?_)
  refine ((((((((isPlain i)).or (isB i.by_ 2 3 12 (by decide) (by decide)))).or (isB i.by_ 0 2 6 (by decide) (by decide)))).or (isR i.kind 2 4 (by decide) (by decide) (by omega)))).1.trans (congrArg (fun n : Nat => (n : Int)) ?_)
  first
  | (simp only [B_0 g1, B_0 g3, Nat.or_zero, Nat.zero_or]; done)
  | (simp only [B_0 g1, B_0 g3, Nat.or_zero, Nat.zero_or]
     generalize B i.by_ 2 3 12 = n0
     generalize B i.by_ 0 2 6 = n1
     generalize B i.kind 0 2 4 = n2
     generalize B i.set 0 1 20 = n3
     generalize B i.rd 0 4 8 = n4
     generalize B i.rm 0 4 0 = n5
     ac_rfl)
set_option maxHeartbeats 8000000 in
set_option maxRecDepth 100000 in
theorem wide_23 (i : IN) (hs : shapeV i.form = 23) (hr : rightR i (ruW 23)) (hg : i.regs ≤ 9223372036854775807) : PureF gT 79 [inP i] (.int .u32 ((orF i (fieldsV 23) : Nat) : Int)) := by
  obtain ⟨hf, h1, h2, h3, h4, h5, h6, h7, h8, h9, h10⟩ := hr
  have g0 := has_0 (r := i.rd) h1
  have g1 := has_3 (r := i.rn) h2
  have g2 := has_3 (r := i.rm) h3
  have g3 := has_0 (r := i.ra) h4
  have g4 : i.imm = 0 := sp_0 h7
  have g6 : barrelV i.kind i.by_ := sh_1 rfl h9
  have g5 := kind_bd g6
  have g6b : 0 ≤ i.by_ ∧ i.by_ ≤ 32 := by unfold barrelV at g6; omega
  have g7 : i.set = 0 := h8.elim id fun e => absurd (show false = true from e.2) Bool.false_ne_true
  have g8 : i.cond = 0 := h6.elim id fun e => absurd (show false = true from e.1) Bool.false_ne_true
  clear h1 h2 h3 h4 h5 h6 h7 h8 h9 h10
  have b0 := bitsV_bd i.by_ 2 3
  have b1 := bitsV_bd i.by_ 0 2
  refine Spec.enter gTok P79 100 Tryd.func79 rfl (by kernel_rfl) ?_
  refine .inl ⟨inR_u32 (by omega), ?_⟩
  refine .inl ⟨inR_u32 (by omega), ?_⟩
  refine ⟨[], no_rl, (pshapeLit hs).use (And.intro rfl trivial) rfl rfl ?_⟩
  refine .inl ⟨inR_u32 (by omega), ?_⟩
  refine ⟨by decide, .inl ⟨inR_u32 (by rw [r4]; omega), ?_⟩⟩
  refine ⟨[], no_rl, (plain_pure i (by omega) (by omega) (by omega) (by omega) (by omega)).use (by repeat' first | exact trivial | exact rfl | exact Iff.rfl | exact Or.inl rfl | refine And.intro ?_ ?_) rfl rfl ?_⟩
  repeat (first
    | (refine ⟨[], no_rl, (cutB i.by_ 2 3 (by unfold U32; omega) (by decide) (by decide)).use (And.intro rfl (And.intro rfl (And.intro rfl trivial))) rfl rfl ?_⟩)
    | (refine ⟨by decide, .inl ⟨inR_u32 (by rw [r12]; omega), ?_⟩⟩)
    | (refine ⟨[], no_rl, (cutB i.by_ 0 2 (by unfold U32; omega) (by decide) (by decide)).use (And.intro rfl (And.intro rfl (And.intro rfl trivial))) rfl rfl ?_⟩)
    | (refine ⟨by decide, .inl ⟨inR_u32 (by rw [r6]; omega), ?_⟩⟩)
    | (refine .inl ⟨inR_u32 (by omega), ?_⟩)
    | (refine ⟨by decide, .inl ⟨inR_u32 (by rw [r4]; omega), ?_⟩⟩))
  refine retE ?_
  have eo : orF i (fieldsV 23) = 0 ||| B i.by_ 2 3 12 ||| B i.by_ 0 2 6 ||| B i.kind 0 2 4 ||| B i.rn 0 4 16 ||| B i.rm 0 4 0 := rfl
  rw [eo]
  refine (show bits .or .u32 (bits .or .u32 (bits .or .u32 (((B i.set 0 1 20 ||| B i.rn 0 4 16 ||| B i.ra 0 4 12 ||| B i.rd 0 4 8 ||| B i.rm 0 4 0 : Nat) : Int)) (bitsV i.by_ 2 3 * Ev.pow2 .u32 12)) (bitsV i.by_ 0 2 * Ev.pow2 .u32 6)) (i.kind * Ev.pow2 .u32 4) = _ from ?_)
  refine ((((((((isPlain i)).or (isB i.by_ 2 3 12 (by decide) (by decide)))).or (isB i.by_ 0 2 6 (by decide) (by decide)))).or (isR i.kind 2 4 (by decide) (by decide) (by omega)))).1.trans (congrArg (fun n : Nat => (n : Int)) ?_)
  first
  | (simp only [B_0 g0, B_0 g3, B_0 g7, Nat.or_zero, Nat.zero_or]; done)
  | (simp only [B_0 g0, B_0 g3, B_0 g7, Nat.or_zero, Nat.zero_or]
     generalize B i.by_ 2 3 12 = n0
     generalize B i.by_ 0 2 6 = n1
     generalize B i.kind 0 2 4 = n2
     generalize B i.rn 0 4 16 = n3
     generalize B i.rm 0 4 0 = n4
     ac_rfl)
set_option maxHeartbeats 8000000 in
set_option maxRecDepth 100000 in
theorem wide_24 (i : IN) (hs : shapeV i.form = 24) (hr : rightR i (ruW 24)) (hg : i.regs ≤ 9223372036854775807) : PureF gT 79 [inP i] (.int .u32 ((orF i (fieldsV 24) : Nat) : Int)) := by
  obtain ⟨hf, h1, h2, h3, h4, h5, h6, h7, h8, h9, h10⟩ := hr
  have g0 := has_3 (r := i.rd) h1
  have g1 := has_3 (r := i.rn) h2
  have g2 := has_0 (r := i.rm) h3
  have g3 := has_0 (r := i.ra) h4
  have g4 : 0 ≤ i.imm ∧ i.imm ≤ 4095 ∧ i.imm % 1 = 0 := sp_s (s := 1) (by decide) h7
  have g5 : i.kind = 0 := (sh_0 rfl h9).1
  have g6 : i.by_ = 0 := sp_0 (sh_0 rfl h9).2
  have g7 : i.set = 0 := h8.elim id fun e => absurd (show false = true from e.2) Bool.false_ne_true
  have g8 : i.cond = 0 := h6.elim id fun e => absurd (show false = true from e.1) Bool.false_ne_true
  clear h1 h2 h3 h4 h5 h6 h7 h8 h9 h10
  refine Spec.enter gTok P79 100 Tryd.func79 rfl (by kernel_rfl) ?_
  refine .inl ⟨inR_u32 (by omega), ?_⟩
  refine .inl ⟨inR_u32 (by omega), ?_⟩
  refine ⟨[], no_rl, (pshapeLit hs).use (And.intro rfl trivial) rfl rfl ?_⟩
  refine ⟨[], no_rl, (plain_pure i (by omega) (by omega) (by omega) (by omega) (by omega)).use (by repeat' first | exact trivial | exact rfl | exact Iff.rfl | exact Or.inl rfl | refine And.intro ?_ ?_) rfl rfl ?_⟩
  refine ⟨[], no_rl, (twelve_pure i.imm (by unfold U32; omega)).use (And.intro rfl trivial) rfl rfl ?_⟩
  refine retE ?_
  have eo : orF i (fieldsV 24) = 0 ||| B i.imm 11 1 26 ||| B i.imm 8 3 12 ||| B i.imm 0 8 0 ||| B i.rn 0 4 16 ||| B i.rd 0 4 8 := rfl
  have z12 : B i.imm 12 4 16 = 0 := B_zero (by unfold bitsV; split <;> omega)
  rw [eo]
  refine (show bits .or .u32 (((B i.set 0 1 20 ||| B i.rn 0 4 16 ||| B i.ra 0 4 12 ||| B i.rd 0 4 8 ||| B i.rm 0 4 0 : Nat) : Int)) (((B i.imm 11 1 26 ||| B i.imm 12 4 16 ||| B i.imm 8 3 12 ||| B i.imm 0 8 0 : Nat) : Int)) = _ from ?_)
  refine ((((isPlain i)).or (isTwelve i.imm))).1.trans (congrArg (fun n : Nat => (n : Int)) ?_)
  first
  | (simp only [B_0 g2, B_0 g3, B_0 g7, z12, Nat.or_zero, Nat.zero_or]; done)
  | (simp only [B_0 g2, B_0 g3, B_0 g7, z12, Nat.or_zero, Nat.zero_or]
     generalize B i.imm 11 1 26 = n0
     generalize B i.imm 8 3 12 = n1
     generalize B i.imm 0 8 0 = n2
     generalize B i.rn 0 4 16 = n3
     generalize B i.rd 0 4 8 = n4
     ac_rfl)
set_option maxHeartbeats 8000000 in
set_option maxRecDepth 100000 in
theorem wide_25 (i : IN) (hs : shapeV i.form = 25) (hr : rightR i (ruW 25)) (hg : i.regs ≤ 9223372036854775807) : PureF gT 79 [inP i] (.int .u32 ((orF i (fieldsV 25) : Nat) : Int)) := by
  obtain ⟨hf, h1, h2, h3, h4, h5, h6, h7, h8, h9, h10⟩ := hr
  have g0 := has_3 (r := i.rd) h1
  have g1 := has_2 (r := i.rn) h2
  have g2 := has_0 (r := i.rm) h3
  have g3 := has_0 (r := i.ra) h4
  have g4 : 0 ≤ i.imm ∧ i.imm ≤ 4095 ∧ i.imm % 1 = 0 := sp_s (s := 1) (by decide) h7
  have g5 : i.kind = 0 := (sh_0 rfl h9).1
  have g6 : i.by_ = 0 := sp_0 (sh_0 rfl h9).2
  have g7 : i.set = 0 := h8.elim id fun e => absurd (show false = true from e.2) Bool.false_ne_true
  have g8 : i.cond = 0 := h6.elim id fun e => absurd (show false = true from e.1) Bool.false_ne_true
  clear h1 h2 h3 h4 h5 h6 h7 h8 h9 h10
  refine Spec.enter gTok P79 100 Tryd.func79 rfl (by kernel_rfl) ?_
  refine .inl ⟨inR_u32 (by omega), ?_⟩
  refine .inl ⟨inR_u32 (by omega), ?_⟩
  refine ⟨[], no_rl, (pshapeLit hs).use (And.intro rfl trivial) rfl rfl ?_⟩
  refine .inl ⟨inR_u32 (by omega), ?_⟩
  refine ⟨by decide, .inl ⟨inR_u32 (by rw [r16]; omega), ?_⟩⟩
  refine .inl ⟨inR_u32 (by omega), ?_⟩
  refine ⟨by decide, .inl ⟨inR_u32 (by rw [r12]; omega), ?_⟩⟩
  refine retE ?_
  have eo : orF i (fieldsV 25) = 0 ||| B i.rn 0 4 16 ||| B i.rd 0 4 12 ||| B i.imm 0 12 0 := rfl
  rw [eo]
  refine (show bits .or .u32 (bits .or .u32 (i.rn * Ev.pow2 .u32 16) (i.rd * Ev.pow2 .u32 12)) (i.imm) = _ from ?_)
  refine ((((((isR i.rn 4 16 (by decide) (by decide) (by omega))).or (isR i.rd 4 12 (by decide) (by decide) (by omega)))).or (isR0 i.imm 12 (by decide) (by omega)))).1.trans (congrArg (fun n : Nat => (n : Int)) ?_)
  first
  | (simp only [Nat.or_zero, Nat.zero_or]; done)
  | (simp only [Nat.or_zero, Nat.zero_or]
     generalize B i.rn 0 4 16 = n0
     generalize B i.rd 0 4 12 = n1
     generalize B i.imm 0 12 0 = n2
     ac_rfl)
set_option maxHeartbeats 8000000 in
set_option maxRecDepth 100000 in
theorem wide_26 (i : IN) (hs : shapeV i.form = 26) (hr : rightR i (ruW 26)) (hg : i.regs ≤ 9223372036854775807) : PureF gT 79 [inP i] (.int .u32 ((orF i (fieldsV 26) : Nat) : Int)) := by
  obtain ⟨hf, h1, h2, h3, h4, h5, h6, h7, h8, h9, h10⟩ := hr
  have g0 := has_3 (r := i.rd) h1
  have g1 := has_2 (r := i.rn) h2
  have g2 := has_3 (r := i.rm) h3
  have g3 := has_0 (r := i.ra) h4
  have g4 : i.imm = 0 := sp_0 h7
  have g5 : i.kind = 0 := (sh_0 rfl h9).1
  have g6 : 0 ≤ i.by_ ∧ i.by_ ≤ 3 ∧ i.by_ % 1 = 0 := sp_s (s := 1) (by decide) (sh_0 rfl h9).2
  have g7 : i.set = 0 := h8.elim id fun e => absurd (show false = true from e.2) Bool.false_ne_true
  have g8 : i.cond = 0 := h6.elim id fun e => absurd (show false = true from e.1) Bool.false_ne_true
  clear h1 h2 h3 h4 h5 h6 h7 h8 h9 h10
  refine Spec.enter gTok P79 100 Tryd.func79 rfl (by kernel_rfl) ?_
  refine .inl ⟨inR_u32 (by omega), ?_⟩
  refine .inl ⟨inR_u32 (by omega), ?_⟩
  refine ⟨[], no_rl, (pshapeLit hs).use (And.intro rfl trivial) rfl rfl ?_⟩
  refine .inl ⟨inR_u32 (by omega), ?_⟩
  refine ⟨by decide, .inl ⟨inR_u32 (by rw [r16]; omega), ?_⟩⟩
  refine .inl ⟨inR_u32 (by omega), ?_⟩
  refine ⟨by decide, .inl ⟨inR_u32 (by rw [r12]; omega), ?_⟩⟩
  refine ⟨by decide, .inl ⟨inR_u32 (by rw [r4]; omega), ?_⟩⟩
  refine .inl ⟨inR_u32 (by omega), ?_⟩
  refine retE ?_
  have eo : orF i (fieldsV 26) = 0 ||| B i.rn 0 4 16 ||| B i.rd 0 4 12 ||| B i.by_ 0 2 4 ||| B i.rm 0 4 0 := rfl
  rw [eo]
  refine (show bits .or .u32 (bits .or .u32 (bits .or .u32 (i.rn * Ev.pow2 .u32 16) (i.rd * Ev.pow2 .u32 12)) (i.by_ * Ev.pow2 .u32 4)) (i.rm) = _ from ?_)
  refine ((((((((isR i.rn 4 16 (by decide) (by decide) (by omega))).or (isR i.rd 4 12 (by decide) (by decide) (by omega)))).or (isR i.by_ 2 4 (by decide) (by decide) (by omega)))).or (isR0 i.rm 4 (by decide) (by omega)))).1.trans (congrArg (fun n : Nat => (n : Int)) ?_)
  first
  | (simp only [Nat.or_zero, Nat.zero_or]; done)
  | (simp only [Nat.or_zero, Nat.zero_or]
     generalize B i.rn 0 4 16 = n0
     generalize B i.rd 0 4 12 = n1
     generalize B i.by_ 0 2 4 = n2
     generalize B i.rm 0 4 0 = n3
     ac_rfl)
set_option maxHeartbeats 8000000 in
set_option maxRecDepth 100000 in
theorem wide_27 (i : IN) (hs : shapeV i.form = 27) (hr : rightR i (ruW 27)) (hg : i.regs ≤ 9223372036854775807) : PureF gT 79 [inP i] (.int .u32 ((orF i (fieldsV 27) : Nat) : Int)) := by
  obtain ⟨hf, h1, h2, h3, h4, h5, h6, h7, h8, h9, h10⟩ := hr
  have g0 := has_3 (r := i.rd) h1
  have g1 := has_3 (r := i.rn) h2
  have g2 := has_3 (r := i.rm) h3
  have g3 := has_0 (r := i.ra) h4
  have g4 : i.imm = 0 := sp_0 h7
  have g5 : i.kind = 0 := (sh_0 rfl h9).1
  have g6 : i.by_ = 0 := sp_0 (sh_0 rfl h9).2
  have g7 : i.set = 0 ∨ i.set = 1 := h8.imp id fun e => e.1
  have g8 : i.cond = 0 := h6.elim id fun e => absurd (show false = true from e.1) Bool.false_ne_true
  clear h1 h2 h3 h4 h5 h6 h7 h8 h9 h10
  refine Spec.enter gTok P79 100 Tryd.func79 rfl (by kernel_rfl) ?_
  refine .inl ⟨inR_u32 (by omega), ?_⟩
  refine .inl ⟨inR_u32 (by omega), ?_⟩
  refine ⟨[], no_rl, (pshapeLit hs).use (And.intro rfl trivial) rfl rfl ?_⟩
  refine ⟨[], no_rl, (plain_pure i (by omega) (by omega) (by omega) (by omega) (by omega)).use (by repeat' first | exact trivial | exact rfl | exact Iff.rfl | exact Or.inl rfl | refine And.intro ?_ ?_) rfl rfl ?_⟩
  refine retE ?_
  have eo : orF i (fieldsV 27) = 0 ||| B i.set 0 1 20 ||| B i.rn 0 4 16 ||| B i.rd 0 4 8 ||| B i.rm 0 4 0 := rfl
  rw [eo]
  refine (show ((B i.set 0 1 20 ||| B i.rn 0 4 16 ||| B i.ra 0 4 12 ||| B i.rd 0 4 8 ||| B i.rm 0 4 0 : Nat) : Int) = _ from ?_)
  refine ((isPlain i)).1.trans (congrArg (fun n : Nat => (n : Int)) ?_)
  first
  | (simp only [B_0 g3, Nat.or_zero, Nat.zero_or]; done)
  | (simp only [B_0 g3, Nat.or_zero, Nat.zero_or]
     generalize B i.set 0 1 20 = n0
     generalize B i.rn 0 4 16 = n1
     generalize B i.rd 0 4 8 = n2
     generalize B i.rm 0 4 0 = n3
     ac_rfl)
set_option maxHeartbeats 8000000 in
set_option maxRecDepth 100000 in
theorem wide_28 (i : IN) (hs : shapeV i.form = 28) (hr : rightR i (ruW 28)) (hg : i.regs ≤ 9223372036854775807) : PureF gT 79 [inP i] (.int .u32 ((orF i (fieldsV 28) : Nat) : Int)) := by
  obtain ⟨hf, h1, h2, h3, h4, h5, h6, h7, h8, h9, h10⟩ := hr
  have g0 := has_3 (r := i.rd) h1
  have g1 := has_3 (r := i.rn) h2
  have g2 := has_3 (r := i.rm) h3
  have g3 := has_0 (r := i.ra) h4
  have g4 : i.imm = 0 := sp_0 h7
  have g5 : i.kind = 0 := (sh_0 rfl h9).1
  have g6 : i.by_ = 0 := sp_0 (sh_0 rfl h9).2
  have g7 : i.set = 0 := h8.elim id fun e => absurd (show false = true from e.2) Bool.false_ne_true
  have g8 : i.cond = 0 := h6.elim id fun e => absurd (show false = true from e.1) Bool.false_ne_true
  clear h1 h2 h3 h4 h5 h6 h7 h8 h9 h10
  refine Spec.enter gTok P79 100 Tryd.func79 rfl (by kernel_rfl) ?_
  refine .inl ⟨inR_u32 (by omega), ?_⟩
  refine .inl ⟨inR_u32 (by omega), ?_⟩
  refine ⟨[], no_rl, (pshapeLit hs).use (And.intro rfl trivial) rfl rfl ?_⟩
  refine ⟨[], no_rl, (plain_pure i (by omega) (by omega) (by omega) (by omega) (by omega)).use (by repeat' first | exact trivial | exact rfl | exact Iff.rfl | exact Or.inl rfl | refine And.intro ?_ ?_) rfl rfl ?_⟩
  refine retE ?_
  have eo : orF i (fieldsV 28) = 0 ||| B i.rn 0 4 16 ||| B i.rd 0 4 8 ||| B i.rm 0 4 0 := rfl
  rw [eo]
  refine (show ((B i.set 0 1 20 ||| B i.rn 0 4 16 ||| B i.ra 0 4 12 ||| B i.rd 0 4 8 ||| B i.rm 0 4 0 : Nat) : Int) = _ from ?_)
  refine ((isPlain i)).1.trans (congrArg (fun n : Nat => (n : Int)) ?_)
  first
  | (simp only [B_0 g3, B_0 g7, Nat.or_zero, Nat.zero_or]; done)
  | (simp only [B_0 g3, B_0 g7, Nat.or_zero, Nat.zero_or]
     generalize B i.rn 0 4 16 = n0
     generalize B i.rd 0 4 8 = n1
     generalize B i.rm 0 4 0 = n2
     ac_rfl)
set_option maxHeartbeats 8000000 in
set_option maxRecDepth 100000 in
theorem wide_29 (i : IN) (hs : shapeV i.form = 29) (hr : rightR i (ruW 29)) (hg : i.regs ≤ 9223372036854775807) : PureF gT 79 [inP i] (.int .u32 ((orF i (fieldsV 29) : Nat) : Int)) := by
  obtain ⟨hf, h1, h2, h3, h4, h5, h6, h7, h8, h9, h10⟩ := hr
  have g0 := has_3 (r := i.rd) h1
  have g1 := has_3 (r := i.rn) h2
  have g2 := has_3 (r := i.rm) h3
  have g3 := has_3 (r := i.ra) h4
  have g4 : i.imm = 0 := sp_0 h7
  have g5 : i.kind = 0 := (sh_0 rfl h9).1
  have g6 : i.by_ = 0 := sp_0 (sh_0 rfl h9).2
  have g7 : i.set = 0 := h8.elim id fun e => absurd (show false = true from e.2) Bool.false_ne_true
  have g8 : i.cond = 0 := h6.elim id fun e => absurd (show false = true from e.1) Bool.false_ne_true
  clear h1 h2 h3 h4 h5 h6 h7 h8 h9 h10
  refine Spec.enter gTok P79 100 Tryd.func79 rfl (by kernel_rfl) ?_
  refine .inl ⟨inR_u32 (by omega), ?_⟩
  refine .inl ⟨inR_u32 (by omega), ?_⟩
  refine ⟨[], no_rl, (pshapeLit hs).use (And.intro rfl trivial) rfl rfl ?_⟩
  refine ⟨[], no_rl, (plain_pure i (by omega) (by omega) (by omega) (by omega) (by omega)).use (by repeat' first | exact trivial | exact rfl | exact Iff.rfl | exact Or.inl rfl | refine And.intro ?_ ?_) rfl rfl ?_⟩
  refine retE ?_
  have eo : orF i (fieldsV 29) = 0 ||| B i.rn 0 4 16 ||| B i.ra 0 4 12 ||| B i.rd 0 4 8 ||| B i.rm 0 4 0 := rfl
  rw [eo]
  refine (show ((B i.set 0 1 20 ||| B i.rn 0 4 16 ||| B i.ra 0 4 12 ||| B i.rd 0 4 8 ||| B i.rm 0 4 0 : Nat) : Int) = _ from ?_)
  refine ((isPlain i)).1.trans (congrArg (fun n : Nat => (n : Int)) ?_)
  first
  | (simp only [B_0 g7, Nat.or_zero, Nat.zero_or]; done)
  | (simp only [B_0 g7, Nat.or_zero, Nat.zero_or]
     generalize B i.rn 0 4 16 = n0
     generalize B i.ra 0 4 12 = n1
     generalize B i.rd 0 4 8 = n2
     generalize B i.rm 0 4 0 = n3
     ac_rfl)
set_option maxHeartbeats 8000000 in
set_option maxRecDepth 100000 in
theorem wide_30 (i : IN) (hs : shapeV i.form = 30) (hr : rightR i (ruW 30)) (hg : i.regs ≤ 9223372036854775807) : PureF gT 79 [inP i] (.int .u32 ((orF i (fieldsV 30) : Nat) : Int)) := by
  obtain ⟨hf, h1, h2, h3, h4, h5, h6, h7, h8, h9, h10⟩ := hr
  have g0 := has_3 (r := i.rd) h1
  have g1 := has_3 (r := i.rn) h2
  have g2 := has_3 (r := i.rm) h3
  have g3 := has_3 (r := i.ra) h4
  have g4 : i.imm = 0 := sp_0 h7
  have g5 : i.kind = 0 := (sh_0 rfl h9).1
  have g6 : i.by_ = 0 := sp_0 (sh_0 rfl h9).2
  have g7 : i.set = 0 := h8.elim id fun e => absurd (show false = true from e.2) Bool.false_ne_true
  have g8 : i.cond = 0 := h6.elim id fun e => absurd (show false = true from e.1) Bool.false_ne_true
  clear h1 h2 h3 h4 h5 h6 h7 h8 h9 h10
  refine Spec.enter gTok P79 100 Tryd.func79 rfl (by kernel_rfl) ?_
  refine .inl ⟨inR_u32 (by omega), ?_⟩
  refine .inl ⟨inR_u32 (by omega), ?_⟩
  refine ⟨[], no_rl, (pshapeLit hs).use (And.intro rfl trivial) rfl rfl ?_⟩
  refine ⟨[], no_rl, (plain_pure i (by omega) (by omega) (by omega) (by omega) (by omega)).use (by repeat' first | exact trivial | exact rfl | exact Iff.rfl | exact Or.inl rfl | refine And.intro ?_ ?_) rfl rfl ?_⟩
  refine retE ?_
  have eo : orF i (fieldsV 30) = 0 ||| B i.rn 0 4 16 ||| B i.ra 0 4 12 ||| B i.rd 0 4 8 ||| B i.rm 0 4 0 := rfl
  rw [eo]
  refine (show ((B i.set 0 1 20 ||| B i.rn 0 4 16 ||| B i.ra 0 4 12 ||| B i.rd 0 4 8 ||| B i.rm 0 4 0 : Nat) : Int) = _ from ?_)
  refine ((isPlain i)).1.trans (congrArg (fun n : Nat => (n : Int)) ?_)
  first
  | (simp only [B_0 g7, Nat.or_zero, Nat.zero_or]; done)
  | (simp only [B_0 g7, Nat.or_zero, Nat.zero_or]
     generalize B i.rn 0 4 16 = n0
     generalize B i.ra 0 4 12 = n1
     generalize B i.rd 0 4 8 = n2
     generalize B i.rm 0 4 0 = n3
     ac_rfl)
set_option maxHeartbeats 8000000 in
set_option maxRecDepth 100000 in
theorem wide_31 (i : IN) (hs : shapeV i.form = 31) (hr : rightR i (ruW 31)) (hg : i.regs ≤ 9223372036854775807) : PureF gT 79 [inP i] (.int .u32 ((orF i (fieldsV 31) : Nat) : Int)) := by
  obtain ⟨hf, h1, h2, h3, h4, h5, h6, h7, h8, h9, h10⟩ := hr
  have g0 := has_3 (r := i.rd) h1
  have g1 := has_3 (r := i.rn) h2
  have g2 := has_3 (r := i.rm) h3
  have g3 := has_3 (r := i.ra) h4
  have g4 : i.imm = 0 := sp_0 h7
  have g5 : i.kind = 0 := (sh_0 rfl h9).1
  have g6 : i.by_ = 0 := sp_0 (sh_0 rfl h9).2
  have g7 : i.set = 0 := h8.elim id fun e => absurd (show false = true from e.2) Bool.false_ne_true
  have g8 : i.cond = 0 := h6.elim id fun e => absurd (show false = true from e.1) Bool.false_ne_true
  clear h1 h2 h3 h4 h5 h6 h7 h8 h9 h10
  refine Spec.enter gTok P79 100 Tryd.func79 rfl (by kernel_rfl) ?_
  refine .inl ⟨inR_u32 (by omega), ?_⟩
  refine .inl ⟨inR_u32 (by omega), ?_⟩
  refine ⟨[], no_rl, (pshapeLit hs).use (And.intro rfl trivial) rfl rfl ?_⟩
  refine .inl ⟨inR_u32 (by omega), ?_⟩
  refine ⟨by decide, .inl ⟨inR_u32 (by rw [r16]; omega), ?_⟩⟩
  refine .inl ⟨inR_u32 (by omega), ?_⟩
  refine ⟨by decide, .inl ⟨inR_u32 (by rw [r12]; omega), ?_⟩⟩
  refine .inl ⟨inR_u32 (by omega), ?_⟩
  refine ⟨by decide, .inl ⟨inR_u32 (by rw [r8]; omega), ?_⟩⟩
  refine .inl ⟨inR_u32 (by omega), ?_⟩
  refine retE ?_
  have eo : orF i (fieldsV 31) = 0 ||| B i.rn 0 4 16 ||| B i.rd 0 4 12 ||| B i.ra 0 4 8 ||| B i.rm 0 4 0 := rfl
  rw [eo]
  refine (show bits .or .u32 (bits .or .u32 (bits .or .u32 (i.rn * Ev.pow2 .u32 16) (i.rd * Ev.pow2 .u32 12)) (i.ra * Ev.pow2 .u32 8)) (i.rm) = _ from ?_)
  refine ((((((((isR i.rn 4 16 (by decide) (by decide) (by omega))).or (isR i.rd 4 12 (by decide) (by decide) (by omega)))).or (isR i.ra 4 8 (by decide) (by decide) (by omega)))).or (isR0 i.rm 4 (by decide) (by omega)))).1.trans (congrArg (fun n : Nat => (n : Int)) ?_)
  first
  | (simp only [Nat.or_zero, Nat.zero_or]; done)
  | (simp only [Nat.or_zero, Nat.zero_or]
     generalize B i.rn 0 4 16 = n0
     generalize B i.rd 0 4 12 = n1
     generalize B i.ra 0 4 8 = n2
     generalize B i.rm 0 4 0 = n3
     ac_rfl)
set_option maxHeartbeats 8000000 in
set_option maxRecDepth 100000 in
theorem wide_32 (i : IN) (hs : shapeV i.form = 32) (hr : rightR i (ruW 32)) (hg : i.regs ≤ 9223372036854775807) : PureF gT 79 [inP i] (.int .u32 ((orF i (fieldsV 32) : Nat) : Int)) := by
  obtain ⟨hf, h1, h2, h3, h4, h5, h6, h7, h8, h9, h10⟩ := hr
  have g0 := has_3 (r := i.rd) h1
  have g1 := has_0 (r := i.rn) h2
  have g2 := has_3 (r := i.rm) h3
  have g3 := has_0 (r := i.ra) h4
  have g4 : i.imm = 0 := sp_0 h7
  have g5 : i.kind = 0 := (sh_0 rfl h9).1
  have g6 : i.by_ = 0 := sp_0 (sh_0 rfl h9).2
  have g7 : i.set = 0 := h8.elim id fun e => absurd (show false = true from e.2) Bool.false_ne_true
  have g8 : i.cond = 0 := h6.elim id fun e => absurd (show false = true from e.1) Bool.false_ne_true
  clear h1 h2 h3 h4 h5 h6 h7 h8 h9 h10
  refine Spec.enter gTok P79 100 Tryd.func79 rfl (by kernel_rfl) ?_
  refine .inl ⟨inR_u32 (by omega), ?_⟩
  refine .inl ⟨inR_u32 (by omega), ?_⟩
  refine ⟨[], no_rl, (pshapeLit hs).use (And.intro rfl trivial) rfl rfl ?_⟩
  refine .inl ⟨inR_u32 (by omega), ?_⟩
  refine ⟨by decide, .inl ⟨inR_u32 (by rw [r16]; omega), ?_⟩⟩
  refine .inl ⟨inR_u32 (by omega), ?_⟩
  refine ⟨by decide, .inl ⟨inR_u32 (by rw [r8]; omega), ?_⟩⟩
  refine .inl ⟨inR_u32 (by omega), ?_⟩
  refine retE ?_
  have eo : orF i (fieldsV 32) = 0 ||| B i.rm 0 4 16 ||| B i.rd 0 4 8 ||| B i.rm 0 4 0 := rfl
  rw [eo]
  refine (show bits .or .u32 (bits .or .u32 (i.rm * Ev.pow2 .u32 16) (i.rd * Ev.pow2 .u32 8)) (i.rm) = _ from ?_)
  refine ((((((isR i.rm 4 16 (by decide) (by decide) (by omega))).or (isR i.rd 4 8 (by decide) (by decide) (by omega)))).or (isR0 i.rm 4 (by decide) (by omega)))).1.trans (congrArg (fun n : Nat => (n : Int)) ?_)
  first
  | (simp only [Nat.or_zero, Nat.zero_or]; done)
  | (simp only [Nat.or_zero, Nat.zero_or]
     generalize B i.rm 0 4 16 = n0
     generalize B i.rd 0 4 8 = n1
     generalize B i.rm 0 4 0 = n2
     ac_rfl)
set_option maxHeartbeats 8000000 in
set_option maxRecDepth 100000 in
theorem condWide_pure (v c : Int) (hv : -1099511627776 ≤ v) (hc : 0 ≤ c ∧ c < 16) : PureF gT 87 [.int .u32 (IntKind.u32.wrap v), .int .u32 c] (.int .u32 ((B v 20 1 26 ||| B c 0 4 22 ||| B v 12 6 16 ||| B v 18 1 13 ||| B v 19 1 11 ||| B v 1 11 0 : Nat) : Int)) := by
  have b0 := bitsV_bd v 20 1
  have b1 := bitsV_bd v 12 6
  have b2 := bitsV_bd v 18 1
  have b3 := bitsV_bd v 19 1
  have b4 := bitsV_bd v 1 11
  refine Spec.enter gTok P87 100 Tryd.func87 rfl (by kernel_rfl) ?_
  refine ⟨[], no_rl, (cutW v 20 1 (by omega) (by decide) (by decide) (by decide)).use (And.intro rfl (And.intro rfl (And.intro rfl trivial))) rfl rfl ?_⟩
  refine ⟨by decide, .inl ⟨inR_u32 (by rw [r26]; omega), ?_⟩⟩
  refine ⟨by decide, .inl ⟨inR_u32 (by rw [r22]; omega), ?_⟩⟩
  refine ⟨[], no_rl, (cutW v 12 6 (by omega) (by decide) (by decide) (by decide)).use (And.intro rfl (And.intro rfl (And.intro rfl trivial))) rfl rfl ?_⟩
  refine ⟨by decide, .inl ⟨inR_u32 (by rw [r16]; omega), ?_⟩⟩
  refine ⟨[], no_rl, (cutW v 18 1 (by omega) (by decide) (by decide) (by decide)).use (And.intro rfl (And.intro rfl (And.intro rfl trivial))) rfl rfl ?_⟩
  refine ⟨by decide, .inl ⟨inR_u32 (by rw [r13]; omega), ?_⟩⟩
  refine ⟨[], no_rl, (cutW v 19 1 (by omega) (by decide) (by decide) (by decide)).use (And.intro rfl (And.intro rfl (And.intro rfl trivial))) rfl rfl ?_⟩
  refine ⟨by decide, .inl ⟨inR_u32 (by rw [r11]; omega), ?_⟩⟩
  refine ⟨[], no_rl, (cutW v 1 11 (by omega) (by decide) (by decide) (by decide)).use (And.intro rfl (And.intro rfl (And.intro rfl trivial))) rfl rfl ?_⟩
  refine retE ?_
  exact (show bits .or .u32 (bits .or .u32 (bits .or .u32 (bits .or .u32 (bits .or .u32 (bitsV v 20 1 * Ev.pow2 .u32 26) (c * Ev.pow2 .u32 22)) (bitsV v 12 6 * Ev.pow2 .u32 16)) (bitsV v 18 1 * Ev.pow2 .u32 13)) (bitsV v 19 1 * Ev.pow2 .u32 11)) (bitsV v 1 11) = _ from ((((((((((((isB v 20 1 26 (by decide) (by decide))).or (isR c 4 22 (by decide) (by decide) hc))).or (isB v 12 6 16 (by decide) (by decide)))).or (isB v 18 1 13 (by decide) (by decide)))).or (isB v 19 1 11 (by decide) (by decide)))).or (isB0 v 1 11 (by decide)))).1)
set_option maxHeartbeats 8000000 in
set_option maxRecDepth 100000 in
theorem wide_33 (i : IN) (hs : shapeV i.form = 33) (hr : rightR i (ruW 33)) (hg : i.regs ≤ 9223372036854775807) : PureF gT 79 [inP i] (.int .u32 ((orF i (fieldsV 33) : Nat) : Int)) := by
  obtain ⟨hf, h1, h2, h3, h4, h5, h6, h7, h8, h9, h10⟩ := hr
  have g0 := has_0 (r := i.rd) h1
  have g1 := has_0 (r := i.rn) h2
  have g2 := has_0 (r := i.rm) h3
  have g3 := has_0 (r := i.ra) h4
  have g4 : -1048576 ≤ i.imm ∧ i.imm ≤ 1048574 ∧ i.imm % 2 = 0 := sp_s (s := 2) (by decide) h7
  have g5 : i.kind = 0 := (sh_0 rfl h9).1
  have g6 : i.by_ = 0 := sp_0 (sh_0 rfl h9).2
  have g7 : i.set = 0 := h8.elim id fun e => absurd (show false = true from e.2) Bool.false_ne_true
  have g8 : 0 ≤ i.cond ∧ i.cond ≤ 13 := by rcases h6 with h6 | h6 <;> omega
  clear h1 h2 h3 h4 h5 h6 h7 h8 h9 h10
  refine Spec.enter gTok P79 100 Tryd.func79 rfl (by kernel_rfl) ?_
  refine .inr ?_
  refine .inl ⟨inR_u32 (by omega), ?_⟩
  refine ⟨[], no_rl, (pshapeLit hs).use (And.intro rfl trivial) rfl rfl ?_⟩
  refine .inl ⟨inR_u32 (by omega), ?_⟩
  refine ⟨[], no_rl, (condWide_pure i.imm i.cond (by omega) (by omega)).use (by repeat' first | exact trivial | exact rfl | exact Iff.rfl | exact Or.inl rfl | refine And.intro ?_ ?_) rfl rfl ?_⟩
  refine retE ?_
  have eo : orF i (fieldsV 33) = 0 ||| B i.imm 20 1 26 ||| B i.cond 0 4 22 ||| B i.imm 12 6 16 ||| B i.imm 18 1 13 ||| B i.imm 19 1 11 ||| B i.imm 1 11 0 := rfl
  rw [eo]
  refine (show _ = _ from congrArg (fun n : Nat => (n : Int)) ?_)
  simp only [Nat.zero_or]
/-- how a jump's turned bits stand -/
theorem turned_bits (v : Int) (hv : -1099511627776 ≤ v) : bitsV (turnN (bitsV v 0 25) 2) 24 1 = bitsV v 24 1 ∧ bitsV (turnN (bitsV v 0 25) 2) 12 10 = bitsV v 12 10 ∧ bitsV (turnN (bitsV v 0 25) 2) 23 1 = (if bitsV v 23 1 = bitsV v 24 1 then 1 else 0) ∧ bitsV (turnN (bitsV v 0 25) 2) 22 1 = (if bitsV v 22 1 = bitsV v 24 1 then 1 else 0) ∧ bitsV (turnN (bitsV v 0 25) 2) 1 11 = bitsV v 1 11 := by
  obtain ⟨u, hu⟩ : ∃ u, u = if v < 0 then v + 1099511627776 else v := ⟨_, rfl⟩
  have u0 : 0 ≤ u := by rw [hu]; split <;> omega
  obtain ⟨n, hn⟩ : ∃ n, n = bitsV v 0 25 := ⟨_, rfl⟩
  have e : n = u % 33554432 := by
    rw [hn]; unfold bitsV; rw [← hu]; omega
  have hb : 0 ≤ n ∧ n < 33554432 := by omega
  have c := turn_bits hb
  have d := turn_bd hb
  rw [← hn]
  obtain ⟨t, ht⟩ : ∃ t, t = turnN n 2 := ⟨_, rfl⟩
  rw [← ht] at c d ⊢
  have e1 : bitsV v 24 1 = n / 16777216 := by unfold bitsV; rw [← hu]; omega
  have e2 : bitsV v 23 1 = n / 8388608 % 2 := by unfold bitsV; rw [← hu]; omega
  have e3 : bitsV v 22 1 = n / 4194304 % 2 := by unfold bitsV; rw [← hu]; omega
  have e4 : bitsV v 12 10 = n % 4194304 / 4096 := by unfold bitsV; rw [← hu]; omega
  have e5 : bitsV v 1 11 = n % 4194304 / 2 % 2048 := by unfold bitsV; rw [← hu]; omega
  have f1 : bitsV t 24 1 = t / 16777216 := by unfold bitsV; rw [if_neg (by omega)]; omega
  have f2 : bitsV t 23 1 = t / 8388608 % 2 := by unfold bitsV; rw [if_neg (by omega)]; omega
  have f3 : bitsV t 22 1 = t / 4194304 % 2 := by unfold bitsV; rw [if_neg (by omega)]; omega
  have f4 : bitsV t 12 10 = t % 4194304 / 4096 := by unfold bitsV; rw [if_neg (by omega)]; omega
  have f5 : bitsV t 1 11 = t % 4194304 / 2 % 2048 := by unfold bitsV; rw [if_neg (by omega)]; omega
  have e6 : n / 16777216 % 2 = n / 16777216 := by omega
  rw [e1, e2, e3, e4, e5, f1, f2, f3, f4, f5, c.1, c.2.1]
  rw [e6] at c
  exact ⟨rfl, rfl, c.2.2.2, c.2.2.1, rfl⟩
theorem sameIs (a b : Int) : ∃ m : Int, m = (if a = b then 1 else 0) ∧ 0 ≤ m ∧ m < 2 := ⟨_, rfl, by split <;> omega, by split <;> omega⟩
set_option maxHeartbeats 8000000 in
set_option maxRecDepth 100000 in
theorem jumpWide_pure (v : Int) (hv : -1099511627776 ≤ v) : PureF gT 88 [.int .u32 (IntKind.u32.wrap v)] (.int .u32 ((B (turnN (bitsV v 0 25) 2) 24 1 26 ||| B (turnN (bitsV v 0 25) 2) 12 10 16 ||| B (turnN (bitsV v 0 25) 2) 23 1 13 ||| B (turnN (bitsV v 0 25) 2) 22 1 11 ||| B (turnN (bitsV v 0 25) 2) 1 11 0 : Nat) : Int)) := by
  obtain ⟨t1, t2, t3, t4, t5⟩ := turned_bits v hv
  have s2 := same_pure (bitsV v 23 1) (bitsV v 24 1) (bit_bd v 23) (bit_bd v 24)
  have s3 := same_pure (bitsV v 22 1) (bitsV v 24 1) (bit_bd v 22) (bit_bd v 24)
  obtain ⟨m2, hm2, c2⟩ := sameIs (bitsV v 23 1) (bitsV v 24 1)
  obtain ⟨m3, hm3, c3⟩ := sameIs (bitsV v 22 1) (bitsV v 24 1)
  rw [← hm2] at s2 t3
  rw [← hm3] at s3 t4
  have b0 := bitsV_bd v 24 1
  have b1 := bitsV_bd v 12 10
  have b2 := bitsV_bd v 1 11
  refine Spec.enter gTok P88 100 Tryd.func88 rfl (by kernel_rfl) ?_
  refine ⟨[], no_rl, (cutW v 24 1 (by omega) (by decide) (by decide) (by decide)).use (And.intro rfl (And.intro rfl (And.intro rfl trivial))) rfl rfl ?_⟩
  refine ⟨by decide, .inl ⟨inR_u32 (by rw [r26]; omega), ?_⟩⟩
  refine ⟨[], no_rl, (cutW v 12 10 (by omega) (by decide) (by decide) (by decide)).use (And.intro rfl (And.intro rfl (And.intro rfl trivial))) rfl rfl ?_⟩
  refine ⟨by decide, .inl ⟨inR_u32 (by rw [r16]; omega), ?_⟩⟩
  refine ⟨[], no_rl, (cutW v 23 1 (by omega) (by decide) (by decide) (by decide)).use (And.intro rfl (And.intro rfl (And.intro rfl trivial))) rfl rfl ?_⟩
  refine ⟨[], no_rl, s2.use (by repeat' first | exact trivial | exact rfl | exact Iff.rfl | exact Or.inl rfl | refine And.intro ?_ ?_) rfl rfl ?_⟩
  refine ⟨by decide, .inl ⟨inR_u32 (by rw [r13]; omega), ?_⟩⟩
  refine ⟨[], no_rl, (cutW v 22 1 (by omega) (by decide) (by decide) (by decide)).use (And.intro rfl (And.intro rfl (And.intro rfl trivial))) rfl rfl ?_⟩
  refine ⟨[], no_rl, s3.use (by repeat' first | exact trivial | exact rfl | exact Iff.rfl | exact Or.inl rfl | refine And.intro ?_ ?_) rfl rfl ?_⟩
  refine ⟨by decide, .inl ⟨inR_u32 (by rw [r11]; omega), ?_⟩⟩
  refine ⟨[], no_rl, (cutW v 1 11 (by omega) (by decide) (by decide) (by decide)).use (And.intro rfl (And.intro rfl (And.intro rfl trivial))) rfl rfl ?_⟩
  refine retE ?_
  have k1 : IsN (bitsV v 24 1 * Ev.pow2 .u32 26) (B (turnN (bitsV v 0 25) 2) 24 1 26) := by have := isB (turnN (bitsV v 0 25) 2) 24 1 26 (p := Ev.pow2 .u32 26) (by decide) (by decide); rwa [t1] at this
  have k2 : IsN (bitsV v 12 10 * Ev.pow2 .u32 16) (B (turnN (bitsV v 0 25) 2) 12 10 16) := by have := isB (turnN (bitsV v 0 25) 2) 12 10 16 (p := Ev.pow2 .u32 16) (by decide) (by decide); rwa [t2] at this
  have k3 : IsN (m2 * Ev.pow2 .u32 13) (B (turnN (bitsV v 0 25) 2) 23 1 13) := by have := isB (turnN (bitsV v 0 25) 2) 23 1 13 (p := Ev.pow2 .u32 13) (by decide) (by decide); rwa [t3] at this
  have k4 : IsN (m3 * Ev.pow2 .u32 11) (B (turnN (bitsV v 0 25) 2) 22 1 11) := by have := isB (turnN (bitsV v 0 25) 2) 22 1 11 (p := Ev.pow2 .u32 11) (by decide) (by decide); rwa [t4] at this
  have k5 : IsN (bitsV v 1 11) (B (turnN (bitsV v 0 25) 2) 1 11 0) := by have := isB0 (turnN (bitsV v 0 25) 2) 1 11 (by decide); rwa [t5] at this
  exact (show bits .or .u32 (bits .or .u32 (bits .or .u32 (bits .or .u32 (bitsV v 24 1 * Ev.pow2 .u32 26) (bitsV v 12 10 * Ev.pow2 .u32 16)) (m2 * Ev.pow2 .u32 13)) (m3 * Ev.pow2 .u32 11)) (bitsV v 1 11) = _ from ((((k1.or k2).or k3).or k4).or k5).1)
set_option maxHeartbeats 8000000 in
set_option maxRecDepth 100000 in
theorem wide_34 (i : IN) (hs : shapeV i.form = 34) (hr : rightR i (ruW 34)) (hg : i.regs ≤ 9223372036854775807) : PureF gT 79 [inP i] (.int .u32 ((orF (turnI i) (fieldsV 34) : Nat) : Int)) := by
  obtain ⟨hf, h1, h2, h3, h4, h5, h6, h7, h8, h9, h10⟩ := hr
  have g0 := has_0 (r := i.rd) h1
  have g1 := has_0 (r := i.rn) h2
  have g2 := has_0 (r := i.rm) h3
  have g3 := has_0 (r := i.ra) h4
  have g4 : -16777216 ≤ i.imm ∧ i.imm ≤ 16777214 ∧ i.imm % 2 = 0 := sp_s (s := 2) (by decide) h7
  have g5 : i.kind = 0 := (sh_0 rfl h9).1
  have g6 : i.by_ = 0 := sp_0 (sh_0 rfl h9).2
  have g7 : i.set = 0 := h8.elim id fun e => absurd (show false = true from e.2) Bool.false_ne_true
  have g8 : i.cond = 0 := h6.elim id fun e => absurd (show false = true from e.1) Bool.false_ne_true
  clear h1 h2 h3 h4 h5 h6 h7 h8 h9 h10
  have et := sh34 hs
  rw [et]
  refine Spec.enter gTok P79 100 Tryd.func79 rfl (by kernel_rfl) ?_
  refine .inr ?_
  refine .inl ⟨inR_u32 (by omega), ?_⟩
  refine ⟨[], no_rl, (pshapeLit hs).use (And.intro rfl trivial) rfl rfl ?_⟩
  refine ⟨[], no_rl, (jumpWide_pure i.imm (by omega)).use (by repeat' first | exact trivial | exact rfl | exact Iff.rfl | exact Or.inl rfl | refine And.intro ?_ ?_) rfl rfl ?_⟩
  refine retE ?_
  have eo : orF {i with imm := turnN (bitsV i.imm 0 25) 2} (fieldsV 34) = 0 ||| B (turnN (bitsV i.imm 0 25) 2) 24 1 26 ||| B (turnN (bitsV i.imm 0 25) 2) 12 10 16 ||| B (turnN (bitsV i.imm 0 25) 2) 23 1 13 ||| B (turnN (bitsV i.imm 0 25) 2) 22 1 11 ||| B (turnN (bitsV i.imm 0 25) 2) 1 11 0 := rfl
  rw [eo]
  refine (show _ = _ from congrArg (fun n : Nat => (n : Int)) ?_)
  simp only [Nat.zero_or]

end Go.Proofs.YtjcacjeoddnmhaaDoor.Pw

/- Chapter 4 over values: the document's reading of narrow shapes (by gen_tv.py). -/
namespace Go.Proofs.YtjcacjeoddnmhaaDoor.Pw
open Go Go.RowKit

end Go.Proofs.YtjcacjeoddnmhaaDoor.Pw

/- Chapter 4 over values: the document's reading of wide shapes (by gen_tv.py). -/
namespace Go.Proofs.YtjcacjeoddnmhaaDoor.Pw
open Go Go.RowKit

end Go.Proofs.YtjcacjeoddnmhaaDoor.Pw

/- Chapter 4 over values: the document's reading of wide shapes (by gen_tv.py). -/
namespace Go.Proofs.YtjcacjeoddnmhaaDoor.Pw
open Go Go.RowKit

end Go.Proofs.YtjcacjeoddnmhaaDoor.Pw

/- Chapter 4 over values: the program's reading of narrow shapes (by gen_tw.py). -/
namespace Go.Proofs.YtjcacjeoddnmhaaDoor.Pw
open Go Go.RowKit

theorem leK_refl : ∀ (i : IN), leK (inP i) (inP i) := fun i => ⟨rfl, rfl, rfl, rfl, rfl, rfl, rfl, rfl, rfl, rfl, rfl, trivial⟩
theorem q2 : Ev.pow2 .i64 2 = 4 := by decide
theorem q14 : Ev.pow2 .i64 14 = 16384 := by decide
theorem q15 : Ev.pow2 .i64 15 = 32768 := by decide
set_option maxHeartbeats 8000000 in
set_option maxRecDepth 100000 in
theorem narrowOf_1 (f w : Int) (hF : 1 ≤ f ∧ f ≤ 100) (hs : shapeV f = 1) (hw : U32 w) : PureF gT 51 [.int .i64 f, .int .u32 w] (inP (rdI1 f w)) := by
  have b0 := bitsV_bd w 6 5
  have b1 := bitsV_bd w 3 3
  have b2 := bitsV_bd w 0 3
  unfold rdI1
  refine Spec.enter gTok P51 100 Tryd.func51 rfl (by kernel_rfl) ?_
  have h3 := shape_one hF hs
  have e : ∀ x : Int, x = 0 + x * 2 ^ 0 := fun x => by omega
  refine ⟨[], no_rl, (pshapeLit hs).use (And.intro rfl trivial) rfl rfl ?_⟩
  refine ⟨[], no_rl, (at_pure w 0 3 hw (by decide) (by decide)).use (And.intro rfl (And.intro rfl (And.intro rfl trivial))) rfl rfl ?_⟩
  refine ⟨[], no_rl, (at_pure w 3 3 hw (by decide) (by decide)).use (And.intro rfl (And.intro rfl (And.intro rfl trivial))) rfl rfl ?_⟩
  refine ⟨[], no_rl, (at_pure w 6 5 hw (by decide) (by decide)).use (And.intro rfl (And.intro rfl (And.intro rfl trivial))) rfl rfl ?_⟩
  refine And.intro (fun h1 => ?_) (fun h1 => ?_)
  · refine ⟨[], no_rl, (turned_pure 1 (0 + bitsV w 6 5 * 2 ^ 0)).use (And.intro rfl (And.intro (e _) trivial)) rfl rfl ?_⟩
    refine retE ?_
    (repeat' first | exact trivial | exact rfl | exact e _ | refine And.intro ?_ ?_)
    show (if 0 + bitsV w 6 5 * 2 ^ 0 = 0 ∧ ((1 : Int) = 1 ∨ (1 : Int) = 2) then (32 : Int) else _) = if 1 < f ∧ 0 + bitsV w 6 5 * 2 ^ 0 = 0 then (32 : Int) else 0 + bitsV w 6 5 * 2 ^ 0
    have h1' : ¬ f = 1 := h1
    (repeat' split) <;> omega
  · refine retE ?_
    (repeat' first | exact trivial | exact rfl | exact e _ | refine And.intro ?_ ?_)
    show bitsV w 6 5 = if 1 < f ∧ 0 + bitsV w 6 5 * 2 ^ 0 = 0 then (32 : Int) else 0 + bitsV w 6 5 * 2 ^ 0
    have h1' : ¬ ¬ f = 1 := h1
    (repeat' split) <;> omega
set_option maxHeartbeats 8000000 in
set_option maxRecDepth 100000 in
theorem narrowOf_2 (f w : Int) (hF : 1 ≤ f ∧ f ≤ 100) (hs : shapeV f = 2) (hw : U32 w) : PureF gT 51 [.int .i64 f, .int .u32 w] (inP (rdI2 f w)) := by
  have b0 := bitsV_bd w 6 3
  have b1 := bitsV_bd w 3 3
  have b2 := bitsV_bd w 0 3
  unfold rdI2
  refine Spec.enter gTok P51 100 Tryd.func51 rfl (by kernel_rfl) ?_
  refine ⟨[], no_rl, (pshapeLit hs).use (And.intro rfl trivial) rfl rfl ?_⟩
  refine ⟨[], no_rl, (three_pure ⟨f, 0, 0, 0, 0, 0, 0, 0, 0, 0, 0⟩ w hw).use (by repeat' first | exact trivial | exact rfl | exact Iff.rfl | exact Or.inl rfl | refine And.intro ?_ ?_) rfl rfl ?_⟩
  refine ⟨[], no_rl, (at_pure w 6 3 hw (by decide) (by decide)).use (And.intro rfl (And.intro rfl (And.intro rfl trivial))) rfl rfl ?_⟩
  refine retE ?_
  (repeat' first | exact trivial | exact rfl | refine And.intro ?_ ?_)
  all_goals (show (_ : Int) = _; (try dsimp only [placesI, threeI]); first | omega | (unfold numT; omega))
set_option maxHeartbeats 8000000 in
set_option maxRecDepth 100000 in
theorem narrowOf_3 (f w : Int) (hF : 1 ≤ f ∧ f ≤ 100) (hs : shapeV f = 3) (hw : U32 w) : PureF gT 51 [.int .i64 f, .int .u32 w] (inP (rdI3 f w)) := by
  have b0 := bitsV_bd w 6 3
  have b1 := bitsV_bd w 3 3
  have b2 := bitsV_bd w 0 3
  unfold rdI3
  refine Spec.enter gTok P51 100 Tryd.func51 rfl (by kernel_rfl) ?_
  refine ⟨[], no_rl, (pshapeLit hs).use (And.intro rfl trivial) rfl rfl ?_⟩
  refine ⟨[], no_rl, (three_pure ⟨f, 0, 0, 0, 0, 0, 0, 0, 0, 0, 0⟩ w hw).use (by repeat' first | exact trivial | exact rfl | exact Iff.rfl | exact Or.inl rfl | refine And.intro ?_ ?_) rfl rfl ?_⟩
  refine ⟨[], no_rl, (at_pure w 6 3 hw (by decide) (by decide)).use (And.intro rfl (And.intro rfl (And.intro rfl trivial))) rfl rfl ?_⟩
  refine retE ?_
  (repeat' first | exact trivial | exact rfl | refine And.intro ?_ ?_)
  all_goals (show (_ : Int) = _; (try dsimp only [placesI, threeI]); first | omega | (unfold numT; omega))
set_option maxHeartbeats 8000000 in
set_option maxRecDepth 100000 in
theorem narrowOf_4 (f w : Int) (hF : 1 ≤ f ∧ f ≤ 100) (hs : shapeV f = 4) (hw : U32 w) : PureF gT 51 [.int .i64 f, .int .u32 w] (inP (rdI4 f w)) := by
  have b0 := bitsV_bd w 8 3
  have b1 := bitsV_bd w 0 8
  unfold rdI4
  refine Spec.enter gTok P51 100 Tryd.func51 rfl (by kernel_rfl) ?_
  refine ⟨[], no_rl, (pshapeLit hs).use (And.intro rfl trivial) rfl rfl ?_⟩
  refine ⟨[], no_rl, (at_pure w 8 3 hw (by decide) (by decide)).use (And.intro rfl (And.intro rfl (And.intro rfl trivial))) rfl rfl ?_⟩
  refine ⟨[], no_rl, (at_pure w 0 8 hw (by decide) (by decide)).use (And.intro rfl (And.intro rfl (And.intro rfl trivial))) rfl rfl ?_⟩
  refine retE ?_
  (repeat' first | exact trivial | exact rfl | refine And.intro ?_ ?_)
  all_goals (show (_ : Int) = _; (try dsimp only [placesI, threeI]); first | omega | (unfold numT; omega))
set_option maxHeartbeats 8000000 in
set_option maxRecDepth 100000 in
theorem narrowOf_5 (f w : Int) (hF : 1 ≤ f ∧ f ≤ 100) (hs : shapeV f = 5) (hw : U32 w) : PureF gT 51 [.int .i64 f, .int .u32 w] (inP (rdI5 f w)) := by
  have b0 := bitsV_bd w 3 3
  have b1 := bitsV_bd w 0 3
  unfold rdI5
  refine Spec.enter gTok P51 100 Tryd.func51 rfl (by kernel_rfl) ?_
  refine ⟨[], no_rl, (pshapeLit hs).use (And.intro rfl trivial) rfl rfl ?_⟩
  refine ⟨[], no_rl, (at_pure w 0 3 hw (by decide) (by decide)).use (And.intro rfl (And.intro rfl (And.intro rfl trivial))) rfl rfl ?_⟩
  refine ⟨[], no_rl, (at_pure w 3 3 hw (by decide) (by decide)).use (And.intro rfl (And.intro rfl (And.intro rfl trivial))) rfl rfl ?_⟩
  refine retE ?_
  (repeat' first | exact trivial | exact rfl | refine And.intro ?_ ?_)
  all_goals (show (_ : Int) = _; (try dsimp only [placesI, threeI]); first | omega | (unfold numT; omega))
set_option maxHeartbeats 8000000 in
set_option maxRecDepth 100000 in
theorem narrowOf_6 (f w : Int) (hF : 1 ≤ f ∧ f ≤ 100) (hs : shapeV f = 6) (hw : U32 w) : PureF gT 51 [.int .i64 f, .int .u32 w] (inP (rdI6 f w)) := by
  have b0 := bitsV_bd w 7 1
  have b1 := bitsV_bd w 3 4
  have b2 := bitsV_bd w 0 3
  unfold rdI6
  refine Spec.enter gTok P51 100 Tryd.func51 rfl (by kernel_rfl) ?_
  refine ⟨[], no_rl, (pshapeLit hs).use (And.intro rfl trivial) rfl rfl ?_⟩
  refine ⟨[], no_rl, (at_pure w 7 1 hw (by decide) (by decide)).use (And.intro rfl (And.intro rfl (And.intro rfl trivial))) rfl rfl ?_⟩
  refine ⟨by decide, .inl ⟨inR_i64 (by rw [q3]; omega), ?_⟩⟩
  refine ⟨[], no_rl, (at_pure w 0 3 hw (by decide) (by decide)).use (And.intro rfl (And.intro rfl (And.intro rfl trivial))) rfl rfl ?_⟩
  refine ⟨[], no_rl, (at_pure w 3 4 hw (by decide) (by decide)).use (And.intro rfl (And.intro rfl (And.intro rfl trivial))) rfl rfl ?_⟩
  have e : bits .or .i64 (bitsV w 7 1 * Ev.pow2 .i64 3) (bitsV w 0 3) = 0 + bitsV w 7 1 * 2 ^ 3 + bitsV w 0 3 * 2 ^ 0 := by
    rw [q3, Rm.i64_join (bitsV w 7 1 * 8) (bitsV w 0 3) 3 (by omega) (by omega) (by omega) (by omega) (by omega) (by omega)]; omega
  refine retE ?_
  (repeat' first | exact trivial | exact rfl | exact e | refine And.intro ?_ ?_)
  all_goals (show (_ : Int) = _; (try dsimp only [placesI, threeI]); omega)
set_option maxHeartbeats 8000000 in
set_option maxRecDepth 100000 in
theorem narrowOf_7 (f w : Int) (hF : 1 ≤ f ∧ f ≤ 100) (hs : shapeV f = 7) (hw : U32 w) : PureF gT 51 [.int .i64 f, .int .u32 w] (inP (rdI7 f w)) := by
  have b0 := bitsV_bd w 3 4
  unfold rdI7
  refine Spec.enter gTok P51 100 Tryd.func51 rfl (by kernel_rfl) ?_
  refine ⟨[], no_rl, (pshapeLit hs).use (And.intro rfl trivial) rfl rfl ?_⟩
  refine ⟨[], no_rl, (at_pure w 3 4 hw (by decide) (by decide)).use (And.intro rfl (And.intro rfl (And.intro rfl trivial))) rfl rfl ?_⟩
  refine retE ?_
  (repeat' first | exact trivial | exact rfl | refine And.intro ?_ ?_)
  all_goals (show (_ : Int) = _; (try dsimp only [placesI, threeI]); first | omega | (unfold numT; omega))
set_option maxHeartbeats 8000000 in
set_option maxRecDepth 100000 in
theorem narrowOf_8 (f w : Int) (hF : 1 ≤ f ∧ f ≤ 100) (hs : shapeV f = 8) (hw : U32 w) : PureF gT 51 [.int .i64 f, .int .u32 w] (inP (rdI8 f w)) := by
  have b0 := bitsV_bd w 8 3
  have b1 := bitsV_bd w 0 8
  unfold rdI8
  refine Spec.enter gTok P51 100 Tryd.func51 rfl (by kernel_rfl) ?_
  refine ⟨[], no_rl, (pshapeLit hs).use (And.intro rfl trivial) rfl rfl ?_⟩
  refine ⟨[], no_rl, (at_pure w 8 3 hw (by decide) (by decide)).use (And.intro rfl (And.intro rfl (And.intro rfl trivial))) rfl rfl ?_⟩
  refine ⟨[], no_rl, (at_pure w 0 8 hw (by decide) (by decide)).use (And.intro rfl (And.intro rfl (And.intro rfl trivial))) rfl rfl ?_⟩
  refine .inl ⟨inR_i64 (by omega), ?_⟩
  refine retE ?_
  (repeat' first | exact trivial | exact rfl | refine And.intro ?_ ?_)
  all_goals (show (_ : Int) = _; (try dsimp only [placesI, threeI]); first | omega | (unfold numT; omega))
set_option maxHeartbeats 8000000 in
set_option maxRecDepth 100000 in
theorem narrowOf_9 (f w : Int) (hF : 1 ≤ f ∧ f ≤ 100) (hs : shapeV f = 9) (hw : U32 w) : PureF gT 51 [.int .i64 f, .int .u32 w] (inP (rdI9 f w)) := by
  have b0 := bitsV_bd w 6 5
  have b1 := bitsV_bd w 3 3
  have b2 := bitsV_bd w 0 3
  unfold rdI9
  refine Spec.enter gTok P51 100 Tryd.func51 rfl (by kernel_rfl) ?_
  refine ⟨[], no_rl, (pshapeLit hs).use (And.intro rfl trivial) rfl rfl ?_⟩
  refine ⟨[], no_rl, (three_pure ⟨f, 0, 0, 0, 0, 0, 0, 0, 0, 0, 0⟩ w hw).use (by repeat' first | exact trivial | exact rfl | exact Iff.rfl | exact Or.inl rfl | refine And.intro ?_ ?_) rfl rfl ?_⟩
  refine ⟨[], no_rl, (at_pure w 6 5 hw (by decide) (by decide)).use (And.intro rfl (And.intro rfl (And.intro rfl trivial))) rfl rfl ?_⟩
  refine .inl ⟨inR_i64 (by omega), ?_⟩
  refine retE ?_
  (repeat' first | exact trivial | exact rfl | refine And.intro ?_ ?_)
  all_goals (show (_ : Int) = _; (try dsimp only [placesI, threeI]); first | omega | (unfold numT; omega))
set_option maxHeartbeats 8000000 in
set_option maxRecDepth 100000 in
theorem narrowOf_10 (f w : Int) (hF : 1 ≤ f ∧ f ≤ 100) (hs : shapeV f = 10) (hw : U32 w) : PureF gT 51 [.int .i64 f, .int .u32 w] (inP (rdI10 f w)) := by
  have b0 := bitsV_bd w 0 7
  unfold rdI10
  refine Spec.enter gTok P51 100 Tryd.func51 rfl (by kernel_rfl) ?_
  refine ⟨[], no_rl, (pshapeLit hs).use (And.intro rfl trivial) rfl rfl ?_⟩
  refine ⟨[], no_rl, (at_pure w 0 7 hw (by decide) (by decide)).use (And.intro rfl (And.intro rfl (And.intro rfl trivial))) rfl rfl ?_⟩
  refine .inl ⟨inR_i64 (by omega), ?_⟩
  refine retE ?_
  (repeat' first | exact trivial | exact rfl | refine And.intro ?_ ?_)
  all_goals (show (_ : Int) = _; (try dsimp only [placesI, threeI]); first | omega | (unfold numT; omega))
set_option maxHeartbeats 8000000 in
set_option maxRecDepth 100000 in
theorem narrowOf_11 (f w : Int) (hF : 1 ≤ f ∧ f ≤ 100) (hs : shapeV f = 11) (hw : U32 w) : PureF gT 51 [.int .i64 f, .int .u32 w] (inP (rdI11 f w)) := by
  have b0 := bitsV_bd w 8 1
  have b1 := bitsV_bd w 0 8
  unfold rdI11
  refine Spec.enter gTok P51 100 Tryd.func51 rfl (by kernel_rfl) ?_
  refine ⟨[], no_rl, (pshapeLit hs).use (And.intro rfl trivial) rfl rfl ?_⟩
  refine ⟨[], no_rl, (at_pure w 8 1 hw (by decide) (by decide)).use (And.intro rfl (And.intro rfl (And.intro rfl trivial))) rfl rfl ?_⟩
  refine ⟨by decide, .inl ⟨inR_i64 (by rw [q14]; omega), ?_⟩⟩
  refine ⟨[], no_rl, (at_pure w 0 8 hw (by decide) (by decide)).use (And.intro rfl (And.intro rfl (And.intro rfl trivial))) rfl rfl ?_⟩
  have e : bits .or .i64 (bitsV w 8 1 * Ev.pow2 .i64 14) (bitsV w 0 8) = 0 + bitsV w 8 1 * 2 ^ 14 + bitsV w 0 8 * 2 ^ 0 := by
    rw [q14, Rm.i64_join (bitsV w 8 1 * 16384) (bitsV w 0 8) 14 (by omega) (by omega) (by omega) (by omega) (by omega) (by omega)]; omega
  refine retE ?_
  (repeat' first | exact trivial | exact rfl | exact e | refine And.intro ?_ ?_)
  all_goals (show (_ : Int) = _; (try dsimp only [placesI, threeI]); omega)
set_option maxHeartbeats 8000000 in
set_option maxRecDepth 100000 in
theorem narrowOf_12 (f w : Int) (hF : 1 ≤ f ∧ f ≤ 100) (hs : shapeV f = 12) (hw : U32 w) : PureF gT 51 [.int .i64 f, .int .u32 w] (inP (rdI12 f w)) := by
  have b0 := bitsV_bd w 8 1
  have b1 := bitsV_bd w 0 8
  unfold rdI12
  refine Spec.enter gTok P51 100 Tryd.func51 rfl (by kernel_rfl) ?_
  refine ⟨[], no_rl, (pshapeLit hs).use (And.intro rfl trivial) rfl rfl ?_⟩
  refine ⟨[], no_rl, (at_pure w 8 1 hw (by decide) (by decide)).use (And.intro rfl (And.intro rfl (And.intro rfl trivial))) rfl rfl ?_⟩
  refine ⟨by decide, .inl ⟨inR_i64 (by rw [q15]; omega), ?_⟩⟩
  refine ⟨[], no_rl, (at_pure w 0 8 hw (by decide) (by decide)).use (And.intro rfl (And.intro rfl (And.intro rfl trivial))) rfl rfl ?_⟩
  have e : bits .or .i64 (bitsV w 8 1 * Ev.pow2 .i64 15) (bitsV w 0 8) = 0 + bitsV w 8 1 * 2 ^ 15 + bitsV w 0 8 * 2 ^ 0 := by
    rw [q15, Rm.i64_join (bitsV w 8 1 * 32768) (bitsV w 0 8) 15 (by omega) (by omega) (by omega) (by omega) (by omega) (by omega)]; omega
  refine retE ?_
  (repeat' first | exact trivial | exact rfl | exact e | refine And.intro ?_ ?_)
  all_goals (show (_ : Int) = _; (try dsimp only [placesI, threeI]); omega)
set_option maxHeartbeats 8000000 in
set_option maxRecDepth 100000 in
theorem narrowOf_13 (f w : Int) (hF : 1 ≤ f ∧ f ≤ 100) (hs : shapeV f = 13) (hw : U32 w) : PureF gT 51 [.int .i64 f, .int .u32 w] (inP (rdI13 f w)) := by
  unfold rdI13
  refine Spec.enter gTok P51 100 Tryd.func51 rfl (by kernel_rfl) ?_
  refine ⟨[], no_rl, (pshapeLit hs).use (And.intro rfl trivial) rfl rfl ?_⟩
  (refine retE ?_; repeat' first | exact trivial | exact rfl | exact Iff.rfl | exact Or.inl rfl | refine And.intro ?_ ?_)
set_option maxHeartbeats 8000000 in
set_option maxRecDepth 100000 in
theorem narrowOf_14 (f w : Int) (hF : 1 ≤ f ∧ f ≤ 100) (hs : shapeV f = 14) (hw : U32 w) : PureF gT 51 [.int .i64 f, .int .u32 w] (inP (rdI14 f w)) := by
  have b0 := bitsV_bd w 0 8
  unfold rdI14
  refine Spec.enter gTok P51 100 Tryd.func51 rfl (by kernel_rfl) ?_
  refine ⟨[], no_rl, (pshapeLit hs).use (And.intro rfl trivial) rfl rfl ?_⟩
  refine ⟨[], no_rl, (at_pure w 0 8 hw (by decide) (by decide)).use (And.intro rfl (And.intro rfl (And.intro rfl trivial))) rfl rfl ?_⟩
  refine retE ?_
  (repeat' first | exact trivial | exact rfl | refine And.intro ?_ ?_)
  all_goals (show (_ : Int) = _; (try dsimp only [placesI, threeI]); first | omega | (unfold numT; omega))
set_option maxHeartbeats 8000000 in
set_option maxRecDepth 100000 in
theorem narrowOf_15 (f w : Int) (hF : 1 ≤ f ∧ f ≤ 100) (hs : shapeV f = 15) (hw : U32 w) : PureF gT 51 [.int .i64 f, .int .u32 w] (inP (rdI15 f w)) := by
  have b0 := bitsV_bd w 8 4
  have b1 := bitsV_bd w 0 8
  unfold rdI15
  refine Spec.enter gTok P51 100 Tryd.func51 rfl (by kernel_rfl) ?_
  refine ⟨[], no_rl, (pshapeLit hs).use (And.intro rfl trivial) rfl rfl ?_⟩
  refine ⟨[], no_rl, (at_pure w 8 4 hw (by decide) (by decide)).use (And.intro rfl (And.intro rfl (And.intro rfl trivial))) rfl rfl ?_⟩
  refine ⟨[], no_rl, (at_pure w 0 8 hw (by decide) (by decide)).use (And.intro rfl (And.intro rfl (And.intro rfl trivial))) rfl rfl ?_⟩
  refine ⟨by decide, .inl ⟨inR_i64 (by rw [q1]; omega), ?_⟩⟩
  refine ⟨[], no_rl, (signed_pure (0 + bitsV w 0 8 * 2 ^ 1) 8 (by decide) ⟨by omega, by omega⟩).use (And.intro (show bitsV w 0 8 * Ev.pow2 .i64 1 = _ by rw [q1]; omega) (And.intro rfl trivial)) rfl rfl ?_⟩
  refine retE ?_
  (repeat' first | exact trivial | exact rfl | refine And.intro ?_ ?_)
  all_goals (show (_ : Int) = _; (try dsimp only [placesI, threeI]); first | omega | (unfold numT; omega))
set_option maxHeartbeats 8000000 in
set_option maxRecDepth 100000 in
theorem narrowOf_16 (f w : Int) (hF : 1 ≤ f ∧ f ≤ 100) (hs : shapeV f = 16) (hw : U32 w) : PureF gT 51 [.int .i64 f, .int .u32 w] (inP (rdI16 f w)) := by
  have b0 := bitsV_bd w 0 11
  unfold rdI16
  refine Spec.enter gTok P51 100 Tryd.func51 rfl (by kernel_rfl) ?_
  refine ⟨[], no_rl, (pshapeLit hs).use (And.intro rfl trivial) rfl rfl ?_⟩
  refine ⟨[], no_rl, (at_pure w 0 11 hw (by decide) (by decide)).use (And.intro rfl (And.intro rfl (And.intro rfl trivial))) rfl rfl ?_⟩
  refine ⟨by decide, .inl ⟨inR_i64 (by rw [q1]; omega), ?_⟩⟩
  refine ⟨[], no_rl, (signed_pure (0 + bitsV w 0 11 * 2 ^ 1) 11 (by decide) ⟨by omega, by omega⟩).use (And.intro (show bitsV w 0 11 * Ev.pow2 .i64 1 = _ by rw [q1]; omega) (And.intro rfl trivial)) rfl rfl ?_⟩
  refine retE ?_
  (repeat' first | exact trivial | exact rfl | refine And.intro ?_ ?_)
  all_goals (show (_ : Int) = _; (try dsimp only [placesI, threeI]); first | omega | (unfold numT; omega))
set_option maxHeartbeats 8000000 in
set_option maxRecDepth 100000 in
theorem narrowOf_wide (f w : Int) (hs : 17 ≤ shapeV f) (hw : U32 w) : PureF gT 51 [.int .i64 f, .int .u32 w] (inP ⟨f, 0, 0, 0, 0, 0, 0, 0, 0, 0, 0⟩) := by
  refine Spec.enter gTok P51 100 Tryd.func51 rfl (by kernel_rfl) ?_
  refine ⟨[], no_rl, (shape_pure f).use (And.intro rfl trivial) rfl rfl ?_⟩
  iterate 15 (refine And.intro (fun h => absurd (show shapeV f = _ from h) (by omega)) (fun _ => ?_))
  (refine retE ?_; repeat' first | exact trivial | exact rfl | exact Iff.rfl | exact Or.inl rfl | refine And.intro ?_ ?_)

end Go.Proofs.YtjcacjeoddnmhaaDoor.Pw

/- Chapter 4 over values: the program's reading of wide shapes (by gen_tw.py). -/
namespace Go.Proofs.YtjcacjeoddnmhaaDoor.Pw
open Go Go.RowKit

set_option maxHeartbeats 8000000 in
set_option maxRecDepth 100000 in
theorem wideOf_17 (f w : Int) (hF : 1 ≤ f ∧ f ≤ 100) (hs : shapeV f = 17) (hw : U32 w) : PureF gT 52 [.int .i64 f, .int .u32 w] (inP (rdI17 f w)) := by
  have b0 := bitsV_bd w 26 1
  have b1 := bitsV_bd w 16 4
  have b2 := bitsV_bd w 12 3
  have b3 := bitsV_bd w 0 8
  have b4 := bitsV_bd w 8 4
  unfold rdI17
  refine Spec.enter gTok P52 100 Tryd.func52 rfl (by kernel_rfl) ?_
  refine ⟨[], no_rl, (places_pure ⟨f, 0, 0, 0, 0, 0, 0, 0, 0, 0, 0⟩ w hw).use (by repeat' first | exact trivial | exact rfl | exact Iff.rfl | exact Or.inl rfl | refine And.intro ?_ ?_) rfl rfl ?_⟩
  refine ⟨[], no_rl, (pshapeLit hs).use (And.intro rfl trivial) rfl rfl ?_⟩
  refine ⟨[], no_rl, (number_t w hw).use (by repeat' first | exact trivial | exact rfl | exact Iff.rfl | exact Or.inl rfl | refine And.intro ?_ ?_) rfl rfl ?_⟩
  refine retE ?_
  (repeat' first | exact trivial | exact rfl | refine And.intro ?_ ?_)
  all_goals (show (_ : Int) = _; (try dsimp only [placesI, threeI]); first | omega | (unfold numT; omega))
set_option maxHeartbeats 8000000 in
set_option maxRecDepth 100000 in
theorem immediate_18 (f w : Int) (hF : 1 ≤ f ∧ f ≤ 100) (hs : shapeV f = 18) (hw : U32 w) : PureF gT 75 [.int .i64 f, .int .u32 w] (inP (rdI18 f w)) := by
  have b0 := bitsV_bd w 26 1
  have b1 := bitsV_bd w 12 3
  have b2 := bitsV_bd w 0 8
  have b3 := bitsV_bd w 20 1
  have b4 := bitsV_bd w 16 4
  have b5 := bitsV_bd w 8 4
  unfold rdI18
  refine Spec.enter gTok P75 100 Tryd.func75 rfl (by kernel_rfl) ?_
  refine ⟨[], no_rl, (places_pure ⟨f, 0, 0, 0, 0, 0, 0, 0, 0, 0, 0⟩ w hw).use (by repeat' first | exact trivial | exact rfl | exact Iff.rfl | exact Or.inl rfl | refine And.intro ?_ ?_) rfl rfl ?_⟩
  refine ⟨[], no_rl, (number_f w hw).use (by repeat' first | exact trivial | exact rfl | exact Iff.rfl | exact Or.inl rfl | refine And.intro ?_ ?_) rfl rfl ?_⟩
  refine ⟨[], no_rl, (pshapeLit hs).use (And.intro rfl trivial) rfl rfl ?_⟩
  refine retE ?_
  (repeat' first | exact trivial | exact rfl | refine And.intro ?_ ?_)
  all_goals (show (_ : Int) = _; (try dsimp only [placesI, threeI]); first | omega | (unfold numT; omega))
set_option maxHeartbeats 8000000 in
set_option maxRecDepth 100000 in
theorem wideOf_18 (f w : Int) (hF : 1 ≤ f ∧ f ≤ 100) (hs : shapeV f = 18) (hw : U32 w) : PureF gT 52 [.int .i64 f, .int .u32 w] (inP (rdI18 f w)) := by
  have b0 := bitsV_bd w 26 1
  have b1 := bitsV_bd w 12 3
  have b2 := bitsV_bd w 0 8
  have b3 := bitsV_bd w 20 1
  have b4 := bitsV_bd w 16 4
  have b5 := bitsV_bd w 8 4
  refine Spec.enter gTok P52 100 Tryd.func52 rfl (by kernel_rfl) ?_
  refine ⟨[], no_rl, (places_pure ⟨f, 0, 0, 0, 0, 0, 0, 0, 0, 0, 0⟩ w hw).use (by repeat' first | exact trivial | exact rfl | exact Iff.rfl | exact Or.inl rfl | refine And.intro ?_ ?_) rfl rfl ?_⟩
  refine ⟨[], no_rl, (pshapeLit hs).use (And.intro rfl trivial) rfl rfl ?_⟩
  refine ⟨[], no_rl, (immediate_18 f w hF hs hw).use (by repeat' first | exact trivial | exact rfl | exact Iff.rfl | exact Or.inl rfl | refine And.intro ?_ ?_) rfl rfl ?_⟩
  exact retE (leK_refl _)
set_option maxHeartbeats 8000000 in
set_option maxRecDepth 100000 in
theorem immediate_19 (f w : Int) (hF : 1 ≤ f ∧ f ≤ 100) (hs : shapeV f = 19) (hw : U32 w) : PureF gT 75 [.int .i64 f, .int .u32 w] (inP (rdI19 f w)) := by
  have b0 := bitsV_bd w 26 1
  have b1 := bitsV_bd w 12 3
  have b2 := bitsV_bd w 0 8
  have b3 := bitsV_bd w 20 1
  have b4 := bitsV_bd w 8 4
  unfold rdI19
  refine Spec.enter gTok P75 100 Tryd.func75 rfl (by kernel_rfl) ?_
  refine ⟨[], no_rl, (places_pure ⟨f, 0, 0, 0, 0, 0, 0, 0, 0, 0, 0⟩ w hw).use (by repeat' first | exact trivial | exact rfl | exact Iff.rfl | exact Or.inl rfl | refine And.intro ?_ ?_) rfl rfl ?_⟩
  refine ⟨[], no_rl, (number_f w hw).use (by repeat' first | exact trivial | exact rfl | exact Iff.rfl | exact Or.inl rfl | refine And.intro ?_ ?_) rfl rfl ?_⟩
  refine ⟨[], no_rl, (pshapeLit hs).use (And.intro rfl trivial) rfl rfl ?_⟩
  refine retE ?_
  (repeat' first | exact trivial | exact rfl | refine And.intro ?_ ?_)
  all_goals (show (_ : Int) = _; (try dsimp only [placesI, threeI]); first | omega | (unfold numT; omega))
set_option maxHeartbeats 8000000 in
set_option maxRecDepth 100000 in
theorem wideOf_19 (f w : Int) (hF : 1 ≤ f ∧ f ≤ 100) (hs : shapeV f = 19) (hw : U32 w) : PureF gT 52 [.int .i64 f, .int .u32 w] (inP (rdI19 f w)) := by
  have b0 := bitsV_bd w 26 1
  have b1 := bitsV_bd w 12 3
  have b2 := bitsV_bd w 0 8
  have b3 := bitsV_bd w 20 1
  have b4 := bitsV_bd w 8 4
  refine Spec.enter gTok P52 100 Tryd.func52 rfl (by kernel_rfl) ?_
  refine ⟨[], no_rl, (places_pure ⟨f, 0, 0, 0, 0, 0, 0, 0, 0, 0, 0⟩ w hw).use (by repeat' first | exact trivial | exact rfl | exact Iff.rfl | exact Or.inl rfl | refine And.intro ?_ ?_) rfl rfl ?_⟩
  refine ⟨[], no_rl, (pshapeLit hs).use (And.intro rfl trivial) rfl rfl ?_⟩
  refine ⟨[], no_rl, (immediate_19 f w hF hs hw).use (by repeat' first | exact trivial | exact rfl | exact Iff.rfl | exact Or.inl rfl | refine And.intro ?_ ?_) rfl rfl ?_⟩
  exact retE (leK_refl _)
set_option maxHeartbeats 8000000 in
set_option maxRecDepth 100000 in
theorem immediate_20 (f w : Int) (hF : 1 ≤ f ∧ f ≤ 100) (hs : shapeV f = 20) (hw : U32 w) : PureF gT 75 [.int .i64 f, .int .u32 w] (inP (rdI20 f w)) := by
  have b0 := bitsV_bd w 26 1
  have b1 := bitsV_bd w 12 3
  have b2 := bitsV_bd w 0 8
  have b3 := bitsV_bd w 16 4
  unfold rdI20
  refine Spec.enter gTok P75 100 Tryd.func75 rfl (by kernel_rfl) ?_
  refine ⟨[], no_rl, (places_pure ⟨f, 0, 0, 0, 0, 0, 0, 0, 0, 0, 0⟩ w hw).use (by repeat' first | exact trivial | exact rfl | exact Iff.rfl | exact Or.inl rfl | refine And.intro ?_ ?_) rfl rfl ?_⟩
  refine ⟨[], no_rl, (number_f w hw).use (by repeat' first | exact trivial | exact rfl | exact Iff.rfl | exact Or.inl rfl | refine And.intro ?_ ?_) rfl rfl ?_⟩
  refine ⟨[], no_rl, (pshapeLit hs).use (And.intro rfl trivial) rfl rfl ?_⟩
  refine retE ?_
  (repeat' first | exact trivial | exact rfl | refine And.intro ?_ ?_)
  all_goals (show (_ : Int) = _; (try dsimp only [placesI, threeI]); first | omega | (unfold numT; omega))
set_option maxHeartbeats 8000000 in
set_option maxRecDepth 100000 in
theorem wideOf_20 (f w : Int) (hF : 1 ≤ f ∧ f ≤ 100) (hs : shapeV f = 20) (hw : U32 w) : PureF gT 52 [.int .i64 f, .int .u32 w] (inP (rdI20 f w)) := by
  have b0 := bitsV_bd w 26 1
  have b1 := bitsV_bd w 12 3
  have b2 := bitsV_bd w 0 8
  have b3 := bitsV_bd w 16 4
  refine Spec.enter gTok P52 100 Tryd.func52 rfl (by kernel_rfl) ?_
  refine ⟨[], no_rl, (places_pure ⟨f, 0, 0, 0, 0, 0, 0, 0, 0, 0, 0⟩ w hw).use (by repeat' first | exact trivial | exact rfl | exact Iff.rfl | exact Or.inl rfl | refine And.intro ?_ ?_) rfl rfl ?_⟩
  refine ⟨[], no_rl, (pshapeLit hs).use (And.intro rfl trivial) rfl rfl ?_⟩
  refine ⟨[], no_rl, (immediate_20 f w hF hs hw).use (by repeat' first | exact trivial | exact rfl | exact Iff.rfl | exact Or.inl rfl | refine And.intro ?_ ?_) rfl rfl ?_⟩
  exact retE (leK_refl _)
set_option maxHeartbeats 8000000 in
set_option maxRecDepth 100000 in
theorem barrel_21 (f w : Int) (hF : 1 ≤ f ∧ f ≤ 100) (hs : shapeV f = 21) (hw : U32 w) : PureF gT 76 [.int .i64 f, .int .u32 w] (inP (rdI21 f w)) := by
  have b0 := bitsV_bd w 12 3
  have b1 := bitsV_bd w 6 2
  have b2 := bitsV_bd w 4 2
  have b3 := bitsV_bd w 20 1
  have b4 := bitsV_bd w 16 4
  have b5 := bitsV_bd w 8 4
  have b6 := bitsV_bd w 0 4
  unfold rdI21
  refine Spec.enter gTok P76 100 Tryd.func76 rfl (by kernel_rfl) ?_
  refine ⟨[], no_rl, (places_pure ⟨f, 0, 0, 0, 0, 0, 0, 0, 0, 0, 0⟩ w hw).use (by repeat' first | exact trivial | exact rfl | exact Iff.rfl | exact Or.inl rfl | refine And.intro ?_ ?_) rfl rfl ?_⟩
  refine ⟨[], no_rl, (at_pure w 4 2 hw (by decide) (by decide)).use (And.intro rfl (And.intro rfl (And.intro rfl trivial))) rfl rfl ?_⟩
  refine ⟨[], no_rl, (at_pure w 12 3 hw (by decide) (by decide)).use (And.intro rfl (And.intro rfl (And.intro rfl trivial))) rfl rfl ?_⟩
  refine ⟨by decide, .inl ⟨inR_i64 (by rw [q2]; omega), ?_⟩⟩
  refine ⟨[], no_rl, (at_pure w 6 2 hw (by decide) (by decide)).use (And.intro rfl (And.intro rfl (And.intro rfl trivial))) rfl rfl ?_⟩
  have ek : bitsV w 4 2 = 0 + bitsV w 4 2 * 2 ^ 0 := by omega
  have e : bits .or .i64 (bitsV w 12 3 * Ev.pow2 .i64 2) (bitsV w 6 2) = 0 + bitsV w 12 3 * 2 ^ 2 + bitsV w 6 2 * 2 ^ 0 := by
    rw [q2, Rm.i64_join (bitsV w 12 3 * 4) (bitsV w 6 2) 2 (by omega) (by omega) (by omega) (by omega) (by omega) (by omega)]; omega
  refine ⟨[], no_rl, (turned_pure (0 + bitsV w 4 2 * 2 ^ 0) (0 + bitsV w 12 3 * 2 ^ 2 + bitsV w 6 2 * 2 ^ 0)).use (And.intro ek (And.intro e trivial)) rfl rfl ?_⟩
  repeat (refine And.intro ?_ ?_; rotate_left; focus (
    repeat' (first
      | refine Exists.intro [] (And.intro no_rl ((at_pure w 4 2 hw (by decide) (by decide)).use (And.intro rfl (And.intro rfl (And.intro rfl trivial))) rfl rfl ?_))
      | refine Exists.intro [] (And.intro no_rl ((at_pure w 12 3 hw (by decide) (by decide)).use (And.intro rfl (And.intro rfl (And.intro rfl trivial))) rfl rfl ?_))
      | refine Exists.intro [] (And.intro no_rl ((at_pure w 6 2 hw (by decide) (by decide)).use (And.intro rfl (And.intro rfl (And.intro rfl trivial))) rfl rfl ?_))
      | refine Exists.intro [] (And.intro no_rl ((turned_pure (0 + bitsV w 4 2 * 2 ^ 0) (0 + bitsV w 12 3 * 2 ^ 2 + bitsV w 6 2 * 2 ^ 0)).use (And.intro ek (And.intro e trivial)) rfl rfl ?_))
      | refine And.intro (show (0 : Int) ≤ 2 by decide) (Or.inl (And.intro (inR_i64 (by rw [q2]; omega)) ?_))
      | exact rfl
      | exact trivial
      | refine And.intro ?_ ?_)))
  refine ⟨[], no_rl, (pshapeLit hs).use (And.intro rfl trivial) rfl rfl ?_⟩
  refine ⟨[], no_rl, (pshapeLit hs).use (And.intro rfl trivial) rfl rfl ?_⟩
  refine retE ?_
  (repeat' first | exact trivial | exact rfl | refine And.intro ?_ ?_)
  all_goals (show (_ : Int) = _; (try dsimp only [placesI, threeI]); first | omega | (unfold numT; omega))
set_option maxHeartbeats 8000000 in
set_option maxRecDepth 100000 in
theorem wideOf_21 (f w : Int) (hF : 1 ≤ f ∧ f ≤ 100) (hs : shapeV f = 21) (hw : U32 w) : PureF gT 52 [.int .i64 f, .int .u32 w] (inP (rdI21 f w)) := by
  have b0 := bitsV_bd w 12 3
  have b1 := bitsV_bd w 6 2
  have b2 := bitsV_bd w 4 2
  have b3 := bitsV_bd w 20 1
  have b4 := bitsV_bd w 16 4
  have b5 := bitsV_bd w 8 4
  have b6 := bitsV_bd w 0 4
  refine Spec.enter gTok P52 100 Tryd.func52 rfl (by kernel_rfl) ?_
  refine ⟨[], no_rl, (places_pure ⟨f, 0, 0, 0, 0, 0, 0, 0, 0, 0, 0⟩ w hw).use (by repeat' first | exact trivial | exact rfl | exact Iff.rfl | exact Or.inl rfl | refine And.intro ?_ ?_) rfl rfl ?_⟩
  refine ⟨[], no_rl, (pshapeLit hs).use (And.intro rfl trivial) rfl rfl ?_⟩
  refine ⟨[], no_rl, (barrel_21 f w hF hs hw).use (by repeat' first | exact trivial | exact rfl | exact Iff.rfl | exact Or.inl rfl | refine And.intro ?_ ?_) rfl rfl ?_⟩
  exact retE (leK_refl _)
set_option maxHeartbeats 8000000 in
set_option maxRecDepth 100000 in
theorem barrel_22 (f w : Int) (hF : 1 ≤ f ∧ f ≤ 100) (hs : shapeV f = 22) (hw : U32 w) : PureF gT 76 [.int .i64 f, .int .u32 w] (inP (rdI22 f w)) := by
  have b0 := bitsV_bd w 12 3
  have b1 := bitsV_bd w 6 2
  have b2 := bitsV_bd w 4 2
  have b3 := bitsV_bd w 20 1
  have b4 := bitsV_bd w 8 4
  have b5 := bitsV_bd w 0 4
  unfold rdI22
  refine Spec.enter gTok P76 100 Tryd.func76 rfl (by kernel_rfl) ?_
  refine ⟨[], no_rl, (places_pure ⟨f, 0, 0, 0, 0, 0, 0, 0, 0, 0, 0⟩ w hw).use (by repeat' first | exact trivial | exact rfl | exact Iff.rfl | exact Or.inl rfl | refine And.intro ?_ ?_) rfl rfl ?_⟩
  refine ⟨[], no_rl, (at_pure w 4 2 hw (by decide) (by decide)).use (And.intro rfl (And.intro rfl (And.intro rfl trivial))) rfl rfl ?_⟩
  refine ⟨[], no_rl, (at_pure w 12 3 hw (by decide) (by decide)).use (And.intro rfl (And.intro rfl (And.intro rfl trivial))) rfl rfl ?_⟩
  refine ⟨by decide, .inl ⟨inR_i64 (by rw [q2]; omega), ?_⟩⟩
  refine ⟨[], no_rl, (at_pure w 6 2 hw (by decide) (by decide)).use (And.intro rfl (And.intro rfl (And.intro rfl trivial))) rfl rfl ?_⟩
  have ek : bitsV w 4 2 = 0 + bitsV w 4 2 * 2 ^ 0 := by omega
  have e : bits .or .i64 (bitsV w 12 3 * Ev.pow2 .i64 2) (bitsV w 6 2) = 0 + bitsV w 12 3 * 2 ^ 2 + bitsV w 6 2 * 2 ^ 0 := by
    rw [q2, Rm.i64_join (bitsV w 12 3 * 4) (bitsV w 6 2) 2 (by omega) (by omega) (by omega) (by omega) (by omega) (by omega)]; omega
  refine ⟨[], no_rl, (turned_pure (0 + bitsV w 4 2 * 2 ^ 0) (0 + bitsV w 12 3 * 2 ^ 2 + bitsV w 6 2 * 2 ^ 0)).use (And.intro ek (And.intro e trivial)) rfl rfl ?_⟩
  repeat (refine And.intro ?_ ?_; rotate_left; focus (
    repeat' (first
      | refine Exists.intro [] (And.intro no_rl ((at_pure w 4 2 hw (by decide) (by decide)).use (And.intro rfl (And.intro rfl (And.intro rfl trivial))) rfl rfl ?_))
      | refine Exists.intro [] (And.intro no_rl ((at_pure w 12 3 hw (by decide) (by decide)).use (And.intro rfl (And.intro rfl (And.intro rfl trivial))) rfl rfl ?_))
      | refine Exists.intro [] (And.intro no_rl ((at_pure w 6 2 hw (by decide) (by decide)).use (And.intro rfl (And.intro rfl (And.intro rfl trivial))) rfl rfl ?_))
      | refine Exists.intro [] (And.intro no_rl ((turned_pure (0 + bitsV w 4 2 * 2 ^ 0) (0 + bitsV w 12 3 * 2 ^ 2 + bitsV w 6 2 * 2 ^ 0)).use (And.intro ek (And.intro e trivial)) rfl rfl ?_))
      | refine And.intro (show (0 : Int) ≤ 2 by decide) (Or.inl (And.intro (inR_i64 (by rw [q2]; omega)) ?_))
      | exact rfl
      | exact trivial
      | refine And.intro ?_ ?_)))
  refine ⟨[], no_rl, (pshapeLit hs).use (And.intro rfl trivial) rfl rfl ?_⟩
  refine ⟨[], no_rl, (pshapeLit hs).use (And.intro rfl trivial) rfl rfl ?_⟩
  refine retE ?_
  (repeat' first | exact trivial | exact rfl | refine And.intro ?_ ?_)
  all_goals (show (_ : Int) = _; (try dsimp only [placesI, threeI]); first | omega | (unfold numT; omega))
set_option maxHeartbeats 8000000 in
set_option maxRecDepth 100000 in
theorem wideOf_22 (f w : Int) (hF : 1 ≤ f ∧ f ≤ 100) (hs : shapeV f = 22) (hw : U32 w) : PureF gT 52 [.int .i64 f, .int .u32 w] (inP (rdI22 f w)) := by
  have b0 := bitsV_bd w 12 3
  have b1 := bitsV_bd w 6 2
  have b2 := bitsV_bd w 4 2
  have b3 := bitsV_bd w 20 1
  have b4 := bitsV_bd w 8 4
  have b5 := bitsV_bd w 0 4
  refine Spec.enter gTok P52 100 Tryd.func52 rfl (by kernel_rfl) ?_
  refine ⟨[], no_rl, (places_pure ⟨f, 0, 0, 0, 0, 0, 0, 0, 0, 0, 0⟩ w hw).use (by repeat' first | exact trivial | exact rfl | exact Iff.rfl | exact Or.inl rfl | refine And.intro ?_ ?_) rfl rfl ?_⟩
  refine ⟨[], no_rl, (pshapeLit hs).use (And.intro rfl trivial) rfl rfl ?_⟩
  refine ⟨[], no_rl, (barrel_22 f w hF hs hw).use (by repeat' first | exact trivial | exact rfl | exact Iff.rfl | exact Or.inl rfl | refine And.intro ?_ ?_) rfl rfl ?_⟩
  exact retE (leK_refl _)
set_option maxHeartbeats 8000000 in
set_option maxRecDepth 100000 in
theorem barrel_23 (f w : Int) (hF : 1 ≤ f ∧ f ≤ 100) (hs : shapeV f = 23) (hw : U32 w) : PureF gT 76 [.int .i64 f, .int .u32 w] (inP (rdI23 f w)) := by
  have b0 := bitsV_bd w 12 3
  have b1 := bitsV_bd w 6 2
  have b2 := bitsV_bd w 4 2
  have b3 := bitsV_bd w 16 4
  have b4 := bitsV_bd w 0 4
  unfold rdI23
  refine Spec.enter gTok P76 100 Tryd.func76 rfl (by kernel_rfl) ?_
  refine ⟨[], no_rl, (places_pure ⟨f, 0, 0, 0, 0, 0, 0, 0, 0, 0, 0⟩ w hw).use (by repeat' first | exact trivial | exact rfl | exact Iff.rfl | exact Or.inl rfl | refine And.intro ?_ ?_) rfl rfl ?_⟩
  refine ⟨[], no_rl, (at_pure w 4 2 hw (by decide) (by decide)).use (And.intro rfl (And.intro rfl (And.intro rfl trivial))) rfl rfl ?_⟩
  refine ⟨[], no_rl, (at_pure w 12 3 hw (by decide) (by decide)).use (And.intro rfl (And.intro rfl (And.intro rfl trivial))) rfl rfl ?_⟩
  refine ⟨by decide, .inl ⟨inR_i64 (by rw [q2]; omega), ?_⟩⟩
  refine ⟨[], no_rl, (at_pure w 6 2 hw (by decide) (by decide)).use (And.intro rfl (And.intro rfl (And.intro rfl trivial))) rfl rfl ?_⟩
  have ek : bitsV w 4 2 = 0 + bitsV w 4 2 * 2 ^ 0 := by omega
  have e : bits .or .i64 (bitsV w 12 3 * Ev.pow2 .i64 2) (bitsV w 6 2) = 0 + bitsV w 12 3 * 2 ^ 2 + bitsV w 6 2 * 2 ^ 0 := by
    rw [q2, Rm.i64_join (bitsV w 12 3 * 4) (bitsV w 6 2) 2 (by omega) (by omega) (by omega) (by omega) (by omega) (by omega)]; omega
  refine ⟨[], no_rl, (turned_pure (0 + bitsV w 4 2 * 2 ^ 0) (0 + bitsV w 12 3 * 2 ^ 2 + bitsV w 6 2 * 2 ^ 0)).use (And.intro ek (And.intro e trivial)) rfl rfl ?_⟩
  repeat (refine And.intro ?_ ?_; rotate_left; focus (
    repeat' (first
      | refine Exists.intro [] (And.intro no_rl ((at_pure w 4 2 hw (by decide) (by decide)).use (And.intro rfl (And.intro rfl (And.intro rfl trivial))) rfl rfl ?_))
      | refine Exists.intro [] (And.intro no_rl ((at_pure w 12 3 hw (by decide) (by decide)).use (And.intro rfl (And.intro rfl (And.intro rfl trivial))) rfl rfl ?_))
      | refine Exists.intro [] (And.intro no_rl ((at_pure w 6 2 hw (by decide) (by decide)).use (And.intro rfl (And.intro rfl (And.intro rfl trivial))) rfl rfl ?_))
      | refine Exists.intro [] (And.intro no_rl ((turned_pure (0 + bitsV w 4 2 * 2 ^ 0) (0 + bitsV w 12 3 * 2 ^ 2 + bitsV w 6 2 * 2 ^ 0)).use (And.intro ek (And.intro e trivial)) rfl rfl ?_))
      | refine And.intro (show (0 : Int) ≤ 2 by decide) (Or.inl (And.intro (inR_i64 (by rw [q2]; omega)) ?_))
      | exact rfl
      | exact trivial
      | refine And.intro ?_ ?_)))
  refine ⟨[], no_rl, (pshapeLit hs).use (And.intro rfl trivial) rfl rfl ?_⟩
  refine ⟨[], no_rl, (pshapeLit hs).use (And.intro rfl trivial) rfl rfl ?_⟩
  refine retE ?_
  (repeat' first | exact trivial | exact rfl | refine And.intro ?_ ?_)
  all_goals (show (_ : Int) = _; (try dsimp only [placesI, threeI]); first | omega | (unfold numT; omega))
set_option maxHeartbeats 8000000 in
set_option maxRecDepth 100000 in
theorem wideOf_23 (f w : Int) (hF : 1 ≤ f ∧ f ≤ 100) (hs : shapeV f = 23) (hw : U32 w) : PureF gT 52 [.int .i64 f, .int .u32 w] (inP (rdI23 f w)) := by
  have b0 := bitsV_bd w 12 3
  have b1 := bitsV_bd w 6 2
  have b2 := bitsV_bd w 4 2
  have b3 := bitsV_bd w 16 4
  have b4 := bitsV_bd w 0 4
  refine Spec.enter gTok P52 100 Tryd.func52 rfl (by kernel_rfl) ?_
  refine ⟨[], no_rl, (places_pure ⟨f, 0, 0, 0, 0, 0, 0, 0, 0, 0, 0⟩ w hw).use (by repeat' first | exact trivial | exact rfl | exact Iff.rfl | exact Or.inl rfl | refine And.intro ?_ ?_) rfl rfl ?_⟩
  refine ⟨[], no_rl, (pshapeLit hs).use (And.intro rfl trivial) rfl rfl ?_⟩
  refine ⟨[], no_rl, (barrel_23 f w hF hs hw).use (by repeat' first | exact trivial | exact rfl | exact Iff.rfl | exact Or.inl rfl | refine And.intro ?_ ?_) rfl rfl ?_⟩
  exact retE (leK_refl _)
set_option maxHeartbeats 8000000 in
set_option maxRecDepth 100000 in
theorem immediate_24 (f w : Int) (hF : 1 ≤ f ∧ f ≤ 100) (hs : shapeV f = 24) (hw : U32 w) : PureF gT 75 [.int .i64 f, .int .u32 w] (inP (rdI24 f w)) := by
  have b0 := bitsV_bd w 26 1
  have b1 := bitsV_bd w 12 3
  have b2 := bitsV_bd w 0 8
  have b3 := bitsV_bd w 16 4
  have b4 := bitsV_bd w 8 4
  unfold rdI24
  refine Spec.enter gTok P75 100 Tryd.func75 rfl (by kernel_rfl) ?_
  refine ⟨[], no_rl, (places_pure ⟨f, 0, 0, 0, 0, 0, 0, 0, 0, 0, 0⟩ w hw).use (by repeat' first | exact trivial | exact rfl | exact Iff.rfl | exact Or.inl rfl | refine And.intro ?_ ?_) rfl rfl ?_⟩
  refine ⟨[], no_rl, (number_f w hw).use (by repeat' first | exact trivial | exact rfl | exact Iff.rfl | exact Or.inl rfl | refine And.intro ?_ ?_) rfl rfl ?_⟩
  refine ⟨[], no_rl, (pshapeLit hs).use (And.intro rfl trivial) rfl rfl ?_⟩
  refine retE ?_
  (repeat' first | exact trivial | exact rfl | refine And.intro ?_ ?_)
  all_goals (show (_ : Int) = _; (try dsimp only [placesI, threeI]); first | omega | (unfold numT; omega))
set_option maxHeartbeats 8000000 in
set_option maxRecDepth 100000 in
theorem wideOf_24 (f w : Int) (hF : 1 ≤ f ∧ f ≤ 100) (hs : shapeV f = 24) (hw : U32 w) : PureF gT 52 [.int .i64 f, .int .u32 w] (inP (rdI24 f w)) := by
  have b0 := bitsV_bd w 26 1
  have b1 := bitsV_bd w 12 3
  have b2 := bitsV_bd w 0 8
  have b3 := bitsV_bd w 16 4
  have b4 := bitsV_bd w 8 4
  refine Spec.enter gTok P52 100 Tryd.func52 rfl (by kernel_rfl) ?_
  refine ⟨[], no_rl, (places_pure ⟨f, 0, 0, 0, 0, 0, 0, 0, 0, 0, 0⟩ w hw).use (by repeat' first | exact trivial | exact rfl | exact Iff.rfl | exact Or.inl rfl | refine And.intro ?_ ?_) rfl rfl ?_⟩
  refine ⟨[], no_rl, (pshapeLit hs).use (And.intro rfl trivial) rfl rfl ?_⟩
  refine ⟨[], no_rl, (immediate_24 f w hF hs hw).use (by repeat' first | exact trivial | exact rfl | exact Iff.rfl | exact Or.inl rfl | refine And.intro ?_ ?_) rfl rfl ?_⟩
  exact retE (leK_refl _)
set_option maxHeartbeats 8000000 in
set_option maxRecDepth 100000 in
theorem wideOf_25 (f w : Int) (hF : 1 ≤ f ∧ f ≤ 100) (hs : shapeV f = 25) (hw : U32 w) : PureF gT 52 [.int .i64 f, .int .u32 w] (inP (rdI25 f w)) := by
  have b0 := bitsV_bd w 16 4
  have b1 := bitsV_bd w 12 4
  have b2 := bitsV_bd w 0 12
  unfold rdI25
  refine Spec.enter gTok P52 100 Tryd.func52 rfl (by kernel_rfl) ?_
  refine ⟨[], no_rl, (places_pure ⟨f, 0, 0, 0, 0, 0, 0, 0, 0, 0, 0⟩ w hw).use (by repeat' first | exact trivial | exact rfl | exact Iff.rfl | exact Or.inl rfl | refine And.intro ?_ ?_) rfl rfl ?_⟩
  refine ⟨[], no_rl, (pshapeLit hs).use (And.intro rfl trivial) rfl rfl ?_⟩
  refine ⟨[], no_rl, (at_pure w 12 4 hw (by decide) (by decide)).use (And.intro rfl (And.intro rfl (And.intro rfl trivial))) rfl rfl ?_⟩
  refine ⟨[], no_rl, (at_pure w 0 12 hw (by decide) (by decide)).use (And.intro rfl (And.intro rfl (And.intro rfl trivial))) rfl rfl ?_⟩
  refine retE ?_
  (repeat' first | exact trivial | exact rfl | refine And.intro ?_ ?_)
  all_goals (show (_ : Int) = _; (try dsimp only [placesI, threeI]); first | omega | (unfold numT; omega))
set_option maxHeartbeats 8000000 in
set_option maxRecDepth 100000 in
theorem wideOf_26 (f w : Int) (hF : 1 ≤ f ∧ f ≤ 100) (hs : shapeV f = 26) (hw : U32 w) : PureF gT 52 [.int .i64 f, .int .u32 w] (inP (rdI26 f w)) := by
  have b0 := bitsV_bd w 16 4
  have b1 := bitsV_bd w 12 4
  have b2 := bitsV_bd w 4 2
  have b3 := bitsV_bd w 0 4
  unfold rdI26
  refine Spec.enter gTok P52 100 Tryd.func52 rfl (by kernel_rfl) ?_
  refine ⟨[], no_rl, (places_pure ⟨f, 0, 0, 0, 0, 0, 0, 0, 0, 0, 0⟩ w hw).use (by repeat' first | exact trivial | exact rfl | exact Iff.rfl | exact Or.inl rfl | refine And.intro ?_ ?_) rfl rfl ?_⟩
  refine ⟨[], no_rl, (pshapeLit hs).use (And.intro rfl trivial) rfl rfl ?_⟩
  refine ⟨[], no_rl, (at_pure w 12 4 hw (by decide) (by decide)).use (And.intro rfl (And.intro rfl (And.intro rfl trivial))) rfl rfl ?_⟩
  refine ⟨[], no_rl, (at_pure w 4 2 hw (by decide) (by decide)).use (And.intro rfl (And.intro rfl (And.intro rfl trivial))) rfl rfl ?_⟩
  refine retE ?_
  (repeat' first | exact trivial | exact rfl | refine And.intro ?_ ?_)
  all_goals (show (_ : Int) = _; (try dsimp only [placesI, threeI]); first | omega | (unfold numT; omega))
set_option maxHeartbeats 8000000 in
set_option maxRecDepth 100000 in
theorem wideOf_27 (f w : Int) (hF : 1 ≤ f ∧ f ≤ 100) (hs : shapeV f = 27) (hw : U32 w) : PureF gT 52 [.int .i64 f, .int .u32 w] (inP (rdI27 f w)) := by
  have b0 := bitsV_bd w 20 1
  have b1 := bitsV_bd w 16 4
  have b2 := bitsV_bd w 8 4
  have b3 := bitsV_bd w 0 4
  unfold rdI27
  refine Spec.enter gTok P52 100 Tryd.func52 rfl (by kernel_rfl) ?_
  refine ⟨[], no_rl, (places_pure ⟨f, 0, 0, 0, 0, 0, 0, 0, 0, 0, 0⟩ w hw).use (by repeat' first | exact trivial | exact rfl | exact Iff.rfl | exact Or.inl rfl | refine And.intro ?_ ?_) rfl rfl ?_⟩
  refine ⟨[], no_rl, (pshapeLit hs).use (And.intro rfl trivial) rfl rfl ?_⟩
  refine retE ?_
  (repeat' first | exact trivial | exact rfl | refine And.intro ?_ ?_)
  all_goals (show (_ : Int) = _; (try dsimp only [placesI, threeI]); first | omega | (unfold numT; omega))
set_option maxHeartbeats 8000000 in
set_option maxRecDepth 100000 in
theorem wideOf_28 (f w : Int) (hF : 1 ≤ f ∧ f ≤ 100) (hs : shapeV f = 28) (hw : U32 w) : PureF gT 52 [.int .i64 f, .int .u32 w] (inP (rdI28 f w)) := by
  have b0 := bitsV_bd w 16 4
  have b1 := bitsV_bd w 8 4
  have b2 := bitsV_bd w 0 4
  unfold rdI28
  refine Spec.enter gTok P52 100 Tryd.func52 rfl (by kernel_rfl) ?_
  refine ⟨[], no_rl, (places_pure ⟨f, 0, 0, 0, 0, 0, 0, 0, 0, 0, 0⟩ w hw).use (by repeat' first | exact trivial | exact rfl | exact Iff.rfl | exact Or.inl rfl | refine And.intro ?_ ?_) rfl rfl ?_⟩
  refine ⟨[], no_rl, (pshapeLit hs).use (And.intro rfl trivial) rfl rfl ?_⟩
  refine retE ?_
  (repeat' first | exact trivial | exact rfl | refine And.intro ?_ ?_)
  all_goals (show (_ : Int) = _; (try dsimp only [placesI, threeI]); first | omega | (unfold numT; omega))
set_option maxHeartbeats 8000000 in
set_option maxRecDepth 100000 in
theorem wideOf_29 (f w : Int) (hF : 1 ≤ f ∧ f ≤ 100) (hs : shapeV f = 29) (hw : U32 w) : PureF gT 52 [.int .i64 f, .int .u32 w] (inP (rdI29 f w)) := by
  have b0 := bitsV_bd w 16 4
  have b1 := bitsV_bd w 12 4
  have b2 := bitsV_bd w 8 4
  have b3 := bitsV_bd w 0 4
  unfold rdI29
  refine Spec.enter gTok P52 100 Tryd.func52 rfl (by kernel_rfl) ?_
  refine ⟨[], no_rl, (places_pure ⟨f, 0, 0, 0, 0, 0, 0, 0, 0, 0, 0⟩ w hw).use (by repeat' first | exact trivial | exact rfl | exact Iff.rfl | exact Or.inl rfl | refine And.intro ?_ ?_) rfl rfl ?_⟩
  refine ⟨[], no_rl, (pshapeLit hs).use (And.intro rfl trivial) rfl rfl ?_⟩
  refine ⟨[], no_rl, (at_pure w 12 4 hw (by decide) (by decide)).use (And.intro rfl (And.intro rfl (And.intro rfl trivial))) rfl rfl ?_⟩
  refine retE ?_
  (repeat' first | exact trivial | exact rfl | refine And.intro ?_ ?_)
  all_goals (show (_ : Int) = _; (try dsimp only [placesI, threeI]); first | omega | (unfold numT; omega))
set_option maxHeartbeats 8000000 in
set_option maxRecDepth 100000 in
theorem wideOf_30 (f w : Int) (hF : 1 ≤ f ∧ f ≤ 100) (hs : shapeV f = 30) (hw : U32 w) : PureF gT 52 [.int .i64 f, .int .u32 w] (inP (rdI30 f w)) := by
  have b0 := bitsV_bd w 16 4
  have b1 := bitsV_bd w 12 4
  have b2 := bitsV_bd w 8 4
  have b3 := bitsV_bd w 0 4
  unfold rdI30
  refine Spec.enter gTok P52 100 Tryd.func52 rfl (by kernel_rfl) ?_
  refine ⟨[], no_rl, (places_pure ⟨f, 0, 0, 0, 0, 0, 0, 0, 0, 0, 0⟩ w hw).use (by repeat' first | exact trivial | exact rfl | exact Iff.rfl | exact Or.inl rfl | refine And.intro ?_ ?_) rfl rfl ?_⟩
  refine ⟨[], no_rl, (pshapeLit hs).use (And.intro rfl trivial) rfl rfl ?_⟩
  refine ⟨[], no_rl, (at_pure w 12 4 hw (by decide) (by decide)).use (And.intro rfl (And.intro rfl (And.intro rfl trivial))) rfl rfl ?_⟩
  refine retE ?_
  (repeat' first | exact trivial | exact rfl | refine And.intro ?_ ?_)
  all_goals (show (_ : Int) = _; (try dsimp only [placesI, threeI]); first | omega | (unfold numT; omega))
set_option maxHeartbeats 8000000 in
set_option maxRecDepth 100000 in
theorem wideOf_31 (f w : Int) (hF : 1 ≤ f ∧ f ≤ 100) (hs : shapeV f = 31) (hw : U32 w) : PureF gT 52 [.int .i64 f, .int .u32 w] (inP (rdI31 f w)) := by
  have b0 := bitsV_bd w 16 4
  have b1 := bitsV_bd w 12 4
  have b2 := bitsV_bd w 8 4
  have b3 := bitsV_bd w 0 4
  unfold rdI31
  refine Spec.enter gTok P52 100 Tryd.func52 rfl (by kernel_rfl) ?_
  refine ⟨[], no_rl, (places_pure ⟨f, 0, 0, 0, 0, 0, 0, 0, 0, 0, 0⟩ w hw).use (by repeat' first | exact trivial | exact rfl | exact Iff.rfl | exact Or.inl rfl | refine And.intro ?_ ?_) rfl rfl ?_⟩
  refine ⟨[], no_rl, (pshapeLit hs).use (And.intro rfl trivial) rfl rfl ?_⟩
  refine ⟨[], no_rl, (at_pure w 12 4 hw (by decide) (by decide)).use (And.intro rfl (And.intro rfl (And.intro rfl trivial))) rfl rfl ?_⟩
  refine retE ?_
  (repeat' first | exact trivial | exact rfl | refine And.intro ?_ ?_)
  all_goals (show (_ : Int) = _; (try dsimp only [placesI, threeI]); first | omega | (unfold numT; omega))
set_option maxHeartbeats 8000000 in
set_option maxRecDepth 100000 in
theorem wideOf_32 (f w : Int) (hF : 1 ≤ f ∧ f ≤ 100) (hs : shapeV f = 32) (hw : U32 w) : PureF gT 52 [.int .i64 f, .int .u32 w] (inP (rdI32 f w)) := by
  have b0 := bitsV_bd w 16 4
  have b1 := bitsV_bd w 8 4
  have b2 := bitsV_bd w 0 4
  unfold rdI32
  refine Spec.enter gTok P52 100 Tryd.func52 rfl (by kernel_rfl) ?_
  refine ⟨[], no_rl, (places_pure ⟨f, 0, 0, 0, 0, 0, 0, 0, 0, 0, 0⟩ w hw).use (by repeat' first | exact trivial | exact rfl | exact Iff.rfl | exact Or.inl rfl | refine And.intro ?_ ?_) rfl rfl ?_⟩
  refine ⟨[], no_rl, (pshapeLit hs).use (And.intro rfl trivial) rfl rfl ?_⟩
  refine retE ?_
  (repeat' first | exact trivial | exact rfl | refine And.intro ?_ ?_)
  all_goals (show (_ : Int) = _; (try dsimp only [placesI, threeI]); first | omega | (unfold numT; omega))
set_option maxHeartbeats 8000000 in
set_option maxRecDepth 100000 in
theorem wideOf_33 (f w : Int) (hF : 1 ≤ f ∧ f ≤ 100) (hs : shapeV f = 33) (hw : U32 w) : PureF gT 52 [.int .i64 f, .int .u32 w] (inP (rdI33 f w)) := by
  have b0 := bitsV_bd w 26 1
  have b1 := bitsV_bd w 22 4
  have b2 := bitsV_bd w 16 6
  have b3 := bitsV_bd w 13 1
  have b4 := bitsV_bd w 11 1
  have b5 := bitsV_bd w 0 11
  unfold rdI33
  refine Spec.enter gTok P52 100 Tryd.func52 rfl (by kernel_rfl) ?_
  refine ⟨[], no_rl, (places_pure ⟨f, 0, 0, 0, 0, 0, 0, 0, 0, 0, 0⟩ w hw).use (by repeat' first | exact trivial | exact rfl | exact Iff.rfl | exact Or.inl rfl | refine And.intro ?_ ?_) rfl rfl ?_⟩
  refine ⟨[], no_rl, (pshapeLit hs).use (And.intro rfl trivial) rfl rfl ?_⟩
  refine ⟨[], no_rl, (at_pure w 22 4 hw (by decide) (by decide)).use (And.intro rfl (And.intro rfl (And.intro rfl trivial))) rfl rfl ?_⟩
  refine ⟨[], no_rl, (condOf_pure w hw).use (And.intro rfl trivial) rfl rfl ?_⟩
  refine retE ?_
  (repeat' first | exact trivial | exact rfl | refine And.intro ?_ ?_)
  all_goals (show (_ : Int) = _; (try dsimp only [placesI, threeI]); first | omega | (unfold numT; omega))
set_option maxHeartbeats 8000000 in
set_option maxRecDepth 100000 in
theorem wideOf_34 (f w : Int) (hF : 1 ≤ f ∧ f ≤ 100) (hs : shapeV f = 34) (hw : U32 w) : PureF gT 52 [.int .i64 f, .int .u32 w] (inP (rdI34 f w)) := by
  have b0 := bitsV_bd w 26 1
  have b1 := bitsV_bd w 16 10
  have b2 := bitsV_bd w 13 1
  have b3 := bitsV_bd w 11 1
  have b4 := bitsV_bd w 0 11
  unfold rdI34
  refine Spec.enter gTok P52 100 Tryd.func52 rfl (by kernel_rfl) ?_
  refine ⟨[], no_rl, (places_pure ⟨f, 0, 0, 0, 0, 0, 0, 0, 0, 0, 0⟩ w hw).use (by repeat' first | exact trivial | exact rfl | exact Iff.rfl | exact Or.inl rfl | refine And.intro ?_ ?_) rfl rfl ?_⟩
  refine ⟨[], no_rl, (pshapeLit hs).use (And.intro rfl trivial) rfl rfl ?_⟩
  refine ⟨[], no_rl, (jumpOf_pure w hw).use (And.intro rfl trivial) rfl rfl ?_⟩
  refine retE ?_
  (repeat' first | exact trivial | exact rfl | refine And.intro ?_ ?_)
  all_goals (show (_ : Int) = _; (try dsimp only [placesI, threeI]); first | omega | (unfold numT; omega))

end Go.Proofs.YtjcacjeoddnmhaaDoor.Pw

/- Chapter 4 over values: packing and reading, of all shapes; an instruction's bits; the instruction of bits. -/
namespace Go.Proofs.YtjcacjeoddnmhaaDoor.Pw
open Go Go.RowKit

theorem shape_wide {f : Int} (h : 1 ≤ f ∧ f ≤ 100) : 17 ≤ shapeV f ↔ 48 ≤ f := by
  have h1 : ((List.range 100).all fun k => decide (17 ≤ shapeV ((k + 1 : Nat) : Int) ↔ 48 ≤ k + 1)) = true := by decide +kernel
  have h2 := of_decide_eq_true (List.all_eq_true.1 h1 (f.toNat - 1) (List.mem_range.2 (by omega)))
  rw [show (((f.toNat - 1 + 1 : Nat)) : Int) = f by omega] at h2
  omega
theorem cases16 {s : Int} (h : 1 ≤ s ∧ s ≤ 16) : s = 1 ∨ s = 2 ∨ s = 3 ∨ s = 4 ∨ s = 5 ∨ s = 6 ∨ s = 7 ∨ s = 8 ∨ s = 9 ∨ s = 10 ∨ s = 11 ∨ s = 12 ∨ s = 13 ∨ s = 14 ∨ s = 15 ∨ s = 16 := by omega
theorem cases18 {s : Int} (h : 17 ≤ s ∧ s ≤ 34) : s = 17 ∨ s = 18 ∨ s = 19 ∨ s = 20 ∨ s = 21 ∨ s = 22 ∨ s = 23 ∨ s = 24 ∨ s = 25 ∨ s = 26 ∨ s = 27 ∨ s = 28 ∨ s = 29 ∨ s = 30 ∨ s = 31 ∨ s = 32 ∨ s = 33 ∨ s = 34 := by omega
theorem narrowOf_all (f w : Int) (hF : 1 ≤ f ∧ f ≤ 100) (hn : ¬ 48 ≤ f) (hw : U32 w) : PureF gT 51 [.int .i64 f, .int .u32 w] (inP (readV f w)) := by
  have h17 := shape_wide hF
  have hb := shape_bd hF
  rcases cases16 (s := shapeV f) (by omega) with hs | hs | hs | hs | hs | hs | hs | hs | hs | hs | hs | hs | hs | hs | hs | hs
  · rw [rd_1 hs]; exact narrowOf_1 f w hF hs hw
  · rw [rd_2 hs]; exact narrowOf_2 f w hF hs hw
  · rw [rd_3 hs]; exact narrowOf_3 f w hF hs hw
  · rw [rd_4 hs]; exact narrowOf_4 f w hF hs hw
  · rw [rd_5 hs]; exact narrowOf_5 f w hF hs hw
  · rw [rd_6 hs]; exact narrowOf_6 f w hF hs hw
  · rw [rd_7 hs]; exact narrowOf_7 f w hF hs hw
  · rw [rd_8 hs]; exact narrowOf_8 f w hF hs hw
  · rw [rd_9 hs]; exact narrowOf_9 f w hF hs hw
  · rw [rd_10 hs]; exact narrowOf_10 f w hF hs hw
  · rw [rd_11 hs]; exact narrowOf_11 f w hF hs hw
  · rw [rd_12 hs]; exact narrowOf_12 f w hF hs hw
  · rw [rd_13 hs]; exact narrowOf_13 f w hF hs hw
  · rw [rd_14 hs]; exact narrowOf_14 f w hF hs hw
  · rw [rd_15 hs]; exact narrowOf_15 f w hF hs hw
  · rw [rd_16 hs]; exact narrowOf_16 f w hF hs hw
  
theorem wideOf_all (f w : Int) (hF : 1 ≤ f ∧ f ≤ 100) (hn : 48 ≤ f) (hw : U32 w) : PureF gT 52 [.int .i64 f, .int .u32 w] (inP (readV f w)) := by
  have h17 := shape_wide hF
  have hb := shape_bd hF
  rcases cases18 (s := shapeV f) (by omega) with hs | hs | hs | hs | hs | hs | hs | hs | hs | hs | hs | hs | hs | hs | hs | hs | hs | hs
  · rw [rd_17 hs]; exact wideOf_17 f w hF hs hw
  · rw [rd_18 hs]; exact wideOf_18 f w hF hs hw
  · rw [rd_19 hs]; exact wideOf_19 f w hF hs hw
  · rw [rd_20 hs]; exact wideOf_20 f w hF hs hw
  · rw [rd_21 hs]; exact wideOf_21 f w hF hs hw
  · rw [rd_22 hs]; exact wideOf_22 f w hF hs hw
  · rw [rd_23 hs]; exact wideOf_23 f w hF hs hw
  · rw [rd_24 hs]; exact wideOf_24 f w hF hs hw
  · rw [rd_25 hs]; exact wideOf_25 f w hF hs hw
  · rw [rd_26 hs]; exact wideOf_26 f w hF hs hw
  · rw [rd_27 hs]; exact wideOf_27 f w hF hs hw
  · rw [rd_28 hs]; exact wideOf_28 f w hF hs hw
  · rw [rd_29 hs]; exact wideOf_29 f w hF hs hw
  · rw [rd_30 hs]; exact wideOf_30 f w hF hs hw
  · rw [rd_31 hs]; exact wideOf_31 f w hF hs hw
  · rw [rd_32 hs]; exact wideOf_32 f w hF hs hw
  · rw [rd_33 hs]; exact wideOf_33 f w hF hs hw
  · rw [rd_34 hs]; exact wideOf_34 f w hF hs hw
  
def orV (i : IN) : Int := ((orF (turnI i) (fieldsV (shapeV i.form)) : Nat) : Int)
theorem narrow_all (i : IN) (hr : rightV i) (hn : ¬ 48 ≤ i.form) (hg : i.regs ≤ 9223372036854775807) : PureF gT 80 [inP i] (.int .u32 (orV i)) := by
  have h17 := shape_wide hr.1
  have hb := shape_bd hr.1
  unfold orV
  unfold rightV at hr
  rw [turnI_not (by omega)]
  rcases cases16 (s := shapeV i.form) (by omega) with hs | hs | hs | hs | hs | hs | hs | hs | hs | hs | hs | hs | hs | hs | hs | hs
  · rw [hs] at hr ⊢; exact narrow_1 i hs hr hg
  · rw [hs] at hr ⊢; exact narrow_2 i hs hr hg
  · rw [hs] at hr ⊢; exact narrow_3 i hs hr hg
  · rw [hs] at hr ⊢; exact narrow_4 i hs hr hg
  · rw [hs] at hr ⊢; exact narrow_5 i hs hr hg
  · rw [hs] at hr ⊢; exact narrow_6 i hs hr hg
  · rw [hs] at hr ⊢; exact narrow_7 i hs hr hg
  · rw [hs] at hr ⊢; exact narrow_8 i hs hr hg
  · rw [hs] at hr ⊢; exact narrow_9 i hs hr hg
  · rw [hs] at hr ⊢; exact narrow_10 i hs hr hg
  · rw [hs] at hr ⊢; exact narrow_11 i hs hr hg
  · rw [hs] at hr ⊢; exact narrow_12 i hs hr hg
  · rw [hs] at hr ⊢; exact narrow_13 i hs hr hg
  · rw [hs] at hr ⊢; exact narrow_14 i hs hr hg
  · rw [hs] at hr ⊢; exact narrow_15 i hs hr hg
  · rw [hs] at hr ⊢; exact narrow_16 i hs hr hg
  
theorem wide_all (i : IN) (hr : rightV i) (hn : 48 ≤ i.form) (hg : i.regs ≤ 9223372036854775807) : PureF gT 79 [inP i] (.int .u32 (orV i)) := by
  have h17 := shape_wide hr.1
  have hb := shape_bd hr.1
  unfold orV
  unfold rightV at hr
  rcases cases18 (s := shapeV i.form) (by omega) with hs | hs | hs | hs | hs | hs | hs | hs | hs | hs | hs | hs | hs | hs | hs | hs | hs | hs
  · rw [turnI_not (by omega)]; rw [hs] at hr ⊢; exact wide_17 i hs hr hg
  · rw [turnI_not (by omega)]; rw [hs] at hr ⊢; exact wide_18 i hs hr hg
  · rw [turnI_not (by omega)]; rw [hs] at hr ⊢; exact wide_19 i hs hr hg
  · rw [turnI_not (by omega)]; rw [hs] at hr ⊢; exact wide_20 i hs hr hg
  · rw [turnI_not (by omega)]; rw [hs] at hr ⊢; exact wide_21 i hs hr hg
  · rw [turnI_not (by omega)]; rw [hs] at hr ⊢; exact wide_22 i hs hr hg
  · rw [turnI_not (by omega)]; rw [hs] at hr ⊢; exact wide_23 i hs hr hg
  · rw [turnI_not (by omega)]; rw [hs] at hr ⊢; exact wide_24 i hs hr hg
  · rw [turnI_not (by omega)]; rw [hs] at hr ⊢; exact wide_25 i hs hr hg
  · rw [turnI_not (by omega)]; rw [hs] at hr ⊢; exact wide_26 i hs hr hg
  · rw [turnI_not (by omega)]; rw [hs] at hr ⊢; exact wide_27 i hs hr hg
  · rw [turnI_not (by omega)]; rw [hs] at hr ⊢; exact wide_28 i hs hr hg
  · rw [turnI_not (by omega)]; rw [hs] at hr ⊢; exact wide_29 i hs hr hg
  · rw [turnI_not (by omega)]; rw [hs] at hr ⊢; exact wide_30 i hs hr hg
  · rw [turnI_not (by omega)]; rw [hs] at hr ⊢; exact wide_31 i hs hr hg
  · rw [turnI_not (by omega)]; rw [hs] at hr ⊢; exact wide_32 i hs hr hg
  · rw [turnI_not (by omega)]; rw [hs] at hr ⊢; exact wide_33 i hs hr hg
  · rw [hs] at hr ⊢; exact wide_34 i hs hr hg
theorem orV_lt (i : IN) : orF (turnI i) (fieldsV (shapeV i.form)) < 4294967296 := by
  have h := wordF_lt (turnI i) (fieldsV (shapeV i.form)) (fields_ok _)
  rw [wordF_or] at h
  exact Nat.lt_of_le_of_lt Nat.right_le_or h
theorem pack_or (i : IN) : bits .or .u32 (fbV i.form) (orV i) = wordV i := by
  have b := fb_bd i.form
  have l := orV_lt i
  rw [word_or]
  unfold orV
  rw [u32_or _ _ b.1 b.2 (by omega) (by omega), Int.toNat_natCast]
set_option maxRecDepth 100000 in
theorem pack_pure (i : IN) (hr : rightV i) (hg : i.regs ≤ 9223372036854775807) : PureF gT 53 [inP i] (.int .u32 (wordV i)) := by
  refine Spec.enter gTok P53 100 Tryd.func53 rfl (by kernel_rfl) ?_
  refine ⟨[], no_rl, (form_wide i.form).use (by repeat' first | exact trivial | exact rfl | exact Iff.rfl | exact Or.inl rfl | refine And.intro ?_ ?_) rfl rfl ?_⟩
  refine And.intro (fun h => ?_) (fun h => ?_)
  · refine ⟨[], no_rl, (formBits_pure i.form).use (by repeat' first | exact trivial | exact rfl | exact Iff.rfl | exact Or.inl rfl | refine And.intro ?_ ?_) rfl rfl ?_⟩
    refine ⟨[], no_rl, (wide_all i hr h.1 hg).use (by repeat' first | exact trivial | exact rfl | exact Iff.rfl | exact Or.inl rfl | refine And.intro ?_ ?_) rfl rfl ?_⟩
    refine retE ?_
    exact pack_or i
  · refine ⟨[], no_rl, (formBits_pure i.form).use (by repeat' first | exact trivial | exact rfl | exact Iff.rfl | exact Or.inl rfl | refine And.intro ?_ ?_) rfl rfl ?_⟩
    refine ⟨[], no_rl, (narrow_all i hr (fun e => h ⟨e, hr.1.2⟩) hg).use (by repeat' first | exact trivial | exact rfl | exact Iff.rfl | exact Or.inl rfl | refine And.intro ?_ ?_) rfl rfl ?_⟩
    refine retE ?_
    exact pack_or i
end Go.Proofs.YtjcacjeoddnmhaaDoor.Pw

/- Chapter 4, plain: which instruction bits are. -/
namespace Go.Proofs.YtjcacjeoddnmhaaDoor.Pw
open Go Go.RowKit

/-! ### readings stay within bounds -/
theorem span_tab : ∀ k : Fin 35, (fieldsV ((k.1 : Nat) : Int)).all (fun x => decide (x.2.1 + x.2.2.2 ≤ 25)) = true := by decide
theorem fields_span (s : Int) : ∀ x ∈ fieldsV s, x.2.1 + x.2.2.2 ≤ 25 := by
  have h : (fieldsV s).all (fun x => decide (x.2.1 + x.2.2.2 ≤ 25)) = true := by
    by_cases h : s < 1 ∨ 34 < s
    · rw [fields_none s h]; rfl
    · have h1 := span_tab ⟨s.toNat, by omega⟩
      rwa [show (((⟨s.toNat, by omega⟩ : Fin 35).1 : Nat) : Int) = s by simp only []; omega] at h1
  exact fun x hx => of_decide_eq_true (List.all_eq_true.1 h x hx)
theorem term_bd (w : Int) (a n l : Nat) (h : l + n ≤ 25) : 0 ≤ bitsV w a n * 2 ^ l ∧ bitsV w a n * 2 ^ l ≤ 33554432 := by
  have b := bitsV_bd w a n
  have p1 := pow_cast l
  have p2 := pow_cast n
  have q1 := Nat.two_pow_pos l
  have e : ((bitsV w a n).toNat : Int) = bitsV w a n := Int.toNat_of_nonneg b.1
  have h1 : (bitsV w a n).toNat < 2 ^ n := by omega
  have h2 : (bitsV w a n).toNat * 2 ^ l ≤ 2 ^ n * 2 ^ l := Nat.mul_le_mul_right _ (Nat.le_of_lt h1)
  have h3 : 2 ^ n * 2 ^ l ≤ 2 ^ 25 := by rw [← Nat.pow_add]; exact Nat.pow_le_pow_right (by omega) (by omega)
  have e2 : bitsV w a n * 2 ^ l = (((bitsV w a n).toNat * 2 ^ l : Nat) : Int) := by rw [Int.natCast_mul, e, p1]
  rw [e2]
  have h4 : (2 : Nat) ^ 25 = 33554432 := by decide
  omega
theorem sum_bd (w : Int) : ∀ (l : List (Nat × Nat × Nat × Nat)) (a : Int), (∀ x ∈ l, x.2.1 + x.2.2.2 ≤ 25) → a ≤ l.foldl (fun a x => a + bitsV w x.2.2.1 x.2.2.2 * 2 ^ x.2.1) a ∧ l.foldl (fun a x => a + bitsV w x.2.2.1 x.2.2.2 * 2 ^ x.2.1) a ≤ a + l.length * 33554432
  | [], a, _ => by simp
  | x :: l, a, h => by
    have ih := sum_bd w l (a + bitsV w x.2.2.1 x.2.2.2 * 2 ^ x.2.1) fun y hy => h y (List.mem_cons_of_mem _ hy)
    have t := term_bd w x.2.2.1 x.2.2.2 x.2.1 (h x (List.mem_cons_self ..))
    rw [List.foldl_cons, List.length_cons]
    omega
theorem xV_bd (s w : Int) (f : Nat) : 0 ≤ xV s w f ∧ xV s w f ≤ 234881024 := by
  have h := sum_bd w ((fieldsV s).filter fun x => decide (x.1 = f)) 0 fun x hx => fields_span s x (List.mem_filter.1 hx).1
  have l1 : ((fieldsV s).filter fun x => decide (x.1 = f)).length ≤ 7 := Nat.le_trans (List.length_filter_le ..) (fields_len s)
  unfold xV
  omega
theorem least_bd (x : Int) (w : Nat) (hw : w ≤ 25) : x - 33554432 ≤ leastV x w ∧ leastV x w ≤ x := by
  have p : (2 : Int) ^ w ≤ 33554432 ∧ 0 < (2 : Int) ^ w := by
    have h1 : (2 ^ w : Nat) ≤ 2 ^ 25 := Nat.pow_le_pow_right (by omega) hw
    have h3 := pow_cast w
    have := Nat.two_pow_pos w
    have h4 : (2 : Nat) ^ 25 = 33554432 := by decide
    omega
  unfold leastV; split <;> omega
theorem immA_bd (s f x : Int) (hx : 0 ≤ x ∧ x ≤ 234881024) : -1099511627776 ≤ immA s f x ∧ immA s f x ≤ 1099511627776 := by
  have a := least_bd x 9 (by decide)
  have b := least_bd x 12 (by decide)
  have c := least_bd x 21 (by decide)
  have t := turnN_bd x 2 (by decide)
  have d := least_bd (turnN x 2) 25 (by decide)
  unfold immA
  (repeat' split) <;> omega
theorem read_bd (f w : Int) : ∀ k, k < 10 → -1099511627776 ≤ getV (readV f w) k ∧ getV (readV f w) k ≤ 1099511627776 := by
  intro k hk
  have x := fun n => xV_bd (shapeV f) w n
  match k, hk with
  | 0, _ => have := x 0; exact ⟨by show _ ≤ xV (shapeV f) w 0; omega, by show xV (shapeV f) w 0 ≤ _; omega⟩
  | 1, _ => have := x 1; exact ⟨by show _ ≤ xV (shapeV f) w 1; omega, by show xV (shapeV f) w 1 ≤ _; omega⟩
  | 2, _ =>
    have := x 2
    have b := bitsV_bd w 0 4
    have e : -1099511627776 ≤ rmA (shapeV f) w (xV (shapeV f) w 2) ∧ rmA (shapeV f) w (xV (shapeV f) w 2) ≤ 1099511627776 := by unfold rmA; split <;> omega
    exact e
  | 3, _ => have := x 3; exact ⟨by show _ ≤ xV (shapeV f) w 3; omega, by show xV (shapeV f) w 3 ≤ _; omega⟩
  | 4, _ => exact immA_bd (shapeV f) f (xV (shapeV f) w 4) (x 4)
  | 5, _ => have := x 5; exact ⟨by show _ ≤ xV (shapeV f) w 5; omega, by show xV (shapeV f) w 5 ≤ _; omega⟩
  | 6, _ =>
    have := x 6
    have e : -1099511627776 ≤ byA (shapeV f) (xV (shapeV f) w 5) (xV (shapeV f) w 6) ∧ byA (shapeV f) (xV (shapeV f) w 5) (xV (shapeV f) w 6) ≤ 1099511627776 := by unfold byA; split <;> omega
    exact e
  | 7, _ => have := x 7; exact ⟨by show _ ≤ xV (shapeV f) w 7; omega, by show xV (shapeV f) w 7 ≤ _; omega⟩
  | 8, _ => have := x 8; exact ⟨by show _ ≤ xV (shapeV f) w 8; omega, by show xV (shapeV f) w 8 ≤ _; omega⟩
  | 9, _ => have := x 9; exact ⟨by show _ ≤ xV (shapeV f) w 9; omega, by show xV (shapeV f) w 9 ≤ _; omega⟩
/-! ### right instructions' numbers -/
/-! ### the instruction of bits -/
/-- is a form's reading of a word right, and its bits the word's? -/
def hitV (w f : Int) : Prop := rightV (readV f w) ∧ wordV (readV f w) = w
theorem hit_mask {w f : Int} (h : hitV w f) : bits .and .u32 w (fbV f) = fbV f := by
  have b := fb_bd f
  have e := h.2
  rw [word_or] at e
  have l : (fbV (readV f w).form).toNat = (fbV f).toNat := rfl
  rw [l] at e
  have lt := or4_lt (show (fbV f).toNat < 4294967296 by omega) (orV_lt (readV f w))
  obtain ⟨a, ha⟩ : ∃ a, a = (fbV f).toNat := ⟨_, rfl⟩
  obtain ⟨o, ho⟩ : ∃ o, o = orF (turnI (readV f w)) (fieldsV (shapeV (readV f w).form)) := ⟨_, rfl⟩
  rw [← ha, ← ho] at e lt
  have ea : fbV f = (a : Int) := by omega
  rw [ea, ← e, u32_and _ _ (by omega) (by omega) (by omega) (by omega), Int.toNat_natCast, Int.toNat_natCast]
  congr 1
  apply Nat.eq_of_testBit_eq
  intro p
  rw [Nat.testBit_and, Nat.testBit_or]
  cases a.testBit p <;> simp
/-- the forms that are asked, of a length -/
def formIn (wide : Prop) (f : Int) : Prop := (wide ∧ 48 ≤ f ∧ f ≤ 100) ∨ (¬ wide ∧ 1 ≤ f ∧ f ≤ 47)
/-- the first form that hits -/
def firstF (w : Int) (wide : Prop) (f : Int) : Prop := formIn wide f ∧ hitV w f ∧ ∀ g, formIn wide g → g < f → ¬ hitV w g
theorem first_one {w : Int} {wide : Prop} {f g : Int} (hf : firstF w wide f) (hg : firstF w wide g) : f = g := by
  by_cases h : f < g
  · exact absurd hf.2.1 (hg.2.2 f hf.1 h)
  by_cases h2 : g < f
  · exact absurd hg.2.1 (hf.2.2 g hg.1 h2)
  omega
noncomputable def ofI (w : Int) (wide : Prop) : IN := open Classical in if h : ∃ f, firstF w wide f then readV h.choose w else iZ
noncomputable def ofE (w : Int) (wide : Prop) : Int := open Classical in if ∃ f, firstF w wide f then 0 else 40
theorem ofI_is {w : Int} {wide : Prop} {f : Int} (h : firstF w wide f) : ofI w wide = readV f w := by
  have e : ∃ f, firstF w wide f := ⟨f, h⟩
  unfold ofI
  rw [dif_pos e, first_one e.choose_spec h]
theorem ofE_is {w : Int} {wide : Prop} {f : Int} (h : firstF w wide f) : ofE w wide = 0 := if_pos ⟨f, h⟩
theorem ofI_no {w : Int} {wide : Prop} (h : ∀ f, formIn wide f → ¬ hitV w f) : ofI w wide = iZ := dif_neg fun ⟨f, hf⟩ => h f hf.1 hf.2.1
theorem ofE_no {w : Int} {wide : Prop} (h : ∀ f, formIn wide f → ¬ hitV w f) : ofE w wide = 40 := if_neg fun ⟨f, hf⟩ => h f hf.1 hf.2.1
/-- a right instruction's bits are read as it -/
theorem of_word (i : IN) (h : rightV i) (hg : i.regs ≤ 9223372036854775807) : firstF (wordV i) (48 ≤ i.form) i.form := by
  have hb := back i h hg
  have hit : hitV (wordV i) i.form := by unfold hitV; rw [hb]; exact ⟨h, rfl⟩
  have f1 := h.1
  refine ⟨by unfold formIn; omega, hit, fun g hgf hlt hh => ?_⟩
  have e := once_form (a := readV g (wordV i)) (b := i) hh.1 h (by show 48 ≤ g ↔ 48 ≤ i.form; unfold formIn at hgf; omega) hh.2
  have : g = i.form := e
  omega

end Go.Proofs.YtjcacjeoddnmhaaDoor.Pw

/- Chapter 4 over values: an instruction's bits, and the instruction of bits, as the program and the document say. -/
namespace Go.Proofs.YtjcacjeoddnmhaaDoor.Pw
open Go Go.RowKit

theorem word_yes (i : IN) (h : rightV i) (hI : IOk i) : PureF gT 67 [inP i] (.tup [.int .u32 (wordV i), .int .i64 0]) := by
  refine Spec.enter gTok P67 100 Tryd.func67 rfl (by kernel_rfl) ?_
  refine ⟨[], no_rl, (right_pure i (hI i.imm (by simp [inLs]))).use (by repeat' first | exact trivial | exact rfl | exact Iff.rfl | exact Or.inl rfl | refine And.intro ?_ ?_) rfl rfl ?_⟩
  refine And.intro (fun h' => absurd h h') (fun _ => ?_)
  refine ⟨[], no_rl, (pack_pure i h (hI i.regs (by simp [inLs])).2).use (by repeat' first | exact trivial | exact rfl | exact Iff.rfl | exact Or.inl rfl | refine And.intro ?_ ?_) rfl rfl ?_⟩
  (refine retE ?_; repeat' first | exact trivial | exact rfl | exact Iff.rfl | exact Or.inl rfl | refine And.intro ?_ ?_)
theorem read_ok {f w : Int} (hf : I64 f) : IOk (readV f w) := by
  intro x hx
  have b := read_bd f w
  simp only [inLs, List.mem_cons, List.not_mem_nil, or_false] at hx
  have key : ∀ k, k < 10 → I64 (getV (readV f w) k) := fun k hk => by have := b k hk; unfold I64; omega
  rcases hx with rfl | rfl | rfl | rfl | rfl | rfl | rfl | rfl | rfl | rfl | rfl
  · exact hf
  · exact key 0 (by decide)
  · exact key 1 (by decide)
  · exact key 2 (by decide)
  · exact key 3 (by decide)
  · exact key 4 (by decide)
  · exact key 5 (by decide)
  · exact key 6 (by decide)
  · exact key 7 (by decide)
  · exact key 8 (by decide)
  · exact key 9 (by decide)
set_option maxHeartbeats 8000000 in
set_option maxRecDepth 100000 in
theorem of_pure (w : Int) (wide : Prop) (hw : U32 w) : PureF gT 31 [.int .u32 w, .bool wide] (.tup [inP (ofI w wide), .int .i64 (ofE w wide)]) := by
  refine Spec.enter gTok P31 100 Tryd.func31 rfl (by kernel_rfl) ?_
  refine SW.loopS gTok P31 (by kernel_rfl) (α := {k : Nat // k ≤ 100 ∧ ∀ g : Int, formIn wide g → g < k + 1 → ¬ hitV w g}) (fun k => [(6, .int .i64 (k.1 + 1 : Nat))]) (fun k => 100 - k.1) ⟨0, by omega, fun g hg hlt => by unfold formIn at hg; omega⟩ 100 ?_ ?_
  · repeat' first | exact Iff.rfl | exact trivial | exact rfl | refine And.intro ?_ ?_
  rintro ⟨k, hk, hno⟩
  refine And.intro (fun h => ?_) (fun h => ?_)
  · have hk100 : ((k + 1 : Nat) : Int) ≤ 100 := h
    have hF : 1 ≤ ((k + 1 : Nat) : Int) ∧ ((k + 1 : Nat) : Int) ≤ 100 := ⟨by omega, hk100⟩
    have hf : I64 ((k + 1 : Nat) : Int) := by unfold I64; omega
    have next : ¬ (formIn wide ((k + 1 : Nat) : Int) ∧ hitV w ((k + 1 : Nat) : Int)) → ∀ g : Int, formIn wide g → g < ((k + 1 : Nat) : Int) + 1 → ¬ hitV w g := fun hn g hg hlt hh => by
      by_cases e : g = ((k + 1 : Nat) : Int)
      · subst e; exact hn ⟨hg, hh⟩
      · exact hno g hg (by omega) hh
    refine ⟨[], no_rl, (form_wide ((k + 1 : Nat) : Int)).use (by repeat' first | exact trivial | exact rfl | exact Iff.rfl | exact Or.inl rfl | refine And.intro ?_ ?_) rfl rfl ?_⟩
    refine And.intro (fun hne => ?_) (fun heq => ?_)
    · refine .inl ⟨inR_i64 (show _ ≤ ((k + 1 : Nat) : Int) + 1 ∧ ((k + 1 : Nat) : Int) + 1 ≤ _ by omega), ⟨⟨k + 1, by omega, next fun hh => hne ?_⟩, show 100 - (k + 1) < 100 - k by omega, ?_⟩⟩
      · unfold formIn at hh; exact ⟨fun h2 => hh.1.elim (fun e => e.1) (fun e => absurd h2.1 (by omega)), fun h2 => hh.1.elim (fun e => e.2) (fun e => absurd h2 e.1)⟩
      repeat' first | exact Iff.rfl | exact trivial | exact rfl | refine And.intro ?_ ?_
    have heq := Classical.not_not.1 heq
    refine ⟨[], no_rl, (formBits_pure ((k + 1 : Nat) : Int)).use (by repeat' first | exact trivial | exact rfl | exact Iff.rfl | exact Or.inl rfl | refine And.intro ?_ ?_) rfl rfl ?_⟩
    refine ⟨[], no_rl, (formBits_pure ((k + 1 : Nat) : Int)).use (by repeat' first | exact trivial | exact rfl | exact Iff.rfl | exact Or.inl rfl | refine And.intro ?_ ?_) rfl rfl ?_⟩
    refine And.intro (fun hm => ?_) (fun hm => ?_)
    · refine .inl ⟨inR_i64 (show _ ≤ ((k + 1 : Nat) : Int) + 1 ∧ ((k + 1 : Nat) : Int) + 1 ≤ _ by omega), ⟨⟨k + 1, by omega, next fun hh => hm (hit_mask hh.2)⟩, show 100 - (k + 1) < 100 - k by omega, ?_⟩⟩
      repeat' first | exact Iff.rfl | exact trivial | exact rfl | refine And.intro ?_ ?_
    have hin : formIn wide ((k + 1 : Nat) : Int) := by
      unfold formIn
      by_cases hW : wide
      · exact .inl ⟨hW, heq.2 hW⟩
      · refine .inr ⟨hW, by omega, ?_⟩
        by_cases h48 : 48 ≤ ((k + 1 : Nat) : Int)
        · exact absurd (heq.1 ⟨h48, hk100⟩) hW
        · omega
    have hI := read_ok (w := w) hf
    have hR := right_pure (readV ((k + 1 : Nat) : Int) w) (hI (readV ((k + 1 : Nat) : Int) w).imm (by simp [inLs]))
    by_cases hW : wide
    · have h48 := (heq.2 hW).1
      refine ⟨[], no_rl, (narrowOf_wide ((k + 1 : Nat) : Int) w ((shape_wide hF).2 h48) hw).use (by repeat' first | exact trivial | exact rfl | exact Iff.rfl | exact Or.inl rfl | refine And.intro ?_ ?_) rfl rfl ?_⟩
      refine And.intro (fun _ => ?_) (fun hn => absurd hW hn)
      refine ⟨[], no_rl, (wideOf_all ((k + 1 : Nat) : Int) w hF h48 hw).use (by repeat' first | exact trivial | exact rfl | exact Iff.rfl | exact Or.inl rfl | refine And.intro ?_ ?_) rfl rfl ?_⟩
      refine ⟨[], no_rl, hR.use (by repeat' first | exact trivial | exact rfl | exact Iff.rfl | exact Or.inl rfl | refine And.intro ?_ ?_) rfl rfl ?_⟩
      refine And.intro (fun hr => ?_) (fun hr => ?_)
      · refine ⟨[], no_rl, (pack_pure (readV ((k + 1 : Nat) : Int) w) hr (hI (readV ((k + 1 : Nat) : Int) w).regs (by simp [inLs])).2).use (by repeat' first | exact trivial | exact rfl | exact Iff.rfl | exact Or.inl rfl | refine And.intro ?_ ?_) rfl rfl ?_⟩
        refine And.intro (fun hp => ?_) (fun hp => ?_)
        · have hfst : firstF w wide ((k + 1 : Nat) : Int) := ⟨hin, ⟨hr, hp⟩, fun g hg hlt => hno g hg (by omega)⟩
          rw [ofI_is hfst, ofE_is hfst]
          (refine retE ?_; repeat' first | exact trivial | exact rfl | exact Iff.rfl | exact Or.inl rfl | refine And.intro ?_ ?_)
        · refine .inl ⟨inR_i64 (show _ ≤ ((k + 1 : Nat) : Int) + 1 ∧ ((k + 1 : Nat) : Int) + 1 ≤ _ by omega), ⟨⟨k + 1, by omega, next fun hh => hp hh.2.2⟩, show 100 - (k + 1) < 100 - k by omega, ?_⟩⟩
          repeat' first | exact Iff.rfl | exact trivial | exact rfl | refine And.intro ?_ ?_
      · refine .inl ⟨inR_i64 (show _ ≤ ((k + 1 : Nat) : Int) + 1 ∧ ((k + 1 : Nat) : Int) + 1 ≤ _ by omega), ⟨⟨k + 1, by omega, next fun hh => hr hh.2.1⟩, show 100 - (k + 1) < 100 - k by omega, ?_⟩⟩
        repeat' first | exact Iff.rfl | exact trivial | exact rfl | refine And.intro ?_ ?_
    · have h48 : ¬ 48 ≤ ((k + 1 : Nat) : Int) := fun e => hW (heq.1 ⟨e, hk100⟩)
      refine ⟨[], no_rl, (narrowOf_all ((k + 1 : Nat) : Int) w hF h48 hw).use (by repeat' first | exact trivial | exact rfl | exact Iff.rfl | exact Or.inl rfl | refine And.intro ?_ ?_) rfl rfl ?_⟩
      refine And.intro (fun h => absurd h hW) (fun _ => ?_)
      refine ⟨[], no_rl, hR.use (by repeat' first | exact trivial | exact rfl | exact Iff.rfl | exact Or.inl rfl | refine And.intro ?_ ?_) rfl rfl ?_⟩
      refine And.intro (fun hr => ?_) (fun hr => ?_)
      · refine ⟨[], no_rl, (pack_pure (readV ((k + 1 : Nat) : Int) w) hr (hI (readV ((k + 1 : Nat) : Int) w).regs (by simp [inLs])).2).use (by repeat' first | exact trivial | exact rfl | exact Iff.rfl | exact Or.inl rfl | refine And.intro ?_ ?_) rfl rfl ?_⟩
        refine And.intro (fun hp => ?_) (fun hp => ?_)
        · have hfst : firstF w wide ((k + 1 : Nat) : Int) := ⟨hin, ⟨hr, hp⟩, fun g hg hlt => hno g hg (by omega)⟩
          rw [ofI_is hfst, ofE_is hfst]
          (refine retE ?_; repeat' first | exact trivial | exact rfl | exact Iff.rfl | exact Or.inl rfl | refine And.intro ?_ ?_)
        · refine .inl ⟨inR_i64 (show _ ≤ ((k + 1 : Nat) : Int) + 1 ∧ ((k + 1 : Nat) : Int) + 1 ≤ _ by omega), ⟨⟨k + 1, by omega, next fun hh => hp hh.2.2⟩, show 100 - (k + 1) < 100 - k by omega, ?_⟩⟩
          repeat' first | exact Iff.rfl | exact trivial | exact rfl | refine And.intro ?_ ?_
      · refine .inl ⟨inR_i64 (show _ ≤ ((k + 1 : Nat) : Int) + 1 ∧ ((k + 1 : Nat) : Int) + 1 ≤ _ by omega), ⟨⟨k + 1, by omega, next fun hh => hr hh.2.1⟩, show 100 - (k + 1) < 100 - k by omega, ?_⟩⟩
        repeat' first | exact Iff.rfl | exact trivial | exact rfl | refine And.intro ?_ ?_
  · have hk100 : ¬ ((k + 1 : Nat) : Int) ≤ 100 := h
    have hall : ∀ f, formIn wide f → ¬ hitV w f := fun f hf => hno f hf (by unfold formIn at hf; omega)
    rw [ofI_no hall, ofE_no hall]
    (refine retE ?_; repeat' first | exact trivial | exact rfl | exact Iff.rfl | exact Or.inl rfl | refine And.intro ?_ ?_)

end Go.Proofs.YtjcacjeoddnmhaaDoor.Pw

/- Chapter 4 over values: the instruction of bits, as the document says; small functions of the laws; CodeReads, CodeOnce, CodeBegins. -/
namespace Go.Proofs.YtjcacjeoddnmhaaDoor.Pw
open Go Go.RowKit

def beginsV (h : Int) : Prop := 29 ≤ h % 65536 / 2048
theorem begins_pure (h : Int) (hh : U32 h) : PureF gT 30 [.int .u32 h] (.bool (beginsV h)) := by
  have e : bits .and .u32 h 65535 = h % 65536 := and_mask h 16 hh.1 hh.2 (by decide)
  refine Spec.enter gTok P30 100 Tryd.func30 rfl (by kernel_rfl) ?_
  refine ⟨by decide, ?_⟩
  refine retE ?_
  show 29 ≤ bits .and .u32 h 65535 / Ev.pow2 .u32 11 ↔ beginsV h
  rw [e, r11]; exact Iff.rfl
def sizeV (f : Int) : Int := if 48 ≤ f ∧ f ≤ 100 then 4 else if 1 ≤ f ∧ f ≤ 47 then 2 else 0
theorem size_pure (f : Int) : PureF gT 32 [.int .i64 f] (.int .i64 (sizeV f)) := by
  refine Spec.enter gTok P32 100 Tryd.func32 rfl (by kernel_rfl) ?_
  refine ⟨[], no_rl, (form_is f).use (by repeat' first | exact trivial | exact rfl | exact Iff.rfl | exact Or.inl rfl | refine And.intro ?_ ?_) rfl rfl ?_⟩
  refine And.intro (fun h => ?_) (fun h => ?_)
  · exact retE (show (0 : Int) = sizeV f by unfold sizeV; rw [if_neg (by omega), if_neg (by omega)])
  refine ⟨[], no_rl, (form_wide f).use (by repeat' first | exact trivial | exact rfl | exact Iff.rfl | exact Or.inl rfl | refine And.intro ?_ ?_) rfl rfl ?_⟩
  refine And.intro (fun h2 => ?_) (fun h2 => ?_)
  · exact retE (show (4 : Int) = sizeV f by unfold sizeV; rw [if_pos h2])
  · exact retE (show (2 : Int) = sizeV f by unfold sizeV; rw [if_neg h2, if_pos (by omega)])
theorem ibytes_pure (i : IN) : PureF gT 19 [inP i] (.int .i64 (sizeV i.form)) := by
  refine Spec.enter gTok P19 100 Tryd.func19 rfl (by kernel_rfl) ?_
  refine ⟨[], no_rl, (size_pure i.form).use (by repeat' first | exact trivial | exact rfl | exact Iff.rfl | exact Or.inl rfl | refine And.intro ?_ ?_) rfl rfl ?_⟩
  exact retE rfl
theorem lit_ok (i : IN) (h : (inLs i).all (fun x => decide (-9223372036854775808 ≤ x ∧ x ≤ 9223372036854775807)) = true) : IOk i := fun x hx => of_decide_eq_true (p := -9223372036854775808 ≤ x ∧ x ≤ 9223372036854775807) (List.all_eq_true.1 h x hx)
end Go.Proofs.YtjcacjeoddnmhaaDoor.Pw

/- Chapter 8 over values: how many bytes an item has; how far a jump goes; does it reach. -/
set_option linter.unusedVariables false
namespace Go.Proofs.YtjcacjeoddnmhaaDoor.Pw
open Go Go.RowKit

def intsP (l : List Int) : List PV := l.map (PV.int .i64)
theorem intsP_len (l : List Int) : (intsP l).length = l.length := List.length_map ..
def wI (W : List Bool) : List Int := W.map fun b => if b then 1 else 0
theorem wI_len (W : List Bool) : (wI W).length = W.length := List.length_map ..
theorem wI_get {W : List Bool} {i : Nat} {w : Bool} (h : W[i]? = some w) : (wI W)[i]? = some (if w then 1 else 0) := by unfold wI; rw [List.getElem?_map, h]; rfl
def dI (cs : List PV) : PBlk := ⟨.dyn, 3, 1, .w, true, cs⟩
def yBm (m : Md) (l : List AI) (e : Int) : PBlk := ⟨.loc, 60, 1, m, true, [.sl 15 (l.map aiP), .wref 1, .wref 2, .wref 3, .int .i64 e, .mref 4]⟩
def yB (l : List AI) (e : Int) : PBlk := yBm .w l e
def zR : PBlk := ⟨.loc, 44, 1, .w, true, [.nil, .nil, .nil, .lit .i64 0]⟩
/-- a layer's memory: what is wide, where items stand, how many bytes they have, the end, what was put into the labels -/
def sLy (l : List AI) (W : List Bool) (at_ sz : List Int) (e : Int) (L : List (Int × Int)) : List PBlk := [zR, dI (intsP (wI W)), dI (intsP at_), dI (intsP sz), mpB L, yB l e]
def sLyM (m : Md) (l : List AI) (W : List Bool) (at_ sz : List Int) (e : Int) (L : List (Int × Int)) : List PBlk := [zR, dI (intsP (wI W)), dI (intsP at_), dI (intsP sz), mpB L, yBm m l e]
def RunsA (f : FuncId) (args : List PV) (S : List PBlk) (res : PV) (S' : List PBlk) : Prop := Spec gT f args S [] fun x S2 => x = res ∧ S2 = S'

theorem size_ok {f : Int} (h : 1 ≤ f ∧ f ≤ 100) : sizeV f = if 47 < f then 4 else 2 := by unfold sizeV; split <;> split <;> omega
set_option maxHeartbeats 2000000 in
set_option maxRecDepth 10000 in
theorem bytes_runs (m : Md) {l : List AI} {W : List Bool} {at_ sz : List Int} {e : Int} {L : List (Int × Int)} {i : Nat} {x : AI} {w : Bool} (hx : l[i]? = some x) (hw : W[i]? = some w) (hr : rightA x) {a : Int} (ha : 0 ≤ a ∧ a ≤ 1000000) :
    RunsA 45 [.ptr 5 0, .int .i64 i, .int .i64 a] (sLyM m l W at_ sz e L) (.int .i64 (bytesA x w a)) (sLyM m l W at_ sz e L) := by
  have hl := (List.getElem?_eq_some_iff.1 hx).1
  have hwl := (List.getElem?_eq_some_iff.1 hw).1
  have elw := wI_len W
  cases m
  all_goals
    refine Spec.leS (Spec.enter gTok P45 100 Tryd.func45 rfl (by kernel_rfl) ?_)
    refine ⟨AI, l, aiP, rfl, show (0 : Int) ≤ (i : Int) by omega, show (i : Int) < (l.length : Int) by omega, fun x' hx' => ?_⟩
    obtain rfl : x = x' := Option.some.inj (hx.symm.trans hx')
    refine And.intro (fun k1 => ?_) (fun k1 => ?_)
    · have k1' : x.kind = 1 := k1
      refine ⟨[], no_rl, (ibytes_pure x.inst).use (by repeat' first | exact trivial | exact rfl | exact Iff.rfl | exact Or.inl rfl | refine And.intro ?_ ?_) rfl rfl ?_⟩
      have e1 := size_ok ((rightA_1 k1').1 hr).2.1.1
      refine retS ?_ (by repeat' first | exact trivial | exact rfl | exact Iff.rfl | exact Or.inl rfl | refine And.intro ?_ ?_)
      exact (show sizeV x.inst.form = bytesA x w a by unfold bytesA; rw [if_pos k1', e1])
    refine And.intro (fun k2 => ?_) (fun k2 => ?_)
    · have k1' : ¬ x.kind = 1 := k1
      have k2' : x.kind = 2 := k2
      refine ⟨show (0 : Int) ≤ (i : Int) by omega, show (i : Int) < ((intsP (wI W)).length : Nat) by rw [intsP_len]; omega, Int, wI W, PV.int .i64, rfl, show (i : Int).toNat < (wI W).length by omega, fun v hv => ?_⟩
      have hv' : (wI W)[i]? = some v := hv
      rw [wI_get hw] at hv'
      obtain rfl : (if w then 1 else 0) = v := Option.some.inj hv'
      have hb : (0 : Int) ≤ (if w then 1 else 0) ∧ (if w then 1 else 0 : Int) ≤ 1 := by cases w <;> simp
      refine .inl ⟨inR_i64 (by omega), ?_⟩
      refine .inl ⟨inR_i64 (by omega), ?_⟩
      refine retS ?_ (by repeat' first | exact trivial | exact rfl | exact Iff.rfl | exact Or.inl rfl | refine And.intro ?_ ?_)
      exact (show (2 : Int) + (if w then 1 else 0) * 2 = bytesA x w a by unfold bytesA; rw [if_neg k1', if_pos k2']; cases w <;> rfl)
    refine And.intro (fun k4 => ?_) (fun k4 => ?_)
    · have k1' : ¬ x.kind = 1 := k1
      have k2' : ¬ x.kind = 2 := k2
      have k4' : x.kind = 4 := k4
      have ht := ((rightA_4 k4').1 hr).2.2
      have h0 := Int.emod_nonneg a (show x.to_ ≠ 0 by omega)
      have h1 := Int.emod_lt_of_pos a (show 0 < x.to_ by omega)
      refine And.intro (show x.to_ ≠ 0 by omega) (.inl ⟨ha.1, show 0 < x.to_ by omega, ?_⟩)
      refine .inl ⟨inR_i64 (by omega), ?_⟩
      refine And.intro (show x.to_ ≠ 0 by omega) (.inl ⟨show 0 ≤ x.to_ - a % x.to_ by omega, show 0 < x.to_ by omega, ?_⟩)
      refine retS ?_ (by repeat' first | exact trivial | exact rfl | exact Iff.rfl | exact Or.inl rfl | refine And.intro ?_ ?_)
      exact (show (x.to_ - a % x.to_) % x.to_ = bytesA x w a by unfold bytesA; rw [if_neg k1', if_neg k2', if_pos k4'])
    · have k1' : ¬ x.kind = 1 := k1
      have k2' : ¬ x.kind = 2 := k2
      have k4' : ¬ x.kind = 4 := k4
      refine retS ?_ (by repeat' first | exact trivial | exact rfl | exact Iff.rfl | exact Or.inl rfl | refine And.intro ?_ ?_)
      exact (show (0 : Int) = bytesA x w a by unfold bytesA; rw [if_neg k1', if_neg k2', if_neg k4'])

end Go.Proofs.YtjcacjeoddnmhaaDoor.Pw

/- Chapter 8 over values: what is wrong with a program, by the program's check and by the document's. -/
set_option linter.unusedVariables false
namespace Go.Proofs.YtjcacjeoddnmhaaDoor.Pw
open Go Go.RowKit

/-- is an item's label not marked as it must be? -/
def wrongA (l : List AI) (x : AI) : Prop := (x.kind = 2 ∧ cntA l x.label ≠ 1) ∨ (x.kind = 3 ∧ 1 < cntA l x.label)
open Classical in
noncomputable def checkA (l : List AI) : Int := if ∃ x ∈ l, ¬ rightA x then 10 else if ∃ x ∈ l, wrongA l x then 80 else 0
theorem cntA_snoc {l : List AI} {i : Nat} {x : AI} (hx : l[i]? = some x) (k : Int) : cntA (l.take (i + 1)) k = cntA (l.take i) k + (if isMark k x = true then 1 else 0) := by
  unfold cntA
  rw [List.take_add_one, hx, List.countP_append]
  simp only [Option.toList_some, List.countP_cons, List.countP_nil, Nat.zero_add]
theorem cntA_le (l : List AI) (k : Int) : cntA l k ≤ l.length := List.countP_le_length
/-- what was put into the marks tells how often each label stands in the first items -/
structure MkOk (l : List AI) (x : Nat × List (Int × Int)) : Prop where
  le : x.2.length ≤ x.1
  cnt : ∀ k, lkM x.2 k = cntA (l.take x.1) k
  right : ∀ y ∈ l.take x.1, rightA y
theorem MkOk.skip {l : List AI} {i : Nat} {H : List (Int × Int)} {x : AI} (h : MkOk l (i, H)) (hx : l[i]? = some x) (hr : rightA x) (hk : ¬ x.kind = 3) : MkOk l (i + 1, H) := by
  refine ⟨Nat.le_succ_of_le h.le, fun k => ?_, fun y hy => ?_⟩
  · have h1 := h.cnt k
    simp only at h1 ⊢
    rw [cntA_snoc hx, if_neg (fun e => hk (isMark_iff.1 e).1), h1, Nat.add_zero]
  · simp only at hy
    rw [List.take_add_one, hx, List.mem_append] at hy
    rcases hy with hy | hy
    · exact h.right y hy
    · have : y = x := by simpa using hy
      rw [this]; exact hr
theorem MkOk.put {l : List AI} {i : Nat} {H : List (Int × Int)} {x : AI} (h : MkOk l (i, H)) (hx : l[i]? = some x) (hr : rightA x) (hk : x.kind = 3) : MkOk l (i + 1, H ++ [(x.label, lkM H x.label + 1)]) := by
  refine ⟨by have := h.le; simp only [List.length_append, List.length_singleton] at this ⊢; omega, fun k => ?_, fun y hy => ?_⟩
  · have h1 := h.cnt
    simp only at h1 ⊢
    rw [cntA_snoc hx, lkM_snoc]
    simp only
    by_cases hkk : x.label = k
    · subst hkk
      rw [if_pos rfl, if_pos (isMark_iff.2 ⟨hk, rfl⟩), h1]; simp
    · rw [if_neg hkk, if_neg (fun e => hkk (isMark_iff.1 e).2), h1, Nat.add_zero]
  · simp only at hy
    rw [List.take_add_one, hx, List.mem_append] at hy
    rcases hy with hy | hy
    · exact h.right y hy
    · have : y = x := by simpa using hy
      rw [this]; exact hr
open Classical in
/-- what is wrong with the first items' labels -/
noncomputable def wrongT (l : List AI) (i : Nat) : Int := if ∃ x ∈ l.take i, wrongA l x then 80 else 0
theorem wrongT_step {l : List AI} {i : Nat} {x : AI} (hx : l[i]? = some x) : (wrongA l x → wrongT l (i + 1) = 80) ∧ (¬ wrongA l x → wrongT l (i + 1) = wrongT l i) := by
  have hm : ∀ y, y ∈ l.take (i + 1) ↔ y ∈ l.take i ∨ y = x := fun y => by rw [List.take_add_one, hx, List.mem_append]; simp
  unfold wrongT
  refine ⟨fun h => if_pos ⟨x, (hm x).2 (.inr rfl), h⟩, fun h => ?_⟩
  by_cases h2 : ∃ y ∈ l.take i, wrongA l y
  · obtain ⟨y, hy, hw⟩ := h2
    rw [if_pos ⟨y, (hm y).2 (.inl hy), hw⟩, if_pos ⟨y, hy, hw⟩]
  · rw [if_neg (fun ⟨y, hy, hw⟩ => ((hm y).1 hy).elim (fun hy => h2 ⟨y, hy, hw⟩) fun e => h (e ▸ hw)), if_neg h2]
set_option maxHeartbeats 4000000 in
set_option maxRecDepth 10000 in
theorem check_pure (l : List AI) (hl : l.length ≤ 10000) (hb : ∀ x ∈ l, I64 x.inst.imm ∧ I64 x.to_) : PureF gT 25 [.sl 15 (l.map aiP)] (.int .i64 (checkA l)) := by
  have el : (l.map aiP).length = l.length := List.length_map ..
  refine Spec.enter gTok P25 100 Tryd.func25 rfl (by kernel_rfl) ?_
  refine pmakeMap_ok ?_
  refine fun hm => ?_
  refine SW.loopX gTok P25 (by kernel_rfl) (α := {x : Nat × List (Int × Int) // MkOk l x}) (fun x => [(0, .sl 15 (l.map aiP)), (3, .mref 0), (4, .lit .i64 0), (10, .sl 15 (l.map aiP)), (11, .int .i64 (l.map aiP).length), (12, .int .i64 x.1.1)]) (fun x => [mpB x.1.2]) (fun x => l.length - x.1.1) ⟨(0, []), ⟨Nat.le_refl _, fun k => rfl, fun y hy => by simp at hy⟩⟩ 60 [some 0] ?_ ?_
  · repeat' first | exact trivial | exact rfl | exact Iff.rfl | refine And.intro ?_ ?_
  rintro ⟨⟨i, H⟩, hH⟩
  have hle := hH.le
  have hcn := hH.cnt
  have hri := hH.right
  simp only at hle hcn hri
  refine And.intro (fun h => ?_) (fun h => ?_)
  · have h' : (i : Int) < ((l.map aiP).length : Nat) := h
    rw [el] at h'
    refine ⟨AI, l, aiP, rfl, show (0 : Int) ≤ (i : Int) by omega, show (i : Int) < (l.length : Int) by omega, fun x hx => ?_⟩
    have hx' : l[i]? = some x := hx
    have hxm := List.mem_of_getElem? hx'
    refine ⟨[], no_rl, (iright_pure x (hb x hxm).1 (hb x hxm).2).use (by repeat' first | exact trivial | exact rfl | exact Iff.rfl | exact Or.inl rfl | refine And.intro ?_ ?_) rfl rfl ?_⟩
    refine And.intro (fun hn => ?_) (fun hn => ?_)
    · have hn' : ¬ rightA x := hn
      refine retE ?_
      exact (show (10 : Int) = checkA l by unfold checkA; rw [if_pos ⟨x, hxm, hn'⟩])
    · have hr : rightA x := Classical.not_not.1 hn
      refine And.intro (fun hk => ?_) (fun hk => ?_)
      · have hk' : x.kind = 3 := hk
        have hmay := ((rightA_3 hk').1 hr).2.2
        unfold mayV at hmay
        have hc1 := cntA_le (l.take i) x.label
        rw [List.length_take] at hc1
        have hc2 := hcn x.label
        refine plookup_ok gTok ?_
        refine ⟨rfl, ?_⟩
        refine ⟨show InR .i64 x.label from inR_i64 (by omega), rfl, H, rfl, ?_⟩
        refine .inl ⟨inR_i64 (show _ ≤ lkM H x.label + 1 ∧ lkM H x.label + 1 ≤ _ by omega), ?_⟩
        refine pmapPut_ok gTok ?_
        refine ⟨rfl, ?_⟩
        refine ⟨show InR .i64 x.label from inR_i64 (by omega), rfl, show InR .i64 (lkM H x.label + 1) from inR_i64 (by omega), rfl, show (H.map kvP).length < maxLen by rw [List.length_map]; unfold maxLen; omega, ?_⟩
        refine .inl ⟨inR_i64 (show _ ≤ (i : Int) + 1 ∧ (i : Int) + 1 ≤ _ by omega), ⟨⟨(i + 1, H ++ [(x.label, lkM H x.label + 1)]), hH.put hx' hr hk'⟩, [some 0], show l.length - (i + 1) < l.length - i by omega, ?_⟩⟩
        repeat' first | exact trivial | exact rfl | exact Iff.rfl | refine And.intro ?_ ?_
        all_goals exact (show H.map kvP ++ [kvP (x.label, lkM H x.label + 1)] = (H ++ [(x.label, lkM H x.label + 1)]).map kvP by rw [List.map_append]; rfl)
      · have hk' : ¬ x.kind = 3 := hk
        refine .inl ⟨inR_i64 (show _ ≤ (i : Int) + 1 ∧ (i : Int) + 1 ≤ _ by omega), ⟨⟨(i + 1, H), hH.skip hx' hr hk'⟩, [some 0], show l.length - (i + 1) < l.length - i by omega, ?_⟩⟩
        repeat' first | exact trivial | exact rfl | exact Iff.rfl | refine And.intro ?_ ?_
  · have h' : ¬ (i : Int) < ((l.map aiP).length : Nat) := h
    rw [el] at h'
    rw [List.take_of_length_le (by omega)] at hri hcn
    have hch : checkA l = wrongT l l.length := by
      unfold checkA wrongT
      rw [if_neg (fun ⟨x, hx, hn⟩ => hn (hri x hx)), List.take_length]
    rw [hch]
    refine fun hm2 => ?_
    refine SW.loopX gTok P25 (by kernel_rfl) (fun j : Nat => [(3, .mref 0), (4, .int .i64 (wrongT l j)), (28, .sl 15 (l.map aiP)), (29, .int .i64 (l.map aiP).length), (30, .int .i64 j)]) (fun _ => [mpB H]) (fun j => l.length - j) 0 60 [some 0] ?_ fun j => ?_
    · repeat' first | exact trivial | exact rfl | exact Iff.rfl | refine And.intro ?_ ?_
      all_goals exact (show (0 : Int) = wrongT l 0 by unfold wrongT; rw [if_neg (fun ⟨x, hx, _⟩ => by simp at hx)])
    refine And.intro (fun h => ?_) (fun h => ?_)
    · have hj' : (j : Int) < ((l.map aiP).length : Nat) := h
      rw [el] at hj'
      refine ⟨AI, l, aiP, rfl, show (0 : Int) ≤ (j : Int) by omega, show (j : Int) < (l.length : Int) by omega, fun x hx => ?_⟩
      have hx' : l[j]? = some x := hx
      have hxm := List.mem_of_getElem? hx'
      have hr := hri x hxm
      obtain ⟨w1, w2⟩ := wrongT_step hx'
      have hcl := hcn x.label
      refine And.intro (fun k2 => ?_) (fun k2 => ?_)
      · have k2' : x.kind = 2 := k2
        have hmay := ((rightA_2 k2').1 hr).2.2.2
        unfold mayV at hmay
        refine plookup_ok gTok ?_
        refine ⟨rfl, ?_⟩
        refine ⟨show InR .i64 x.label from inR_i64 (by omega), rfl, H, rfl, ?_⟩
        refine And.intro (fun h1 => ?_) (fun h1 => ?_)
        · have h1' : ¬ lkM H x.label = 1 := h1
          have e1 := w1 (show wrongA l x from .inl ⟨k2', by omega⟩)
          refine .inl ⟨inR_i64 (show _ ≤ (j : Int) + 1 ∧ (j : Int) + 1 ≤ _ by omega), ⟨j + 1, [some 0], by omega, ?_⟩⟩
          repeat' first | exact trivial | exact rfl | exact Iff.rfl | refine And.intro ?_ ?_
          all_goals exact (show (80 : Int) = wrongT l (j + 1) by rw [e1])
        · have h1' : lkM H x.label = 1 := Classical.not_not.1 h1
          refine And.intro (fun k3 => absurd (show x.kind = 3 from k3) (by omega)) (fun k3 => ?_)
          have e1 := w2 (show ¬ wrongA l x from fun hw => hw.elim (fun e => e.2 (by omega)) (fun e => by omega))
          refine .inl ⟨inR_i64 (show _ ≤ (j : Int) + 1 ∧ (j : Int) + 1 ≤ _ by omega), ⟨j + 1, [some 0], by omega, ?_⟩⟩
          repeat' first | exact trivial | exact rfl | exact Iff.rfl | refine And.intro ?_ ?_
          all_goals exact (show wrongT l j = wrongT l (j + 1) by rw [e1])
      · have k2' : ¬ x.kind = 2 := k2
        refine And.intro (fun k3 => ?_) (fun k3 => ?_)
        · have k3' : x.kind = 3 := k3
          have hmay := ((rightA_3 k3').1 hr).2.2
          unfold mayV at hmay
          refine plookup_ok gTok ?_
          refine ⟨rfl, ?_⟩
          refine ⟨show InR .i64 x.label from inR_i64 (by omega), rfl, H, rfl, ?_⟩
          refine And.intro (fun h1 => ?_) (fun h1 => ?_)
          · have h1' : 1 < lkM H x.label := h1
            have e1 := w1 (show wrongA l x from .inr ⟨k3', by omega⟩)
            refine .inl ⟨inR_i64 (show _ ≤ (j : Int) + 1 ∧ (j : Int) + 1 ≤ _ by omega), ⟨j + 1, [some 0], by omega, ?_⟩⟩
            repeat' first | exact trivial | exact rfl | exact Iff.rfl | refine And.intro ?_ ?_
            all_goals exact (show (80 : Int) = wrongT l (j + 1) by rw [e1])
          · have h1' : ¬ 1 < lkM H x.label := h1
            have e1 := w2 (show ¬ wrongA l x from fun hw => hw.elim (fun e => k2' e.1) (fun e => h1' (by omega)))
            refine .inl ⟨inR_i64 (show _ ≤ (j : Int) + 1 ∧ (j : Int) + 1 ≤ _ by omega), ⟨j + 1, [some 0], by omega, ?_⟩⟩
            repeat' first | exact trivial | exact rfl | exact Iff.rfl | refine And.intro ?_ ?_
            all_goals exact (show wrongT l j = wrongT l (j + 1) by rw [e1])
        · have k3' : ¬ x.kind = 3 := k3
          have e1 := w2 (show ¬ wrongA l x from fun hw => hw.elim (fun e => k2' e.1) (fun e => k3' e.1))
          refine .inl ⟨inR_i64 (show _ ≤ (j : Int) + 1 ∧ (j : Int) + 1 ≤ _ by omega), ⟨j + 1, [some 0], by omega, ?_⟩⟩
          repeat' first | exact trivial | exact rfl | exact Iff.rfl | refine And.intro ?_ ?_
          all_goals exact (show wrongT l j = wrongT l (j + 1) by rw [e1])
    · have hj' : ¬ (j : Int) < ((l.map aiP).length : Nat) := h
      rw [el] at hj'
      refine retE ?_
      exact (show wrongT l j = wrongT l l.length by unfold wrongT; rw [List.take_of_length_le (by omega), List.take_length])

end Go.Proofs.YtjcacjeoddnmhaaDoor.Pw

/- Chapter 8 over values: how far a jump goes; does it reach; its instruction. -/
set_option linter.unusedVariables false
namespace Go.Proofs.YtjcacjeoddnmhaaDoor.Pw
open Go Go.RowKit

/-- numbers that offsets may be -/
def OffB (L : List (Int × Int)) : Prop := ∀ k, 0 ≤ lkM L k ∧ lkM L k ≤ 1000000
set_option maxHeartbeats 2000000 in
set_option maxRecDepth 10000 in
theorem far_runs (m : Md) {l : List AI} {W : List Bool} {at_ sz : List Int} {e : Int} {L : List (Int × Int)} {i : Nat} {x : AI} {a : Int} (hx : l[i]? = some x) (hm : mayV x.label) (hat : at_[i]? = some a) (ha : 0 ≤ a ∧ a ≤ 1000000) (hL : OffB L) :
    RunsA 65 [.ptr 5 0, .int .i64 i] (sLyM m l W at_ sz e L) (.int .i64 (lkM L x.label - a - 4)) (sLyM m l W at_ sz e L) := by
  have hl := (List.getElem?_eq_some_iff.1 hx).1
  have hal := (List.getElem?_eq_some_iff.1 hat).1
  have hk := hL x.label
  unfold mayV at hm
  cases m
  all_goals
    refine Spec.leS (Spec.enter gTok P65 100 Tryd.func65 rfl (by kernel_rfl) ?_)
    refine ⟨AI, l, aiP, rfl, show (0 : Int) ≤ (i : Int) by omega, show (i : Int) < (l.length : Int) by omega, fun x' hx' => ?_⟩
    obtain rfl : x = x' := Option.some.inj (hx.symm.trans hx')
    refine ⟨show (0 : Int) ≤ (i : Int) by omega, show (i : Int) < ((intsP at_).length : Nat) by rw [intsP_len]; omega, Int, at_, PV.int .i64, rfl, show (i : Int).toNat < at_.length by omega, fun v hv => ?_⟩
    obtain rfl : a = v := Option.some.inj (hat.symm.trans hv)
    refine plookup_ok gTok ?_
    refine ⟨rfl, ?_⟩
    refine ⟨show InR .i64 x.label from inR_i64 (by omega), rfl, L, rfl, ?_⟩
    refine .inl ⟨inR_i64 (show _ ≤ lkM L x.label - a ∧ lkM L x.label - a ≤ _ by omega), ?_⟩
    refine .inl ⟨inR_i64 (show _ ≤ lkM L x.label - a - 4 ∧ lkM L x.label - a - 4 ≤ _ by omega), ?_⟩
    exact retS rfl (by repeat' first | exact trivial | exact rfl | exact Iff.rfl | exact Or.inl rfl | refine And.intro ?_ ?_)
/-- does a narrow jump reach? -/
theorem reaches_runs {l : List AI} {W : List Bool} {at_ sz : List Int} {e : Int} {L : List (Int × Int)} {i : Nat} {x : AI} {a : Int} (hx : l[i]? = some x) (hm : mayV x.label) (hcd : -1 ≤ x.cond) (hat : at_[i]? = some a) (ha : 0 ≤ a ∧ a ≤ 1000000) (hL : OffB L) :
    RunsA 46 [.ptr 5 0, .int .i64 i] (sLy l W at_ sz e L) (.bool (shortA x.cond (lkM L x.label - a - 4) = true)) (sLy l W at_ sz e L) := by
  have hl := (List.getElem?_eq_some_iff.1 hx).1
  have hk := hL x.label
  have hf := far_runs .w (W := W) (sz := sz) (e := e) hx hm hat ha hL
  have hn : -1000004 ≤ lkM L x.label - a - 4 ∧ lkM L x.label - a - 4 ≤ 1000000 := by omega
  generalize lkM L x.label - a - 4 = n at hf hn ⊢
  refine Spec.leS (Spec.enter gTok P46 100 Tryd.func46 rfl (by kernel_rfl) ?_)
  refine ⟨AI, l, aiP, rfl, show (0 : Int) ≤ (i : Int) by omega, show (i : Int) < (l.length : Int) by omega, fun x' hx' => ?_⟩
  obtain rfl : x = x' := Option.some.inj (hx.symm.trans hx')
  refine And.intro (fun hc => ?_) (fun hc => ?_)
  · have hc' : x.cond = -1 := hc
    refine ⟨[], no_rl, hf.useS rfl rfl rfl rfl (by repeat' first | exact trivial | exact rfl | exact Iff.rfl | exact Or.inl rfl | refine And.intro ?_ ?_) (And.intro (by repeat' first | exact trivial | exact rfl | exact Iff.rfl | exact Or.inl rfl | refine And.intro ?_ ?_) (And.intro (by repeat' first | exact trivial | exact rfl | exact Iff.rfl | exact Or.inl rfl | refine And.intro ?_ ?_) (And.intro (by repeat' first | exact trivial | exact rfl | exact Iff.rfl | exact Or.inl rfl | refine And.intro ?_ ?_) (And.intro (by repeat' first | exact trivial | exact rfl | exact Iff.rfl | exact Or.inl rfl | refine And.intro ?_ ?_) (And.intro (by repeat' first | exact trivial | exact rfl | exact Iff.rfl | exact Or.inl rfl | refine And.intro ?_ ?_) (And.intro (by repeat' first | exact trivial | exact rfl | exact Iff.rfl | exact Or.inl rfl | refine And.intro ?_ ?_) ?_))))))⟩
    refine And.intro (fun h1 => ?_) (fun h1 => ?_)
    · refine retS ?_ (by repeat' first | exact trivial | exact rfl | exact Iff.rfl | exact Or.inl rfl | refine And.intro ?_ ?_)
      have h1' : -2048 ≤ n := h1
      exact (show n < 2048 ↔ shortA x.cond n = true by unfold shortA; rw [if_pos (by omega), decide_eq_true_eq]; omega)
    · refine retS ?_ (by repeat' first | exact trivial | exact rfl | exact Iff.rfl | exact Or.inl rfl | refine And.intro ?_ ?_)
      have h1' : ¬ -2048 ≤ n := h1
      exact (show ¬ shortA x.cond n = true by unfold shortA; rw [if_pos (by omega), decide_eq_true_eq]; omega)
  · have hc' : ¬ x.cond = -1 := hc
    refine ⟨[], no_rl, hf.useS rfl rfl rfl rfl (by repeat' first | exact trivial | exact rfl | exact Iff.rfl | exact Or.inl rfl | refine And.intro ?_ ?_) (And.intro (by repeat' first | exact trivial | exact rfl | exact Iff.rfl | exact Or.inl rfl | refine And.intro ?_ ?_) (And.intro (by repeat' first | exact trivial | exact rfl | exact Iff.rfl | exact Or.inl rfl | refine And.intro ?_ ?_) (And.intro (by repeat' first | exact trivial | exact rfl | exact Iff.rfl | exact Or.inl rfl | refine And.intro ?_ ?_) (And.intro (by repeat' first | exact trivial | exact rfl | exact Iff.rfl | exact Or.inl rfl | refine And.intro ?_ ?_) (And.intro (by repeat' first | exact trivial | exact rfl | exact Iff.rfl | exact Or.inl rfl | refine And.intro ?_ ?_) (And.intro (by repeat' first | exact trivial | exact rfl | exact Iff.rfl | exact Or.inl rfl | refine And.intro ?_ ?_) ?_))))))⟩
    refine And.intro (fun h1 => ?_) (fun h1 => ?_)
    · refine retS ?_ (by repeat' first | exact trivial | exact rfl | exact Iff.rfl | exact Or.inl rfl | refine And.intro ?_ ?_)
      have h1' : -256 ≤ n := h1
      exact (show n < 256 ↔ shortA x.cond n = true by unfold shortA; rw [if_neg (by omega), decide_eq_true_eq]; omega)
    · refine retS ?_ (by repeat' first | exact trivial | exact rfl | exact Iff.rfl | exact Or.inl rfl | refine And.intro ?_ ?_)
      have h1' : ¬ -256 ≤ n := h1
      exact (show ¬ shortA x.cond n = true by unfold shortA; rw [if_neg (by omega), decide_eq_true_eq]; omega)
/-- a jump's instruction -/
def branA (c : Int) (w : Bool) (n : Int) : IN := ⟨(if w then 100 else 47) - (if c < 0 then 0 else 1), 0, 0, 0, 0, n, 0, 0, 0, max c 0, 0⟩
set_option maxHeartbeats 2000000 in
set_option maxRecDepth 10000 in
theorem branch_runs {l : List AI} {W : List Bool} {at_ sz : List Int} {e : Int} {L : List (Int × Int)} {i : Nat} {x : AI} {w : Bool} {a : Int} (hx : l[i]? = some x) (hw : W[i]? = some w) (hm : mayV x.label) (hcd : -1 ≤ x.cond) (hat : at_[i]? = some a) (ha : 0 ≤ a ∧ a ≤ 1000000) (hL : OffB L) :
    RunsA 66 [.ptr 5 0, .int .i64 i] (sLy l W at_ sz e L) (inP (branA x.cond w (lkM L x.label - a - 4))) (sLy l W at_ sz e L) := by
  have hl := (List.getElem?_eq_some_iff.1 hx).1
  have hwl := (List.getElem?_eq_some_iff.1 hw).1
  have elw := wI_len W
  have hk := hL x.label
  have hf := far_runs .p (W := W) (sz := sz) (e := e) hx hm hat ha hL
  have hn : -1000004 ≤ lkM L x.label - a - 4 ∧ lkM L x.label - a - 4 ≤ 1000000 := by omega
  generalize lkM L x.label - a - 4 = n at hf hn ⊢
  refine Spec.leS (Spec.enter gTok P66 100 Tryd.func66 rfl (by kernel_rfl) ?_)
  refine ⟨AI, l, aiP, rfl, show (0 : Int) ≤ (i : Int) by omega, show (i : Int) < (l.length : Int) by omega, fun x' hx' => ?_⟩
  obtain rfl : x = x' := Option.some.inj (hx.symm.trans hx')
  refine ⟨[], no_rl, hf.useS rfl rfl rfl rfl (by repeat' first | exact trivial | exact rfl | exact Iff.rfl | exact Or.inl rfl | refine And.intro ?_ ?_) (And.intro (by repeat' first | exact trivial | exact rfl | exact Iff.rfl | exact Or.inl rfl | refine And.intro ?_ ?_) (And.intro (by repeat' first | exact trivial | exact rfl | exact Iff.rfl | exact Or.inl rfl | refine And.intro ?_ ?_) (And.intro (by repeat' first | exact trivial | exact rfl | exact Iff.rfl | exact Or.inl rfl | refine And.intro ?_ ?_) (And.intro (by repeat' first | exact trivial | exact rfl | exact Iff.rfl | exact Or.inl rfl | refine And.intro ?_ ?_) (And.intro (by repeat' first | exact trivial | exact rfl | exact Iff.rfl | exact Or.inl rfl | refine And.intro ?_ ?_) (And.intro (by repeat' first | exact trivial | exact rfl | exact Iff.rfl | exact Or.inl rfl | refine And.intro ?_ ?_) ?_))))))⟩
  refine And.intro ?_ (And.intro ?_ trivial)
  rotate_left
  · refine ⟨[], no_rl, hf.useS rfl rfl rfl rfl (by repeat' first | exact trivial | exact rfl | exact Iff.rfl | exact Or.inl rfl | refine And.intro ?_ ?_) (And.intro (by repeat' first | exact trivial | exact rfl | exact Iff.rfl | exact Or.inl rfl | refine And.intro ?_ ?_) (And.intro (by repeat' first | exact trivial | exact rfl | exact Iff.rfl | exact Or.inl rfl | refine And.intro ?_ ?_) (And.intro (by repeat' first | exact trivial | exact rfl | exact Iff.rfl | exact Or.inl rfl | refine And.intro ?_ ?_) (And.intro (by repeat' first | exact trivial | exact rfl | exact Iff.rfl | exact Or.inl rfl | refine And.intro ?_ ?_) (And.intro (by repeat' first | exact trivial | exact rfl | exact Iff.rfl | exact Or.inl rfl | refine And.intro ?_ ?_) (And.intro (by repeat' first | exact trivial | exact rfl | exact Iff.rfl | exact Or.inl rfl | refine And.intro ?_ ?_) ?_))))))⟩
    exact rfl
  refine ⟨AI, l, aiP, rfl, show (0 : Int) ≤ (i : Int) by omega, show (i : Int) < (l.length : Int) by omega, fun x1 hx1 => ?_⟩
  obtain rfl : x = x1 := Option.some.inj (hx.symm.trans hx1)
  refine And.intro (fun hc => ?_) (fun hc => ?_)
  · have hc' : x.cond = -1 := hc
    refine ⟨show (0 : Int) ≤ (i : Int) by omega, show (i : Int) < ((intsP (wI W)).length : Nat) by rw [intsP_len]; omega, Int, wI W, PV.int .i64, rfl, show (i : Int).toNat < (wI W).length by omega, fun v hv => ?_⟩
    obtain rfl : (if w then 1 else 0) = v := Option.some.inj ((wI_get hw).symm.trans hv)
    refine And.intro (fun h0 => ?_) (fun h0 => ?_)
    · skip
      have hw0 : w = false := by cases w <;> simp at h0 ⊢
      subst hw0
      refine retS ?_ (by repeat' first | exact trivial | exact rfl | exact Iff.rfl | exact Or.inl rfl | refine And.intro ?_ ?_)
      repeat' first | exact trivial | exact rfl | refine And.intro ?_ ?_
      all_goals exact (show (47 : Int) = (branA x.cond false n).form by unfold branA; rw [if_pos (show x.cond < 0 by omega)]; rfl)
    · refine ⟨AI, l, aiP, rfl, show (0 : Int) ≤ (i : Int) by omega, show (i : Int) < (l.length : Int) by omega, fun x1 hx1 => ?_⟩
      obtain rfl : x = x1 := Option.some.inj (hx.symm.trans hx1)
      refine And.intro (fun _ => ?_) (fun hc2 => absurd hc hc2)
      have hw0 : w = true := by cases w <;> simp at h0 ⊢
      subst hw0
      refine retS ?_ (by repeat' first | exact trivial | exact rfl | exact Iff.rfl | exact Or.inl rfl | refine And.intro ?_ ?_)
      repeat' first | exact trivial | exact rfl | refine And.intro ?_ ?_
      all_goals exact (show (100 : Int) = (branA x.cond true n).form by unfold branA; rw [if_pos (show x.cond < 0 by omega)]; rfl)
  · have hc' : ¬ x.cond = -1 := hc
    refine ⟨AI, l, aiP, rfl, show (0 : Int) ≤ (i : Int) by omega, show (i : Int) < (l.length : Int) by omega, fun x1 hx1 => ?_⟩
    obtain rfl : x = x1 := Option.some.inj (hx.symm.trans hx1)
    refine And.intro (fun hc2 => absurd hc2 hc) (fun _ => ?_)
    refine ⟨show (0 : Int) ≤ (i : Int) by omega, show (i : Int) < ((intsP (wI W)).length : Nat) by rw [intsP_len]; omega, Int, wI W, PV.int .i64, rfl, show (i : Int).toNat < (wI W).length by omega, fun v hv => ?_⟩
    obtain rfl : (if w then 1 else 0) = v := Option.some.inj ((wI_get hw).symm.trans hv)
    refine And.intro (fun h0 => ?_) (fun h0 => ?_)
    · skip
      have hw0 : w = false := by cases w <;> simp at h0 ⊢
      subst hw0
      refine retS ?_ (by repeat' first | exact trivial | exact rfl | exact Iff.rfl | exact Or.inl rfl | refine And.intro ?_ ?_)
      repeat' first | exact trivial | exact rfl | refine And.intro ?_ ?_
      all_goals exact (show (46 : Int) = (branA x.cond false n).form by unfold branA; rw [if_neg (show ¬ x.cond < 0 by omega)]; rfl)
    · skip
      have hw0 : w = true := by cases w <;> simp at h0 ⊢
      subst hw0
      refine retS ?_ (by repeat' first | exact trivial | exact rfl | exact Iff.rfl | exact Or.inl rfl | refine And.intro ?_ ?_)
      repeat' first | exact trivial | exact rfl | refine And.intro ?_ ?_
      all_goals exact (show (99 : Int) = (branA x.cond true n).form by unfold branA; rw [if_neg (show ¬ x.cond < 0 by omega)]; rfl)

end Go.Proofs.YtjcacjeoddnmhaaDoor.Pw

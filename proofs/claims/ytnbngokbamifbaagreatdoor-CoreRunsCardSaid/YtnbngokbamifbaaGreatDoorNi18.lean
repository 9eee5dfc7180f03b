/- What a law is proved with. -/
import Derived.Test.YtnbngokbamifbaaGreatDoorNi17
set_option linter.unusedVariables false
set_option linter.unusedSimpArgs false
namespace Go.Proofs.YtnbngokbamifbaaGreatDoor.Pw
open Go Go.RowKit
set_option maxHeartbeats 8000000 in
set_option maxRecDepth 100000 in
theorem narrow_1 (i : IN) (hs : shapeV i.form = 1) (hr : rightR i (ruW 1)) (hg : i.regs <= 9223372036854775807) : PureF gT 178 [inP i] (.int .u32 ((orF i (fieldsV 1) : Nat) : Int)):=by
 obtain ⟨hf,h1,h2,h3,h4,h5,h6,h7,h8,h9,h10⟩:=hr
 have g0:=has_1 (r:=i.rd) h1
 have g1:=has_0 (r:=i.rn) h2
 have g2:=has_1 (r:=i.rm) h3
 have g3:=has_0 (r:=i.ra) h4
 have g4 : 0 <= i.imm /\ i.imm <= 32 /\ i.imm % 1 = 0:=sp_s (s:=1) (by decide) h7
 have g5 : i.kind = 0:=(sh_0 rfl h9).1
 have g6 : i.by_ = 0:=sp_0 (sh_0 rfl h9).2
 have g7 : i.set = 0:=h8.elim id fun e=>absurd (show false = true from e.2) Bool.false_ne_true
 have g8 : i.cond = 0:=h6.elim id fun e=>absurd (show false = true from e.1) Bool.false_ne_true
 clear h1 h2 h3 h4 h5 h6 h7 h8 h9 h10
 have b0:=bitsV_bd i.imm 0 5
 refine Spec.enter gTok P178 100 Tryz.func178 rfl (by kernel_rfl) ?_
 refine .inl ⟨inR_u32 (by omega),?_⟩
 refine .inl ⟨inR_u32 (by omega),?_⟩
 refine .inl ⟨inR_u32 (by omega),?_⟩
 refine ⟨[],no_rl,(pshapeLit hs).use (And.intro rfl trivial) rfl rfl ?_⟩
 refine ⟨[],no_rl,(cutB i.imm 0 5 (by unfold U32; omega) (by decide) (by decide)).use (And.intro rfl (And.intro rfl (And.intro rfl trivial))) rfl rfl ?_⟩
 refine ⟨by decide,.inl ⟨inR_u32 (by rw [r6]; omega),?_⟩⟩
 refine ⟨by decide,.inl ⟨inR_u32 (by rw [r3]; omega),?_⟩⟩
 refine retE ?_
 have eo : orF i (fieldsV 1) = 0 ||| B i.imm 0 5 6 ||| B i.rm 0 3 3 ||| B i.rd 0 3 0:=rfl
 rw [eo]
 refine (show bits .or .u32 (bits .or .u32 (bitsV i.imm 0 5 * Ev.pow2 .u32 6) (i.rm * Ev.pow2 .u32 3)) (i.rd) = _ from ?_)
 refine ((((((isB i.imm 0 5 6 (by decide) (by decide))).or (isR i.rm 3 3 (by decide) (by decide) (by omega)))).or (isR0 i.rd 3 (by decide) (by omega)))).1.trans (congrArg (fun n : Nat=>(n : Int)) ?_)
 first
 | (simp only [Nat.or_zero,Nat.zero_or]; done)
 | (simp only [Nat.or_zero,Nat.zero_or]
    generalize B i.imm 0 5 6 = n0
    generalize B i.rm 0 3 3 = n1
    generalize B i.rd 0 3 0 = n2
    ac_rfl)
set_option maxHeartbeats 8000000 in
set_option maxRecDepth 100000 in
theorem narrow_2 (i : IN) (hs : shapeV i.form = 2) (hr : rightR i (ruW 2)) (hg : i.regs <= 9223372036854775807) : PureF gT 178 [inP i] (.int .u32 ((orF i (fieldsV 2) : Nat) : Int)):=by
 obtain ⟨hf,h1,h2,h3,h4,h5,h6,h7,h8,h9,h10⟩:=hr
 have g0:=has_1 (r:=i.rd) h1
 have g1:=has_1 (r:=i.rn) h2
 have g2:=has_1 (r:=i.rm) h3
 have g3:=has_0 (r:=i.ra) h4
 have g4 : i.imm = 0:=sp_0 h7
 have g5 : i.kind = 0:=(sh_0 rfl h9).1
 have g6 : i.by_ = 0:=sp_0 (sh_0 rfl h9).2
 have g7 : i.set = 0:=h8.elim id fun e=>absurd (show false = true from e.2) Bool.false_ne_true
 have g8 : i.cond = 0:=h6.elim id fun e=>absurd (show false = true from e.1) Bool.false_ne_true
 clear h1 h2 h3 h4 h5 h6 h7 h8 h9 h10
 refine Spec.enter gTok P178 100 Tryz.func178 rfl (by kernel_rfl) ?_
 refine .inl ⟨inR_u32 (by omega),?_⟩
 refine .inl ⟨inR_u32 (by omega),?_⟩
 refine .inl ⟨inR_u32 (by omega),?_⟩
 refine ⟨[],no_rl,(pshapeLit hs).use (And.intro rfl trivial) rfl rfl ?_⟩
 refine ⟨[],no_rl,(small_pure i i.rm 3 (by omega) (by omega) (by omega) (by decide)).use (by repeat' first|exact trivial|exact rfl|exact Iff.rfl|refine And.intro ?_ ?_) rfl rfl ?_⟩
 refine retE ?_
 have eo : orF i (fieldsV 2) = 0 ||| B i.rm 0 3 6 ||| B i.rn 0 3 3 ||| B i.rd 0 3 0:=rfl
 rw [eo]
 refine (show _ = _ from congrArg (fun n : Nat=>(n : Int)) ?_)
 simp only [Nat.zero_or]
set_option maxHeartbeats 8000000 in
set_option maxRecDepth 100000 in
theorem narrow_3 (i : IN) (hs : shapeV i.form = 3) (hr : rightR i (ruW 3)) (hg : i.regs <= 9223372036854775807) : PureF gT 178 [inP i] (.int .u32 ((orF i (fieldsV 3) : Nat) : Int)):=by
 obtain ⟨hf,h1,h2,h3,h4,h5,h6,h7,h8,h9,h10⟩:=hr
 have g0:=has_1 (r:=i.rd) h1
 have g1:=has_1 (r:=i.rn) h2
 have g2:=has_0 (r:=i.rm) h3
 have g3:=has_0 (r:=i.ra) h4
 have g4 : 0 <= i.imm /\ i.imm <= 7 /\ i.imm % 1 = 0:=sp_s (s:=1) (by decide) h7
 have g5 : i.kind = 0:=(sh_0 rfl h9).1
 have g6 : i.by_ = 0:=sp_0 (sh_0 rfl h9).2
 have g7 : i.set = 0:=h8.elim id fun e=>absurd (show false = true from e.2) Bool.false_ne_true
 have g8 : i.cond = 0:=h6.elim id fun e=>absurd (show false = true from e.1) Bool.false_ne_true
 clear h1 h2 h3 h4 h5 h6 h7 h8 h9 h10
 refine Spec.enter gTok P178 100 Tryz.func178 rfl (by kernel_rfl) ?_
 refine .inl ⟨inR_u32 (by omega),?_⟩
 refine .inl ⟨inR_u32 (by omega),?_⟩
 refine .inl ⟨inR_u32 (by omega),?_⟩
 refine ⟨[],no_rl,(pshapeLit hs).use (And.intro rfl trivial) rfl rfl ?_⟩
 refine ⟨[],no_rl,(small_pure i i.imm 3 (by omega) (by omega) (by omega) (by decide)).use (by repeat' first|exact trivial|exact rfl|exact Iff.rfl|refine And.intro ?_ ?_) rfl rfl ?_⟩
 refine retE ?_
 have eo : orF i (fieldsV 3) = 0 ||| B i.imm 0 3 6 ||| B i.rn 0 3 3 ||| B i.rd 0 3 0:=rfl
 rw [eo]
 refine (show _ = _ from congrArg (fun n : Nat=>(n : Int)) ?_)
 simp only [Nat.zero_or]
set_option maxHeartbeats 8000000 in
set_option maxRecDepth 100000 in
theorem narrow_4 (i : IN) (hs : shapeV i.form = 4) (hr : rightR i (ruW 4)) (hg : i.regs <= 9223372036854775807) : PureF gT 178 [inP i] (.int .u32 ((orF i (fieldsV 4) : Nat) : Int)):=by
 obtain ⟨hf,h1,h2,h3,h4,h5,h6,h7,h8,h9,h10⟩:=hr
 have g0:=has_1 (r:=i.rd) h1
 have g1:=has_0 (r:=i.rn) h2
 have g2:=has_0 (r:=i.rm) h3
 have g3:=has_0 (r:=i.ra) h4
 have g4 : 0 <= i.imm /\ i.imm <= 255 /\ i.imm % 1 = 0:=sp_s (s:=1) (by decide) h7
 have g5 : i.kind = 0:=(sh_0 rfl h9).1
 have g6 : i.by_ = 0:=sp_0 (sh_0 rfl h9).2
 have g7 : i.set = 0:=h8.elim id fun e=>absurd (show false = true from e.2) Bool.false_ne_true
 have g8 : i.cond = 0:=h6.elim id fun e=>absurd (show false = true from e.1) Bool.false_ne_true
 clear h1 h2 h3 h4 h5 h6 h7 h8 h9 h10
 refine Spec.enter gTok P178 100 Tryz.func178 rfl (by kernel_rfl) ?_
 refine .inl ⟨inR_u32 (by omega),?_⟩
 refine .inl ⟨inR_u32 (by omega),?_⟩
 refine .inl ⟨inR_u32 (by omega),?_⟩
 refine ⟨[],no_rl,(pshapeLit hs).use (And.intro rfl trivial) rfl rfl ?_⟩
 refine ⟨by decide,.inl ⟨inR_u32 (by rw [r8]; omega),?_⟩⟩
 refine retE ?_
 have eo : orF i (fieldsV 4) = 0 ||| B i.rd 0 3 8 ||| B i.imm 0 8 0:=rfl
 rw [eo]
 refine (show bits .or .u32 (i.rd * Ev.pow2 .u32 8) (i.imm) = _ from ?_)
 refine ((((isR i.rd 3 8 (by decide) (by decide) (by omega))).or (isR0 i.imm 8 (by decide) (by omega)))).1.trans (congrArg (fun n : Nat=>(n : Int)) ?_)
 first
 | (simp only [Nat.or_zero,Nat.zero_or]; done)
 | (simp only [Nat.or_zero,Nat.zero_or]
    generalize B i.rd 0 3 8 = n0
    generalize B i.imm 0 8 0 = n1
    ac_rfl)
set_option maxHeartbeats 8000000 in
set_option maxRecDepth 100000 in
theorem narrow_5 (i : IN) (hs : shapeV i.form = 5) (hr : rightR i (ruW 5)) (hg : i.regs <= 9223372036854775807) : PureF gT 178 [inP i] (.int .u32 ((orF i (fieldsV 5) : Nat) : Int)):=by
 obtain ⟨hf,h1,h2,h3,h4,h5,h6,h7,h8,h9,h10⟩:=hr
 have g0:=has_1 (r:=i.rd) h1
 have g1:=has_0 (r:=i.rn) h2
 have g2:=has_1 (r:=i.rm) h3
 have g3:=has_0 (r:=i.ra) h4
 have g4 : i.imm = 0:=sp_0 h7
 have g5 : i.kind = 0:=(sh_0 rfl h9).1
 have g6 : i.by_ = 0:=sp_0 (sh_0 rfl h9).2
 have g7 : i.set = 0:=h8.elim id fun e=>absurd (show false = true from e.2) Bool.false_ne_true
 have g8 : i.cond = 0:=h6.elim id fun e=>absurd (show false = true from e.1) Bool.false_ne_true
 clear h1 h2 h3 h4 h5 h6 h7 h8 h9 h10
 refine Spec.enter gTok P178 100 Tryz.func178 rfl (by kernel_rfl) ?_
 refine .inl ⟨inR_u32 (by omega),?_⟩
 refine .inl ⟨inR_u32 (by omega),?_⟩
 refine .inl ⟨inR_u32 (by omega),?_⟩
 refine ⟨[],no_rl,(pshapeLit hs).use (And.intro rfl trivial) rfl rfl ?_⟩
 refine ⟨by decide,.inl ⟨inR_u32 (by rw [r3]; omega),?_⟩⟩
 refine retE ?_
 have eo : orF i (fieldsV 5) = 0 ||| B i.rm 0 3 3 ||| B i.rd 0 3 0:=rfl
 rw [eo]
 refine (show bits .or .u32 (i.rm * Ev.pow2 .u32 3) (i.rd) = _ from ?_)
 refine ((((isR i.rm 3 3 (by decide) (by decide) (by omega))).or (isR0 i.rd 3 (by decide) (by omega)))).1.trans (congrArg (fun n : Nat=>(n : Int)) ?_)
 first
 | (simp only [Nat.or_zero,Nat.zero_or]; done)
 | (simp only [Nat.or_zero,Nat.zero_or]
    generalize B i.rm 0 3 3 = n0
    generalize B i.rd 0 3 0 = n1
    ac_rfl)
set_option maxHeartbeats 8000000 in
set_option maxRecDepth 100000 in
theorem narrow_6 (i : IN) (hs : shapeV i.form = 6) (hr : rightR i (ruW 6)) (hg : i.regs <= 9223372036854775807) : PureF gT 178 [inP i] (.int .u32 ((orF i (fieldsV 6) : Nat) : Int)):=by
 obtain ⟨hf,h1,h2,h3,h4,h5,h6,h7,h8,h9,h10⟩:=hr
 have g0:=has_2 (r:=i.rd) h1
 have g1:=has_0 (r:=i.rn) h2
 have g2:=has_2 (r:=i.rm) h3
 have g3:=has_0 (r:=i.ra) h4
 have g4 : i.imm = 0:=sp_0 h7
 have g5 : i.kind = 0:=(sh_0 rfl h9).1
 have g6 : i.by_ = 0:=sp_0 (sh_0 rfl h9).2
 have g7 : i.set = 0:=h8.elim id fun e=>absurd (show false = true from e.2) Bool.false_ne_true
 have g8 : i.cond = 0:=h6.elim id fun e=>absurd (show false = true from e.1) Bool.false_ne_true
 clear h1 h2 h3 h4 h5 h6 h7 h8 h9 h10
 have b0:=bitsV_bd i.rd 3 1
 have b1:=bitsV_bd i.rd 0 3
 refine Spec.enter gTok P178 100 Tryz.func178 rfl (by kernel_rfl) ?_
 refine .inl ⟨inR_u32 (by omega),?_⟩
 refine .inl ⟨inR_u32 (by omega),?_⟩
 refine .inl ⟨inR_u32 (by omega),?_⟩
 refine ⟨[],no_rl,(pshapeLit hs).use (And.intro rfl trivial) rfl rfl ?_⟩
 refine ⟨[],no_rl,(cutB i.rd 3 1 (by unfold U32; omega) (by decide) (by decide)).use (And.intro rfl (And.intro rfl (And.intro rfl trivial))) rfl rfl ?_⟩
 refine ⟨by decide,.inl ⟨inR_u32 (by rw [r7]; omega),?_⟩⟩
 refine ⟨by decide,.inl ⟨inR_u32 (by rw [r3]; omega),?_⟩⟩
 refine ⟨[],no_rl,(cutB i.rd 0 3 (by unfold U32; omega) (by decide) (by decide)).use (And.intro rfl (And.intro rfl (And.intro rfl trivial))) rfl rfl ?_⟩
 refine retE ?_
 have eo : orF i (fieldsV 6) = 0 ||| B i.rd 3 1 7 ||| B i.rm 0 4 3 ||| B i.rd 0 3 0:=rfl
 rw [eo]
 refine (show bits .or .u32 (bits .or .u32 (bitsV i.rd 3 1 * Ev.pow2 .u32 7) (i.rm * Ev.pow2 .u32 3)) (bitsV i.rd 0 3) = _ from ?_)
 refine ((((((isB i.rd 3 1 7 (by decide) (by decide))).or (isR i.rm 4 3 (by decide) (by decide) (by omega)))).or (isB0 i.rd 0 3 (by decide)))).1.trans (congrArg (fun n : Nat=>(n : Int)) ?_)
 first
 | (simp only [Nat.or_zero,Nat.zero_or]; done)
 | (simp only [Nat.or_zero,Nat.zero_or]
    generalize B i.rd 3 1 7 = n0
    generalize B i.rm 0 4 3 = n1
    generalize B i.rd 0 3 0 = n2
    ac_rfl)
set_option maxHeartbeats 8000000 in
set_option maxRecDepth 100000 in
theorem narrow_7 (i : IN) (hs : shapeV i.form = 7) (hr : rightR i (ruW 7)) (hg : i.regs <= 9223372036854775807) : PureF gT 178 [inP i] (.int .u32 ((orF i (fieldsV 7) : Nat) : Int)):=by
 obtain ⟨hf,h1,h2,h3,h4,h5,h6,h7,h8,h9,h10⟩:=hr
 have g0:=has_0 (r:=i.rd) h1
 have g1:=has_0 (r:=i.rn) h2
 have g2:=has_2 (r:=i.rm) h3
 have g3:=has_0 (r:=i.ra) h4
 have g4 : i.imm = 0:=sp_0 h7
 have g5 : i.kind = 0:=(sh_0 rfl h9).1
 have g6 : i.by_ = 0:=sp_0 (sh_0 rfl h9).2
 have g7 : i.set = 0:=h8.elim id fun e=>absurd (show false = true from e.2) Bool.false_ne_true
 have g8 : i.cond = 0:=h6.elim id fun e=>absurd (show false = true from e.1) Bool.false_ne_true
 clear h1 h2 h3 h4 h5 h6 h7 h8 h9 h10
 refine Spec.enter gTok P178 100 Tryz.func178 rfl (by kernel_rfl) ?_
 refine .inl ⟨inR_u32 (by omega),?_⟩
 refine .inl ⟨inR_u32 (by omega),?_⟩
 refine .inl ⟨inR_u32 (by omega),?_⟩
 refine ⟨[],no_rl,(pshapeLit hs).use (And.intro rfl trivial) rfl rfl ?_⟩
 refine ⟨by decide,.inl ⟨inR_u32 (by rw [r3]; omega),?_⟩⟩
 refine retE ?_
 have eo : orF i (fieldsV 7) = 0 ||| B i.rm 0 4 3:=rfl
 rw [eo]
 refine (show i.rm * Ev.pow2 .u32 3 = _ from ?_)
 refine ((isR i.rm 4 3 (by decide) (by decide) (by omega))).1.trans (congrArg (fun n : Nat=>(n : Int)) ?_)
 first
 | (simp only [Nat.or_zero,Nat.zero_or]; done)
 | (simp only [Nat.or_zero,Nat.zero_or]
    generalize B i.rm 0 4 3 = n0
    ac_rfl)
set_option maxHeartbeats 8000000 in
set_option maxRecDepth 100000 in
theorem narrow_8 (i : IN) (hs : shapeV i.form = 8) (hr : rightR i (ruW 8)) (hg : i.regs <= 9223372036854775807) : PureF gT 178 [inP i] (.int .u32 ((orF i (fieldsV 8) : Nat) : Int)):=by
 obtain ⟨hf,h1,h2,h3,h4,h5,h6,h7,h8,h9,h10⟩:=hr
 have g0:=has_1 (r:=i.rd) h1
 have g1:=has_0 (r:=i.rn) h2
 have g2:=has_0 (r:=i.rm) h3
 have g3:=has_0 (r:=i.ra) h4
 have g4 : 0 <= i.imm /\ i.imm <= 1020 /\ i.imm % 4 = 0:=sp_s (s:=4) (by decide) h7
 have g5 : i.kind = 0:=(sh_0 rfl h9).1
 have g6 : i.by_ = 0:=sp_0 (sh_0 rfl h9).2
 have g7 : i.set = 0:=h8.elim id fun e=>absurd (show false = true from e.2) Bool.false_ne_true
 have g8 : i.cond = 0:=h6.elim id fun e=>absurd (show false = true from e.1) Bool.false_ne_true
 clear h1 h2 h3 h4 h5 h6 h7 h8 h9 h10
 refine Spec.enter gTok P178 100 Tryz.func178 rfl (by kernel_rfl) ?_
 refine .inl ⟨inR_u32 (by omega),?_⟩
 refine .inl ⟨inR_u32 (by omega),?_⟩
 refine .inl ⟨inR_u32 (by omega),?_⟩
 refine ⟨[],no_rl,(pshapeLit hs).use (And.intro rfl trivial) rfl rfl ?_⟩
 refine ⟨by decide,.inl ⟨inR_u32 (by rw [r8]; omega),?_⟩⟩
 refine ⟨by decide,.inl ⟨by omega,by first | exact (show (_ : Int) <= 4294967295 by omega) | omega,by decide,?_⟩⟩
 refine retE ?_
 have eo : orF i (fieldsV 8) = 0 ||| B i.rd 0 3 8 ||| B i.imm 2 8 0:=rfl
 rw [eo]
 refine (show bits .or .u32 (i.rd * Ev.pow2 .u32 8) (i.imm / 4) = _ from ?_)
 refine ((((isR i.rd 3 8 (by decide) (by decide) (by omega))).or (isD i.imm 8 (by decide) (by omega) (by omega)))).1.trans (congrArg (fun n : Nat=>(n : Int)) ?_)
 first
 | (simp only [Nat.or_zero,Nat.zero_or]; done)
 | (simp only [Nat.or_zero,Nat.zero_or]
    generalize B i.rd 0 3 8 = n0
    generalize B i.imm 2 8 0 = n1
    ac_rfl)
set_option maxHeartbeats 8000000 in
set_option maxRecDepth 100000 in
theorem narrow_9 (i : IN) (hs : shapeV i.form = 9) (hr : rightR i (ruW 9)) (hg : i.regs <= 9223372036854775807) : PureF gT 178 [inP i] (.int .u32 ((orF i (fieldsV 9) : Nat) : Int)):=by
 obtain ⟨hf,h1,h2,h3,h4,h5,h6,h7,h8,h9,h10⟩:=hr
 have g0:=has_1 (r:=i.rd) h1
 have g1:=has_1 (r:=i.rn) h2
 have g2:=has_0 (r:=i.rm) h3
 have g3:=has_0 (r:=i.ra) h4
 have g4 : 0 <= i.imm /\ i.imm <= 124 /\ i.imm % 4 = 0:=sp_s (s:=4) (by decide) h7
 have g5 : i.kind = 0:=(sh_0 rfl h9).1
 have g6 : i.by_ = 0:=sp_0 (sh_0 rfl h9).2
 have g7 : i.set = 0:=h8.elim id fun e=>absurd (show false = true from e.2) Bool.false_ne_true
 have g8 : i.cond = 0:=h6.elim id fun e=>absurd (show false = true from e.1) Bool.false_ne_true
 clear h1 h2 h3 h4 h5 h6 h7 h8 h9 h10
 refine Spec.enter gTok P178 100 Tryz.func178 rfl (by kernel_rfl) ?_
 refine .inl ⟨inR_u32 (by omega),?_⟩
 refine .inl ⟨inR_u32 (by omega),?_⟩
 refine .inl ⟨inR_u32 (by omega),?_⟩
 refine ⟨[],no_rl,(pshapeLit hs).use (And.intro rfl trivial) rfl rfl ?_⟩
 refine ⟨by decide,.inl ⟨by omega,by first | exact (show (_ : Int) <= 4294967295 by omega) | omega,by decide,?_⟩⟩
 refine ⟨[],no_rl,(small_pure i (i.imm / 4) 5 (by omega) (by omega) (by omega) (by decide)).use (by repeat' first|exact trivial|exact rfl|exact Iff.rfl|refine And.intro ?_ ?_) rfl rfl ?_⟩
 refine retE ?_
 have eo : orF i (fieldsV 9) = 0 ||| B i.imm 2 5 6 ||| B i.rn 0 3 3 ||| B i.rd 0 3 0:=rfl
 rw [eo]
 refine (show _ = _ from congrArg (fun n : Nat=>(n : Int)) ?_)
 rw [B_div (by omega)]; simp only [Nat.zero_or]
set_option maxHeartbeats 8000000 in
set_option maxRecDepth 100000 in
theorem narrow_10 (i : IN) (hs : shapeV i.form = 10) (hr : rightR i (ruW 10)) (hg : i.regs <= 9223372036854775807) : PureF gT 178 [inP i] (.int .u32 ((orF i (fieldsV 10) : Nat) : Int)):=by
 obtain ⟨hf,h1,h2,h3,h4,h5,h6,h7,h8,h9,h10⟩:=hr
 have g0:=has_0 (r:=i.rd) h1
 have g1:=has_0 (r:=i.rn) h2
 have g2:=has_0 (r:=i.rm) h3
 have g3:=has_0 (r:=i.ra) h4
 have g4 : 0 <= i.imm /\ i.imm <= 508 /\ i.imm % 4 = 0:=sp_s (s:=4) (by decide) h7
 have g5 : i.kind = 0:=(sh_0 rfl h9).1
 have g6 : i.by_ = 0:=sp_0 (sh_0 rfl h9).2
 have g7 : i.set = 0:=h8.elim id fun e=>absurd (show false = true from e.2) Bool.false_ne_true
 have g8 : i.cond = 0:=h6.elim id fun e=>absurd (show false = true from e.1) Bool.false_ne_true
 clear h1 h2 h3 h4 h5 h6 h7 h8 h9 h10
 refine Spec.enter gTok P178 100 Tryz.func178 rfl (by kernel_rfl) ?_
 refine .inl ⟨inR_u32 (by omega),?_⟩
 refine .inl ⟨inR_u32 (by omega),?_⟩
 refine .inl ⟨inR_u32 (by omega),?_⟩
 refine ⟨[],no_rl,(pshapeLit hs).use (And.intro rfl trivial) rfl rfl ?_⟩
 refine ⟨by decide,.inl ⟨by omega,by first | exact (show (_ : Int) <= 4294967295 by omega) | omega,by decide,?_⟩⟩
 refine retE ?_
 have eo : orF i (fieldsV 10) = 0 ||| B i.imm 2 7 0:=rfl
 rw [eo]
 refine (show i.imm / 4 = _ from ?_)
 refine ((isD i.imm 7 (by decide) (by omega) (by omega))).1.trans (congrArg (fun n : Nat=>(n : Int)) ?_)
 first
 | (simp only [Nat.or_zero,Nat.zero_or]; done)
 | (simp only [Nat.or_zero,Nat.zero_or]
    generalize B i.imm 2 7 0 = n0
    ac_rfl)
set_option maxHeartbeats 8000000 in
set_option maxRecDepth 100000 in
theorem narrow_11 (i : IN) (hs : shapeV i.form = 11) (hr : rightR i (ruW 11)) (hg : i.regs <= 9223372036854775807) : PureF gT 178 [inP i] (.int .u32 ((orF i (fieldsV 11) : Nat) : Int)):=by
 obtain ⟨hf,h1,h2,h3,h4,h5,h6,h7,h8,h9,h10⟩:=hr
 have g0:=has_0 (r:=i.rd) h1
 have g1:=has_0 (r:=i.rn) h2
 have g2:=has_0 (r:=i.rm) h3
 have g3:=has_0 (r:=i.ra) h4
 have g4 : i.imm = 0:=sp_0 h7
 have g5 : i.kind = 0:=(sh_0 rfl h9).1
 have g6 : i.by_ = 0:=sp_0 (sh_0 rfl h9).2
 have g7 : i.set = 0:=h8.elim id fun e=>absurd (show false = true from e.2) Bool.false_ne_true
 have g8 : i.cond = 0:=h6.elim id fun e=>absurd (show false = true from e.1) Bool.false_ne_true
 have g9 : 0 < i.regs /\ i.regs / 16384 % 2 * 16384 + i.regs % 256 = i.regs:=lis_k 14 (by decide) (by decide) rfl h5 hg
 clear h1 h2 h3 h4 h5 h6 h7 h8 h9 h10
 have b0:=bitsV_bd i.regs 14 1
 have b1:=bitsV_bd i.regs 0 8
 refine Spec.enter gTok P178 100 Tryz.func178 rfl (by kernel_rfl) ?_
 refine .inl ⟨inR_u32 (by omega),?_⟩
 refine .inl ⟨inR_u32 (by omega),?_⟩
 refine .inl ⟨inR_u32 (by omega),?_⟩
 refine ⟨[],no_rl,(pshapeLit hs).use (And.intro rfl trivial) rfl rfl ?_⟩
 repeat (refine Or.inl (And.intro (inR_u32 (by omega)) ?_))
 refine ⟨[],no_rl,(cutB i.regs 14 1 (by unfold U32; omega) (by decide) (by decide)).use (And.intro rfl (And.intro rfl (And.intro rfl trivial))) rfl rfl ?_⟩
 refine ⟨by decide,.inl ⟨inR_u32 (by rw [r8]; omega),?_⟩⟩
 repeat (refine Or.inl (And.intro (inR_u32 (by omega)) ?_))
 refine ⟨[],no_rl,(cutB i.regs 0 8 (by unfold U32; omega) (by decide) (by decide)).use (And.intro rfl (And.intro rfl (And.intro rfl trivial))) rfl rfl ?_⟩
 refine retE ?_
 have eo : orF i (fieldsV 11) = 0 ||| B i.regs 14 1 8 ||| B i.regs 0 8 0:=rfl
 rw [eo]
 refine (show bits .or .u32 (bitsV i.regs 14 1 * Ev.pow2 .u32 8) (bitsV i.regs 0 8) = _ from ?_)
 refine ((((isB i.regs 14 1 8 (by decide) (by decide))).or (isB0 i.regs 0 8 (by decide)))).1.trans (congrArg (fun n : Nat=>(n : Int)) ?_)
 first
 | (simp only [Nat.or_zero,Nat.zero_or]; done)
 | (simp only [Nat.or_zero,Nat.zero_or]
    generalize B i.regs 14 1 8 = n0
    generalize B i.regs 0 8 0 = n1
    ac_rfl)
set_option maxHeartbeats 8000000 in
set_option maxRecDepth 100000 in
theorem narrow_12 (i : IN) (hs : shapeV i.form = 12) (hr : rightR i (ruW 12)) (hg : i.regs <= 9223372036854775807) : PureF gT 178 [inP i] (.int .u32 ((orF i (fieldsV 12) : Nat) : Int)):=by
 obtain ⟨hf,h1,h2,h3,h4,h5,h6,h7,h8,h9,h10⟩:=hr
 have g0:=has_0 (r:=i.rd) h1
 have g1:=has_0 (r:=i.rn) h2
 have g2:=has_0 (r:=i.rm) h3
 have g3:=has_0 (r:=i.ra) h4
 have g4 : i.imm = 0:=sp_0 h7
 have g5 : i.kind = 0:=(sh_0 rfl h9).1
 have g6 : i.by_ = 0:=sp_0 (sh_0 rfl h9).2
 have g7 : i.set = 0:=h8.elim id fun e=>absurd (show false = true from e.2) Bool.false_ne_true
 have g8 : i.cond = 0:=h6.elim id fun e=>absurd (show false = true from e.1) Bool.false_ne_true
 have g9 : 0 < i.regs /\ i.regs / 32768 % 2 * 32768 + i.regs % 256 = i.regs:=lis_k 15 (by decide) (by decide) rfl h5 hg
 clear h1 h2 h3 h4 h5 h6 h7 h8 h9 h10
 have b0:=bitsV_bd i.regs 15 1
 have b1:=bitsV_bd i.regs 0 8
 refine Spec.enter gTok P178 100 Tryz.func178 rfl (by kernel_rfl) ?_
 refine .inl ⟨inR_u32 (by omega),?_⟩
 refine .inl ⟨inR_u32 (by omega),?_⟩
 refine .inl ⟨inR_u32 (by omega),?_⟩
 refine ⟨[],no_rl,(pshapeLit hs).use (And.intro rfl trivial) rfl rfl ?_⟩
 repeat (refine Or.inl (And.intro (inR_u32 (by omega)) ?_))
 refine ⟨[],no_rl,(cutB i.regs 15 1 (by unfold U32; omega) (by decide) (by decide)).use (And.intro rfl (And.intro rfl (And.intro rfl trivial))) rfl rfl ?_⟩
 refine ⟨by decide,.inl ⟨inR_u32 (by rw [r8]; omega),?_⟩⟩
 repeat (refine Or.inl (And.intro (inR_u32 (by omega)) ?_))
 refine ⟨[],no_rl,(cutB i.regs 0 8 (by unfold U32; omega) (by decide) (by decide)).use (And.intro rfl (And.intro rfl (And.intro rfl trivial))) rfl rfl ?_⟩
 refine retE ?_
 have eo : orF i (fieldsV 12) = 0 ||| B i.regs 15 1 8 ||| B i.regs 0 8 0:=rfl
 rw [eo]
 refine (show bits .or .u32 (bitsV i.regs 15 1 * Ev.pow2 .u32 8) (bitsV i.regs 0 8) = _ from ?_)
 refine ((((isB i.regs 15 1 8 (by decide) (by decide))).or (isB0 i.regs 0 8 (by decide)))).1.trans (congrArg (fun n : Nat=>(n : Int)) ?_)
 first
 | (simp only [Nat.or_zero,Nat.zero_or]; done)
 | (simp only [Nat.or_zero,Nat.zero_or]
    generalize B i.regs 15 1 8 = n0
    generalize B i.regs 0 8 0 = n1
    ac_rfl)
set_option maxHeartbeats 8000000 in
set_option maxRecDepth 100000 in
theorem narrow_13 (i : IN) (hs : shapeV i.form = 13) (hr : rightR i (ruW 13)) (hg : i.regs <= 9223372036854775807) : PureF gT 178 [inP i] (.int .u32 ((orF i (fieldsV 13) : Nat) : Int)):=by
 obtain ⟨hf,h1,h2,h3,h4,h5,h6,h7,h8,h9,h10⟩:=hr
 have g0:=has_0 (r:=i.rd) h1
 have g1:=has_0 (r:=i.rn) h2
 have g2:=has_0 (r:=i.rm) h3
 have g3:=has_0 (r:=i.ra) h4
 have g4 : i.imm = 0:=sp_0 h7
 have g5 : i.kind = 0:=(sh_0 rfl h9).1
 have g6 : i.by_ = 0:=sp_0 (sh_0 rfl h9).2
 have g7 : i.set = 0:=h8.elim id fun e=>absurd (show false = true from e.2) Bool.false_ne_true
 have g8 : i.cond = 0:=h6.elim id fun e=>absurd (show false = true from e.1) Bool.false_ne_true
 clear h1 h2 h3 h4 h5 h6 h7 h8 h9 h10
 refine Spec.enter gTok P178 100 Tryz.func178 rfl (by kernel_rfl) ?_
 refine .inl ⟨inR_u32 (by omega),?_⟩
 refine .inl ⟨inR_u32 (by omega),?_⟩
 refine .inl ⟨inR_u32 (by omega),?_⟩
 refine ⟨[],no_rl,(pshapeLit hs).use (And.intro rfl trivial) rfl rfl ?_⟩
 exact retE rfl
set_option maxHeartbeats 8000000 in
set_option maxRecDepth 100000 in
theorem narrow_14 (i : IN) (hs : shapeV i.form = 14) (hr : rightR i (ruW 14)) (hg : i.regs <= 9223372036854775807) : PureF gT 178 [inP i] (.int .u32 ((orF i (fieldsV 14) : Nat) : Int)):=by
 obtain ⟨hf,h1,h2,h3,h4,h5,h6,h7,h8,h9,h10⟩:=hr
 have g0:=has_0 (r:=i.rd) h1
 have g1:=has_0 (r:=i.rn) h2
 have g2:=has_0 (r:=i.rm) h3
 have g3:=has_0 (r:=i.ra) h4
 have g4 : 0 <= i.imm /\ i.imm <= 255 /\ i.imm % 1 = 0:=sp_s (s:=1) (by decide) h7
 have g5 : i.kind = 0:=(sh_0 rfl h9).1
 have g6 : i.by_ = 0:=sp_0 (sh_0 rfl h9).2
 have g7 : i.set = 0:=h8.elim id fun e=>absurd (show false = true from e.2) Bool.false_ne_true
 have g8 : i.cond = 0:=h6.elim id fun e=>absurd (show false = true from e.1) Bool.false_ne_true
 clear h1 h2 h3 h4 h5 h6 h7 h8 h9 h10
 refine Spec.enter gTok P178 100 Tryz.func178 rfl (by kernel_rfl) ?_
 refine .inl ⟨inR_u32 (by omega),?_⟩
 refine .inl ⟨inR_u32 (by omega),?_⟩
 refine .inl ⟨inR_u32 (by omega),?_⟩
 refine ⟨[],no_rl,(pshapeLit hs).use (And.intro rfl trivial) rfl rfl ?_⟩
 refine retE ?_
 have eo : orF i (fieldsV 14) = 0 ||| B i.imm 0 8 0:=rfl
 rw [eo]
 refine (show i.imm = _ from ?_)
 refine ((isR0 i.imm 8 (by decide) (by omega))).1.trans (congrArg (fun n : Nat=>(n : Int)) ?_)
 first
 | (simp only [Nat.or_zero,Nat.zero_or]; done)
 | (simp only [Nat.or_zero,Nat.zero_or]
    generalize B i.imm 0 8 0 = n0
    ac_rfl)
set_option maxHeartbeats 8000000 in
set_option maxRecDepth 100000 in
theorem narrow_15 (i : IN) (hs : shapeV i.form = 15) (hr : rightR i (ruW 15)) (hg : i.regs <= 9223372036854775807) : PureF gT 178 [inP i] (.int .u32 ((orF i (fieldsV 15) : Nat) : Int)):=by
 obtain ⟨hf,h1,h2,h3,h4,h5,h6,h7,h8,h9,h10⟩:=hr
 have g0:=has_0 (r:=i.rd) h1
 have g1:=has_0 (r:=i.rn) h2
 have g2:=has_0 (r:=i.rm) h3
 have g3:=has_0 (r:=i.ra) h4
 have g4 : -256 <= i.imm /\ i.imm <= 254 /\ i.imm % 2 = 0:=sp_s (s:=2) (by decide) h7
 have g5 : i.kind = 0:=(sh_0 rfl h9).1
 have g6 : i.by_ = 0:=sp_0 (sh_0 rfl h9).2
 have g7 : i.set = 0:=h8.elim id fun e=>absurd (show false = true from e.2) Bool.false_ne_true
 have g8 : 0 <= i.cond /\ i.cond <= 13:=by rcases h6 with h6 | h6 <;> omega
 clear h1 h2 h3 h4 h5 h6 h7 h8 h9 h10
 have b0:=bitsV_bd i.imm 1 8
 refine Spec.enter gTok P178 100 Tryz.func178 rfl (by kernel_rfl) ?_
 refine .inr ?_
 refine .inl ⟨inR_u32 (by omega),?_⟩
 refine .inl ⟨inR_u32 (by omega),?_⟩
 refine ⟨[],no_rl,(pshapeLit hs).use (And.intro rfl trivial) rfl rfl ?_⟩
 refine .inl ⟨inR_u32 (by omega),?_⟩
 refine ⟨by decide,.inl ⟨inR_u32 (by rw [r8]; omega),?_⟩⟩
 refine ⟨[],no_rl,(cutW i.imm 1 8 (by omega) (by decide) (by decide) (by decide)).use (And.intro rfl (And.intro rfl (And.intro rfl trivial))) rfl rfl ?_⟩
 refine retE ?_
 have eo : orF i (fieldsV 15) = 0 ||| B i.cond 0 4 8 ||| B i.imm 1 8 0:=rfl
 rw [eo]
 refine (show bits .or .u32 (i.cond * Ev.pow2 .u32 8) (bitsV i.imm 1 8) = _ from ?_)
 refine ((((isR i.cond 4 8 (by decide) (by decide) (by omega))).or (isB0 i.imm 1 8 (by decide)))).1.trans (congrArg (fun n : Nat=>(n : Int)) ?_)
 first
 | (simp only [Nat.or_zero,Nat.zero_or]; done)
 | (simp only [Nat.or_zero,Nat.zero_or]
    generalize B i.cond 0 4 8 = n0
    generalize B i.imm 1 8 0 = n1
    ac_rfl)
set_option maxHeartbeats 8000000 in
set_option maxRecDepth 100000 in
theorem narrow_16 (i : IN) (hs : shapeV i.form = 16) (hr : rightR i (ruW 16)) (hg : i.regs <= 9223372036854775807) : PureF gT 178 [inP i] (.int .u32 ((orF i (fieldsV 16) : Nat) : Int)):=by
 obtain ⟨hf,h1,h2,h3,h4,h5,h6,h7,h8,h9,h10⟩:=hr
 have g0:=has_0 (r:=i.rd) h1
 have g1:=has_0 (r:=i.rn) h2
 have g2:=has_0 (r:=i.rm) h3
 have g3:=has_0 (r:=i.ra) h4
 have g4 : -2048 <= i.imm /\ i.imm <= 2046 /\ i.imm % 2 = 0:=sp_s (s:=2) (by decide) h7
 have g5 : i.kind = 0:=(sh_0 rfl h9).1
 have g6 : i.by_ = 0:=sp_0 (sh_0 rfl h9).2
 have g7 : i.set = 0:=h8.elim id fun e=>absurd (show false = true from e.2) Bool.false_ne_true
 have g8 : i.cond = 0:=h6.elim id fun e=>absurd (show false = true from e.1) Bool.false_ne_true
 clear h1 h2 h3 h4 h5 h6 h7 h8 h9 h10
 have b0:=bitsV_bd i.imm 1 11
 refine Spec.enter gTok P178 100 Tryz.func178 rfl (by kernel_rfl) ?_
 refine .inr ?_
 refine .inl ⟨inR_u32 (by omega),?_⟩
 refine .inl ⟨inR_u32 (by omega),?_⟩
 refine ⟨[],no_rl,(pshapeLit hs).use (And.intro rfl trivial) rfl rfl ?_⟩
 refine ⟨[],no_rl,(cutW i.imm 1 11 (by omega) (by decide) (by decide) (by decide)).use (And.intro rfl (And.intro rfl (And.intro rfl trivial))) rfl rfl ?_⟩
 refine retE ?_
 have eo : orF i (fieldsV 16) = 0 ||| B i.imm 1 11 0:=rfl
 rw [eo]
 refine (show bitsV i.imm 1 11 = _ from ?_)
 refine ((isB0 i.imm 1 11 (by decide))).1.trans (congrArg (fun n : Nat=>(n : Int)) ?_)
 first
 | (simp only [Nat.or_zero,Nat.zero_or]; done)
 | (simp only [Nat.or_zero,Nat.zero_or]
    generalize B i.imm 1 11 0 = n0
    ac_rfl)
end Go.Proofs.YtnbngokbamifbaaGreatDoor.Pw

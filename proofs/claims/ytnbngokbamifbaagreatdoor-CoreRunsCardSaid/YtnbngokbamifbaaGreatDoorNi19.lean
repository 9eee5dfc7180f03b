/- What a law is proved with. -/
import Derived.Test.YtnbngokbamifbaaGreatDoorNi17
set_option linter.unusedVariables false
set_option linter.unusedSimpArgs false
namespace Go.Proofs.YtnbngokbamifbaaGreatDoor.Pw
open Go Go.RowKit
set_option maxHeartbeats 8000000 in
set_option maxRecDepth 100000 in
theorem wide_17 (i : IN) (hs : shapeV i.form = 17) (hr : rightR i (ruW 17)) (hg : i.regs <= 9223372036854775807) : PureF gT 177 [inP i] (.int .u32 ((orF i (fieldsV 17) : Nat) : Int)):=by
 obtain ⟨hf,h1,h2,h3,h4,h5,h6,h7,h8,h9,h10⟩:=hr
 have g0:=has_3 (r:=i.rd) h1
 have g1:=has_0 (r:=i.rn) h2
 have g2:=has_0 (r:=i.rm) h3
 have g3:=has_0 (r:=i.ra) h4
 have g4 : 0 <= i.imm /\ i.imm <= 65535 /\ i.imm % 1 = 0:=sp_s (s:=1) (by decide) h7
 have g5 : i.kind = 0:=(sh_0 rfl h9).1
 have g6 : i.by_ = 0:=sp_0 (sh_0 rfl h9).2
 have g7 : i.set = 0:=h8.elim id fun e=>absurd (show false = true from e.2) Bool.false_ne_true
 have g8 : i.cond = 0:=h6.elim id fun e=>absurd (show false = true from e.1) Bool.false_ne_true
 clear h1 h2 h3 h4 h5 h6 h7 h8 h9 h10
 refine Spec.enter gTok P177 100 Tryz.func177 rfl (by kernel_rfl) ?_
 refine .inl ⟨inR_u32 (by omega),?_⟩
 refine .inl ⟨inR_u32 (by omega),?_⟩
 refine ⟨[],no_rl,(pshapeLit hs).use (And.intro rfl trivial) rfl rfl ?_⟩
 refine ⟨[],no_rl,(plain_pure i (by omega) (by omega) (by omega) (by omega) (by omega)).use (by repeat' first|exact trivial|exact rfl|exact Iff.rfl|refine And.intro ?_ ?_) rfl rfl ?_⟩
 refine ⟨[],no_rl,(twelve_pure i.imm (by unfold U32; omega)).use (And.intro rfl trivial) rfl rfl ?_⟩
 refine retE ?_
 have eo : orF i (fieldsV 17) = 0 ||| B i.imm 11 1 26 ||| B i.imm 12 4 16 ||| B i.imm 8 3 12 ||| B i.imm 0 8 0 ||| B i.rd 0 4 8:=rfl
 rw [eo]
 refine (show bits .or .u32 (((B i.set 0 1 20 ||| B i.rn 0 4 16 ||| B i.ra 0 4 12 ||| B i.rd 0 4 8 ||| B i.rm 0 4 0 : Nat) : Int)) (((B i.imm 11 1 26 ||| B i.imm 12 4 16 ||| B i.imm 8 3 12 ||| B i.imm 0 8 0 : Nat) : Int)) = _ from ?_)
 refine ((((isPlain i)).or (isTwelve i.imm))).1.trans (congrArg (fun n : Nat=>(n : Int)) ?_)
 first
 | (simp only [B_0 g1,B_0 g2,B_0 g3,B_0 g7,Nat.or_zero,Nat.zero_or]; done)
 | (simp only [B_0 g1,B_0 g2,B_0 g3,B_0 g7,Nat.or_zero,Nat.zero_or]
    generalize B i.imm 11 1 26 = n0
    generalize B i.imm 12 4 16 = n1
    generalize B i.imm 8 3 12 = n2
    generalize B i.imm 0 8 0 = n3
    generalize B i.rd 0 4 8 = n4
    ac_rfl)
set_option maxHeartbeats 8000000 in
set_option maxRecDepth 100000 in
theorem wide_18 (i : IN) (hs : shapeV i.form = 18) (hr : rightR i (ruW 18)) (hg : i.regs <= 9223372036854775807) : PureF gT 177 [inP i] (.int .u32 ((orF i (fieldsV 18) : Nat) : Int)):=by
 obtain ⟨hf,h1,h2,h3,h4,h5,h6,h7,h8,h9,h10⟩:=hr
 have g0:=has_3 (r:=i.rd) h1
 have g1:=has_3 (r:=i.rn) h2
 have g2:=has_0 (r:=i.rm) h3
 have g3:=has_0 (r:=i.ra) h4
 have g4 : 0 <= i.imm /\ i.imm <= 4095 /\ i.imm % 1 = 0:=sp_s (s:=1) (by decide) h7
 have g5 : i.kind = 0:=(sh_0 rfl h9).1
 have g6 : i.by_ = 0:=sp_0 (sh_0 rfl h9).2
 have g7 : i.set = 0 \/ i.set = 1:=h8.imp id fun e=>e.1
 have g8 : i.cond = 0:=h6.elim id fun e=>absurd (show false = true from e.1) Bool.false_ne_true
 clear h1 h2 h3 h4 h5 h6 h7 h8 h9 h10
 refine Spec.enter gTok P177 100 Tryz.func177 rfl (by kernel_rfl) ?_
 refine .inl ⟨inR_u32 (by omega),?_⟩
 refine .inl ⟨inR_u32 (by omega),?_⟩
 refine ⟨[],no_rl,(pshapeLit hs).use (And.intro rfl trivial) rfl rfl ?_⟩
 refine ⟨[],no_rl,(plain_pure i (by omega) (by omega) (by omega) (by omega) (by omega)).use (by repeat' first|exact trivial|exact rfl|exact Iff.rfl|refine And.intro ?_ ?_) rfl rfl ?_⟩
 refine ⟨[],no_rl,(twelve_pure i.imm (by unfold U32; omega)).use (And.intro rfl trivial) rfl rfl ?_⟩
 refine retE ?_
 have eo : orF i (fieldsV 18) = 0 ||| B i.imm 11 1 26 ||| B i.imm 8 3 12 ||| B i.imm 0 8 0 ||| B i.set 0 1 20 ||| B i.rn 0 4 16 ||| B i.rd 0 4 8:=rfl
 have z12 : B i.imm 12 4 16 = 0:=B_zero (by unfold bitsV; split <;> omega)
 rw [eo]
 refine (show bits .or .u32 (((B i.set 0 1 20 ||| B i.rn 0 4 16 ||| B i.ra 0 4 12 ||| B i.rd 0 4 8 ||| B i.rm 0 4 0 : Nat) : Int)) (((B i.imm 11 1 26 ||| B i.imm 12 4 16 ||| B i.imm 8 3 12 ||| B i.imm 0 8 0 : Nat) : Int)) = _ from ?_)
 refine ((((isPlain i)).or (isTwelve i.imm))).1.trans (congrArg (fun n : Nat=>(n : Int)) ?_)
 first
 | (simp only [B_0 g2,B_0 g3,z12,Nat.or_zero,Nat.zero_or]; done)
 | (simp only [B_0 g2,B_0 g3,z12,Nat.or_zero,Nat.zero_or]
    generalize B i.imm 11 1 26 = n0
    generalize B i.imm 8 3 12 = n1
    generalize B i.imm 0 8 0 = n2
    generalize B i.set 0 1 20 = n3
    generalize B i.rn 0 4 16 = n4
    generalize B i.rd 0 4 8 = n5
    ac_rfl)
set_option maxHeartbeats 8000000 in
set_option maxRecDepth 100000 in
theorem wide_19 (i : IN) (hs : shapeV i.form = 19) (hr : rightR i (ruW 19)) (hg : i.regs <= 9223372036854775807) : PureF gT 177 [inP i] (.int .u32 ((orF i (fieldsV 19) : Nat) : Int)):=by
 obtain ⟨hf,h1,h2,h3,h4,h5,h6,h7,h8,h9,h10⟩:=hr
 have g0:=has_3 (r:=i.rd) h1
 have g1:=has_0 (r:=i.rn) h2
 have g2:=has_0 (r:=i.rm) h3
 have g3:=has_0 (r:=i.ra) h4
 have g4 : 0 <= i.imm /\ i.imm <= 4095 /\ i.imm % 1 = 0:=sp_s (s:=1) (by decide) h7
 have g5 : i.kind = 0:=(sh_0 rfl h9).1
 have g6 : i.by_ = 0:=sp_0 (sh_0 rfl h9).2
 have g7 : i.set = 0 \/ i.set = 1:=h8.imp id fun e=>e.1
 have g8 : i.cond = 0:=h6.elim id fun e=>absurd (show false = true from e.1) Bool.false_ne_true
 clear h1 h2 h3 h4 h5 h6 h7 h8 h9 h10
 refine Spec.enter gTok P177 100 Tryz.func177 rfl (by kernel_rfl) ?_
 refine .inl ⟨inR_u32 (by omega),?_⟩
 refine .inl ⟨inR_u32 (by omega),?_⟩
 refine ⟨[],no_rl,(pshapeLit hs).use (And.intro rfl trivial) rfl rfl ?_⟩
 refine ⟨[],no_rl,(plain_pure i (by omega) (by omega) (by omega) (by omega) (by omega)).use (by repeat' first|exact trivial|exact rfl|exact Iff.rfl|refine And.intro ?_ ?_) rfl rfl ?_⟩
 refine ⟨[],no_rl,(twelve_pure i.imm (by unfold U32; omega)).use (And.intro rfl trivial) rfl rfl ?_⟩
 refine retE ?_
 have eo : orF i (fieldsV 19) = 0 ||| B i.imm 11 1 26 ||| B i.imm 8 3 12 ||| B i.imm 0 8 0 ||| B i.set 0 1 20 ||| B i.rd 0 4 8:=rfl
 have z12 : B i.imm 12 4 16 = 0:=B_zero (by unfold bitsV; split <;> omega)
 rw [eo]
 refine (show bits .or .u32 (((B i.set 0 1 20 ||| B i.rn 0 4 16 ||| B i.ra 0 4 12 ||| B i.rd 0 4 8 ||| B i.rm 0 4 0 : Nat) : Int)) (((B i.imm 11 1 26 ||| B i.imm 12 4 16 ||| B i.imm 8 3 12 ||| B i.imm 0 8 0 : Nat) : Int)) = _ from ?_)
 refine ((((isPlain i)).or (isTwelve i.imm))).1.trans (congrArg (fun n : Nat=>(n : Int)) ?_)
 first
 | (simp only [B_0 g1,B_0 g2,B_0 g3,z12,Nat.or_zero,Nat.zero_or]; done)
 | (simp only [B_0 g1,B_0 g2,B_0 g3,z12,Nat.or_zero,Nat.zero_or]
    generalize B i.imm 11 1 26 = n0
    generalize B i.imm 8 3 12 = n1
    generalize B i.imm 0 8 0 = n2
    generalize B i.set 0 1 20 = n3
    generalize B i.rd 0 4 8 = n4
    ac_rfl)
set_option maxHeartbeats 8000000 in
set_option maxRecDepth 100000 in
theorem wide_20 (i : IN) (hs : shapeV i.form = 20) (hr : rightR i (ruW 20)) (hg : i.regs <= 9223372036854775807) : PureF gT 177 [inP i] (.int .u32 ((orF i (fieldsV 20) : Nat) : Int)):=by
 obtain ⟨hf,h1,h2,h3,h4,h5,h6,h7,h8,h9,h10⟩:=hr
 have g0:=has_0 (r:=i.rd) h1
 have g1:=has_3 (r:=i.rn) h2
 have g2:=has_0 (r:=i.rm) h3
 have g3:=has_0 (r:=i.ra) h4
 have g4 : 0 <= i.imm /\ i.imm <= 4095 /\ i.imm % 1 = 0:=sp_s (s:=1) (by decide) h7
 have g5 : i.kind = 0:=(sh_0 rfl h9).1
 have g6 : i.by_ = 0:=sp_0 (sh_0 rfl h9).2
 have g7 : i.set = 0:=h8.elim id fun e=>absurd (show false = true from e.2) Bool.false_ne_true
 have g8 : i.cond = 0:=h6.elim id fun e=>absurd (show false = true from e.1) Bool.false_ne_true
 clear h1 h2 h3 h4 h5 h6 h7 h8 h9 h10
 refine Spec.enter gTok P177 100 Tryz.func177 rfl (by kernel_rfl) ?_
 refine .inl ⟨inR_u32 (by omega),?_⟩
 refine .inl ⟨inR_u32 (by omega),?_⟩
 refine ⟨[],no_rl,(pshapeLit hs).use (And.intro rfl trivial) rfl rfl ?_⟩
 refine ⟨[],no_rl,(plain_pure i (by omega) (by omega) (by omega) (by omega) (by omega)).use (by repeat' first|exact trivial|exact rfl|exact Iff.rfl|refine And.intro ?_ ?_) rfl rfl ?_⟩
 refine ⟨[],no_rl,(twelve_pure i.imm (by unfold U32; omega)).use (And.intro rfl trivial) rfl rfl ?_⟩
 refine retE ?_
 have eo : orF i (fieldsV 20) = 0 ||| B i.imm 11 1 26 ||| B i.imm 8 3 12 ||| B i.imm 0 8 0 ||| B i.rn 0 4 16:=rfl
 have z12 : B i.imm 12 4 16 = 0:=B_zero (by unfold bitsV; split <;> omega)
 rw [eo]
 refine (show bits .or .u32 (((B i.set 0 1 20 ||| B i.rn 0 4 16 ||| B i.ra 0 4 12 ||| B i.rd 0 4 8 ||| B i.rm 0 4 0 : Nat) : Int)) (((B i.imm 11 1 26 ||| B i.imm 12 4 16 ||| B i.imm 8 3 12 ||| B i.imm 0 8 0 : Nat) : Int)) = _ from ?_)
 refine ((((isPlain i)).or (isTwelve i.imm))).1.trans (congrArg (fun n : Nat=>(n : Int)) ?_)
 first
 | (simp only [B_0 g0,B_0 g2,B_0 g3,B_0 g7,z12,Nat.or_zero,Nat.zero_or]; done)
 | (simp only [B_0 g0,B_0 g2,B_0 g3,B_0 g7,z12,Nat.or_zero,Nat.zero_or]
    generalize B i.imm 11 1 26 = n0
    generalize B i.imm 8 3 12 = n1
    generalize B i.imm 0 8 0 = n2
    generalize B i.rn 0 4 16 = n3
    ac_rfl)
set_option maxHeartbeats 8000000 in
set_option maxRecDepth 100000 in
theorem wide_21 (i : IN) (hs : shapeV i.form = 21) (hr : rightR i (ruW 21)) (hg : i.regs <= 9223372036854775807) : PureF gT 177 [inP i] (.int .u32 ((orF i (fieldsV 21) : Nat) : Int)):=by
 obtain ⟨hf,h1,h2,h3,h4,h5,h6,h7,h8,h9,h10⟩:=hr
 have g0:=has_3 (r:=i.rd) h1
 have g1:=has_3 (r:=i.rn) h2
 have g2:=has_3 (r:=i.rm) h3
 have g3:=has_0 (r:=i.ra) h4
 have g4 : i.imm = 0:=sp_0 h7
 have g6 : barrelV i.kind i.by_:=sh_1 rfl h9
 have g5:=kind_bd g6
 have g6b : 0 <= i.by_ /\ i.by_ <= 32:=by unfold barrelV at g6; omega
 have g7 : i.set = 0 \/ i.set = 1:=h8.imp id fun e=>e.1
 have g8 : i.cond = 0:=h6.elim id fun e=>absurd (show false = true from e.1) Bool.false_ne_true
 clear h1 h2 h3 h4 h5 h6 h7 h8 h9 h10
 have b0:=bitsV_bd i.by_ 2 3
 have b1:=bitsV_bd i.by_ 0 2
 refine Spec.enter gTok P177 100 Tryz.func177 rfl (by kernel_rfl) ?_
 refine .inl ⟨inR_u32 (by omega),?_⟩
 refine .inl ⟨inR_u32 (by omega),?_⟩
 refine ⟨[],no_rl,(pshapeLit hs).use (And.intro rfl trivial) rfl rfl ?_⟩
 refine .inl ⟨inR_u32 (by omega),?_⟩
 refine ⟨by decide,.inl ⟨inR_u32 (by rw [r4]; omega),?_⟩⟩
 refine ⟨[],no_rl,(plain_pure i (by omega) (by omega) (by omega) (by omega) (by omega)).use (by repeat' first|exact trivial|exact rfl|exact Iff.rfl|refine And.intro ?_ ?_) rfl rfl ?_⟩
 repeat (first
  | (refine ⟨[],no_rl,(cutB i.by_ 2 3 (by unfold U32; omega) (by decide) (by decide)).use (And.intro rfl (And.intro rfl (And.intro rfl trivial))) rfl rfl ?_⟩)
  | (refine ⟨by decide,.inl ⟨inR_u32 (by rw [r12]; omega),?_⟩⟩)
  | (refine ⟨[],no_rl,(cutB i.by_ 0 2 (by unfold U32; omega) (by decide) (by decide)).use (And.intro rfl (And.intro rfl (And.intro rfl trivial))) rfl rfl ?_⟩)
  | (refine ⟨by decide,.inl ⟨inR_u32 (by rw [r6]; omega),?_⟩⟩)
  | (refine .inl ⟨inR_u32 (by omega),?_⟩)
  | (refine ⟨by decide,.inl ⟨inR_u32 (by rw [r4]; omega),?_⟩⟩))
 refine retE ?_
 have eo : orF i (fieldsV 21) = 0 ||| B i.by_ 2 3 12 ||| B i.by_ 0 2 6 ||| B i.kind 0 2 4 ||| B i.set 0 1 20 ||| B i.rn 0 4 16 ||| B i.rd 0 4 8 ||| B i.rm 0 4 0:=rfl
 rw [eo]
 refine (show bits .or .u32 (bits .or .u32 (bits .or .u32 (((B i.set 0 1 20 ||| B i.rn 0 4 16 ||| B i.ra 0 4 12 ||| B i.rd 0 4 8 ||| B i.rm 0 4 0 : Nat) : Int)) (bitsV i.by_ 2 3 * Ev.pow2 .u32 12)) (bitsV i.by_ 0 2 * Ev.pow2 .u32 6)) (i.kind * Ev.pow2 .u32 4) = _ from ?_)
 refine ((((((((isPlain i)).or (isB i.by_ 2 3 12 (by decide) (by decide)))).or (isB i.by_ 0 2 6 (by decide) (by decide)))).or (isR i.kind 2 4 (by decide) (by decide) (by omega)))).1.trans (congrArg (fun n : Nat=>(n : Int)) ?_)
 first
 | (simp only [B_0 g3,Nat.or_zero,Nat.zero_or]; done)
 | (simp only [B_0 g3,Nat.or_zero,Nat.zero_or]
    generalize B i.by_ 2 3 12 = n0
    generalize B i.by_ 0 2 6 = n1
    generalize B i.kind 0 2 4 = n2
    generalize B i.set 0 1 20 = n3
    generalize B i.rn 0 4 16 = n4
    generalize B i.rd 0 4 8 = n5
    generalize B i.rm 0 4 0 = n6
    ac_rfl)
set_option maxHeartbeats 8000000 in
set_option maxRecDepth 100000 in
theorem wide_22 (i : IN) (hs : shapeV i.form = 22) (hr : rightR i (ruW 22)) (hg : i.regs <= 9223372036854775807) : PureF gT 177 [inP i] (.int .u32 ((orF i (fieldsV 22) : Nat) : Int)):=by
 obtain ⟨hf,h1,h2,h3,h4,h5,h6,h7,h8,h9,h10⟩:=hr
 have g0:=has_3 (r:=i.rd) h1
 have g1:=has_0 (r:=i.rn) h2
 have g2:=has_3 (r:=i.rm) h3
 have g3:=has_0 (r:=i.ra) h4
 have g4 : i.imm = 0:=sp_0 h7
 have g6 : barrelV i.kind i.by_:=sh_1 rfl h9
 have g5:=kind_bd g6
 have g6b : 0 <= i.by_ /\ i.by_ <= 32:=by unfold barrelV at g6; omega
 have g7 : i.set = 0 \/ i.set = 1:=h8.imp id fun e=>e.1
 have g8 : i.cond = 0:=h6.elim id fun e=>absurd (show false = true from e.1) Bool.false_ne_true
 clear h1 h2 h3 h4 h5 h6 h7 h8 h9 h10
 have b0:=bitsV_bd i.by_ 2 3
 have b1:=bitsV_bd i.by_ 0 2
 refine Spec.enter gTok P177 100 Tryz.func177 rfl (by kernel_rfl) ?_
 refine .inl ⟨inR_u32 (by omega),?_⟩
 refine .inl ⟨inR_u32 (by omega),?_⟩
 refine ⟨[],no_rl,(pshapeLit hs).use (And.intro rfl trivial) rfl rfl ?_⟩
 refine .inl ⟨inR_u32 (by omega),?_⟩
 refine ⟨by decide,.inl ⟨inR_u32 (by rw [r4]; omega),?_⟩⟩
 refine ⟨[],no_rl,(plain_pure i (by omega) (by omega) (by omega) (by omega) (by omega)).use (by repeat' first|exact trivial|exact rfl|exact Iff.rfl|refine And.intro ?_ ?_) rfl rfl ?_⟩
 repeat (first
  | (refine ⟨[],no_rl,(cutB i.by_ 2 3 (by unfold U32; omega) (by decide) (by decide)).use (And.intro rfl (And.intro rfl (And.intro rfl trivial))) rfl rfl ?_⟩)
  | (refine ⟨by decide,.inl ⟨inR_u32 (by rw [r12]; omega),?_⟩⟩)
  | (refine ⟨[],no_rl,(cutB i.by_ 0 2 (by unfold U32; omega) (by decide) (by decide)).use (And.intro rfl (And.intro rfl (And.intro rfl trivial))) rfl rfl ?_⟩)
  | (refine ⟨by decide,.inl ⟨inR_u32 (by rw [r6]; omega),?_⟩⟩)
  | (refine .inl ⟨inR_u32 (by omega),?_⟩)
  | (refine ⟨by decide,.inl ⟨inR_u32 (by rw [r4]; omega),?_⟩⟩))
 refine retE ?_
 have eo : orF i (fieldsV 22) = 0 ||| B i.by_ 2 3 12 ||| B i.by_ 0 2 6 ||| B i.kind 0 2 4 ||| B i.set 0 1 20 ||| B i.rd 0 4 8 ||| B i.rm 0 4 0:=rfl
 rw [eo]
 refine (show bits .or .u32 (bits .or .u32 (bits .or .u32 (((B i.set 0 1 20 ||| B i.rn 0 4 16 ||| B i.ra 0 4 12 ||| B i.rd 0 4 8 ||| B i.rm 0 4 0 : Nat) : Int)) (bitsV i.by_ 2 3 * Ev.pow2 .u32 12)) (bitsV i.by_ 0 2 * Ev.pow2 .u32 6)) (i.kind * Ev.pow2 .u32 4) = _ from ?_)
 refine ((((((((isPlain i)).or (isB i.by_ 2 3 12 (by decide) (by decide)))).or (isB i.by_ 0 2 6 (by decide) (by decide)))).or (isR i.kind 2 4 (by decide) (by decide) (by omega)))).1.trans (congrArg (fun n : Nat=>(n : Int)) ?_)
 first
 | (simp only [B_0 g1,B_0 g3,Nat.or_zero,Nat.zero_or]; done)
 | (simp only [B_0 g1,B_0 g3,Nat.or_zero,Nat.zero_or]
    generalize B i.by_ 2 3 12 = n0
    generalize B i.by_ 0 2 6 = n1
    generalize B i.kind 0 2 4 = n2
    generalize B i.set 0 1 20 = n3
    generalize B i.rd 0 4 8 = n4
    generalize B i.rm 0 4 0 = n5
    ac_rfl)
set_option maxHeartbeats 8000000 in
set_option maxRecDepth 100000 in
theorem wide_23 (i : IN) (hs : shapeV i.form = 23) (hr : rightR i (ruW 23)) (hg : i.regs <= 9223372036854775807) : PureF gT 177 [inP i] (.int .u32 ((orF i (fieldsV 23) : Nat) : Int)):=by
 obtain ⟨hf,h1,h2,h3,h4,h5,h6,h7,h8,h9,h10⟩:=hr
 have g0:=has_0 (r:=i.rd) h1
 have g1:=has_3 (r:=i.rn) h2
 have g2:=has_3 (r:=i.rm) h3
 have g3:=has_0 (r:=i.ra) h4
 have g4 : i.imm = 0:=sp_0 h7
 have g6 : barrelV i.kind i.by_:=sh_1 rfl h9
 have g5:=kind_bd g6
 have g6b : 0 <= i.by_ /\ i.by_ <= 32:=by unfold barrelV at g6; omega
 have g7 : i.set = 0:=h8.elim id fun e=>absurd (show false = true from e.2) Bool.false_ne_true
 have g8 : i.cond = 0:=h6.elim id fun e=>absurd (show false = true from e.1) Bool.false_ne_true
 clear h1 h2 h3 h4 h5 h6 h7 h8 h9 h10
 have b0:=bitsV_bd i.by_ 2 3
 have b1:=bitsV_bd i.by_ 0 2
 refine Spec.enter gTok P177 100 Tryz.func177 rfl (by kernel_rfl) ?_
 refine .inl ⟨inR_u32 (by omega),?_⟩
 refine .inl ⟨inR_u32 (by omega),?_⟩
 refine ⟨[],no_rl,(pshapeLit hs).use (And.intro rfl trivial) rfl rfl ?_⟩
 refine .inl ⟨inR_u32 (by omega),?_⟩
 refine ⟨by decide,.inl ⟨inR_u32 (by rw [r4]; omega),?_⟩⟩
 refine ⟨[],no_rl,(plain_pure i (by omega) (by omega) (by omega) (by omega) (by omega)).use (by repeat' first|exact trivial|exact rfl|exact Iff.rfl|refine And.intro ?_ ?_) rfl rfl ?_⟩
 repeat (first
  | (refine ⟨[],no_rl,(cutB i.by_ 2 3 (by unfold U32; omega) (by decide) (by decide)).use (And.intro rfl (And.intro rfl (And.intro rfl trivial))) rfl rfl ?_⟩)
  | (refine ⟨by decide,.inl ⟨inR_u32 (by rw [r12]; omega),?_⟩⟩)
  | (refine ⟨[],no_rl,(cutB i.by_ 0 2 (by unfold U32; omega) (by decide) (by decide)).use (And.intro rfl (And.intro rfl (And.intro rfl trivial))) rfl rfl ?_⟩)
  | (refine ⟨by decide,.inl ⟨inR_u32 (by rw [r6]; omega),?_⟩⟩)
  | (refine .inl ⟨inR_u32 (by omega),?_⟩)
  | (refine ⟨by decide,.inl ⟨inR_u32 (by rw [r4]; omega),?_⟩⟩))
 refine retE ?_
 have eo : orF i (fieldsV 23) = 0 ||| B i.by_ 2 3 12 ||| B i.by_ 0 2 6 ||| B i.kind 0 2 4 ||| B i.rn 0 4 16 ||| B i.rm 0 4 0:=rfl
 rw [eo]
 refine (show bits .or .u32 (bits .or .u32 (bits .or .u32 (((B i.set 0 1 20 ||| B i.rn 0 4 16 ||| B i.ra 0 4 12 ||| B i.rd 0 4 8 ||| B i.rm 0 4 0 : Nat) : Int)) (bitsV i.by_ 2 3 * Ev.pow2 .u32 12)) (bitsV i.by_ 0 2 * Ev.pow2 .u32 6)) (i.kind * Ev.pow2 .u32 4) = _ from ?_)
 refine ((((((((isPlain i)).or (isB i.by_ 2 3 12 (by decide) (by decide)))).or (isB i.by_ 0 2 6 (by decide) (by decide)))).or (isR i.kind 2 4 (by decide) (by decide) (by omega)))).1.trans (congrArg (fun n : Nat=>(n : Int)) ?_)
 first
 | (simp only [B_0 g0,B_0 g3,B_0 g7,Nat.or_zero,Nat.zero_or]; done)
 | (simp only [B_0 g0,B_0 g3,B_0 g7,Nat.or_zero,Nat.zero_or]
    generalize B i.by_ 2 3 12 = n0
    generalize B i.by_ 0 2 6 = n1
    generalize B i.kind 0 2 4 = n2
    generalize B i.rn 0 4 16 = n3
    generalize B i.rm 0 4 0 = n4
    ac_rfl)
set_option maxHeartbeats 8000000 in
set_option maxRecDepth 100000 in
theorem wide_24 (i : IN) (hs : shapeV i.form = 24) (hr : rightR i (ruW 24)) (hg : i.regs <= 9223372036854775807) : PureF gT 177 [inP i] (.int .u32 ((orF i (fieldsV 24) : Nat) : Int)):=by
 obtain ⟨hf,h1,h2,h3,h4,h5,h6,h7,h8,h9,h10⟩:=hr
 have g0:=has_3 (r:=i.rd) h1
 have g1:=has_3 (r:=i.rn) h2
 have g2:=has_0 (r:=i.rm) h3
 have g3:=has_0 (r:=i.ra) h4
 have g4 : 0 <= i.imm /\ i.imm <= 4095 /\ i.imm % 1 = 0:=sp_s (s:=1) (by decide) h7
 have g5 : i.kind = 0:=(sh_0 rfl h9).1
 have g6 : i.by_ = 0:=sp_0 (sh_0 rfl h9).2
 have g7 : i.set = 0:=h8.elim id fun e=>absurd (show false = true from e.2) Bool.false_ne_true
 have g8 : i.cond = 0:=h6.elim id fun e=>absurd (show false = true from e.1) Bool.false_ne_true
 clear h1 h2 h3 h4 h5 h6 h7 h8 h9 h10
 refine Spec.enter gTok P177 100 Tryz.func177 rfl (by kernel_rfl) ?_
 refine .inl ⟨inR_u32 (by omega),?_⟩
 refine .inl ⟨inR_u32 (by omega),?_⟩
 refine ⟨[],no_rl,(pshapeLit hs).use (And.intro rfl trivial) rfl rfl ?_⟩
 refine ⟨[],no_rl,(plain_pure i (by omega) (by omega) (by omega) (by omega) (by omega)).use (by repeat' first|exact trivial|exact rfl|exact Iff.rfl|refine And.intro ?_ ?_) rfl rfl ?_⟩
 refine ⟨[],no_rl,(twelve_pure i.imm (by unfold U32; omega)).use (And.intro rfl trivial) rfl rfl ?_⟩
 refine retE ?_
 have eo : orF i (fieldsV 24) = 0 ||| B i.imm 11 1 26 ||| B i.imm 8 3 12 ||| B i.imm 0 8 0 ||| B i.rn 0 4 16 ||| B i.rd 0 4 8:=rfl
 have z12 : B i.imm 12 4 16 = 0:=B_zero (by unfold bitsV; split <;> omega)
 rw [eo]
 refine (show bits .or .u32 (((B i.set 0 1 20 ||| B i.rn 0 4 16 ||| B i.ra 0 4 12 ||| B i.rd 0 4 8 ||| B i.rm 0 4 0 : Nat) : Int)) (((B i.imm 11 1 26 ||| B i.imm 12 4 16 ||| B i.imm 8 3 12 ||| B i.imm 0 8 0 : Nat) : Int)) = _ from ?_)
 refine ((((isPlain i)).or (isTwelve i.imm))).1.trans (congrArg (fun n : Nat=>(n : Int)) ?_)
 first
 | (simp only [B_0 g2,B_0 g3,B_0 g7,z12,Nat.or_zero,Nat.zero_or]; done)
 | (simp only [B_0 g2,B_0 g3,B_0 g7,z12,Nat.or_zero,Nat.zero_or]
    generalize B i.imm 11 1 26 = n0
    generalize B i.imm 8 3 12 = n1
    generalize B i.imm 0 8 0 = n2
    generalize B i.rn 0 4 16 = n3
    generalize B i.rd 0 4 8 = n4
    ac_rfl)
set_option maxHeartbeats 8000000 in
set_option maxRecDepth 100000 in
theorem wide_25 (i : IN) (hs : shapeV i.form = 25) (hr : rightR i (ruW 25)) (hg : i.regs <= 9223372036854775807) : PureF gT 177 [inP i] (.int .u32 ((orF i (fieldsV 25) : Nat) : Int)):=by
 obtain ⟨hf,h1,h2,h3,h4,h5,h6,h7,h8,h9,h10⟩:=hr
 have g0:=has_3 (r:=i.rd) h1
 have g1:=has_2 (r:=i.rn) h2
 have g2:=has_0 (r:=i.rm) h3
 have g3:=has_0 (r:=i.ra) h4
 have g4 : 0 <= i.imm /\ i.imm <= 4095 /\ i.imm % 1 = 0:=sp_s (s:=1) (by decide) h7
 have g5 : i.kind = 0:=(sh_0 rfl h9).1
 have g6 : i.by_ = 0:=sp_0 (sh_0 rfl h9).2
 have g7 : i.set = 0:=h8.elim id fun e=>absurd (show false = true from e.2) Bool.false_ne_true
 have g8 : i.cond = 0:=h6.elim id fun e=>absurd (show false = true from e.1) Bool.false_ne_true
 clear h1 h2 h3 h4 h5 h6 h7 h8 h9 h10
 refine Spec.enter gTok P177 100 Tryz.func177 rfl (by kernel_rfl) ?_
 refine .inl ⟨inR_u32 (by omega),?_⟩
 refine .inl ⟨inR_u32 (by omega),?_⟩
 refine ⟨[],no_rl,(pshapeLit hs).use (And.intro rfl trivial) rfl rfl ?_⟩
 refine .inl ⟨inR_u32 (by omega),?_⟩
 refine ⟨by decide,.inl ⟨inR_u32 (by rw [r16]; omega),?_⟩⟩
 refine .inl ⟨inR_u32 (by omega),?_⟩
 refine ⟨by decide,.inl ⟨inR_u32 (by rw [r12]; omega),?_⟩⟩
 refine retE ?_
 have eo : orF i (fieldsV 25) = 0 ||| B i.rn 0 4 16 ||| B i.rd 0 4 12 ||| B i.imm 0 12 0:=rfl
 rw [eo]
 refine (show bits .or .u32 (bits .or .u32 (i.rn * Ev.pow2 .u32 16) (i.rd * Ev.pow2 .u32 12)) (i.imm) = _ from ?_)
 refine ((((((isR i.rn 4 16 (by decide) (by decide) (by omega))).or (isR i.rd 4 12 (by decide) (by decide) (by omega)))).or (isR0 i.imm 12 (by decide) (by omega)))).1.trans (congrArg (fun n : Nat=>(n : Int)) ?_)
 first
 | (simp only [Nat.or_zero,Nat.zero_or]; done)
 | (simp only [Nat.or_zero,Nat.zero_or]
    generalize B i.rn 0 4 16 = n0
    generalize B i.rd 0 4 12 = n1
    generalize B i.imm 0 12 0 = n2
    ac_rfl)
set_option maxHeartbeats 8000000 in
set_option maxRecDepth 100000 in
theorem wide_26 (i : IN) (hs : shapeV i.form = 26) (hr : rightR i (ruW 26)) (hg : i.regs <= 9223372036854775807) : PureF gT 177 [inP i] (.int .u32 ((orF i (fieldsV 26) : Nat) : Int)):=by
 obtain ⟨hf,h1,h2,h3,h4,h5,h6,h7,h8,h9,h10⟩:=hr
 have g0:=has_3 (r:=i.rd) h1
 have g1:=has_2 (r:=i.rn) h2
 have g2:=has_3 (r:=i.rm) h3
 have g3:=has_0 (r:=i.ra) h4
 have g4 : i.imm = 0:=sp_0 h7
 have g5 : i.kind = 0:=(sh_0 rfl h9).1
 have g6 : 0 <= i.by_ /\ i.by_ <= 3 /\ i.by_ % 1 = 0:=sp_s (s:=1) (by decide) (sh_0 rfl h9).2
 have g7 : i.set = 0:=h8.elim id fun e=>absurd (show false = true from e.2) Bool.false_ne_true
 have g8 : i.cond = 0:=h6.elim id fun e=>absurd (show false = true from e.1) Bool.false_ne_true
 clear h1 h2 h3 h4 h5 h6 h7 h8 h9 h10
 refine Spec.enter gTok P177 100 Tryz.func177 rfl (by kernel_rfl) ?_
 refine .inl ⟨inR_u32 (by omega),?_⟩
 refine .inl ⟨inR_u32 (by omega),?_⟩
 refine ⟨[],no_rl,(pshapeLit hs).use (And.intro rfl trivial) rfl rfl ?_⟩
 refine .inl ⟨inR_u32 (by omega),?_⟩
 refine ⟨by decide,.inl ⟨inR_u32 (by rw [r16]; omega),?_⟩⟩
 refine .inl ⟨inR_u32 (by omega),?_⟩
 refine ⟨by decide,.inl ⟨inR_u32 (by rw [r12]; omega),?_⟩⟩
 refine ⟨by decide,.inl ⟨inR_u32 (by rw [r4]; omega),?_⟩⟩
 refine .inl ⟨inR_u32 (by omega),?_⟩
 refine retE ?_
 have eo : orF i (fieldsV 26) = 0 ||| B i.rn 0 4 16 ||| B i.rd 0 4 12 ||| B i.by_ 0 2 4 ||| B i.rm 0 4 0:=rfl
 rw [eo]
 refine (show bits .or .u32 (bits .or .u32 (bits .or .u32 (i.rn * Ev.pow2 .u32 16) (i.rd * Ev.pow2 .u32 12)) (i.by_ * Ev.pow2 .u32 4)) (i.rm) = _ from ?_)
 refine ((((((((isR i.rn 4 16 (by decide) (by decide) (by omega))).or (isR i.rd 4 12 (by decide) (by decide) (by omega)))).or (isR i.by_ 2 4 (by decide) (by decide) (by omega)))).or (isR0 i.rm 4 (by decide) (by omega)))).1.trans (congrArg (fun n : Nat=>(n : Int)) ?_)
 first
 | (simp only [Nat.or_zero,Nat.zero_or]; done)
 | (simp only [Nat.or_zero,Nat.zero_or]
    generalize B i.rn 0 4 16 = n0
    generalize B i.rd 0 4 12 = n1
    generalize B i.by_ 0 2 4 = n2
    generalize B i.rm 0 4 0 = n3
    ac_rfl)
set_option maxHeartbeats 8000000 in
set_option maxRecDepth 100000 in
theorem wide_27 (i : IN) (hs : shapeV i.form = 27) (hr : rightR i (ruW 27)) (hg : i.regs <= 9223372036854775807) : PureF gT 177 [inP i] (.int .u32 ((orF i (fieldsV 27) : Nat) : Int)):=by
 obtain ⟨hf,h1,h2,h3,h4,h5,h6,h7,h8,h9,h10⟩:=hr
 have g0:=has_3 (r:=i.rd) h1
 have g1:=has_3 (r:=i.rn) h2
 have g2:=has_3 (r:=i.rm) h3
 have g3:=has_0 (r:=i.ra) h4
 have g4 : i.imm = 0:=sp_0 h7
 have g5 : i.kind = 0:=(sh_0 rfl h9).1
 have g6 : i.by_ = 0:=sp_0 (sh_0 rfl h9).2
 have g7 : i.set = 0 \/ i.set = 1:=h8.imp id fun e=>e.1
 have g8 : i.cond = 0:=h6.elim id fun e=>absurd (show false = true from e.1) Bool.false_ne_true
 clear h1 h2 h3 h4 h5 h6 h7 h8 h9 h10
 refine Spec.enter gTok P177 100 Tryz.func177 rfl (by kernel_rfl) ?_
 refine .inl ⟨inR_u32 (by omega),?_⟩
 refine .inl ⟨inR_u32 (by omega),?_⟩
 refine ⟨[],no_rl,(pshapeLit hs).use (And.intro rfl trivial) rfl rfl ?_⟩
 refine ⟨[],no_rl,(plain_pure i (by omega) (by omega) (by omega) (by omega) (by omega)).use (by repeat' first|exact trivial|exact rfl|exact Iff.rfl|refine And.intro ?_ ?_) rfl rfl ?_⟩
 refine retE ?_
 have eo : orF i (fieldsV 27) = 0 ||| B i.set 0 1 20 ||| B i.rn 0 4 16 ||| B i.rd 0 4 8 ||| B i.rm 0 4 0:=rfl
 rw [eo]
 refine (show ((B i.set 0 1 20 ||| B i.rn 0 4 16 ||| B i.ra 0 4 12 ||| B i.rd 0 4 8 ||| B i.rm 0 4 0 : Nat) : Int) = _ from ?_)
 refine ((isPlain i)).1.trans (congrArg (fun n : Nat=>(n : Int)) ?_)
 first
 | (simp only [B_0 g3,Nat.or_zero,Nat.zero_or]; done)
 | (simp only [B_0 g3,Nat.or_zero,Nat.zero_or]
    generalize B i.set 0 1 20 = n0
    generalize B i.rn 0 4 16 = n1
    generalize B i.rd 0 4 8 = n2
    generalize B i.rm 0 4 0 = n3
    ac_rfl)
set_option maxHeartbeats 8000000 in
set_option maxRecDepth 100000 in
theorem wide_28 (i : IN) (hs : shapeV i.form = 28) (hr : rightR i (ruW 28)) (hg : i.regs <= 9223372036854775807) : PureF gT 177 [inP i] (.int .u32 ((orF i (fieldsV 28) : Nat) : Int)):=by
 obtain ⟨hf,h1,h2,h3,h4,h5,h6,h7,h8,h9,h10⟩:=hr
 have g0:=has_3 (r:=i.rd) h1
 have g1:=has_3 (r:=i.rn) h2
 have g2:=has_3 (r:=i.rm) h3
 have g3:=has_0 (r:=i.ra) h4
 have g4 : i.imm = 0:=sp_0 h7
 have g5 : i.kind = 0:=(sh_0 rfl h9).1
 have g6 : i.by_ = 0:=sp_0 (sh_0 rfl h9).2
 have g7 : i.set = 0:=h8.elim id fun e=>absurd (show false = true from e.2) Bool.false_ne_true
 have g8 : i.cond = 0:=h6.elim id fun e=>absurd (show false = true from e.1) Bool.false_ne_true
 clear h1 h2 h3 h4 h5 h6 h7 h8 h9 h10
 refine Spec.enter gTok P177 100 Tryz.func177 rfl (by kernel_rfl) ?_
 refine .inl ⟨inR_u32 (by omega),?_⟩
 refine .inl ⟨inR_u32 (by omega),?_⟩
 refine ⟨[],no_rl,(pshapeLit hs).use (And.intro rfl trivial) rfl rfl ?_⟩
 refine ⟨[],no_rl,(plain_pure i (by omega) (by omega) (by omega) (by omega) (by omega)).use (by repeat' first|exact trivial|exact rfl|exact Iff.rfl|refine And.intro ?_ ?_) rfl rfl ?_⟩
 refine retE ?_
 have eo : orF i (fieldsV 28) = 0 ||| B i.rn 0 4 16 ||| B i.rd 0 4 8 ||| B i.rm 0 4 0:=rfl
 rw [eo]
 refine (show ((B i.set 0 1 20 ||| B i.rn 0 4 16 ||| B i.ra 0 4 12 ||| B i.rd 0 4 8 ||| B i.rm 0 4 0 : Nat) : Int) = _ from ?_)
 refine ((isPlain i)).1.trans (congrArg (fun n : Nat=>(n : Int)) ?_)
 first
 | (simp only [B_0 g3,B_0 g7,Nat.or_zero,Nat.zero_or]; done)
 | (simp only [B_0 g3,B_0 g7,Nat.or_zero,Nat.zero_or]
    generalize B i.rn 0 4 16 = n0
    generalize B i.rd 0 4 8 = n1
    generalize B i.rm 0 4 0 = n2
    ac_rfl)
set_option maxHeartbeats 8000000 in
set_option maxRecDepth 100000 in
theorem wide_29 (i : IN) (hs : shapeV i.form = 29) (hr : rightR i (ruW 29)) (hg : i.regs <= 9223372036854775807) : PureF gT 177 [inP i] (.int .u32 ((orF i (fieldsV 29) : Nat) : Int)):=by
 obtain ⟨hf,h1,h2,h3,h4,h5,h6,h7,h8,h9,h10⟩:=hr
 have g0:=has_3 (r:=i.rd) h1
 have g1:=has_3 (r:=i.rn) h2
 have g2:=has_3 (r:=i.rm) h3
 have g3:=has_3 (r:=i.ra) h4
 have g4 : i.imm = 0:=sp_0 h7
 have g5 : i.kind = 0:=(sh_0 rfl h9).1
 have g6 : i.by_ = 0:=sp_0 (sh_0 rfl h9).2
 have g7 : i.set = 0:=h8.elim id fun e=>absurd (show false = true from e.2) Bool.false_ne_true
 have g8 : i.cond = 0:=h6.elim id fun e=>absurd (show false = true from e.1) Bool.false_ne_true
 clear h1 h2 h3 h4 h5 h6 h7 h8 h9 h10
 refine Spec.enter gTok P177 100 Tryz.func177 rfl (by kernel_rfl) ?_
 refine .inl ⟨inR_u32 (by omega),?_⟩
 refine .inl ⟨inR_u32 (by omega),?_⟩
 refine ⟨[],no_rl,(pshapeLit hs).use (And.intro rfl trivial) rfl rfl ?_⟩
 refine ⟨[],no_rl,(plain_pure i (by omega) (by omega) (by omega) (by omega) (by omega)).use (by repeat' first|exact trivial|exact rfl|exact Iff.rfl|refine And.intro ?_ ?_) rfl rfl ?_⟩
 refine retE ?_
 have eo : orF i (fieldsV 29) = 0 ||| B i.rn 0 4 16 ||| B i.ra 0 4 12 ||| B i.rd 0 4 8 ||| B i.rm 0 4 0:=rfl
 rw [eo]
 refine (show ((B i.set 0 1 20 ||| B i.rn 0 4 16 ||| B i.ra 0 4 12 ||| B i.rd 0 4 8 ||| B i.rm 0 4 0 : Nat) : Int) = _ from ?_)
 refine ((isPlain i)).1.trans (congrArg (fun n : Nat=>(n : Int)) ?_)
 first
 | (simp only [B_0 g7,Nat.or_zero,Nat.zero_or]; done)
 | (simp only [B_0 g7,Nat.or_zero,Nat.zero_or]
    generalize B i.rn 0 4 16 = n0
    generalize B i.ra 0 4 12 = n1
    generalize B i.rd 0 4 8 = n2
    generalize B i.rm 0 4 0 = n3
    ac_rfl)
set_option maxHeartbeats 8000000 in
set_option maxRecDepth 100000 in
theorem wide_30 (i : IN) (hs : shapeV i.form = 30) (hr : rightR i (ruW 30)) (hg : i.regs <= 9223372036854775807) : PureF gT 177 [inP i] (.int .u32 ((orF i (fieldsV 30) : Nat) : Int)):=by
 obtain ⟨hf,h1,h2,h3,h4,h5,h6,h7,h8,h9,h10⟩:=hr
 have g0:=has_3 (r:=i.rd) h1
 have g1:=has_3 (r:=i.rn) h2
 have g2:=has_3 (r:=i.rm) h3
 have g3:=has_3 (r:=i.ra) h4
 have g4 : i.imm = 0:=sp_0 h7
 have g5 : i.kind = 0:=(sh_0 rfl h9).1
 have g6 : i.by_ = 0:=sp_0 (sh_0 rfl h9).2
 have g7 : i.set = 0:=h8.elim id fun e=>absurd (show false = true from e.2) Bool.false_ne_true
 have g8 : i.cond = 0:=h6.elim id fun e=>absurd (show false = true from e.1) Bool.false_ne_true
 clear h1 h2 h3 h4 h5 h6 h7 h8 h9 h10
 refine Spec.enter gTok P177 100 Tryz.func177 rfl (by kernel_rfl) ?_
 refine .inl ⟨inR_u32 (by omega),?_⟩
 refine .inl ⟨inR_u32 (by omega),?_⟩
 refine ⟨[],no_rl,(pshapeLit hs).use (And.intro rfl trivial) rfl rfl ?_⟩
 refine ⟨[],no_rl,(plain_pure i (by omega) (by omega) (by omega) (by omega) (by omega)).use (by repeat' first|exact trivial|exact rfl|exact Iff.rfl|refine And.intro ?_ ?_) rfl rfl ?_⟩
 refine retE ?_
 have eo : orF i (fieldsV 30) = 0 ||| B i.rn 0 4 16 ||| B i.ra 0 4 12 ||| B i.rd 0 4 8 ||| B i.rm 0 4 0:=rfl
 rw [eo]
 refine (show ((B i.set 0 1 20 ||| B i.rn 0 4 16 ||| B i.ra 0 4 12 ||| B i.rd 0 4 8 ||| B i.rm 0 4 0 : Nat) : Int) = _ from ?_)
 refine ((isPlain i)).1.trans (congrArg (fun n : Nat=>(n : Int)) ?_)
 first
 | (simp only [B_0 g7,Nat.or_zero,Nat.zero_or]; done)
 | (simp only [B_0 g7,Nat.or_zero,Nat.zero_or]
    generalize B i.rn 0 4 16 = n0
    generalize B i.ra 0 4 12 = n1
    generalize B i.rd 0 4 8 = n2
    generalize B i.rm 0 4 0 = n3
    ac_rfl)
set_option maxHeartbeats 8000000 in
set_option maxRecDepth 100000 in
theorem wide_31 (i : IN) (hs : shapeV i.form = 31) (hr : rightR i (ruW 31)) (hg : i.regs <= 9223372036854775807) : PureF gT 177 [inP i] (.int .u32 ((orF i (fieldsV 31) : Nat) : Int)):=by
 obtain ⟨hf,h1,h2,h3,h4,h5,h6,h7,h8,h9,h10⟩:=hr
 have g0:=has_3 (r:=i.rd) h1
 have g1:=has_3 (r:=i.rn) h2
 have g2:=has_3 (r:=i.rm) h3
 have g3:=has_3 (r:=i.ra) h4
 have g4 : i.imm = 0:=sp_0 h7
 have g5 : i.kind = 0:=(sh_0 rfl h9).1
 have g6 : i.by_ = 0:=sp_0 (sh_0 rfl h9).2
 have g7 : i.set = 0:=h8.elim id fun e=>absurd (show false = true from e.2) Bool.false_ne_true
 have g8 : i.cond = 0:=h6.elim id fun e=>absurd (show false = true from e.1) Bool.false_ne_true
 clear h1 h2 h3 h4 h5 h6 h7 h8 h9 h10
 refine Spec.enter gTok P177 100 Tryz.func177 rfl (by kernel_rfl) ?_
 refine .inl ⟨inR_u32 (by omega),?_⟩
 refine .inl ⟨inR_u32 (by omega),?_⟩
 refine ⟨[],no_rl,(pshapeLit hs).use (And.intro rfl trivial) rfl rfl ?_⟩
 refine .inl ⟨inR_u32 (by omega),?_⟩
 refine ⟨by decide,.inl ⟨inR_u32 (by rw [r16]; omega),?_⟩⟩
 refine .inl ⟨inR_u32 (by omega),?_⟩
 refine ⟨by decide,.inl ⟨inR_u32 (by rw [r12]; omega),?_⟩⟩
 refine .inl ⟨inR_u32 (by omega),?_⟩
 refine ⟨by decide,.inl ⟨inR_u32 (by rw [r8]; omega),?_⟩⟩
 refine .inl ⟨inR_u32 (by omega),?_⟩
 refine retE ?_
 have eo : orF i (fieldsV 31) = 0 ||| B i.rn 0 4 16 ||| B i.rd 0 4 12 ||| B i.ra 0 4 8 ||| B i.rm 0 4 0:=rfl
 rw [eo]
 refine (show bits .or .u32 (bits .or .u32 (bits .or .u32 (i.rn * Ev.pow2 .u32 16) (i.rd * Ev.pow2 .u32 12)) (i.ra * Ev.pow2 .u32 8)) (i.rm) = _ from ?_)
 refine ((((((((isR i.rn 4 16 (by decide) (by decide) (by omega))).or (isR i.rd 4 12 (by decide) (by decide) (by omega)))).or (isR i.ra 4 8 (by decide) (by decide) (by omega)))).or (isR0 i.rm 4 (by decide) (by omega)))).1.trans (congrArg (fun n : Nat=>(n : Int)) ?_)
 first
 | (simp only [Nat.or_zero,Nat.zero_or]; done)
 | (simp only [Nat.or_zero,Nat.zero_or]
    generalize B i.rn 0 4 16 = n0
    generalize B i.rd 0 4 12 = n1
    generalize B i.ra 0 4 8 = n2
    generalize B i.rm 0 4 0 = n3
    ac_rfl)
set_option maxHeartbeats 8000000 in
set_option maxRecDepth 100000 in
theorem wide_32 (i : IN) (hs : shapeV i.form = 32) (hr : rightR i (ruW 32)) (hg : i.regs <= 9223372036854775807) : PureF gT 177 [inP i] (.int .u32 ((orF i (fieldsV 32) : Nat) : Int)):=by
 obtain ⟨hf,h1,h2,h3,h4,h5,h6,h7,h8,h9,h10⟩:=hr
 have g0:=has_3 (r:=i.rd) h1
 have g1:=has_0 (r:=i.rn) h2
 have g2:=has_3 (r:=i.rm) h3
 have g3:=has_0 (r:=i.ra) h4
 have g4 : i.imm = 0:=sp_0 h7
 have g5 : i.kind = 0:=(sh_0 rfl h9).1
 have g6 : i.by_ = 0:=sp_0 (sh_0 rfl h9).2
 have g7 : i.set = 0:=h8.elim id fun e=>absurd (show false = true from e.2) Bool.false_ne_true
 have g8 : i.cond = 0:=h6.elim id fun e=>absurd (show false = true from e.1) Bool.false_ne_true
 clear h1 h2 h3 h4 h5 h6 h7 h8 h9 h10
 refine Spec.enter gTok P177 100 Tryz.func177 rfl (by kernel_rfl) ?_
 refine .inl ⟨inR_u32 (by omega),?_⟩
 refine .inl ⟨inR_u32 (by omega),?_⟩
 refine ⟨[],no_rl,(pshapeLit hs).use (And.intro rfl trivial) rfl rfl ?_⟩
 refine .inl ⟨inR_u32 (by omega),?_⟩
 refine ⟨by decide,.inl ⟨inR_u32 (by rw [r16]; omega),?_⟩⟩
 refine .inl ⟨inR_u32 (by omega),?_⟩
 refine ⟨by decide,.inl ⟨inR_u32 (by rw [r8]; omega),?_⟩⟩
 refine .inl ⟨inR_u32 (by omega),?_⟩
 refine retE ?_
 have eo : orF i (fieldsV 32) = 0 ||| B i.rm 0 4 16 ||| B i.rd 0 4 8 ||| B i.rm 0 4 0:=rfl
 rw [eo]
 refine (show bits .or .u32 (bits .or .u32 (i.rm * Ev.pow2 .u32 16) (i.rd * Ev.pow2 .u32 8)) (i.rm) = _ from ?_)
 refine ((((((isR i.rm 4 16 (by decide) (by decide) (by omega))).or (isR i.rd 4 8 (by decide) (by decide) (by omega)))).or (isR0 i.rm 4 (by decide) (by omega)))).1.trans (congrArg (fun n : Nat=>(n : Int)) ?_)
 first
 | (simp only [Nat.or_zero,Nat.zero_or]; done)
 | (simp only [Nat.or_zero,Nat.zero_or]
    generalize B i.rm 0 4 16 = n0
    generalize B i.rd 0 4 8 = n1
    generalize B i.rm 0 4 0 = n2
    ac_rfl)
set_option maxHeartbeats 8000000 in
set_option maxRecDepth 100000 in
theorem condWide_pure (v c : Int) (hv : -1099511627776 <= v) (hc : 0 <= c /\ c < 16) : PureF gT 199 [.int .u32 (IntKind.u32.wrap v),.int .u32 c] (.int .u32 ((B v 20 1 26 ||| B c 0 4 22 ||| B v 12 6 16 ||| B v 18 1 13 ||| B v 19 1 11 ||| B v 1 11 0 : Nat) : Int)):=by
 have b0:=bitsV_bd v 20 1
 have b1:=bitsV_bd v 12 6
 have b2:=bitsV_bd v 18 1
 have b3:=bitsV_bd v 19 1
 have b4:=bitsV_bd v 1 11
 refine Spec.enter gTok P199 100 Tryz.func199 rfl (by kernel_rfl) ?_
 refine ⟨[],no_rl,(cutW v 20 1 (by omega) (by decide) (by decide) (by decide)).use (And.intro rfl (And.intro rfl (And.intro rfl trivial))) rfl rfl ?_⟩
 refine ⟨by decide,.inl ⟨inR_u32 (by rw [r26]; omega),?_⟩⟩
 refine ⟨by decide,.inl ⟨inR_u32 (by rw [r22]; omega),?_⟩⟩
 refine ⟨[],no_rl,(cutW v 12 6 (by omega) (by decide) (by decide) (by decide)).use (And.intro rfl (And.intro rfl (And.intro rfl trivial))) rfl rfl ?_⟩
 refine ⟨by decide,.inl ⟨inR_u32 (by rw [r16]; omega),?_⟩⟩
 refine ⟨[],no_rl,(cutW v 18 1 (by omega) (by decide) (by decide) (by decide)).use (And.intro rfl (And.intro rfl (And.intro rfl trivial))) rfl rfl ?_⟩
 refine ⟨by decide,.inl ⟨inR_u32 (by rw [r13]; omega),?_⟩⟩
 refine ⟨[],no_rl,(cutW v 19 1 (by omega) (by decide) (by decide) (by decide)).use (And.intro rfl (And.intro rfl (And.intro rfl trivial))) rfl rfl ?_⟩
 refine ⟨by decide,.inl ⟨inR_u32 (by rw [r11]; omega),?_⟩⟩
 refine ⟨[],no_rl,(cutW v 1 11 (by omega) (by decide) (by decide) (by decide)).use (And.intro rfl (And.intro rfl (And.intro rfl trivial))) rfl rfl ?_⟩
 refine retE ?_
 exact (show bits .or .u32 (bits .or .u32 (bits .or .u32 (bits .or .u32 (bits .or .u32 (bitsV v 20 1 * Ev.pow2 .u32 26) (c * Ev.pow2 .u32 22)) (bitsV v 12 6 * Ev.pow2 .u32 16)) (bitsV v 18 1 * Ev.pow2 .u32 13)) (bitsV v 19 1 * Ev.pow2 .u32 11)) (bitsV v 1 11) = _ from ((((((((((((isB v 20 1 26 (by decide) (by decide))).or (isR c 4 22 (by decide) (by decide) hc))).or (isB v 12 6 16 (by decide) (by decide)))).or (isB v 18 1 13 (by decide) (by decide)))).or (isB v 19 1 11 (by decide) (by decide)))).or (isB0 v 1 11 (by decide)))).1)
set_option maxHeartbeats 8000000 in
set_option maxRecDepth 100000 in
theorem wide_33 (i : IN) (hs : shapeV i.form = 33) (hr : rightR i (ruW 33)) (hg : i.regs <= 9223372036854775807) : PureF gT 177 [inP i] (.int .u32 ((orF i (fieldsV 33) : Nat) : Int)):=by
 obtain ⟨hf,h1,h2,h3,h4,h5,h6,h7,h8,h9,h10⟩:=hr
 have g0:=has_0 (r:=i.rd) h1
 have g1:=has_0 (r:=i.rn) h2
 have g2:=has_0 (r:=i.rm) h3
 have g3:=has_0 (r:=i.ra) h4
 have g4 : -1048576 <= i.imm /\ i.imm <= 1048574 /\ i.imm % 2 = 0:=sp_s (s:=2) (by decide) h7
 have g5 : i.kind = 0:=(sh_0 rfl h9).1
 have g6 : i.by_ = 0:=sp_0 (sh_0 rfl h9).2
 have g7 : i.set = 0:=h8.elim id fun e=>absurd (show false = true from e.2) Bool.false_ne_true
 have g8 : 0 <= i.cond /\ i.cond <= 13:=by rcases h6 with h6 | h6 <;> omega
 clear h1 h2 h3 h4 h5 h6 h7 h8 h9 h10
 refine Spec.enter gTok P177 100 Tryz.func177 rfl (by kernel_rfl) ?_
 refine .inr ?_
 refine .inl ⟨inR_u32 (by omega),?_⟩
 refine ⟨[],no_rl,(pshapeLit hs).use (And.intro rfl trivial) rfl rfl ?_⟩
 refine .inl ⟨inR_u32 (by omega),?_⟩
 refine ⟨[],no_rl,(condWide_pure i.imm i.cond (by omega) (by omega)).use (by repeat' first|exact trivial|exact rfl|exact Iff.rfl|refine And.intro ?_ ?_) rfl rfl ?_⟩
 refine retE ?_
 have eo : orF i (fieldsV 33) = 0 ||| B i.imm 20 1 26 ||| B i.cond 0 4 22 ||| B i.imm 12 6 16 ||| B i.imm 18 1 13 ||| B i.imm 19 1 11 ||| B i.imm 1 11 0:=rfl
 rw [eo]
 refine (show _ = _ from congrArg (fun n : Nat=>(n : Int)) ?_)
 simp only [Nat.zero_or]
theorem turned_bits (v : Int) (hv : -1099511627776 <= v) : bitsV (turnN (bitsV v 0 25) 2) 24 1 = bitsV v 24 1 /\ bitsV (turnN (bitsV v 0 25) 2) 12 10 = bitsV v 12 10 /\ bitsV (turnN (bitsV v 0 25) 2) 23 1 = (if bitsV v 23 1 = bitsV v 24 1 then 1 else 0) /\ bitsV (turnN (bitsV v 0 25) 2) 22 1 = (if bitsV v 22 1 = bitsV v 24 1 then 1 else 0) /\ bitsV (turnN (bitsV v 0 25) 2) 1 11 = bitsV v 1 11:=by
 obtain ⟨u,hu⟩ : ∃ u,u = if v < 0 then v + 1099511627776 else v:=⟨_,rfl⟩
 have u0 : 0 <= u:=by rw [hu]; split <;> omega
 obtain ⟨n,hn⟩ : ∃ n,n = bitsV v 0 25:=⟨_,rfl⟩
 have e : n = u % 33554432:=by
  rw [hn]; unfold bitsV; rw [← hu]; omega
 have hb : 0 <= n /\ n < 33554432:=by omega
 have c:=turn_bits hb
 have d:=turn_bd hb
 rw [← hn]
 obtain ⟨t,ht⟩ : ∃ t,t = turnN n 2:=⟨_,rfl⟩
 rw [← ht] at c d ⊢
 have e1 : bitsV v 24 1 = n / 16777216:=by unfold bitsV; rw [← hu]; omega
 have e2 : bitsV v 23 1 = n / 8388608 % 2:=by unfold bitsV; rw [← hu]; omega
 have e3 : bitsV v 22 1 = n / 4194304 % 2:=by unfold bitsV; rw [← hu]; omega
 have e4 : bitsV v 12 10 = n % 4194304 / 4096:=by unfold bitsV; rw [← hu]; omega
 have e5 : bitsV v 1 11 = n % 4194304 / 2 % 2048:=by unfold bitsV; rw [← hu]; omega
 have f1 : bitsV t 24 1 = t / 16777216:=by unfold bitsV; rw [if_neg (by omega)]; omega
 have f2 : bitsV t 23 1 = t / 8388608 % 2:=by unfold bitsV; rw [if_neg (by omega)]; omega
 have f3 : bitsV t 22 1 = t / 4194304 % 2:=by unfold bitsV; rw [if_neg (by omega)]; omega
 have f4 : bitsV t 12 10 = t % 4194304 / 4096:=by unfold bitsV; rw [if_neg (by omega)]; omega
 have f5 : bitsV t 1 11 = t % 4194304 / 2 % 2048:=by unfold bitsV; rw [if_neg (by omega)]; omega
 have e6 : n / 16777216 % 2 = n / 16777216:=by omega
 rw [e1,e2,e3,e4,e5,f1,f2,f3,f4,f5,c.1,c.2.1]
 rw [e6] at c
 exact ⟨rfl,rfl,c.2.2.2,c.2.2.1,rfl⟩
theorem sameIs (a b : Int) : ∃ m : Int,m = (if a = b then 1 else 0) /\ 0 <= m /\ m < 2:=⟨_,rfl,by split <;> omega,by split <;> omega⟩
set_option maxHeartbeats 8000000 in
set_option maxRecDepth 100000 in
theorem jumpWide_pure (v : Int) (hv : -1099511627776 <= v) : PureF gT 200 [.int .u32 (IntKind.u32.wrap v)] (.int .u32 ((B (turnN (bitsV v 0 25) 2) 24 1 26 ||| B (turnN (bitsV v 0 25) 2) 12 10 16 ||| B (turnN (bitsV v 0 25) 2) 23 1 13 ||| B (turnN (bitsV v 0 25) 2) 22 1 11 ||| B (turnN (bitsV v 0 25) 2) 1 11 0 : Nat) : Int)):=by
 obtain ⟨t1,t2,t3,t4,t5⟩:=turned_bits v hv
 have s2:=same_pure (bitsV v 23 1) (bitsV v 24 1) (bit_bd v 23) (bit_bd v 24)
 have s3:=same_pure (bitsV v 22 1) (bitsV v 24 1) (bit_bd v 22) (bit_bd v 24)
 obtain ⟨m2,hm2,c2⟩:=sameIs (bitsV v 23 1) (bitsV v 24 1)
 obtain ⟨m3,hm3,c3⟩:=sameIs (bitsV v 22 1) (bitsV v 24 1)
 rw [← hm2] at s2 t3
 rw [← hm3] at s3 t4
 have b0:=bitsV_bd v 24 1
 have b1:=bitsV_bd v 12 10
 have b2:=bitsV_bd v 1 11
 refine Spec.enter gTok P200 100 Tryz.func200 rfl (by kernel_rfl) ?_
 refine ⟨[],no_rl,(cutW v 24 1 (by omega) (by decide) (by decide) (by decide)).use (And.intro rfl (And.intro rfl (And.intro rfl trivial))) rfl rfl ?_⟩
 refine ⟨by decide,.inl ⟨inR_u32 (by rw [r26]; omega),?_⟩⟩
 refine ⟨[],no_rl,(cutW v 12 10 (by omega) (by decide) (by decide) (by decide)).use (And.intro rfl (And.intro rfl (And.intro rfl trivial))) rfl rfl ?_⟩
 refine ⟨by decide,.inl ⟨inR_u32 (by rw [r16]; omega),?_⟩⟩
 refine ⟨[],no_rl,(cutW v 23 1 (by omega) (by decide) (by decide) (by decide)).use (And.intro rfl (And.intro rfl (And.intro rfl trivial))) rfl rfl ?_⟩
 refine ⟨[],no_rl,s2.use (by repeat' first|exact trivial|exact rfl|exact Iff.rfl|refine And.intro ?_ ?_) rfl rfl ?_⟩
 refine ⟨by decide,.inl ⟨inR_u32 (by rw [r13]; omega),?_⟩⟩
 refine ⟨[],no_rl,(cutW v 22 1 (by omega) (by decide) (by decide) (by decide)).use (And.intro rfl (And.intro rfl (And.intro rfl trivial))) rfl rfl ?_⟩
 refine ⟨[],no_rl,s3.use (by repeat' first|exact trivial|exact rfl|exact Iff.rfl|refine And.intro ?_ ?_) rfl rfl ?_⟩
 refine ⟨by decide,.inl ⟨inR_u32 (by rw [r11]; omega),?_⟩⟩
 refine ⟨[],no_rl,(cutW v 1 11 (by omega) (by decide) (by decide) (by decide)).use (And.intro rfl (And.intro rfl (And.intro rfl trivial))) rfl rfl ?_⟩
 refine retE ?_
 have k1 : IsN (bitsV v 24 1 * Ev.pow2 .u32 26) (B (turnN (bitsV v 0 25) 2) 24 1 26):=by have:=isB (turnN (bitsV v 0 25) 2) 24 1 26 (p:=Ev.pow2 .u32 26) (by decide) (by decide); rwa [t1] at this
 have k2 : IsN (bitsV v 12 10 * Ev.pow2 .u32 16) (B (turnN (bitsV v 0 25) 2) 12 10 16):=by have:=isB (turnN (bitsV v 0 25) 2) 12 10 16 (p:=Ev.pow2 .u32 16) (by decide) (by decide); rwa [t2] at this
 have k3 : IsN (m2 * Ev.pow2 .u32 13) (B (turnN (bitsV v 0 25) 2) 23 1 13):=by have:=isB (turnN (bitsV v 0 25) 2) 23 1 13 (p:=Ev.pow2 .u32 13) (by decide) (by decide); rwa [t3] at this
 have k4 : IsN (m3 * Ev.pow2 .u32 11) (B (turnN (bitsV v 0 25) 2) 22 1 11):=by have:=isB (turnN (bitsV v 0 25) 2) 22 1 11 (p:=Ev.pow2 .u32 11) (by decide) (by decide); rwa [t4] at this
 have k5 : IsN (bitsV v 1 11) (B (turnN (bitsV v 0 25) 2) 1 11 0):=by have:=isB0 (turnN (bitsV v 0 25) 2) 1 11 (by decide); rwa [t5] at this
 exact (show bits .or .u32 (bits .or .u32 (bits .or .u32 (bits .or .u32 (bitsV v 24 1 * Ev.pow2 .u32 26) (bitsV v 12 10 * Ev.pow2 .u32 16)) (m2 * Ev.pow2 .u32 13)) (m3 * Ev.pow2 .u32 11)) (bitsV v 1 11) = _ from ((((k1.or k2).or k3).or k4).or k5).1)
set_option maxHeartbeats 8000000 in
set_option maxRecDepth 100000 in
theorem wide_34 (i : IN) (hs : shapeV i.form = 34) (hr : rightR i (ruW 34)) (hg : i.regs <= 9223372036854775807) : PureF gT 177 [inP i] (.int .u32 ((orF (turnI i) (fieldsV 34) : Nat) : Int)):=by
 obtain ⟨hf,h1,h2,h3,h4,h5,h6,h7,h8,h9,h10⟩:=hr
 have g0:=has_0 (r:=i.rd) h1
 have g1:=has_0 (r:=i.rn) h2
 have g2:=has_0 (r:=i.rm) h3
 have g3:=has_0 (r:=i.ra) h4
 have g4 : -16777216 <= i.imm /\ i.imm <= 16777214 /\ i.imm % 2 = 0:=sp_s (s:=2) (by decide) h7
 have g5 : i.kind = 0:=(sh_0 rfl h9).1
 have g6 : i.by_ = 0:=sp_0 (sh_0 rfl h9).2
 have g7 : i.set = 0:=h8.elim id fun e=>absurd (show false = true from e.2) Bool.false_ne_true
 have g8 : i.cond = 0:=h6.elim id fun e=>absurd (show false = true from e.1) Bool.false_ne_true
 clear h1 h2 h3 h4 h5 h6 h7 h8 h9 h10
 have et:=sh34 hs
 rw [et]
 refine Spec.enter gTok P177 100 Tryz.func177 rfl (by kernel_rfl) ?_
 refine .inr ?_
 refine .inl ⟨inR_u32 (by omega),?_⟩
 refine ⟨[],no_rl,(pshapeLit hs).use (And.intro rfl trivial) rfl rfl ?_⟩
 refine ⟨[],no_rl,(jumpWide_pure i.imm (by omega)).use (by repeat' first|exact trivial|exact rfl|exact Iff.rfl|refine And.intro ?_ ?_) rfl rfl ?_⟩
 refine retE ?_
 have eo : orF {i with imm:=turnN (bitsV i.imm 0 25) 2} (fieldsV 34) = 0 ||| B (turnN (bitsV i.imm 0 25) 2) 24 1 26 ||| B (turnN (bitsV i.imm 0 25) 2) 12 10 16 ||| B (turnN (bitsV i.imm 0 25) 2) 23 1 13 ||| B (turnN (bitsV i.imm 0 25) 2) 22 1 11 ||| B (turnN (bitsV i.imm 0 25) 2) 1 11 0:=rfl
 rw [eo]
 refine (show _ = _ from congrArg (fun n : Nat=>(n : Int)) ?_)
 simp only [Nat.zero_or]
end Go.Proofs.YtnbngokbamifbaaGreatDoor.Pw
namespace Go.Proofs.YtnbngokbamifbaaGreatDoor.Pw
open Go Go.RowKit
end Go.Proofs.YtnbngokbamifbaaGreatDoor.Pw
namespace Go.Proofs.YtnbngokbamifbaaGreatDoor.Pw
open Go Go.RowKit
end Go.Proofs.YtnbngokbamifbaaGreatDoor.Pw
namespace Go.Proofs.YtnbngokbamifbaaGreatDoor.Pw
open Go Go.RowKit
end Go.Proofs.YtnbngokbamifbaaGreatDoor.Pw
namespace Go.Proofs.YtnbngokbamifbaaGreatDoor.Pw
open Go Go.RowKit
theorem leK_refl : ∀ (i : IN),leK (inP i) (inP i):=fun i=>⟨rfl,rfl,rfl,rfl,rfl,rfl,rfl,rfl,rfl,rfl,rfl,trivial⟩
theorem q2 : Ev.pow2 .i64 2 = 4:=by decide
theorem q14 : Ev.pow2 .i64 14 = 16384:=by decide
theorem q15 : Ev.pow2 .i64 15 = 32768:=by decide
set_option maxHeartbeats 8000000 in
set_option maxRecDepth 100000 in
theorem narrowOf_1 (f w : Int) (hF : 1 <= f /\ f <= 100) (hs : shapeV f = 1) (hw : U32 w) : PureF gT 121 [.int .i64 f,.int .u32 w] (inP (rdI1 f w)):=by
 have b0:=bitsV_bd w 6 5
 have b1:=bitsV_bd w 3 3
 have b2:=bitsV_bd w 0 3
 unfold rdI1
 refine Spec.enter gTok P121 100 Tryz.func121 rfl (by kernel_rfl) ?_
 have h3:=shape_one hF hs
 have e : ∀ x : Int,x = 0 + x * 2 ^ 0:=fun x=>by omega
 refine ⟨[],no_rl,(pshapeLit hs).use (And.intro rfl trivial) rfl rfl ?_⟩
 refine ⟨[],no_rl,(at_pure w 0 3 hw (by decide) (by decide)).use (And.intro rfl (And.intro rfl (And.intro rfl trivial))) rfl rfl ?_⟩
 refine ⟨[],no_rl,(at_pure w 3 3 hw (by decide) (by decide)).use (And.intro rfl (And.intro rfl (And.intro rfl trivial))) rfl rfl ?_⟩
 refine ⟨[],no_rl,(at_pure w 6 5 hw (by decide) (by decide)).use (And.intro rfl (And.intro rfl (And.intro rfl trivial))) rfl rfl ?_⟩
 refine And.intro (fun h1=>?_) (fun h1=>?_)
 ·refine ⟨[],no_rl,(turned_pure 1 (0 + bitsV w 6 5 * 2 ^ 0)).use (And.intro rfl (And.intro (e _) trivial)) rfl rfl ?_⟩
  refine retE ?_
  (repeat' first | exact trivial | exact rfl | exact e _ | refine And.intro ?_ ?_)
  show (if 0 + bitsV w 6 5 * 2 ^ 0 = 0 /\ ((1 : Int) = 1 \/ (1 : Int) = 2) then (32 : Int) else _) = if 1 < f /\ 0 + bitsV w 6 5 * 2 ^ 0 = 0 then (32 : Int) else 0 + bitsV w 6 5 * 2 ^ 0
  have h1' : ¬ f = 1:=h1
  (repeat' split) <;> omega
 ·refine retE ?_
  (repeat' first | exact trivial | exact rfl | exact e _ | refine And.intro ?_ ?_)
  show bitsV w 6 5 = if 1 < f /\ 0 + bitsV w 6 5 * 2 ^ 0 = 0 then (32 : Int) else 0 + bitsV w 6 5 * 2 ^ 0
  have h1' : ¬ ¬ f = 1:=h1
  (repeat' split) <;> omega
set_option maxHeartbeats 8000000 in
set_option maxRecDepth 100000 in
theorem narrowOf_2 (f w : Int) (hF : 1 <= f /\ f <= 100) (hs : shapeV f = 2) (hw : U32 w) : PureF gT 121 [.int .i64 f,.int .u32 w] (inP (rdI2 f w)):=by
 have b0:=bitsV_bd w 6 3
 have b1:=bitsV_bd w 3 3
 have b2:=bitsV_bd w 0 3
 unfold rdI2
 refine Spec.enter gTok P121 100 Tryz.func121 rfl (by kernel_rfl) ?_
 refine ⟨[],no_rl,(pshapeLit hs).use (And.intro rfl trivial) rfl rfl ?_⟩
 refine ⟨[],no_rl,(three_pure ⟨f,0,0,0,0,0,0,0,0,0,0⟩ w hw).use (by repeat' first|exact trivial|exact rfl|exact Iff.rfl|refine And.intro ?_ ?_) rfl rfl ?_⟩
 refine ⟨[],no_rl,(at_pure w 6 3 hw (by decide) (by decide)).use (And.intro rfl (And.intro rfl (And.intro rfl trivial))) rfl rfl ?_⟩
 refine retE ?_
 (repeat' first | exact trivial | exact rfl | refine And.intro ?_ ?_)
 all_goals (show (_ : Int) = _; (try dsimp only [placesI,threeI]); first | omega | (unfold numT; omega))
set_option maxHeartbeats 8000000 in
set_option maxRecDepth 100000 in
theorem narrowOf_3 (f w : Int) (hF : 1 <= f /\ f <= 100) (hs : shapeV f = 3) (hw : U32 w) : PureF gT 121 [.int .i64 f,.int .u32 w] (inP (rdI3 f w)):=by
 have b0:=bitsV_bd w 6 3
 have b1:=bitsV_bd w 3 3
 have b2:=bitsV_bd w 0 3
 unfold rdI3
 refine Spec.enter gTok P121 100 Tryz.func121 rfl (by kernel_rfl) ?_
 refine ⟨[],no_rl,(pshapeLit hs).use (And.intro rfl trivial) rfl rfl ?_⟩
 refine ⟨[],no_rl,(three_pure ⟨f,0,0,0,0,0,0,0,0,0,0⟩ w hw).use (by repeat' first|exact trivial|exact rfl|exact Iff.rfl|refine And.intro ?_ ?_) rfl rfl ?_⟩
 refine ⟨[],no_rl,(at_pure w 6 3 hw (by decide) (by decide)).use (And.intro rfl (And.intro rfl (And.intro rfl trivial))) rfl rfl ?_⟩
 refine retE ?_
 (repeat' first | exact trivial | exact rfl | refine And.intro ?_ ?_)
 all_goals (show (_ : Int) = _; (try dsimp only [placesI,threeI]); first | omega | (unfold numT; omega))
set_option maxHeartbeats 8000000 in
set_option maxRecDepth 100000 in
theorem narrowOf_4 (f w : Int) (hF : 1 <= f /\ f <= 100) (hs : shapeV f = 4) (hw : U32 w) : PureF gT 121 [.int .i64 f,.int .u32 w] (inP (rdI4 f w)):=by
 have b0:=bitsV_bd w 8 3
 have b1:=bitsV_bd w 0 8
 unfold rdI4
 refine Spec.enter gTok P121 100 Tryz.func121 rfl (by kernel_rfl) ?_
 refine ⟨[],no_rl,(pshapeLit hs).use (And.intro rfl trivial) rfl rfl ?_⟩
 refine ⟨[],no_rl,(at_pure w 8 3 hw (by decide) (by decide)).use (And.intro rfl (And.intro rfl (And.intro rfl trivial))) rfl rfl ?_⟩
 refine ⟨[],no_rl,(at_pure w 0 8 hw (by decide) (by decide)).use (And.intro rfl (And.intro rfl (And.intro rfl trivial))) rfl rfl ?_⟩
 refine retE ?_
 (repeat' first | exact trivial | exact rfl | refine And.intro ?_ ?_)
 all_goals (show (_ : Int) = _; (try dsimp only [placesI,threeI]); first | omega | (unfold numT; omega))
set_option maxHeartbeats 8000000 in
set_option maxRecDepth 100000 in
theorem narrowOf_5 (f w : Int) (hF : 1 <= f /\ f <= 100) (hs : shapeV f = 5) (hw : U32 w) : PureF gT 121 [.int .i64 f,.int .u32 w] (inP (rdI5 f w)):=by
 have b0:=bitsV_bd w 3 3
 have b1:=bitsV_bd w 0 3
 unfold rdI5
 refine Spec.enter gTok P121 100 Tryz.func121 rfl (by kernel_rfl) ?_
 refine ⟨[],no_rl,(pshapeLit hs).use (And.intro rfl trivial) rfl rfl ?_⟩
 refine ⟨[],no_rl,(at_pure w 0 3 hw (by decide) (by decide)).use (And.intro rfl (And.intro rfl (And.intro rfl trivial))) rfl rfl ?_⟩
 refine ⟨[],no_rl,(at_pure w 3 3 hw (by decide) (by decide)).use (And.intro rfl (And.intro rfl (And.intro rfl trivial))) rfl rfl ?_⟩
 refine retE ?_
 (repeat' first | exact trivial | exact rfl | refine And.intro ?_ ?_)
 all_goals (show (_ : Int) = _; (try dsimp only [placesI,threeI]); first | omega | (unfold numT; omega))
set_option maxHeartbeats 8000000 in
set_option maxRecDepth 100000 in
theorem narrowOf_6 (f w : Int) (hF : 1 <= f /\ f <= 100) (hs : shapeV f = 6) (hw : U32 w) : PureF gT 121 [.int .i64 f,.int .u32 w] (inP (rdI6 f w)):=by
 have b0:=bitsV_bd w 7 1
 have b1:=bitsV_bd w 3 4
 have b2:=bitsV_bd w 0 3
 unfold rdI6
 refine Spec.enter gTok P121 100 Tryz.func121 rfl (by kernel_rfl) ?_
 refine ⟨[],no_rl,(pshapeLit hs).use (And.intro rfl trivial) rfl rfl ?_⟩
 refine ⟨[],no_rl,(at_pure w 7 1 hw (by decide) (by decide)).use (And.intro rfl (And.intro rfl (And.intro rfl trivial))) rfl rfl ?_⟩
 refine ⟨by decide,.inl ⟨inR_i64 (by rw [q3]; omega),?_⟩⟩
 refine ⟨[],no_rl,(at_pure w 0 3 hw (by decide) (by decide)).use (And.intro rfl (And.intro rfl (And.intro rfl trivial))) rfl rfl ?_⟩
 refine ⟨[],no_rl,(at_pure w 3 4 hw (by decide) (by decide)).use (And.intro rfl (And.intro rfl (And.intro rfl trivial))) rfl rfl ?_⟩
 have e : bits .or .i64 (bitsV w 7 1 * Ev.pow2 .i64 3) (bitsV w 0 3) = 0 + bitsV w 7 1 * 2 ^ 3 + bitsV w 0 3 * 2 ^ 0:=by
  rw [q3,Rm.i64_join (bitsV w 7 1 * 8) (bitsV w 0 3) 3 (by omega) (by omega) (by omega) (by omega) (by omega) (by omega)]; omega
 refine retE ?_
 (repeat' first | exact trivial | exact rfl | exact e | refine And.intro ?_ ?_)
 all_goals (show (_ : Int) = _; (try dsimp only [placesI,threeI]); omega)
set_option maxHeartbeats 8000000 in
set_option maxRecDepth 100000 in
theorem narrowOf_7 (f w : Int) (hF : 1 <= f /\ f <= 100) (hs : shapeV f = 7) (hw : U32 w) : PureF gT 121 [.int .i64 f,.int .u32 w] (inP (rdI7 f w)):=by
 have b0:=bitsV_bd w 3 4
 unfold rdI7
 refine Spec.enter gTok P121 100 Tryz.func121 rfl (by kernel_rfl) ?_
 refine ⟨[],no_rl,(pshapeLit hs).use (And.intro rfl trivial) rfl rfl ?_⟩
 refine ⟨[],no_rl,(at_pure w 3 4 hw (by decide) (by decide)).use (And.intro rfl (And.intro rfl (And.intro rfl trivial))) rfl rfl ?_⟩
 refine retE ?_
 (repeat' first | exact trivial | exact rfl | refine And.intro ?_ ?_)
 all_goals (show (_ : Int) = _; (try dsimp only [placesI,threeI]); first | omega | (unfold numT; omega))
set_option maxHeartbeats 8000000 in
set_option maxRecDepth 100000 in
theorem narrowOf_8 (f w : Int) (hF : 1 <= f /\ f <= 100) (hs : shapeV f = 8) (hw : U32 w) : PureF gT 121 [.int .i64 f,.int .u32 w] (inP (rdI8 f w)):=by
 have b0:=bitsV_bd w 8 3
 have b1:=bitsV_bd w 0 8
 unfold rdI8
 refine Spec.enter gTok P121 100 Tryz.func121 rfl (by kernel_rfl) ?_
 refine ⟨[],no_rl,(pshapeLit hs).use (And.intro rfl trivial) rfl rfl ?_⟩
 refine ⟨[],no_rl,(at_pure w 8 3 hw (by decide) (by decide)).use (And.intro rfl (And.intro rfl (And.intro rfl trivial))) rfl rfl ?_⟩
 refine ⟨[],no_rl,(at_pure w 0 8 hw (by decide) (by decide)).use (And.intro rfl (And.intro rfl (And.intro rfl trivial))) rfl rfl ?_⟩
 refine .inl ⟨inR_i64 (by omega),?_⟩
 refine retE ?_
 (repeat' first | exact trivial | exact rfl | refine And.intro ?_ ?_)
 all_goals (show (_ : Int) = _; (try dsimp only [placesI,threeI]); first | omega | (unfold numT; omega))
set_option maxHeartbeats 8000000 in
set_option maxRecDepth 100000 in
theorem narrowOf_9 (f w : Int) (hF : 1 <= f /\ f <= 100) (hs : shapeV f = 9) (hw : U32 w) : PureF gT 121 [.int .i64 f,.int .u32 w] (inP (rdI9 f w)):=by
 have b0:=bitsV_bd w 6 5
 have b1:=bitsV_bd w 3 3
 have b2:=bitsV_bd w 0 3
 unfold rdI9
 refine Spec.enter gTok P121 100 Tryz.func121 rfl (by kernel_rfl) ?_
 refine ⟨[],no_rl,(pshapeLit hs).use (And.intro rfl trivial) rfl rfl ?_⟩
 refine ⟨[],no_rl,(three_pure ⟨f,0,0,0,0,0,0,0,0,0,0⟩ w hw).use (by repeat' first|exact trivial|exact rfl|exact Iff.rfl|refine And.intro ?_ ?_) rfl rfl ?_⟩
 refine ⟨[],no_rl,(at_pure w 6 5 hw (by decide) (by decide)).use (And.intro rfl (And.intro rfl (And.intro rfl trivial))) rfl rfl ?_⟩
 refine .inl ⟨inR_i64 (by omega),?_⟩
 refine retE ?_
 (repeat' first | exact trivial | exact rfl | refine And.intro ?_ ?_)
 all_goals (show (_ : Int) = _; (try dsimp only [placesI,threeI]); first | omega | (unfold numT; omega))
set_option maxHeartbeats 8000000 in
set_option maxRecDepth 100000 in
theorem narrowOf_10 (f w : Int) (hF : 1 <= f /\ f <= 100) (hs : shapeV f = 10) (hw : U32 w) : PureF gT 121 [.int .i64 f,.int .u32 w] (inP (rdI10 f w)):=by
 have b0:=bitsV_bd w 0 7
 unfold rdI10
 refine Spec.enter gTok P121 100 Tryz.func121 rfl (by kernel_rfl) ?_
 refine ⟨[],no_rl,(pshapeLit hs).use (And.intro rfl trivial) rfl rfl ?_⟩
 refine ⟨[],no_rl,(at_pure w 0 7 hw (by decide) (by decide)).use (And.intro rfl (And.intro rfl (And.intro rfl trivial))) rfl rfl ?_⟩
 refine .inl ⟨inR_i64 (by omega),?_⟩
 refine retE ?_
 (repeat' first | exact trivial | exact rfl | refine And.intro ?_ ?_)
 all_goals (show (_ : Int) = _; (try dsimp only [placesI,threeI]); first | omega | (unfold numT; omega))
set_option maxHeartbeats 8000000 in
set_option maxRecDepth 100000 in
theorem narrowOf_11 (f w : Int) (hF : 1 <= f /\ f <= 100) (hs : shapeV f = 11) (hw : U32 w) : PureF gT 121 [.int .i64 f,.int .u32 w] (inP (rdI11 f w)):=by
 have b0:=bitsV_bd w 8 1
 have b1:=bitsV_bd w 0 8
 unfold rdI11
 refine Spec.enter gTok P121 100 Tryz.func121 rfl (by kernel_rfl) ?_
 refine ⟨[],no_rl,(pshapeLit hs).use (And.intro rfl trivial) rfl rfl ?_⟩
 refine ⟨[],no_rl,(at_pure w 8 1 hw (by decide) (by decide)).use (And.intro rfl (And.intro rfl (And.intro rfl trivial))) rfl rfl ?_⟩
 refine ⟨by decide,.inl ⟨inR_i64 (by rw [q14]; omega),?_⟩⟩
 refine ⟨[],no_rl,(at_pure w 0 8 hw (by decide) (by decide)).use (And.intro rfl (And.intro rfl (And.intro rfl trivial))) rfl rfl ?_⟩
 have e : bits .or .i64 (bitsV w 8 1 * Ev.pow2 .i64 14) (bitsV w 0 8) = 0 + bitsV w 8 1 * 2 ^ 14 + bitsV w 0 8 * 2 ^ 0:=by
  rw [q14,Rm.i64_join (bitsV w 8 1 * 16384) (bitsV w 0 8) 14 (by omega) (by omega) (by omega) (by omega) (by omega) (by omega)]; omega
 refine retE ?_
 (repeat' first | exact trivial | exact rfl | exact e | refine And.intro ?_ ?_)
 all_goals (show (_ : Int) = _; (try dsimp only [placesI,threeI]); omega)
set_option maxHeartbeats 8000000 in
set_option maxRecDepth 100000 in
theorem narrowOf_12 (f w : Int) (hF : 1 <= f /\ f <= 100) (hs : shapeV f = 12) (hw : U32 w) : PureF gT 121 [.int .i64 f,.int .u32 w] (inP (rdI12 f w)):=by
 have b0:=bitsV_bd w 8 1
 have b1:=bitsV_bd w 0 8
 unfold rdI12
 refine Spec.enter gTok P121 100 Tryz.func121 rfl (by kernel_rfl) ?_
 refine ⟨[],no_rl,(pshapeLit hs).use (And.intro rfl trivial) rfl rfl ?_⟩
 refine ⟨[],no_rl,(at_pure w 8 1 hw (by decide) (by decide)).use (And.intro rfl (And.intro rfl (And.intro rfl trivial))) rfl rfl ?_⟩
 refine ⟨by decide,.inl ⟨inR_i64 (by rw [q15]; omega),?_⟩⟩
 refine ⟨[],no_rl,(at_pure w 0 8 hw (by decide) (by decide)).use (And.intro rfl (And.intro rfl (And.intro rfl trivial))) rfl rfl ?_⟩
 have e : bits .or .i64 (bitsV w 8 1 * Ev.pow2 .i64 15) (bitsV w 0 8) = 0 + bitsV w 8 1 * 2 ^ 15 + bitsV w 0 8 * 2 ^ 0:=by
  rw [q15,Rm.i64_join (bitsV w 8 1 * 32768) (bitsV w 0 8) 15 (by omega) (by omega) (by omega) (by omega) (by omega) (by omega)]; omega
 refine retE ?_
 (repeat' first | exact trivial | exact rfl | exact e | refine And.intro ?_ ?_)
 all_goals (show (_ : Int) = _; (try dsimp only [placesI,threeI]); omega)
set_option maxHeartbeats 8000000 in
set_option maxRecDepth 100000 in
theorem narrowOf_13 (f w : Int) (hF : 1 <= f /\ f <= 100) (hs : shapeV f = 13) (hw : U32 w) : PureF gT 121 [.int .i64 f,.int .u32 w] (inP (rdI13 f w)):=by
 unfold rdI13
 refine Spec.enter gTok P121 100 Tryz.func121 rfl (by kernel_rfl) ?_
 refine ⟨[],no_rl,(pshapeLit hs).use (And.intro rfl trivial) rfl rfl ?_⟩
 (refine retE ?_; repeat' first|exact trivial|exact rfl|exact Iff.rfl|refine And.intro ?_ ?_)
set_option maxHeartbeats 8000000 in
set_option maxRecDepth 100000 in
theorem narrowOf_14 (f w : Int) (hF : 1 <= f /\ f <= 100) (hs : shapeV f = 14) (hw : U32 w) : PureF gT 121 [.int .i64 f,.int .u32 w] (inP (rdI14 f w)):=by
 have b0:=bitsV_bd w 0 8
 unfold rdI14
 refine Spec.enter gTok P121 100 Tryz.func121 rfl (by kernel_rfl) ?_
 refine ⟨[],no_rl,(pshapeLit hs).use (And.intro rfl trivial) rfl rfl ?_⟩
 refine ⟨[],no_rl,(at_pure w 0 8 hw (by decide) (by decide)).use (And.intro rfl (And.intro rfl (And.intro rfl trivial))) rfl rfl ?_⟩
 refine retE ?_
 (repeat' first | exact trivial | exact rfl | refine And.intro ?_ ?_)
 all_goals (show (_ : Int) = _; (try dsimp only [placesI,threeI]); first | omega | (unfold numT; omega))
set_option maxHeartbeats 8000000 in
set_option maxRecDepth 100000 in
theorem narrowOf_15 (f w : Int) (hF : 1 <= f /\ f <= 100) (hs : shapeV f = 15) (hw : U32 w) : PureF gT 121 [.int .i64 f,.int .u32 w] (inP (rdI15 f w)):=by
 have b0:=bitsV_bd w 8 4
 have b1:=bitsV_bd w 0 8
 unfold rdI15
 refine Spec.enter gTok P121 100 Tryz.func121 rfl (by kernel_rfl) ?_
 refine ⟨[],no_rl,(pshapeLit hs).use (And.intro rfl trivial) rfl rfl ?_⟩
 refine ⟨[],no_rl,(at_pure w 8 4 hw (by decide) (by decide)).use (And.intro rfl (And.intro rfl (And.intro rfl trivial))) rfl rfl ?_⟩
 refine ⟨[],no_rl,(at_pure w 0 8 hw (by decide) (by decide)).use (And.intro rfl (And.intro rfl (And.intro rfl trivial))) rfl rfl ?_⟩
 refine ⟨by decide,.inl ⟨inR_i64 (by rw [q1]; omega),?_⟩⟩
 refine ⟨[],no_rl,(signed_pure (0 + bitsV w 0 8 * 2 ^ 1) 8 (by decide) ⟨by omega,by omega⟩).use (And.intro (show bitsV w 0 8 * Ev.pow2 .i64 1 = _ by rw [q1]; omega) (And.intro rfl trivial)) rfl rfl ?_⟩
 refine retE ?_
 (repeat' first | exact trivial | exact rfl | refine And.intro ?_ ?_)
 all_goals (show (_ : Int) = _; (try dsimp only [placesI,threeI]); first | omega | (unfold numT; omega))
set_option maxHeartbeats 8000000 in
set_option maxRecDepth 100000 in
theorem narrowOf_16 (f w : Int) (hF : 1 <= f /\ f <= 100) (hs : shapeV f = 16) (hw : U32 w) : PureF gT 121 [.int .i64 f,.int .u32 w] (inP (rdI16 f w)):=by
 have b0:=bitsV_bd w 0 11
 unfold rdI16
 refine Spec.enter gTok P121 100 Tryz.func121 rfl (by kernel_rfl) ?_
 refine ⟨[],no_rl,(pshapeLit hs).use (And.intro rfl trivial) rfl rfl ?_⟩
 refine ⟨[],no_rl,(at_pure w 0 11 hw (by decide) (by decide)).use (And.intro rfl (And.intro rfl (And.intro rfl trivial))) rfl rfl ?_⟩
 refine ⟨by decide,.inl ⟨inR_i64 (by rw [q1]; omega),?_⟩⟩
 refine ⟨[],no_rl,(signed_pure (0 + bitsV w 0 11 * 2 ^ 1) 11 (by decide) ⟨by omega,by omega⟩).use (And.intro (show bitsV w 0 11 * Ev.pow2 .i64 1 = _ by rw [q1]; omega) (And.intro rfl trivial)) rfl rfl ?_⟩
 refine retE ?_
 (repeat' first | exact trivial | exact rfl | refine And.intro ?_ ?_)
 all_goals (show (_ : Int) = _; (try dsimp only [placesI,threeI]); first | omega | (unfold numT; omega))
set_option maxHeartbeats 8000000 in
set_option maxRecDepth 100000 in
theorem narrowOf_wide (f w : Int) (hs : 17 <= shapeV f) (hw : U32 w) : PureF gT 121 [.int .i64 f,.int .u32 w] (inP ⟨f,0,0,0,0,0,0,0,0,0,0⟩):=by
 refine Spec.enter gTok P121 100 Tryz.func121 rfl (by kernel_rfl) ?_
 refine ⟨[],no_rl,(shape_pure f).use (And.intro rfl trivial) rfl rfl ?_⟩
 iterate 15 (refine And.intro (fun h=>absurd (show shapeV f = _ from h) (by omega)) (fun _=>?_))
 (refine retE ?_; repeat' first|exact trivial|exact rfl|exact Iff.rfl|refine And.intro ?_ ?_)
end Go.Proofs.YtnbngokbamifbaaGreatDoor.Pw

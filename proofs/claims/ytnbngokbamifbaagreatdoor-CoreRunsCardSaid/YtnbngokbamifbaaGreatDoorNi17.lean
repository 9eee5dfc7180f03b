/- What a law is proved with. -/
import Derived.Test.YtnbngokbamifbaaGreatDoorNi16
set_option linter.unusedVariables false
set_option linter.unusedSimpArgs false
namespace Go.Proofs.YtnbngokbamifbaaGreatDoor.Pw
open Go Go.RowKit
theorem s_34_t (t : Int) (h : 0 <= t /\ t < 33554432) (h2 : t % 2 = 0) : 0 + bitsV t 24 1 * 2 ^ 24 + bitsV t 12 10 * 2 ^ 12 + bitsV t 23 1 * 2 ^ 23 + bitsV t 22 1 * 2 ^ 22 + bitsV t 1 11 * 2 ^ 1 = t:=by
 unfold bitsV; rw [if_neg (by omega)]; omega
theorem jump_bits (v : Int) (h : -16777216 <= v /\ v <= 16777214 /\ v % 2 = 0) : (0 <= bitsV v 0 25 /\ bitsV v 0 25 < 33554432) /\ bitsV v 0 25 % 2 = 0 /\ leastV (bitsV v 0 25) 25 = v:=by
 have e : bitsV v 0 25 = if v < 0 then v + 33554432 else v:=by unfold bitsV; split <;> omega
 have e2 : ∀ m : Int,0 <= m -> bitsV m 24 1 = m / 16777216 % 2:=fun m hm=>by unfold bitsV; rw [if_neg (by omega)]; rfl
 have hb : 0 <= bitsV v 0 25 /\ bitsV v 0 25 < 33554432:=by rw [e]; split <;> omega
 refine ⟨hb,by rw [e]; split <;> omega,?_⟩
 unfold leastV
 rw [show (25 - 1 : Nat) = 24 from rfl,e2 _ hb.1,e]
 have p : (2 : Int) ^ 25 = 33554432:=by decide
 rw [p]
 split <;> split <;> omega
theorem back_34 (i : IN) (hs : shapeV i.form = 34) (hr : rightR i (ruW 34)) : {readX 34 (turnI i) with form:=i.form} = i:=by
 obtain ⟨hf,h1,h2,h3,h4,h5,h6,h7,h8,h9,h10⟩:=hr
 have g0:=has_0 (r:=i.rd) h1
 have g1:=has_0 (r:=i.rn) h2
 have g2:=has_0 (r:=i.rm) h3
 have g3:=has_0 (r:=i.ra) h4
 have g4 : -16777216 <= i.imm /\ i.imm <= 16777214 /\ i.imm % 2 = 0:=sp_s (s:=2) (by decide) h7
 have g5 : i.kind = 0:=(sh_0 rfl h9).1
 have g6 : i.by_ = 0:=sp_0 (sh_0 rfl h9).2
 have g7 : i.set = 0:=h8.elim id fun e=>absurd (show false = true from e.2) Bool.false_ne_true
 have g8 : i.cond = 0:=h6.elim id fun e=>absurd (show false = true from e.1) Bool.false_ne_true
 have g9 : i.regs = 0:=lis_0 rfl h5
 obtain ⟨hb,he,hl⟩:=jump_bits i.imm g4
 rw [sh34 hs]
 have hn:=turn_bd hb
 have h2' : turnN (bitsV i.imm 0 25) 2 % 2 = 0:=by have:=(turn_bits hb).2.1; omega
 have e34 : ∀ x : Int,immA 34 i.form x = leastV (turnN x 2) 25:=fun x=>by
  unfold immA; rw [if_neg (by decide),if_neg (by decide),if_neg (by decide),if_pos rfl]
 have hi : immA 34 i.form (0 + bitsV (turnN (bitsV i.imm 0 25) 2) 24 1 * 2 ^ 24 + bitsV (turnN (bitsV i.imm 0 25) 2) 12 10 * 2 ^ 12 + bitsV (turnN (bitsV i.imm 0 25) 2) 23 1 * 2 ^ 23 + bitsV (turnN (bitsV i.imm 0 25) 2) 22 1 * 2 ^ 22 + bitsV (turnN (bitsV i.imm 0 25) 2) 1 11 * 2 ^ 1) = i.imm:=by
  rw [e34,s_34_t _ hn h2',turn_turn hb,hl]
 exact in_ext rfl (s_34_0 i.rd g0) (s_34_1 i.rn g1) (s_34_2 i.rm g2) (s_34_3 i.ra g3) hi (s_34_5 i.kind g5) ((by_ne (K:=34) (k:=0) (by decide)).trans (s_34_6 i.by_ g6)) (s_34_7 i.set g7) (s_34_8 i.cond g8) (s_34_9 i.regs g9)
theorem cases34 {s : Int} (h : 1 <= s /\ s <= 34) : s = 1 \/ s = 2 \/ s = 3 \/ s = 4 \/ s = 5 \/ s = 6 \/ s = 7 \/ s = 8 \/ s = 9 \/ s = 10 \/ s = 11 \/ s = 12 \/ s = 13 \/ s = 14 \/ s = 15 \/ s = 16 \/ s = 17 \/ s = 18 \/ s = 19 \/ s = 20 \/ s = 21 \/ s = 22 \/ s = 23 \/ s = 24 \/ s = 25 \/ s = 26 \/ s = 27 \/ s = 28 \/ s = 29 \/ s = 30 \/ s = 31 \/ s = 32 \/ s = 33 \/ s = 34:=by omega
theorem back_32w (i : IN) (h : shapeV i.form = 32) (hr : 0 <= i.rm /\ i.rm < 15) : bitsV (wordV i) 0 4 = bitsV (turnI i).rm 0 4:=by
 have hx : ((2,0,0,4) : Nat × Nat × Nat × Nat) ∈ fieldsV (shapeV i.form):=by rw [h]; decide
 exact word_bits i hx
theorem back (i : IN) (h : rightV i) (hg : i.regs <= 9223372036854775807) : readV i.form (wordV i) = i:=by
 rw [read_word i fun h32=>back_32w i h32 (right_regs h).2.2.1]
 have hr:=h
 unfold rightV at hr
 rcases cases34 (shape_bd h.1) with hs | hs | hs | hs | hs | hs | hs | hs | hs | hs | hs | hs | hs | hs | hs | hs | hs | hs | hs | hs | hs | hs | hs | hs | hs | hs | hs | hs | hs | hs | hs | hs | hs | hs
 ·rw [hs] at hr ⊢; rw [turnI_not (by rw [hs]; decide)]; exact back_1 i hs hr hg
 ·rw [hs] at hr ⊢; rw [turnI_not (by rw [hs]; decide)]; exact back_2 i hs hr hg
 ·rw [hs] at hr ⊢; rw [turnI_not (by rw [hs]; decide)]; exact back_3 i hs hr hg
 ·rw [hs] at hr ⊢; rw [turnI_not (by rw [hs]; decide)]; exact back_4 i hs hr hg
 ·rw [hs] at hr ⊢; rw [turnI_not (by rw [hs]; decide)]; exact back_5 i hs hr hg
 ·rw [hs] at hr ⊢; rw [turnI_not (by rw [hs]; decide)]; exact back_6 i hs hr hg
 ·rw [hs] at hr ⊢; rw [turnI_not (by rw [hs]; decide)]; exact back_7 i hs hr hg
 ·rw [hs] at hr ⊢; rw [turnI_not (by rw [hs]; decide)]; exact back_8 i hs hr hg
 ·rw [hs] at hr ⊢; rw [turnI_not (by rw [hs]; decide)]; exact back_9 i hs hr hg
 ·rw [hs] at hr ⊢; rw [turnI_not (by rw [hs]; decide)]; exact back_10 i hs hr hg
 ·rw [hs] at hr ⊢; rw [turnI_not (by rw [hs]; decide)]; exact back_11 i hs hr hg
 ·rw [hs] at hr ⊢; rw [turnI_not (by rw [hs]; decide)]; exact back_12 i hs hr hg
 ·rw [hs] at hr ⊢; rw [turnI_not (by rw [hs]; decide)]; exact back_13 i hs hr hg
 ·rw [hs] at hr ⊢; rw [turnI_not (by rw [hs]; decide)]; exact back_14 i hs hr hg
 ·rw [hs] at hr ⊢; rw [turnI_not (by rw [hs]; decide)]; exact back_15 i hs hr hg
 ·rw [hs] at hr ⊢; rw [turnI_not (by rw [hs]; decide)]; exact back_16 i hs hr hg
 ·rw [hs] at hr ⊢; rw [turnI_not (by rw [hs]; decide)]; exact back_17 i hs hr hg
 ·rw [hs] at hr ⊢; rw [turnI_not (by rw [hs]; decide)]; exact back_18 i hs hr hg
 ·rw [hs] at hr ⊢; rw [turnI_not (by rw [hs]; decide)]; exact back_19 i hs hr hg
 ·rw [hs] at hr ⊢; rw [turnI_not (by rw [hs]; decide)]; exact back_20 i hs hr hg
 ·rw [hs] at hr ⊢; rw [turnI_not (by rw [hs]; decide)]; exact back_21 i hs hr hg
 ·rw [hs] at hr ⊢; rw [turnI_not (by rw [hs]; decide)]; exact back_22 i hs hr hg
 ·rw [hs] at hr ⊢; rw [turnI_not (by rw [hs]; decide)]; exact back_23 i hs hr hg
 ·rw [hs] at hr ⊢; rw [turnI_not (by rw [hs]; decide)]; exact back_24 i hs hr hg
 ·rw [hs] at hr ⊢; rw [turnI_not (by rw [hs]; decide)]; exact back_25 i hs hr hg
 ·rw [hs] at hr ⊢; rw [turnI_not (by rw [hs]; decide)]; exact back_26 i hs hr hg
 ·rw [hs] at hr ⊢; rw [turnI_not (by rw [hs]; decide)]; exact back_27 i hs hr hg
 ·rw [hs] at hr ⊢; rw [turnI_not (by rw [hs]; decide)]; exact back_28 i hs hr hg
 ·rw [hs] at hr ⊢; rw [turnI_not (by rw [hs]; decide)]; exact back_29 i hs hr hg
 ·rw [hs] at hr ⊢; rw [turnI_not (by rw [hs]; decide)]; exact back_30 i hs hr hg
 ·rw [hs] at hr ⊢; rw [turnI_not (by rw [hs]; decide)]; exact back_31 i hs hr hg
 ·rw [hs] at hr ⊢; rw [turnI_not (by rw [hs]; decide)]; exact back_32 i hs hr hg
 ·rw [hs] at hr ⊢; rw [turnI_not (by rw [hs]; decide)]; exact back_33 i hs hr hg
 ·rw [hs] at hr ⊢; exact back_34 i hs hr
end Go.Proofs.YtnbngokbamifbaaGreatDoor.Pw
namespace Go.Proofs.YtnbngokbamifbaaGreatDoor.Pw
open Go Go.RowKit
def rdI1 (f w : Int) : IN:=⟨f,0 + bitsV w 0 3 * 2 ^ 0,0,0 + bitsV w 3 3 * 2 ^ 0,0,if 1 < f /\ 0 + bitsV w 6 5 * 2 ^ 0 = 0 then 32 else 0 + bitsV w 6 5 * 2 ^ 0,0,0,0,0,0⟩
theorem rd_1 {f w : Int} (h : shapeV f = 1) : readV f w = rdI1 f w:=by
 unfold readV; rw [h]
 exact in_ext rfl rfl rfl rfl rfl (imm_1) rfl (by_ne (K:=1) (k:=xV 1 w 5) (by decide)) rfl rfl rfl
def rdI2 (f w : Int) : IN:=⟨f,0 + bitsV w 0 3 * 2 ^ 0,0 + bitsV w 3 3 * 2 ^ 0,0 + bitsV w 6 3 * 2 ^ 0,0,0,0,0,0,0,0⟩
theorem rd_2 {f w : Int} (h : shapeV f = 2) : readV f w = rdI2 f w:=by
 unfold readV; rw [h]
 exact in_ext rfl rfl rfl rfl rfl (imm_ne (K:=2) (f:=f) (by decide)) rfl (by_ne (K:=2) (k:=xV 2 w 5) (by decide)) rfl rfl rfl
def rdI3 (f w : Int) : IN:=⟨f,0 + bitsV w 0 3 * 2 ^ 0,0 + bitsV w 3 3 * 2 ^ 0,0,0,0 + bitsV w 6 3 * 2 ^ 0,0,0,0,0,0⟩
theorem rd_3 {f w : Int} (h : shapeV f = 3) : readV f w = rdI3 f w:=by
 unfold readV; rw [h]
 exact in_ext rfl rfl rfl rfl rfl (imm_ne (K:=3) (f:=f) (by decide)) rfl (by_ne (K:=3) (k:=xV 3 w 5) (by decide)) rfl rfl rfl
def rdI4 (f w : Int) : IN:=⟨f,0 + bitsV w 8 3 * 2 ^ 0,0,0,0,0 + bitsV w 0 8 * 2 ^ 0,0,0,0,0,0⟩
theorem rd_4 {f w : Int} (h : shapeV f = 4) : readV f w = rdI4 f w:=by
 unfold readV; rw [h]
 exact in_ext rfl rfl rfl rfl rfl (imm_ne (K:=4) (f:=f) (by decide)) rfl (by_ne (K:=4) (k:=xV 4 w 5) (by decide)) rfl rfl rfl
def rdI5 (f w : Int) : IN:=⟨f,0 + bitsV w 0 3 * 2 ^ 0,0,0 + bitsV w 3 3 * 2 ^ 0,0,0,0,0,0,0,0⟩
theorem rd_5 {f w : Int} (h : shapeV f = 5) : readV f w = rdI5 f w:=by
 unfold readV; rw [h]
 exact in_ext rfl rfl rfl rfl rfl (imm_ne (K:=5) (f:=f) (by decide)) rfl (by_ne (K:=5) (k:=xV 5 w 5) (by decide)) rfl rfl rfl
def rdI6 (f w : Int) : IN:=⟨f,0 + bitsV w 7 1 * 2 ^ 3 + bitsV w 0 3 * 2 ^ 0,0,0 + bitsV w 3 4 * 2 ^ 0,0,0,0,0,0,0,0⟩
theorem rd_6 {f w : Int} (h : shapeV f = 6) : readV f w = rdI6 f w:=by
 unfold readV; rw [h]
 exact in_ext rfl rfl rfl rfl rfl (imm_ne (K:=6) (f:=f) (by decide)) rfl (by_ne (K:=6) (k:=xV 6 w 5) (by decide)) rfl rfl rfl
def rdI7 (f w : Int) : IN:=⟨f,0,0,0 + bitsV w 3 4 * 2 ^ 0,0,0,0,0,0,0,0⟩
theorem rd_7 {f w : Int} (h : shapeV f = 7) : readV f w = rdI7 f w:=by
 unfold readV; rw [h]
 exact in_ext rfl rfl rfl rfl rfl (imm_ne (K:=7) (f:=f) (by decide)) rfl (by_ne (K:=7) (k:=xV 7 w 5) (by decide)) rfl rfl rfl
def rdI8 (f w : Int) : IN:=⟨f,0 + bitsV w 8 3 * 2 ^ 0,0,0,0,0 + bitsV w 0 8 * 2 ^ 2,0,0,0,0,0⟩
theorem rd_8 {f w : Int} (h : shapeV f = 8) : readV f w = rdI8 f w:=by
 unfold readV; rw [h]
 exact in_ext rfl rfl rfl rfl rfl (imm_ne (K:=8) (f:=f) (by decide)) rfl (by_ne (K:=8) (k:=xV 8 w 5) (by decide)) rfl rfl rfl
def rdI9 (f w : Int) : IN:=⟨f,0 + bitsV w 0 3 * 2 ^ 0,0 + bitsV w 3 3 * 2 ^ 0,0,0,0 + bitsV w 6 5 * 2 ^ 2,0,0,0,0,0⟩
theorem rd_9 {f w : Int} (h : shapeV f = 9) : readV f w = rdI9 f w:=by
 unfold readV; rw [h]
 exact in_ext rfl rfl rfl rfl rfl (imm_ne (K:=9) (f:=f) (by decide)) rfl (by_ne (K:=9) (k:=xV 9 w 5) (by decide)) rfl rfl rfl
def rdI10 (f w : Int) : IN:=⟨f,0,0,0,0,0 + bitsV w 0 7 * 2 ^ 2,0,0,0,0,0⟩
theorem rd_10 {f w : Int} (h : shapeV f = 10) : readV f w = rdI10 f w:=by
 unfold readV; rw [h]
 exact in_ext rfl rfl rfl rfl rfl (imm_ne (K:=10) (f:=f) (by decide)) rfl (by_ne (K:=10) (k:=xV 10 w 5) (by decide)) rfl rfl rfl
def rdI11 (f w : Int) : IN:=⟨f,0,0,0,0,0,0,0,0,0,0 + bitsV w 8 1 * 2 ^ 14 + bitsV w 0 8 * 2 ^ 0⟩
theorem rd_11 {f w : Int} (h : shapeV f = 11) : readV f w = rdI11 f w:=by
 unfold readV; rw [h]
 exact in_ext rfl rfl rfl rfl rfl (imm_ne (K:=11) (f:=f) (by decide)) rfl (by_ne (K:=11) (k:=xV 11 w 5) (by decide)) rfl rfl rfl
def rdI12 (f w : Int) : IN:=⟨f,0,0,0,0,0,0,0,0,0,0 + bitsV w 8 1 * 2 ^ 15 + bitsV w 0 8 * 2 ^ 0⟩
theorem rd_12 {f w : Int} (h : shapeV f = 12) : readV f w = rdI12 f w:=by
 unfold readV; rw [h]
 exact in_ext rfl rfl rfl rfl rfl (imm_ne (K:=12) (f:=f) (by decide)) rfl (by_ne (K:=12) (k:=xV 12 w 5) (by decide)) rfl rfl rfl
def rdI13 (f w : Int) : IN:=⟨f,0,0,0,0,0,0,0,0,0,0⟩
theorem rd_13 {f w : Int} (h : shapeV f = 13) : readV f w = rdI13 f w:=by
 unfold readV; rw [h]
 exact in_ext rfl rfl rfl rfl rfl (imm_ne (K:=13) (f:=f) (by decide)) rfl (by_ne (K:=13) (k:=xV 13 w 5) (by decide)) rfl rfl rfl
def rdI14 (f w : Int) : IN:=⟨f,0,0,0,0,0 + bitsV w 0 8 * 2 ^ 0,0,0,0,0,0⟩
theorem rd_14 {f w : Int} (h : shapeV f = 14) : readV f w = rdI14 f w:=by
 unfold readV; rw [h]
 exact in_ext rfl rfl rfl rfl rfl (imm_ne (K:=14) (f:=f) (by decide)) rfl (by_ne (K:=14) (k:=xV 14 w 5) (by decide)) rfl rfl rfl
def rdI15 (f w : Int) : IN:=⟨f,0,0,0,0,leastV (0 + bitsV w 0 8 * 2 ^ 1) 9,0,0,0,0 + bitsV w 8 4 * 2 ^ 0,0⟩
theorem rd_15 {f w : Int} (h : shapeV f = 15) : readV f w = rdI15 f w:=by
 unfold readV; rw [h]
 exact in_ext rfl rfl rfl rfl rfl (rfl) rfl (by_ne (K:=15) (k:=xV 15 w 5) (by decide)) rfl rfl rfl
def rdI16 (f w : Int) : IN:=⟨f,0,0,0,0,leastV (0 + bitsV w 0 11 * 2 ^ 1) 12,0,0,0,0,0⟩
theorem rd_16 {f w : Int} (h : shapeV f = 16) : readV f w = rdI16 f w:=by
 unfold readV; rw [h]
 exact in_ext rfl rfl rfl rfl rfl (rfl) rfl (by_ne (K:=16) (k:=xV 16 w 5) (by decide)) rfl rfl rfl
def rdI17 (f w : Int) : IN:=⟨f,0 + bitsV w 8 4 * 2 ^ 0,0,0,0,0 + bitsV w 26 1 * 2 ^ 11 + bitsV w 16 4 * 2 ^ 12 + bitsV w 12 3 * 2 ^ 8 + bitsV w 0 8 * 2 ^ 0,0,0,0,0,0⟩
theorem rd_17 {f w : Int} (h : shapeV f = 17) : readV f w = rdI17 f w:=by
 unfold readV; rw [h]
 exact in_ext rfl rfl rfl rfl rfl (imm_ne (K:=17) (f:=f) (by decide)) rfl (by_ne (K:=17) (k:=xV 17 w 5) (by decide)) rfl rfl rfl
def rdI18 (f w : Int) : IN:=⟨f,0 + bitsV w 8 4 * 2 ^ 0,0 + bitsV w 16 4 * 2 ^ 0,0,0,0 + bitsV w 26 1 * 2 ^ 11 + bitsV w 12 3 * 2 ^ 8 + bitsV w 0 8 * 2 ^ 0,0,0,0 + bitsV w 20 1 * 2 ^ 0,0,0⟩
theorem rd_18 {f w : Int} (h : shapeV f = 18) : readV f w = rdI18 f w:=by
 unfold readV; rw [h]
 exact in_ext rfl rfl rfl rfl rfl (imm_ne (K:=18) (f:=f) (by decide)) rfl (by_ne (K:=18) (k:=xV 18 w 5) (by decide)) rfl rfl rfl
def rdI19 (f w : Int) : IN:=⟨f,0 + bitsV w 8 4 * 2 ^ 0,0,0,0,0 + bitsV w 26 1 * 2 ^ 11 + bitsV w 12 3 * 2 ^ 8 + bitsV w 0 8 * 2 ^ 0,0,0,0 + bitsV w 20 1 * 2 ^ 0,0,0⟩
theorem rd_19 {f w : Int} (h : shapeV f = 19) : readV f w = rdI19 f w:=by
 unfold readV; rw [h]
 exact in_ext rfl rfl rfl rfl rfl (imm_ne (K:=19) (f:=f) (by decide)) rfl (by_ne (K:=19) (k:=xV 19 w 5) (by decide)) rfl rfl rfl
def rdI20 (f w : Int) : IN:=⟨f,0,0 + bitsV w 16 4 * 2 ^ 0,0,0,0 + bitsV w 26 1 * 2 ^ 11 + bitsV w 12 3 * 2 ^ 8 + bitsV w 0 8 * 2 ^ 0,0,0,0,0,0⟩
theorem rd_20 {f w : Int} (h : shapeV f = 20) : readV f w = rdI20 f w:=by
 unfold readV; rw [h]
 exact in_ext rfl rfl rfl rfl rfl (imm_ne (K:=20) (f:=f) (by decide)) rfl (by_ne (K:=20) (k:=xV 20 w 5) (by decide)) rfl rfl rfl
def rdI21 (f w : Int) : IN:=⟨f,0 + bitsV w 8 4 * 2 ^ 0,0 + bitsV w 16 4 * 2 ^ 0,0 + bitsV w 0 4 * 2 ^ 0,0,0,0 + bitsV w 4 2 * 2 ^ 0,if 0 + bitsV w 12 3 * 2 ^ 2 + bitsV w 6 2 * 2 ^ 0 = 0 /\ (0 + bitsV w 4 2 * 2 ^ 0 = 1 \/ 0 + bitsV w 4 2 * 2 ^ 0 = 2) then 32 else 0 + bitsV w 12 3 * 2 ^ 2 + bitsV w 6 2 * 2 ^ 0,0 + bitsV w 20 1 * 2 ^ 0,0,0⟩
theorem rd_21 {f w : Int} (h : shapeV f = 21) : readV f w = rdI21 f w:=by
 unfold readV; rw [h]
 exact in_ext rfl rfl rfl rfl rfl (imm_ne (K:=21) (f:=f) (by decide)) rfl (by_in (K:=21) (by decide)) rfl rfl rfl
def rdI22 (f w : Int) : IN:=⟨f,0 + bitsV w 8 4 * 2 ^ 0,0,0 + bitsV w 0 4 * 2 ^ 0,0,0,0 + bitsV w 4 2 * 2 ^ 0,if 0 + bitsV w 12 3 * 2 ^ 2 + bitsV w 6 2 * 2 ^ 0 = 0 /\ (0 + bitsV w 4 2 * 2 ^ 0 = 1 \/ 0 + bitsV w 4 2 * 2 ^ 0 = 2) then 32 else 0 + bitsV w 12 3 * 2 ^ 2 + bitsV w 6 2 * 2 ^ 0,0 + bitsV w 20 1 * 2 ^ 0,0,0⟩
theorem rd_22 {f w : Int} (h : shapeV f = 22) : readV f w = rdI22 f w:=by
 unfold readV; rw [h]
 exact in_ext rfl rfl rfl rfl rfl (imm_ne (K:=22) (f:=f) (by decide)) rfl (by_in (K:=22) (by decide)) rfl rfl rfl
def rdI23 (f w : Int) : IN:=⟨f,0,0 + bitsV w 16 4 * 2 ^ 0,0 + bitsV w 0 4 * 2 ^ 0,0,0,0 + bitsV w 4 2 * 2 ^ 0,if 0 + bitsV w 12 3 * 2 ^ 2 + bitsV w 6 2 * 2 ^ 0 = 0 /\ (0 + bitsV w 4 2 * 2 ^ 0 = 1 \/ 0 + bitsV w 4 2 * 2 ^ 0 = 2) then 32 else 0 + bitsV w 12 3 * 2 ^ 2 + bitsV w 6 2 * 2 ^ 0,0,0,0⟩
theorem rd_23 {f w : Int} (h : shapeV f = 23) : readV f w = rdI23 f w:=by
 unfold readV; rw [h]
 exact in_ext rfl rfl rfl rfl rfl (imm_ne (K:=23) (f:=f) (by decide)) rfl (by_in (K:=23) (by decide)) rfl rfl rfl
def rdI24 (f w : Int) : IN:=⟨f,0 + bitsV w 8 4 * 2 ^ 0,0 + bitsV w 16 4 * 2 ^ 0,0,0,0 + bitsV w 26 1 * 2 ^ 11 + bitsV w 12 3 * 2 ^ 8 + bitsV w 0 8 * 2 ^ 0,0,0,0,0,0⟩
theorem rd_24 {f w : Int} (h : shapeV f = 24) : readV f w = rdI24 f w:=by
 unfold readV; rw [h]
 exact in_ext rfl rfl rfl rfl rfl (imm_ne (K:=24) (f:=f) (by decide)) rfl (by_ne (K:=24) (k:=xV 24 w 5) (by decide)) rfl rfl rfl
def rdI25 (f w : Int) : IN:=⟨f,0 + bitsV w 12 4 * 2 ^ 0,0 + bitsV w 16 4 * 2 ^ 0,0,0,0 + bitsV w 0 12 * 2 ^ 0,0,0,0,0,0⟩
theorem rd_25 {f w : Int} (h : shapeV f = 25) : readV f w = rdI25 f w:=by
 unfold readV; rw [h]
 exact in_ext rfl rfl rfl rfl rfl (imm_ne (K:=25) (f:=f) (by decide)) rfl (by_ne (K:=25) (k:=xV 25 w 5) (by decide)) rfl rfl rfl
def rdI26 (f w : Int) : IN:=⟨f,0 + bitsV w 12 4 * 2 ^ 0,0 + bitsV w 16 4 * 2 ^ 0,0 + bitsV w 0 4 * 2 ^ 0,0,0,0,0 + bitsV w 4 2 * 2 ^ 0,0,0,0⟩
theorem rd_26 {f w : Int} (h : shapeV f = 26) : readV f w = rdI26 f w:=by
 unfold readV; rw [h]
 exact in_ext rfl rfl rfl rfl rfl (imm_ne (K:=26) (f:=f) (by decide)) rfl (by_ne (K:=26) (k:=xV 26 w 5) (by decide)) rfl rfl rfl
def rdI27 (f w : Int) : IN:=⟨f,0 + bitsV w 8 4 * 2 ^ 0,0 + bitsV w 16 4 * 2 ^ 0,0 + bitsV w 0 4 * 2 ^ 0,0,0,0,0,0 + bitsV w 20 1 * 2 ^ 0,0,0⟩
theorem rd_27 {f w : Int} (h : shapeV f = 27) : readV f w = rdI27 f w:=by
 unfold readV; rw [h]
 exact in_ext rfl rfl rfl rfl rfl (imm_ne (K:=27) (f:=f) (by decide)) rfl (by_ne (K:=27) (k:=xV 27 w 5) (by decide)) rfl rfl rfl
def rdI28 (f w : Int) : IN:=⟨f,0 + bitsV w 8 4 * 2 ^ 0,0 + bitsV w 16 4 * 2 ^ 0,0 + bitsV w 0 4 * 2 ^ 0,0,0,0,0,0,0,0⟩
theorem rd_28 {f w : Int} (h : shapeV f = 28) : readV f w = rdI28 f w:=by
 unfold readV; rw [h]
 exact in_ext rfl rfl rfl rfl rfl (imm_ne (K:=28) (f:=f) (by decide)) rfl (by_ne (K:=28) (k:=xV 28 w 5) (by decide)) rfl rfl rfl
def rdI29 (f w : Int) : IN:=⟨f,0 + bitsV w 8 4 * 2 ^ 0,0 + bitsV w 16 4 * 2 ^ 0,0 + bitsV w 0 4 * 2 ^ 0,0 + bitsV w 12 4 * 2 ^ 0,0,0,0,0,0,0⟩
theorem rd_29 {f w : Int} (h : shapeV f = 29) : readV f w = rdI29 f w:=by
 unfold readV; rw [h]
 exact in_ext rfl rfl rfl rfl rfl (imm_ne (K:=29) (f:=f) (by decide)) rfl (by_ne (K:=29) (k:=xV 29 w 5) (by decide)) rfl rfl rfl
def rdI30 (f w : Int) : IN:=⟨f,0 + bitsV w 8 4 * 2 ^ 0,0 + bitsV w 16 4 * 2 ^ 0,0 + bitsV w 0 4 * 2 ^ 0,0 + bitsV w 12 4 * 2 ^ 0,0,0,0,0,0,0⟩
theorem rd_30 {f w : Int} (h : shapeV f = 30) : readV f w = rdI30 f w:=by
 unfold readV; rw [h]
 exact in_ext rfl rfl rfl rfl rfl (imm_ne (K:=30) (f:=f) (by decide)) rfl (by_ne (K:=30) (k:=xV 30 w 5) (by decide)) rfl rfl rfl
def rdI31 (f w : Int) : IN:=⟨f,0 + bitsV w 12 4 * 2 ^ 0,0 + bitsV w 16 4 * 2 ^ 0,0 + bitsV w 0 4 * 2 ^ 0,0 + bitsV w 8 4 * 2 ^ 0,0,0,0,0,0,0⟩
theorem rd_31 {f w : Int} (h : shapeV f = 31) : readV f w = rdI31 f w:=by
 unfold readV; rw [h]
 exact in_ext rfl rfl rfl rfl rfl (imm_ne (K:=31) (f:=f) (by decide)) rfl (by_ne (K:=31) (k:=xV 31 w 5) (by decide)) rfl rfl rfl
def rdI32 (f w : Int) : IN:=⟨f,0 + bitsV w 8 4 * 2 ^ 0,0,bitsV w 0 4,0,0,0,0,0,0,0⟩
theorem rd_32 {f w : Int} (h : shapeV f = 32) : readV f w = rdI32 f w:=by
 unfold readV; rw [h]
 exact in_ext rfl rfl rfl rfl rfl (imm_ne (K:=32) (f:=f) (by decide)) rfl (by_ne (K:=32) (k:=xV 32 w 5) (by decide)) rfl rfl rfl
def rdI33 (f w : Int) : IN:=⟨f,0,0,0,0,leastV (0 + bitsV w 26 1 * 2 ^ 20 + bitsV w 16 6 * 2 ^ 12 + bitsV w 13 1 * 2 ^ 18 + bitsV w 11 1 * 2 ^ 19 + bitsV w 0 11 * 2 ^ 1) 21,0,0,0,0 + bitsV w 22 4 * 2 ^ 0,0⟩
theorem rd_33 {f w : Int} (h : shapeV f = 33) : readV f w = rdI33 f w:=by
 unfold readV; rw [h]
 exact in_ext rfl rfl rfl rfl rfl (rfl) rfl (by_ne (K:=33) (k:=xV 33 w 5) (by decide)) rfl rfl rfl
def rdI34 (f w : Int) : IN:=⟨f,0,0,0,0,leastV (turnN (0 + bitsV w 26 1 * 2 ^ 24 + bitsV w 16 10 * 2 ^ 12 + bitsV w 13 1 * 2 ^ 23 + bitsV w 11 1 * 2 ^ 22 + bitsV w 0 11 * 2 ^ 1) 2) 25,0,0,0,0,0⟩
theorem rd_34 {f w : Int} (h : shapeV f = 34) : readV f w = rdI34 f w:=by
 unfold readV; rw [h]
 exact in_ext rfl rfl rfl rfl rfl (rfl) rfl (by_ne (K:=34) (k:=xV 34 w 5) (by decide)) rfl rfl rfl
def U32 (x : Int) : Prop:=0 <= x /\ x <= 4294967295
theorem cut_bits {x : Int} (hx : 0 <= x) (l w : Nat) : cutV x l w = bitsV x l w:=by unfold cutV bitsV; rw [if_neg (by omega)]
theorem pow2_i64 (n : Nat) (h : n <= 64) : Ev.pow2 .i64 (n : Int) = 2 ^ n:=by
 unfold Ev.pow2
 rw [Int.toNat_natCast,show min n (IntKind.bits .i64) = n from Nat.min_eq_left h]
 norm_cast
theorem q1 : Ev.pow2 .i64 1 = 2:=by decide
theorem q8 : Ev.pow2 .i64 8 = 256:=by decide
theorem q11 : Ev.pow2 .i64 11 = 2048:=by decide
theorem q12 : Ev.pow2 .i64 12 = 4096:=by decide
theorem q18 : Ev.pow2 .i64 18 = 262144:=by decide
theorem q19 : Ev.pow2 .i64 19 = 524288:=by decide
theorem q20 : Ev.pow2 .i64 20 = 1048576:=by decide
theorem q22 : Ev.pow2 .i64 22 = 4194304:=by decide
theorem q23 : Ev.pow2 .i64 23 = 8388608:=by decide
theorem q24 : Ev.pow2 .i64 24 = 16777216:=by decide
theorem q3 : Ev.pow2 .i64 3 = 8:=by decide
theorem r3 : Ev.pow2 .u32 3 = 8:=by decide
theorem r4 : Ev.pow2 .u32 4 = 16:=by decide
theorem r6 : Ev.pow2 .u32 6 = 64:=by decide
theorem r7 : Ev.pow2 .u32 7 = 128:=by decide
theorem r8 : Ev.pow2 .u32 8 = 256:=by decide
theorem r11 : Ev.pow2 .u32 11 = 2048:=by decide
theorem r12 : Ev.pow2 .u32 12 = 4096:=by decide
theorem r13 : Ev.pow2 .u32 13 = 8192:=by decide
theorem r16 : Ev.pow2 .u32 16 = 65536:=by decide
theorem r20 : Ev.pow2 .u32 20 = 1048576:=by decide
theorem r22 : Ev.pow2 .u32 22 = 4194304:=by decide
theorem r26 : Ev.pow2 .u32 26 = 67108864:=by decide
theorem at_pure (x : Int) (l w : Nat) (hx : U32 x) (hw : 1 <= w /\ w <= 31) (hl : l <= 31) : PureF gT 167 [.int .u32 x,.int .i64 ((l : Int) + w - 1),.int .i64 l] (.int .i64 (bitsV x l w)):=by
 have b:=bitsV_bd x l w
 have p:=pow_bd w hw.2
 have c:=cut_bits hx.1 l w
 refine Spec.enter gTok P167 100 Tryz.func167 rfl (by kernel_rfl) ?_
 refine ⟨[],no_rl,(cut_pure x l w hx hw hl).use (by repeat' first|exact trivial|exact rfl|exact Iff.rfl|refine And.intro ?_ ?_) rfl rfl ?_⟩
 rw [c]
 refine .inl ⟨inR_i64 (by omega),?_⟩
 exact retE rfl
theorem signed_pure (n : Int) (b : Nat) (hb : b <= 40) (hn : 0 <= n /\ n < 2 ^ (b + 1)) : PureF gT 170 [.int .i64 n,.int .i64 b] (.int .i64 (leastV n (b + 1))):=by
 have p1:=pow2_i64 b (by omega)
 have p2:=pow2_i64 (b + 1) (by omega)
 have e : (((b + 1 : Nat)) : Int) = (b : Int) + 1:=rfl
 rw [e] at p2
 have d1:=pow_bd62 b (by omega)
 have d2:=pow_bd62 (b + 1) (by omega)
 have ep : (2 : Int) ^ (b + 1) = 2 ^ b * 2:=Int.pow_succ 2 b
 have d3 : (2 : Int) ^ (b + 1) <= 2199023255552:=by
  have h1 : (2 ^ (b + 1) : Nat) <= 2 ^ 41:=Nat.pow_le_pow_right (by omega) (by omega)
  have h3:=pow_cast (b + 1)
  omega
 obtain ⟨q,hq⟩ : ∃ q,q = n / 2 ^ b:=⟨_,rfl⟩
 have q0 : 0 <= q:=by rw [hq]; exact Int.ediv_nonneg hn.1 (by omega)
 have q1 : q < 2:=by rw [hq]; exact Int.ediv_lt_of_lt_mul (by omega) (by omega)
 refine Spec.enter gTok P170 100 Tryz.func170 rfl (by kernel_rfl) ?_
 refine ⟨by omega,?_⟩
 refine .inl ⟨inR_i64 (show _ <= (b : Int) + 1 /\ (b : Int) + 1 <= _ by omega),?_⟩
 have hm : n / 2 ^ b * 2 ^ (b + 1) = 0 \/ n / 2 ^ b * 2 ^ (b + 1) = 2 ^ (b + 1):=by
  rw [← hq]
  have : q = 0 \/ q = 1:=by omega
  rcases this with h | h <;> rw [h] <;> omega
 refine ⟨by omega,.inl ⟨inR_i64 (show _ <= n / Ev.pow2 .i64 (b : Int) * Ev.pow2 .i64 ((b : Int) + 1) /\ n / Ev.pow2 .i64 (b : Int) * Ev.pow2 .i64 ((b : Int) + 1) <= _ by rw [p1,p2]; omega),?_⟩⟩
 refine .inl ⟨inR_i64 (show _ <= n - n / Ev.pow2 .i64 (b : Int) * Ev.pow2 .i64 ((b : Int) + 1) /\ n - n / Ev.pow2 .i64 (b : Int) * Ev.pow2 .i64 ((b : Int) + 1) <= _ by rw [p1,p2]; omega),?_⟩
 refine retE ?_
 show n - n / Ev.pow2 .i64 (b : Int) * Ev.pow2 .i64 ((b : Int) + 1) = leastV n (b + 1)
 have eb : bitsV n b 1 = q:=by
  unfold bitsV
  rw [if_neg (by omega),← hq,show (2 : Int) ^ 1 = 2 from rfl]
  omega
 unfold leastV
 rw [p1,p2,Nat.add_sub_cancel,eb,← hq]
 have : q = 0 \/ q = 1:=by omega
 rcases this with h | h <;> rw [h]
 ·rw [if_neg (by decide)]; omega
 ·rw [if_pos rfl]; omega
theorem turned_pure (k b : Int) : PureF gT 168 [.int .i64 k,.int .i64 b] (.int .i64 (if b = 0 /\ (k = 1 \/ k = 2) then 32 else b)):=by
 refine Spec.enter gTok P168 100 Tryz.func168 rfl (by kernel_rfl) ?_
 repeat' ((conv=>whnf); first | (refine (And.intro (fun _=>?_) (fun _=>?_) : (_ -> _) /\ (_ -> _)) <;> (first | (exfalso; first | contradiction | omega) | skip)) | refine Or.inl (And.intro (by first | exact inR_i64 (by omega) | exact inR_u32 (by omega) | exact inR_u64 (by omega) | exact inR_u8 (by omega)) ?_) | (refine And.intro (show (_ : Int) ≠ 0 by omega) (Or.inl (And.intro (show (0 : Int) <= _ by omega) (And.intro (show (0 : Int) < _ by omega) ?_)))) | (refine And.intro (show (_ : Int) ≠ 0 by omega) (Or.inl (And.intro (show (0 : Int) <= _ by omega) (And.intro (by first | exact (show (_ : Int) <= 9223372036854775807 by omega) | exact (show (_ : Int) <= 4294967295 by omega)) (And.intro (show (0 : Int) < _ by omega) ?_))))) | (refine retE ?_; (show b = _); rw [if_neg (by omega)]) | (refine retE ?_; (show (32 : Int) = _); rw [if_pos (by omega)]) | (intro _))
def placesI (i : IN) (w : Int) : IN:={i with set:=bitsV w 20 1,rn:=bitsV w 16 4,rd:=bitsV w 8 4,rm:=bitsV w 0 4}
set_option maxHeartbeats 4000000 in
set_option maxRecDepth 100000 in
theorem places_pure (i : IN) (w : Int) (hw : U32 w) : PureF gT 171 [inP i,.int .u32 w] (inP (placesI i w)):=by
 refine Spec.enter gTok P171 100 Tryz.func171 rfl (by kernel_rfl) ?_
 refine ⟨[],no_rl,(at_pure w 20 1 hw (by decide) (by decide)).use (by repeat' first|exact trivial|exact rfl|exact Iff.rfl|refine And.intro ?_ ?_) rfl rfl ?_⟩
 refine ⟨[],no_rl,(at_pure w 16 4 hw (by decide) (by decide)).use (by repeat' first|exact trivial|exact rfl|exact Iff.rfl|refine And.intro ?_ ?_) rfl rfl ?_⟩
 refine ⟨[],no_rl,(at_pure w 8 4 hw (by decide) (by decide)).use (by repeat' first|exact trivial|exact rfl|exact Iff.rfl|refine And.intro ?_ ?_) rfl rfl ?_⟩
 refine ⟨[],no_rl,(at_pure w 0 4 hw (by decide) (by decide)).use (by repeat' first|exact trivial|exact rfl|exact Iff.rfl|refine And.intro ?_ ?_) rfl rfl ?_⟩
 (refine retE ?_; repeat' first|exact trivial|exact rfl|exact Iff.rfl|refine And.intro ?_ ?_)
def threeI (i : IN) (w : Int) : IN:={i with rd:=bitsV w 0 3,rn:=bitsV w 3 3}
set_option maxHeartbeats 4000000 in
set_option maxRecDepth 100000 in
theorem three_pure (i : IN) (w : Int) (hw : U32 w) : PureF gT 169 [inP i,.int .u32 w] (inP (threeI i w)):=by
 refine Spec.enter gTok P169 100 Tryz.func169 rfl (by kernel_rfl) ?_
 refine ⟨[],no_rl,(at_pure w 0 3 hw (by decide) (by decide)).use (by repeat' first|exact trivial|exact rfl|exact Iff.rfl|refine And.intro ?_ ?_) rfl rfl ?_⟩
 refine ⟨[],no_rl,(at_pure w 3 3 hw (by decide) (by decide)).use (by repeat' first|exact trivial|exact rfl|exact Iff.rfl|refine And.intro ?_ ?_) rfl rfl ?_⟩
 (refine retE ?_; repeat' first|exact trivial|exact rfl|exact Iff.rfl|refine And.intro ?_ ?_)
theorem same_pure (a b : Int) (ha : a = 0 \/ a = 1) (hb : b = 0 \/ b = 1) : PureF gT 196 [.int .u32 a,.int .u32 b] (.int .u32 (if a = b then 1 else 0)):=by
 refine Spec.enter gTok P196 100 Tryz.func196 rfl (by kernel_rfl) ?_
 refine retE ?_
 show bits .xor .u32 (bits .xor .u32 1 a) b = _
 rcases ha with rfl | rfl <;> rcases hb with rfl | rfl <;> decide
theorem or_comm64 (a b : Int) (ha : 0 <= a /\ a <= 4294967295) (hb : 0 <= b /\ b <= 4294967295) : bits .or .i64 a b = bits .or .i64 b a:=by
 have ea : a = (a.toNat : Int):=by omega
 have eb : b = (b.toNat : Int):=by omega
 rw [ea,eb,Rm.i64_or_ _ _ (by omega) (by omega),Rm.i64_or_ _ _ (by omega) (by omega),Nat.or_comm]
def numT (w : Int) : Int:=bitsV w 26 1 * 2048 + bitsV w 12 3 * 256 + bitsV w 0 8
theorem num_bd (w : Int) : 0 <= numT w /\ numT w < 4096:=by
 have b1:=bitsV_bd w 26 1
 have b2:=bitsV_bd w 12 3
 have b3:=bitsV_bd w 0 8
 unfold numT; omega
theorem num_or (w : Int) : bits .or .i64 (bits .or .i64 (bitsV w 26 1 * 2048) (bitsV w 12 3 * 256)) (bitsV w 0 8) = numT w:=by
 have b1:=bitsV_bd w 26 1
 have b2:=bitsV_bd w 12 3
 have b3:=bitsV_bd w 0 8
 rw [Rm.i64_join (bitsV w 26 1 * 2048) (bitsV w 12 3 * 256) 11 (by omega) (by omega) (by omega) (by omega) (by omega) (by omega)]
 rw [Rm.i64_join (bitsV w 26 1 * 2048 + bitsV w 12 3 * 256) (bitsV w 0 8) 8 (by omega) (by omega) (by omega) (by omega) (by omega) (by omega)]
 rfl
set_option maxHeartbeats 4000000 in
set_option maxRecDepth 100000 in
theorem number_f (w : Int) (hw : U32 w) : PureF gT 172 [.int .u32 w,.ff] (.int .i64 (numT w)):=by
 have b1:=bitsV_bd w 26 1
 have b2:=bitsV_bd w 12 3
 have b3:=bitsV_bd w 0 8
 refine Spec.enter gTok P172 100 Tryz.func172 rfl (by kernel_rfl) ?_
 refine ⟨[],no_rl,(at_pure w 26 1 hw (by decide) (by decide)).use (by repeat' first|exact trivial|exact rfl|exact Iff.rfl|refine And.intro ?_ ?_) rfl rfl ?_⟩
 refine ⟨by decide,.inl ⟨inR_i64 (by rw [q11]; omega),?_⟩⟩
 refine ⟨[],no_rl,(at_pure w 12 3 hw (by decide) (by decide)).use (by repeat' first|exact trivial|exact rfl|exact Iff.rfl|refine And.intro ?_ ?_) rfl rfl ?_⟩
 refine ⟨by decide,.inl ⟨inR_i64 (by rw [q8]; omega),?_⟩⟩
 refine ⟨[],no_rl,(at_pure w 0 8 hw (by decide) (by decide)).use (by repeat' first|exact trivial|exact rfl|exact Iff.rfl|refine And.intro ?_ ?_) rfl rfl ?_⟩
 refine retE ?_
 show bits .or .i64 (bits .or .i64 (bitsV w 26 1 * Ev.pow2 .i64 11) (bitsV w 12 3 * Ev.pow2 .i64 8)) (bitsV w 0 8) = numT w
 rw [q11,q8,num_or]
set_option maxHeartbeats 4000000 in
set_option maxRecDepth 100000 in
theorem number_t (w : Int) (hw : U32 w) : PureF gT 172 [.int .u32 w,.tt] (.int .i64 (numT w + bitsV w 16 4 * 4096)):=by
 have b1:=bitsV_bd w 26 1
 have b2:=bitsV_bd w 12 3
 have b3:=bitsV_bd w 0 8
 have b4:=bitsV_bd w 16 4
 refine Spec.enter gTok P172 100 Tryz.func172 rfl (by kernel_rfl) ?_
 refine ⟨[],no_rl,(at_pure w 26 1 hw (by decide) (by decide)).use (by repeat' first|exact trivial|exact rfl|exact Iff.rfl|refine And.intro ?_ ?_) rfl rfl ?_⟩
 refine ⟨by decide,.inl ⟨inR_i64 (by rw [q11]; omega),?_⟩⟩
 refine ⟨[],no_rl,(at_pure w 12 3 hw (by decide) (by decide)).use (by repeat' first|exact trivial|exact rfl|exact Iff.rfl|refine And.intro ?_ ?_) rfl rfl ?_⟩
 refine ⟨by decide,.inl ⟨inR_i64 (by rw [q8]; omega),?_⟩⟩
 refine ⟨[],no_rl,(at_pure w 0 8 hw (by decide) (by decide)).use (by repeat' first|exact trivial|exact rfl|exact Iff.rfl|refine And.intro ?_ ?_) rfl rfl ?_⟩
 refine ⟨[],no_rl,(at_pure w 16 4 hw (by decide) (by decide)).use (by repeat' first|exact trivial|exact rfl|exact Iff.rfl|refine And.intro ?_ ?_) rfl rfl ?_⟩
 refine ⟨by decide,.inl ⟨inR_i64 (by rw [q12]; omega),?_⟩⟩
 refine retE ?_
 show bits .or .i64 (bits .or .i64 (bits .or .i64 (bitsV w 26 1 * Ev.pow2 .i64 11) (bitsV w 12 3 * Ev.pow2 .i64 8)) (bitsV w 0 8)) (bitsV w 16 4 * Ev.pow2 .i64 12) = _
 have nb:=num_bd w
 rw [q11,q8,q12,num_or,or_comm64 _ _ (by omega) (by omega),Rm.i64_join (bitsV w 16 4 * 4096) (numT w) 12 (by omega) (by omega) (by omega) (by omega) (by omega) (by omega)]
 omega
def condT (w : Int) : Int:=0 + bitsV w 26 1 * 2 ^ 20 + bitsV w 16 6 * 2 ^ 12 + bitsV w 13 1 * 2 ^ 18 + bitsV w 11 1 * 2 ^ 19 + bitsV w 0 11 * 2 ^ 1
set_option maxHeartbeats 4000000 in
set_option maxRecDepth 100000 in
theorem condOf_pure (w : Int) (hw : U32 w) : PureF gT 175 [.int .u32 w] (.int .i64 (leastV (condT w) 21)):=by
 have b1:=bitsV_bd w 26 1
 have b2:=bitsV_bd w 11 1
 have b3:=bitsV_bd w 13 1
 have b4:=bitsV_bd w 16 6
 have b5:=bitsV_bd w 0 11
 refine Spec.enter gTok P175 100 Tryz.func175 rfl (by kernel_rfl) ?_
 refine ⟨[],no_rl,(at_pure w 26 1 hw (by decide) (by decide)).use (by repeat' first|exact trivial|exact rfl|exact Iff.rfl|refine And.intro ?_ ?_) rfl rfl ?_⟩
 refine ⟨by decide,.inl ⟨inR_i64 (by rw [q20]; omega),?_⟩⟩
 refine ⟨[],no_rl,(at_pure w 11 1 hw (by decide) (by decide)).use (by repeat' first|exact trivial|exact rfl|exact Iff.rfl|refine And.intro ?_ ?_) rfl rfl ?_⟩
 refine ⟨by decide,.inl ⟨inR_i64 (by rw [q19]; omega),?_⟩⟩
 refine ⟨[],no_rl,(at_pure w 13 1 hw (by decide) (by decide)).use (by repeat' first|exact trivial|exact rfl|exact Iff.rfl|refine And.intro ?_ ?_) rfl rfl ?_⟩
 refine ⟨by decide,.inl ⟨inR_i64 (by rw [q18]; omega),?_⟩⟩
 refine ⟨[],no_rl,(at_pure w 16 6 hw (by decide) (by decide)).use (by repeat' first|exact trivial|exact rfl|exact Iff.rfl|refine And.intro ?_ ?_) rfl rfl ?_⟩
 refine ⟨by decide,.inl ⟨inR_i64 (by rw [q12]; omega),?_⟩⟩
 refine ⟨[],no_rl,(at_pure w 0 11 hw (by decide) (by decide)).use (by repeat' first|exact trivial|exact rfl|exact Iff.rfl|refine And.intro ?_ ?_) rfl rfl ?_⟩
 refine ⟨by decide,.inl ⟨inR_i64 (by rw [q1]; omega),?_⟩⟩
 have e : bits .or .i64 (bits .or .i64 (bits .or .i64 (bits .or .i64 (bitsV w 26 1 * Ev.pow2 .i64 20) (bitsV w 11 1 * Ev.pow2 .i64 19)) (bitsV w 13 1 * Ev.pow2 .i64 18)) (bitsV w 16 6 * Ev.pow2 .i64 12)) (bitsV w 0 11 * Ev.pow2 .i64 1) = condT w:=by
  rw [q20,q19,q18,q12,q1]
  rw [Rm.i64_join (bitsV w 26 1 * 1048576) (bitsV w 11 1 * 524288) 20 (by omega) (by omega) (by omega) (by omega) (by omega) (by omega)]
  rw [Rm.i64_join (bitsV w 26 1 * 1048576 + bitsV w 11 1 * 524288) (bitsV w 13 1 * 262144) 19 (by omega) (by omega) (by omega) (by omega) (by omega) (by omega)]
  rw [Rm.i64_join (bitsV w 26 1 * 1048576 + bitsV w 11 1 * 524288 + bitsV w 13 1 * 262144) (bitsV w 16 6 * 4096) 18 (by omega) (by omega) (by omega) (by omega) (by omega) (by omega)]
  rw [Rm.i64_join (bitsV w 26 1 * 1048576 + bitsV w 11 1 * 524288 + bitsV w 13 1 * 262144 + bitsV w 16 6 * 4096) (bitsV w 0 11 * 2) 12 (by omega) (by omega) (by omega) (by omega) (by omega) (by omega)]
  unfold condT; omega
 have hb : 0 <= condT w /\ condT w < 2 ^ (20 + 1):=by unfold condT; omega
 refine ⟨[],no_rl,(signed_pure (condT w) 20 (by decide) hb).use (And.intro e (And.intro rfl trivial)) rfl rfl ?_⟩
 exact retE rfl
def jumpT (w : Int) : Int:=0 + bitsV w 26 1 * 2 ^ 24 + bitsV w 16 10 * 2 ^ 12 + bitsV w 13 1 * 2 ^ 23 + bitsV w 11 1 * 2 ^ 22 + bitsV w 0 11 * 2 ^ 1
theorem jumpT_bits (w : Int) : 0 <= jumpT w /\ jumpT w < 33554432 /\ jumpT w / 16777216 = bitsV w 26 1 /\ jumpT w / 8388608 % 2 = bitsV w 13 1 /\ jumpT w / 4194304 % 2 = bitsV w 11 1 /\ jumpT w % 4194304 = bitsV w 16 10 * 4096 + bitsV w 0 11 * 2:=by
 have b1:=bitsV_bd w 26 1
 have b2:=bitsV_bd w 11 1
 have b3:=bitsV_bd w 13 1
 have b4:=bitsV_bd w 16 10
 have b5:=bitsV_bd w 0 11
 unfold jumpT; omega
theorem jumpT_turn (w : Int) : turnN (jumpT w) 2 = bitsV w 26 1 * 16777216 + (if bitsV w 13 1 = bitsV w 26 1 then 1 else 0) * 8388608 + (if bitsV w 11 1 = bitsV w 26 1 then 1 else 0) * 4194304 + bitsV w 16 10 * 4096 + bitsV w 0 11 * 2:=by
 obtain ⟨h0,h1,h2,h3,h4,h5⟩:=jumpT_bits w
 have b:=turn_bits ⟨h0,h1⟩
 have c:=turn_bd ⟨h0,h1⟩
 have e : jumpT w / 16777216 % 2 = bitsV w 26 1:=by omega
 rw [h2,h3,h4,h5,← h2,h2] at b
 have e2 : bitsV w 26 1 % 2 = bitsV w 26 1:=by omega
 rw [e2] at b
 obtain ⟨t,ht⟩ : ∃ t,t = turnN (jumpT w) 2:=⟨_,rfl⟩
 rw [← ht] at b c ⊢
 clear ht
 obtain ⟨k1,k2,k3,k4⟩:=b
 rw [← k3,← k4]
 clear k3 k4
 omega
set_option maxHeartbeats 4000000 in
set_option maxRecDepth 100000 in
theorem jumpOf_pure (w : Int) (hw : U32 w) : PureF gT 176 [.int .u32 w] (.int .i64 (leastV (turnN (jumpT w) 2) 25)):=by
 have b1:=bitsV_bd w 26 1
 have b2:=bitsV_bd w 11 1
 have b3:=bitsV_bd w 13 1
 have b4:=bitsV_bd w 16 10
 have b5:=bitsV_bd w 0 11
 have c1 : cutV w 26 1 = bitsV w 26 1:=cut_bits hw.1 26 1
 have c2 : cutV w 13 1 = bitsV w 13 1:=cut_bits hw.1 13 1
 have c3 : cutV w 11 1 = bitsV w 11 1:=cut_bits hw.1 11 1
 have s2:=same_pure (bitsV w 13 1) (bitsV w 26 1) (bit_bd w 13) (bit_bd w 26)
 have s3:=same_pure (bitsV w 11 1) (bitsV w 26 1) (bit_bd w 11) (bit_bd w 26)
 have k2:=cut_pure w 26 1 hw (by decide) (by decide)
 have k3:=cut_pure w 13 1 hw (by decide) (by decide)
 have k4:=cut_pure w 11 1 hw (by decide) (by decide)
 rw [c1] at k2
 rw [c2] at k3
 rw [c3] at k4
 have jt:=jumpT_turn w
 obtain ⟨m2,hm2⟩ : ∃ m : Int,m = if bitsV w 13 1 = bitsV w 26 1 then 1 else 0:=⟨_,rfl⟩
 obtain ⟨m3,hm3⟩ : ∃ m : Int,m = if bitsV w 11 1 = bitsV w 26 1 then 1 else 0:=⟨_,rfl⟩
 have d2 : 0 <= m2 /\ m2 <= 1:=by rw [hm2]; split <;> omega
 have d3 : 0 <= m3 /\ m3 <= 1:=by rw [hm3]; split <;> omega
 rw [← hm2] at s2 jt
 rw [← hm3] at s3 jt
 refine Spec.enter gTok P176 100 Tryz.func176 rfl (by kernel_rfl) ?_
 refine ⟨[],no_rl,k2.use (by repeat' first|exact trivial|exact rfl|exact Iff.rfl|refine And.intro ?_ ?_) rfl rfl ?_⟩
 refine .inl ⟨inR_i64 (by omega),?_⟩
 refine ⟨by decide,.inl ⟨inR_i64 (by rw [q24]; omega),?_⟩⟩
 refine ⟨[],no_rl,k3.use (by repeat' first|exact trivial|exact rfl|exact Iff.rfl|refine And.intro ?_ ?_) rfl rfl ?_⟩
 refine ⟨[],no_rl,s2.use (by repeat' first|exact trivial|exact rfl|exact Iff.rfl|refine And.intro ?_ ?_) rfl rfl ?_⟩
 refine .inl ⟨inR_i64 (by omega),?_⟩
 refine ⟨by decide,.inl ⟨inR_i64 (by rw [q23]; omega),?_⟩⟩
 refine ⟨[],no_rl,k4.use (by repeat' first|exact trivial|exact rfl|exact Iff.rfl|refine And.intro ?_ ?_) rfl rfl ?_⟩
 refine ⟨[],no_rl,s3.use (by repeat' first|exact trivial|exact rfl|exact Iff.rfl|refine And.intro ?_ ?_) rfl rfl ?_⟩
 refine .inl ⟨inR_i64 (by omega),?_⟩
 refine ⟨by decide,.inl ⟨inR_i64 (by rw [q22]; omega),?_⟩⟩
 refine ⟨[],no_rl,(at_pure w 16 10 hw (by decide) (by decide)).use (by repeat' first|exact trivial|exact rfl|exact Iff.rfl|refine And.intro ?_ ?_) rfl rfl ?_⟩
 refine ⟨by decide,.inl ⟨inR_i64 (by rw [q12]; omega),?_⟩⟩
 refine ⟨[],no_rl,(at_pure w 0 11 hw (by decide) (by decide)).use (by repeat' first|exact trivial|exact rfl|exact Iff.rfl|refine And.intro ?_ ?_) rfl rfl ?_⟩
 refine ⟨by decide,.inl ⟨inR_i64 (by rw [q1]; omega),?_⟩⟩
 have e : bits .or .i64 (bits .or .i64 (bits .or .i64 (bits .or .i64 (bitsV w 26 1 * Ev.pow2 .i64 24) (m2 * Ev.pow2 .i64 23)) (m3 * Ev.pow2 .i64 22)) (bitsV w 16 10 * Ev.pow2 .i64 12)) (bitsV w 0 11 * Ev.pow2 .i64 1) = turnN (jumpT w) 2:=by
  rw [q24,q23,q22,q12,q1]
  rw [Rm.i64_join (bitsV w 26 1 * 16777216) (m2 * 8388608) 24 (by omega) (by omega) (by omega) (by omega) (by omega) (by omega)]
  rw [Rm.i64_join (bitsV w 26 1 * 16777216 + m2 * 8388608) (m3 * 4194304) 23 (by omega) (by omega) (by omega) (by omega) (by omega) (by omega)]
  rw [Rm.i64_join (bitsV w 26 1 * 16777216 + m2 * 8388608 + m3 * 4194304) (bitsV w 16 10 * 4096) 22 (by omega) (by omega) (by omega) (by omega) (by omega) (by omega)]
  rw [Rm.i64_join (bitsV w 26 1 * 16777216 + m2 * 8388608 + m3 * 4194304 + bitsV w 16 10 * 4096) (bitsV w 0 11 * 2) 12 (by omega) (by omega) (by omega) (by omega) (by omega) (by omega)]
  rw [jt]
 have hb:=turn_bd ⟨(jumpT_bits w).1,(jumpT_bits w).2.1⟩
 refine ⟨[],no_rl,(signed_pure (turnN (jumpT w) 2) 24 (by decide) ⟨hb.1,by omega⟩).use (And.intro e (And.intro rfl trivial)) rfl rfl ?_⟩
 exact retE rfl
end Go.Proofs.YtnbngokbamifbaaGreatDoor.Pw
namespace Go.Proofs.YtnbngokbamifbaaGreatDoor.Pw
open Go Go.RowKit
theorem PureF.weak {G : Gx} {f : FuncId} {args : List PV} {r r' : PV} (h : PureF G f args r) (hle : PLe r r') : PureF G f args r':=by
 refine Spec.intro h.run.1 fun I β w vals hH hM hA=>?_
 refine (h.run.2 I β w vals hH hM hA).mono fun e w' ⟨v,r1,S',I',β',he,hr,hi,hrest⟩=>?_
 subst hr
 exact ⟨v,r',S',I',β',he,rfl,hle _ _ _ _ hi,hrest⟩
theorem pshapeLit {f K : Int} (h : shapeV f = K) : PureF gT 149 [.int .i64 f] (.lit .i64 K) :=
 (shape_pure f).weak (leK_ok (x:=.int .i64 (shapeV f)) (y:=.lit .i64 K) h)
end Go.Proofs.YtnbngokbamifbaaGreatDoor.Pw
namespace Go.Proofs.YtnbngokbamifbaaGreatDoor.Pw
open Go Go.RowKit
def B (v : Int) (l w a : Nat) : Nat:=(bitsV v l w).toNat <<< a
theorem B_lt (v : Int) {l w a : Nat} (h : w + a <= 32) : B v l w a < 4294967296:=by
 have b:=bitsV_bd v l w
 have e:=pow_cast w
 have h1 : (bitsV v l w).toNat < 2 ^ w:=by omega
 unfold B
 rw [Nat.shiftLeft_eq]
 calc (bitsV v l w).toNat * 2 ^ a < 2 ^ w * 2 ^ a:=Nat.mul_lt_mul_of_pos_right h1 (Nat.two_pow_pos a)
  _ = 2 ^ (w + a):=(Nat.pow_add ..).symm
  _ <= 2 ^ 32:=Nat.pow_le_pow_right (by omega) h
theorem B_eq (v : Int) (l w a : Nat) (p : Int) (hp : p = 2 ^ a) : bitsV v l w * p = ((B v l w a : Nat) : Int):=by
 have b:=bitsV_bd v l w
 unfold B
 rw [Nat.shiftLeft_eq,hp,Int.natCast_mul,Int.toNat_of_nonneg b.1,pow_cast]
def IsN (x : Int) (a : Nat) : Prop:=x = (a : Int) /\ a < 4294967296
theorem IsN.or {x y : Int} {a b : Nat} (hx : IsN x a) (hy : IsN y b) : IsN (bits .or .u32 x y) (a ||| b):=by
 obtain ⟨rfl,ha⟩:=hx
 obtain ⟨rfl,hb⟩:=hy
 refine ⟨?_,Nat.or_lt_two_pow (n:=32) ha hb⟩
 rw [u32_or _ _ (by omega) (by omega) (by omega) (by omega),Int.toNat_natCast,Int.toNat_natCast]
theorem isB (v : Int) (l w a : Nat) {p : Int} (hp : p = 2 ^ a) (h : w + a <= 32) : IsN (bitsV v l w * p) (B v l w a):=⟨B_eq v l w a p hp,B_lt v h⟩
theorem isB0 (v : Int) (l w : Nat) (h : w <= 32) : IsN (bitsV v l w) (B v l w 0):=⟨by have:=B_eq v l w 0 1 rfl; rwa [Int.mul_one] at this,B_lt v h⟩
theorem bits_id {v : Int} {w : Nat} (h : 0 <= v /\ v < 2 ^ w) : bitsV v 0 w = v:=by
 unfold bitsV
 rw [if_neg (by omega),show (2 : Int) ^ 0 = 1 from rfl,Int.ediv_one]
 exact Int.emod_eq_of_lt h.1 h.2
theorem isR (v : Int) (w a : Nat) {p : Int} (hp : p = 2 ^ a) (h : w + a <= 32) (hv : 0 <= v /\ v < 2 ^ w) : IsN (v * p) (B v 0 w a):=by
 have:=isB v 0 w a hp h
 rwa [bits_id hv] at this
theorem isR0 (v : Int) (w : Nat) (h : w <= 32) (hv : 0 <= v /\ v < 2 ^ w) : IsN v (B v 0 w 0):=by
 have:=isB0 v 0 w h
 rwa [bits_id hv] at this
theorem B_zero {v : Int} {l w a : Nat} (h : bitsV v l w = 0) : B v l w a = 0:=by unfold B; rw [h]; simp
theorem B_0 {v : Int} {l w a : Nat} (h : v = 0) : B v l w a = 0:=by
 subst h
 apply B_zero
 unfold bitsV
 rw [if_neg (by omega),Int.zero_ediv,Int.zero_emod]
def orF (i : IN) (l : List (Nat × Nat × Nat × Nat)) : Nat:=l.foldl (fun w x=>w ||| B (getV i x.1) x.2.1 x.2.2.2 x.2.2.1) 0
theorem fold_or (i : IN) : ∀ (l : List (Nat × Nat × Nat × Nat)) (W V : Nat),l.foldl (putF i) (W ||| V) = W ||| l.foldl (fun w x=>w ||| B (getV i x.1) x.2.1 x.2.2.2 x.2.2.1) V
 | [],_,_=>rfl
 | x :: l,W,V=>by
  rw [List.foldl_cons,List.foldl_cons]
  have e : putF i (W ||| V) x = W ||| (V ||| B (getV i x.1) x.2.1 x.2.2.2 x.2.2.1):=by
   have h : (bitsV (getV i x.1) x.2.1 x.2.2.2).toNat < 2 ^ x.2.2.2:=vF_lt i x
   unfold putF plus B
   rw [Nat.mod_eq_of_lt h,Nat.or_assoc]
  rw [e,fold_or i l]
theorem wordF_or (i : IN) (l : List (Nat × Nat × Nat × Nat)) : wordF i l = (fbV i.form).toNat ||| orF i l:=by
 unfold wordF orF
 rw [← fold_or i l,Nat.or_zero]
theorem word_or (i : IN) : wordV i = (((fbV i.form).toNat ||| orF (turnI i) (fieldsV (shapeV i.form)) : Nat) : Int):=by
 unfold wordV
 rw [wordF_or,turnI_form]
theorem or4_lt {a b : Nat} (ha : a < 4294967296) (hb : b < 4294967296) : a ||| b < 4294967296:=Nat.or_lt_two_pow (n:=32) ha hb
theorem isPlain (i : IN) : IsN ((B i.set 0 1 20 ||| B i.rn 0 4 16 ||| B i.ra 0 4 12 ||| B i.rd 0 4 8 ||| B i.rm 0 4 0 : Nat) : Int) (B i.set 0 1 20 ||| B i.rn 0 4 16 ||| B i.ra 0 4 12 ||| B i.rd 0 4 8 ||| B i.rm 0 4 0) :=
 ⟨rfl,or4_lt (or4_lt (or4_lt (or4_lt (B_lt _ (by decide)) (B_lt _ (by decide))) (B_lt _ (by decide))) (B_lt _ (by decide))) (B_lt _ (by decide))⟩
theorem isTwelve (n : Int) : IsN ((B n 11 1 26 ||| B n 12 4 16 ||| B n 8 3 12 ||| B n 0 8 0 : Nat) : Int) (B n 11 1 26 ||| B n 12 4 16 ||| B n 8 3 12 ||| B n 0 8 0) :=
 ⟨rfl,or4_lt (or4_lt (or4_lt (B_lt _ (by decide)) (B_lt _ (by decide))) (B_lt _ (by decide))) (B_lt _ (by decide))⟩
theorem cutB (x : Int) (l w : Nat) (hx : U32 x) (hw : 1 <= w /\ w <= 31) (hl : l <= 31) : PureF gT 195 [.int .u32 x,.int .i64 ((l : Int) + w - 1),.int .i64 l] (.int .u32 (bitsV x l w)):=by
 have h:=cut_pure x l w hx hw hl
 rwa [cut_bits hx.1 l w] at h
theorem wrap_bits (v : Int) (l w : Nat) (h : l + w <= 32) (hv : -1099511627776 <= v) : cutV (IntKind.u32.wrap v) l w = bitsV v l w:=by
 rw [IntKind.wrap_u32',cut_bits (by omega)]
 obtain ⟨n,hn⟩ : ∃ n : Nat,(n : Int) = if v < 0 then v + 1099511627776 else v:=⟨(if v < 0 then v + 1099511627776 else v).toNat,Int.toNat_of_nonneg (by split <;> omega)⟩
 have e : v % 4294967296 = ((n % 4294967296 : Nat) : Int):=by
  rw [Int.natCast_emod,hn]
  split <;> omega
 rw [e,bitsV_nat]
 unfold bitsV
 rw [← hn]
 have key : n % 4294967296 / 2 ^ l % 2 ^ w = n / 2 ^ l % 2 ^ w:=by
  apply Nat.eq_of_testBit_eq
  intro p
  rw [Nat.testBit_mod_two_pow,Nat.testBit_mod_two_pow,Nat.testBit_div_two_pow,Nat.testBit_div_two_pow,show (4294967296 : Nat) = 2 ^ 32 from rfl,Nat.testBit_mod_two_pow]
  by_cases hp : p < w
  ·rw [decide_eq_true hp,decide_eq_true (show p + l < 32 by omega)]; simp
  ·rw [decide_eq_false hp]; simp
 rw [key,← pow_cast,← pow_cast]
 norm_cast
theorem cutW (v : Int) (l w : Nat) (hv : -1099511627776 <= v) (hw : 1 <= w /\ w <= 31) (hl : l <= 31) (h : l + w <= 32) : PureF gT 195 [.int .u32 (IntKind.u32.wrap v),.int .i64 ((l : Int) + w - 1),.int .i64 l] (.int .u32 (bitsV v l w)):=by
 have hx : 0 <= IntKind.u32.wrap v /\ IntKind.u32.wrap v <= 4294967295:=by rw [IntKind.wrap_u32']; omega
 have k:=cut_pure (IntKind.u32.wrap v) l w hx hw hl
 rwa [wrap_bits v l w h hv] at k
theorem bits_div {v : Int} (h : 0 <= v) (w : Nat) : bitsV (v / 4) 0 w = bitsV v 2 w:=by
 unfold bitsV
 rw [if_neg (by omega),if_neg (by omega),show (2 : Int) ^ 0 = 1 from rfl,show (2 : Int) ^ 2 = 4 from rfl,Int.ediv_one]
theorem B_div {v : Int} {w a : Nat} (h : 0 <= v) : B (v / 4) 0 w a = B v 2 w a:=by unfold B; rw [bits_div h]
theorem isD (v : Int) (w : Nat) (h : w <= 32) (h0 : 0 <= v) (hv : v / 4 < 2 ^ w) : IsN (v / 4) (B v 2 w 0):=by
 have:=isR0 (v / 4) w h ⟨by omega,hv⟩
 rwa [B_div h0] at this
set_option maxHeartbeats 4000000 in
set_option maxRecDepth 100000 in
theorem small_pure (i : IN) (v : Int) (w : Nat) (hv : 0 <= v /\ v < 2 ^ w) (hd : 0 <= i.rd /\ i.rd < 8) (hn : 0 <= i.rn /\ i.rn < 8) (hw : w <= 20) : PureF gT 201 [inP i,.int .u32 v] (.int .u32 ((B v 0 w 6 ||| B i.rn 0 3 3 ||| B i.rd 0 3 0 : Nat) : Int)):=by
 have hp:=pow_bd w (by omega)
 have hp2 : (2 : Int) ^ w <= 1048576:=by
  have h1 : (2 ^ w : Nat) <= 2 ^ 20:=Nat.pow_le_pow_right (by omega) hw
  have h3:=pow_cast w
  omega
 refine Spec.enter gTok P201 100 Tryz.func201 rfl (by kernel_rfl) ?_
 refine ⟨by decide,.inl ⟨inR_u32 (by rw [r6]; omega),?_⟩⟩
 refine .inl ⟨inR_u32 (by omega),?_⟩
 refine ⟨by decide,.inl ⟨inR_u32 (by rw [r3]; omega),?_⟩⟩
 refine .inl ⟨inR_u32 (by omega),?_⟩
 refine retE ?_
 exact (show bits .or .u32 (bits .or .u32 (v * Ev.pow2 .u32 6) (i.rn * Ev.pow2 .u32 3)) i.rd = _ from (((isR v w 6 (by decide) (by omega) hv).or (isR i.rn 3 3 (by decide) (by decide) hn)).or (isR0 i.rd 3 (by decide) hd)).1)
set_option maxHeartbeats 4000000 in
set_option maxRecDepth 100000 in
theorem plain_pure (i : IN) (hs : 0 <= i.set /\ i.set < 2) (hd : 0 <= i.rd /\ i.rd < 16) (hn : 0 <= i.rn /\ i.rn < 16) (hm : 0 <= i.rm /\ i.rm < 16) (ha : 0 <= i.ra /\ i.ra < 16) : PureF gT 197 [inP i] (.int .u32 ((B i.set 0 1 20 ||| B i.rn 0 4 16 ||| B i.ra 0 4 12 ||| B i.rd 0 4 8 ||| B i.rm 0 4 0 : Nat) : Int)):=by
 refine Spec.enter gTok P197 100 Tryz.func197 rfl (by kernel_rfl) ?_
 refine .inl ⟨inR_u32 (by omega),?_⟩
 refine ⟨by decide,.inl ⟨inR_u32 (by rw [r20]; omega),?_⟩⟩
 refine .inl ⟨inR_u32 (by omega),?_⟩
 refine ⟨by decide,.inl ⟨inR_u32 (by rw [r16]; omega),?_⟩⟩
 refine .inl ⟨inR_u32 (by omega),?_⟩
 refine ⟨by decide,.inl ⟨inR_u32 (by rw [r12]; omega),?_⟩⟩
 refine .inl ⟨inR_u32 (by omega),?_⟩
 refine ⟨by decide,.inl ⟨inR_u32 (by rw [r8]; omega),?_⟩⟩
 refine .inl ⟨inR_u32 (by omega),?_⟩
 refine retE ?_
 exact (show bits .or .u32 (bits .or .u32 (bits .or .u32 (bits .or .u32 (i.set * Ev.pow2 .u32 20) (i.rn * Ev.pow2 .u32 16)) (i.ra * Ev.pow2 .u32 12)) (i.rd * Ev.pow2 .u32 8)) i.rm = _ from (((((isR i.set 1 20 (by decide) (by decide) hs).or (isR i.rn 4 16 (by decide) (by decide) hn)).or (isR i.ra 4 12 (by decide) (by decide) ha)).or (isR i.rd 4 8 (by decide) (by decide) hd)).or (isR0 i.rm 4 (by decide) hm)).1)
set_option maxHeartbeats 4000000 in
set_option maxRecDepth 100000 in
theorem twelve_pure (n : Int) (hn : U32 n) : PureF gT 198 [.int .u32 n] (.int .u32 ((B n 11 1 26 ||| B n 12 4 16 ||| B n 8 3 12 ||| B n 0 8 0 : Nat) : Int)):=by
 have b0:=bitsV_bd n 11 1
 have b1:=bitsV_bd n 12 4
 have b2:=bitsV_bd n 8 3
 have b3:=bitsV_bd n 0 8
 refine Spec.enter gTok P198 100 Tryz.func198 rfl (by kernel_rfl) ?_
 refine ⟨[],no_rl,(cutB n 11 1 hn (by decide) (by decide)).use (by repeat' first|exact trivial|exact rfl|exact Iff.rfl|refine And.intro ?_ ?_) rfl rfl ?_⟩
 refine ⟨by decide,.inl ⟨inR_u32 (by rw [r26]; omega),?_⟩⟩
 refine ⟨[],no_rl,(cutB n 12 4 hn (by decide) (by decide)).use (by repeat' first|exact trivial|exact rfl|exact Iff.rfl|refine And.intro ?_ ?_) rfl rfl ?_⟩
 refine ⟨by decide,.inl ⟨inR_u32 (by rw [r16]; omega),?_⟩⟩
 refine ⟨[],no_rl,(cutB n 8 3 hn (by decide) (by decide)).use (by repeat' first|exact trivial|exact rfl|exact Iff.rfl|refine And.intro ?_ ?_) rfl rfl ?_⟩
 refine ⟨by decide,.inl ⟨inR_u32 (by rw [r12]; omega),?_⟩⟩
 refine ⟨[],no_rl,(cutB n 0 8 hn (by decide) (by decide)).use (by repeat' first|exact trivial|exact rfl|exact Iff.rfl|refine And.intro ?_ ?_) rfl rfl ?_⟩
 refine retE ?_
 exact (show bits .or .u32 (bits .or .u32 (bits .or .u32 (bitsV n 11 1 * Ev.pow2 .u32 26) (bitsV n 12 4 * Ev.pow2 .u32 16)) (bitsV n 8 3 * Ev.pow2 .u32 12)) (bitsV n 0 8) = _ from ((((isB n 11 1 26 (by decide) (by decide)).or (isB n 12 4 16 (by decide) (by decide))).or (isB n 8 3 12 (by decide) (by decide))).or (isB0 n 0 8 (by decide))).1)
end Go.Proofs.YtnbngokbamifbaaGreatDoor.Pw

/- What the laws of this claim are proved with, joined (join.py) of 6 texts: no condition. -/
import Derived.Test.YthpkejlmelednaaDoorKi6
set_option linter.unusedVariables false
set_option linter.unusedSimpArgs false

/- Chapter 4 over values: the program's bits of words, small ones; the readings of each shape, written out (by gen_tt.py). -/
namespace Go.Proofs.YthpkejlmelednaaDoor.Pw
open Go Go.RowKit

def rdI1 (f w : Int) : IN := ⟨f, 0 + bitsV w 0 3 * 2 ^ 0, 0, 0 + bitsV w 3 3 * 2 ^ 0, 0, if 1 < f ∧ 0 + bitsV w 6 5 * 2 ^ 0 = 0 then 32 else 0 + bitsV w 6 5 * 2 ^ 0, 0, 0, 0, 0, 0⟩
theorem rd_1 {f w : Int} (h : shapeV f = 1) : readV f w = rdI1 f w := by
  unfold readV; rw [h]
  exact in_ext rfl rfl rfl rfl rfl (imm_1) rfl (by_ne (K := 1) (k := xV 1 w 5) (by decide)) rfl rfl rfl
def rdI2 (f w : Int) : IN := ⟨f, 0 + bitsV w 0 3 * 2 ^ 0, 0 + bitsV w 3 3 * 2 ^ 0, 0 + bitsV w 6 3 * 2 ^ 0, 0, 0, 0, 0, 0, 0, 0⟩
theorem rd_2 {f w : Int} (h : shapeV f = 2) : readV f w = rdI2 f w := by
  unfold readV; rw [h]
  exact in_ext rfl rfl rfl rfl rfl (imm_ne (K := 2) (f := f) (by decide)) rfl (by_ne (K := 2) (k := xV 2 w 5) (by decide)) rfl rfl rfl
def rdI3 (f w : Int) : IN := ⟨f, 0 + bitsV w 0 3 * 2 ^ 0, 0 + bitsV w 3 3 * 2 ^ 0, 0, 0, 0 + bitsV w 6 3 * 2 ^ 0, 0, 0, 0, 0, 0⟩
theorem rd_3 {f w : Int} (h : shapeV f = 3) : readV f w = rdI3 f w := by
  unfold readV; rw [h]
  exact in_ext rfl rfl rfl rfl rfl (imm_ne (K := 3) (f := f) (by decide)) rfl (by_ne (K := 3) (k := xV 3 w 5) (by decide)) rfl rfl rfl
def rdI4 (f w : Int) : IN := ⟨f, 0 + bitsV w 8 3 * 2 ^ 0, 0, 0, 0, 0 + bitsV w 0 8 * 2 ^ 0, 0, 0, 0, 0, 0⟩
theorem rd_4 {f w : Int} (h : shapeV f = 4) : readV f w = rdI4 f w := by
  unfold readV; rw [h]
  exact in_ext rfl rfl rfl rfl rfl (imm_ne (K := 4) (f := f) (by decide)) rfl (by_ne (K := 4) (k := xV 4 w 5) (by decide)) rfl rfl rfl
def rdI5 (f w : Int) : IN := ⟨f, 0 + bitsV w 0 3 * 2 ^ 0, 0, 0 + bitsV w 3 3 * 2 ^ 0, 0, 0, 0, 0, 0, 0, 0⟩
theorem rd_5 {f w : Int} (h : shapeV f = 5) : readV f w = rdI5 f w := by
  unfold readV; rw [h]
  exact in_ext rfl rfl rfl rfl rfl (imm_ne (K := 5) (f := f) (by decide)) rfl (by_ne (K := 5) (k := xV 5 w 5) (by decide)) rfl rfl rfl
def rdI6 (f w : Int) : IN := ⟨f, 0 + bitsV w 7 1 * 2 ^ 3 + bitsV w 0 3 * 2 ^ 0, 0, 0 + bitsV w 3 4 * 2 ^ 0, 0, 0, 0, 0, 0, 0, 0⟩
theorem rd_6 {f w : Int} (h : shapeV f = 6) : readV f w = rdI6 f w := by
  unfold readV; rw [h]
  exact in_ext rfl rfl rfl rfl rfl (imm_ne (K := 6) (f := f) (by decide)) rfl (by_ne (K := 6) (k := xV 6 w 5) (by decide)) rfl rfl rfl
def rdI7 (f w : Int) : IN := ⟨f, 0, 0, 0 + bitsV w 3 4 * 2 ^ 0, 0, 0, 0, 0, 0, 0, 0⟩
theorem rd_7 {f w : Int} (h : shapeV f = 7) : readV f w = rdI7 f w := by
  unfold readV; rw [h]
  exact in_ext rfl rfl rfl rfl rfl (imm_ne (K := 7) (f := f) (by decide)) rfl (by_ne (K := 7) (k := xV 7 w 5) (by decide)) rfl rfl rfl
def rdI8 (f w : Int) : IN := ⟨f, 0 + bitsV w 8 3 * 2 ^ 0, 0, 0, 0, 0 + bitsV w 0 8 * 2 ^ 2, 0, 0, 0, 0, 0⟩
theorem rd_8 {f w : Int} (h : shapeV f = 8) : readV f w = rdI8 f w := by
  unfold readV; rw [h]
  exact in_ext rfl rfl rfl rfl rfl (imm_ne (K := 8) (f := f) (by decide)) rfl (by_ne (K := 8) (k := xV 8 w 5) (by decide)) rfl rfl rfl
def rdI9 (f w : Int) : IN := ⟨f, 0 + bitsV w 0 3 * 2 ^ 0, 0 + bitsV w 3 3 * 2 ^ 0, 0, 0, 0 + bitsV w 6 5 * 2 ^ 2, 0, 0, 0, 0, 0⟩
theorem rd_9 {f w : Int} (h : shapeV f = 9) : readV f w = rdI9 f w := by
  unfold readV; rw [h]
  exact in_ext rfl rfl rfl rfl rfl (imm_ne (K := 9) (f := f) (by decide)) rfl (by_ne (K := 9) (k := xV 9 w 5) (by decide)) rfl rfl rfl
def rdI10 (f w : Int) : IN := ⟨f, 0, 0, 0, 0, 0 + bitsV w 0 7 * 2 ^ 2, 0, 0, 0, 0, 0⟩
theorem rd_10 {f w : Int} (h : shapeV f = 10) : readV f w = rdI10 f w := by
  unfold readV; rw [h]
  exact in_ext rfl rfl rfl rfl rfl (imm_ne (K := 10) (f := f) (by decide)) rfl (by_ne (K := 10) (k := xV 10 w 5) (by decide)) rfl rfl rfl
def rdI11 (f w : Int) : IN := ⟨f, 0, 0, 0, 0, 0, 0, 0, 0, 0, 0 + bitsV w 8 1 * 2 ^ 14 + bitsV w 0 8 * 2 ^ 0⟩
theorem rd_11 {f w : Int} (h : shapeV f = 11) : readV f w = rdI11 f w := by
  unfold readV; rw [h]
  exact in_ext rfl rfl rfl rfl rfl (imm_ne (K := 11) (f := f) (by decide)) rfl (by_ne (K := 11) (k := xV 11 w 5) (by decide)) rfl rfl rfl
def rdI12 (f w : Int) : IN := ⟨f, 0, 0, 0, 0, 0, 0, 0, 0, 0, 0 + bitsV w 8 1 * 2 ^ 15 + bitsV w 0 8 * 2 ^ 0⟩
theorem rd_12 {f w : Int} (h : shapeV f = 12) : readV f w = rdI12 f w := by
  unfold readV; rw [h]
  exact in_ext rfl rfl rfl rfl rfl (imm_ne (K := 12) (f := f) (by decide)) rfl (by_ne (K := 12) (k := xV 12 w 5) (by decide)) rfl rfl rfl
def rdI13 (f w : Int) : IN := ⟨f, 0, 0, 0, 0, 0, 0, 0, 0, 0, 0⟩
theorem rd_13 {f w : Int} (h : shapeV f = 13) : readV f w = rdI13 f w := by
  unfold readV; rw [h]
  exact in_ext rfl rfl rfl rfl rfl (imm_ne (K := 13) (f := f) (by decide)) rfl (by_ne (K := 13) (k := xV 13 w 5) (by decide)) rfl rfl rfl
def rdI14 (f w : Int) : IN := ⟨f, 0, 0, 0, 0, 0 + bitsV w 0 8 * 2 ^ 0, 0, 0, 0, 0, 0⟩
theorem rd_14 {f w : Int} (h : shapeV f = 14) : readV f w = rdI14 f w := by
  unfold readV; rw [h]
  exact in_ext rfl rfl rfl rfl rfl (imm_ne (K := 14) (f := f) (by decide)) rfl (by_ne (K := 14) (k := xV 14 w 5) (by decide)) rfl rfl rfl
def rdI15 (f w : Int) : IN := ⟨f, 0, 0, 0, 0, leastV (0 + bitsV w 0 8 * 2 ^ 1) 9, 0, 0, 0, 0 + bitsV w 8 4 * 2 ^ 0, 0⟩
theorem rd_15 {f w : Int} (h : shapeV f = 15) : readV f w = rdI15 f w := by
  unfold readV; rw [h]
  exact in_ext rfl rfl rfl rfl rfl (rfl) rfl (by_ne (K := 15) (k := xV 15 w 5) (by decide)) rfl rfl rfl
def rdI16 (f w : Int) : IN := ⟨f, 0, 0, 0, 0, leastV (0 + bitsV w 0 11 * 2 ^ 1) 12, 0, 0, 0, 0, 0⟩
theorem rd_16 {f w : Int} (h : shapeV f = 16) : readV f w = rdI16 f w := by
  unfold readV; rw [h]
  exact in_ext rfl rfl rfl rfl rfl (rfl) rfl (by_ne (K := 16) (k := xV 16 w 5) (by decide)) rfl rfl rfl
def rdI17 (f w : Int) : IN := ⟨f, 0 + bitsV w 8 4 * 2 ^ 0, 0, 0, 0, 0 + bitsV w 26 1 * 2 ^ 11 + bitsV w 16 4 * 2 ^ 12 + bitsV w 12 3 * 2 ^ 8 + bitsV w 0 8 * 2 ^ 0, 0, 0, 0, 0, 0⟩
theorem rd_17 {f w : Int} (h : shapeV f = 17) : readV f w = rdI17 f w := by
  unfold readV; rw [h]
  exact in_ext rfl rfl rfl rfl rfl (imm_ne (K := 17) (f := f) (by decide)) rfl (by_ne (K := 17) (k := xV 17 w 5) (by decide)) rfl rfl rfl
def rdI18 (f w : Int) : IN := ⟨f, 0 + bitsV w 8 4 * 2 ^ 0, 0 + bitsV w 16 4 * 2 ^ 0, 0, 0, 0 + bitsV w 26 1 * 2 ^ 11 + bitsV w 12 3 * 2 ^ 8 + bitsV w 0 8 * 2 ^ 0, 0, 0, 0 + bitsV w 20 1 * 2 ^ 0, 0, 0⟩
theorem rd_18 {f w : Int} (h : shapeV f = 18) : readV f w = rdI18 f w := by
  unfold readV; rw [h]
  exact in_ext rfl rfl rfl rfl rfl (imm_ne (K := 18) (f := f) (by decide)) rfl (by_ne (K := 18) (k := xV 18 w 5) (by decide)) rfl rfl rfl
def rdI19 (f w : Int) : IN := ⟨f, 0 + bitsV w 8 4 * 2 ^ 0, 0, 0, 0, 0 + bitsV w 26 1 * 2 ^ 11 + bitsV w 12 3 * 2 ^ 8 + bitsV w 0 8 * 2 ^ 0, 0, 0, 0 + bitsV w 20 1 * 2 ^ 0, 0, 0⟩
theorem rd_19 {f w : Int} (h : shapeV f = 19) : readV f w = rdI19 f w := by
  unfold readV; rw [h]
  exact in_ext rfl rfl rfl rfl rfl (imm_ne (K := 19) (f := f) (by decide)) rfl (by_ne (K := 19) (k := xV 19 w 5) (by decide)) rfl rfl rfl
def rdI20 (f w : Int) : IN := ⟨f, 0, 0 + bitsV w 16 4 * 2 ^ 0, 0, 0, 0 + bitsV w 26 1 * 2 ^ 11 + bitsV w 12 3 * 2 ^ 8 + bitsV w 0 8 * 2 ^ 0, 0, 0, 0, 0, 0⟩
theorem rd_20 {f w : Int} (h : shapeV f = 20) : readV f w = rdI20 f w := by
  unfold readV; rw [h]
  exact in_ext rfl rfl rfl rfl rfl (imm_ne (K := 20) (f := f) (by decide)) rfl (by_ne (K := 20) (k := xV 20 w 5) (by decide)) rfl rfl rfl
def rdI21 (f w : Int) : IN := ⟨f, 0 + bitsV w 8 4 * 2 ^ 0, 0 + bitsV w 16 4 * 2 ^ 0, 0 + bitsV w 0 4 * 2 ^ 0, 0, 0, 0 + bitsV w 4 2 * 2 ^ 0, if 0 + bitsV w 12 3 * 2 ^ 2 + bitsV w 6 2 * 2 ^ 0 = 0 ∧ (0 + bitsV w 4 2 * 2 ^ 0 = 1 ∨ 0 + bitsV w 4 2 * 2 ^ 0 = 2) then 32 else 0 + bitsV w 12 3 * 2 ^ 2 + bitsV w 6 2 * 2 ^ 0, 0 + bitsV w 20 1 * 2 ^ 0, 0, 0⟩
theorem rd_21 {f w : Int} (h : shapeV f = 21) : readV f w = rdI21 f w := by
  unfold readV; rw [h]
  exact in_ext rfl rfl rfl rfl rfl (imm_ne (K := 21) (f := f) (by decide)) rfl (by_in (K := 21) (by decide)) rfl rfl rfl
def rdI22 (f w : Int) : IN := ⟨f, 0 + bitsV w 8 4 * 2 ^ 0, 0, 0 + bitsV w 0 4 * 2 ^ 0, 0, 0, 0 + bitsV w 4 2 * 2 ^ 0, if 0 + bitsV w 12 3 * 2 ^ 2 + bitsV w 6 2 * 2 ^ 0 = 0 ∧ (0 + bitsV w 4 2 * 2 ^ 0 = 1 ∨ 0 + bitsV w 4 2 * 2 ^ 0 = 2) then 32 else 0 + bitsV w 12 3 * 2 ^ 2 + bitsV w 6 2 * 2 ^ 0, 0 + bitsV w 20 1 * 2 ^ 0, 0, 0⟩
theorem rd_22 {f w : Int} (h : shapeV f = 22) : readV f w = rdI22 f w := by
  unfold readV; rw [h]
  exact in_ext rfl rfl rfl rfl rfl (imm_ne (K := 22) (f := f) (by decide)) rfl (by_in (K := 22) (by decide)) rfl rfl rfl
def rdI23 (f w : Int) : IN := ⟨f, 0, 0 + bitsV w 16 4 * 2 ^ 0, 0 + bitsV w 0 4 * 2 ^ 0, 0, 0, 0 + bitsV w 4 2 * 2 ^ 0, if 0 + bitsV w 12 3 * 2 ^ 2 + bitsV w 6 2 * 2 ^ 0 = 0 ∧ (0 + bitsV w 4 2 * 2 ^ 0 = 1 ∨ 0 + bitsV w 4 2 * 2 ^ 0 = 2) then 32 else 0 + bitsV w 12 3 * 2 ^ 2 + bitsV w 6 2 * 2 ^ 0, 0, 0, 0⟩
theorem rd_23 {f w : Int} (h : shapeV f = 23) : readV f w = rdI23 f w := by
  unfold readV; rw [h]
  exact in_ext rfl rfl rfl rfl rfl (imm_ne (K := 23) (f := f) (by decide)) rfl (by_in (K := 23) (by decide)) rfl rfl rfl
def rdI24 (f w : Int) : IN := ⟨f, 0 + bitsV w 8 4 * 2 ^ 0, 0 + bitsV w 16 4 * 2 ^ 0, 0, 0, 0 + bitsV w 26 1 * 2 ^ 11 + bitsV w 12 3 * 2 ^ 8 + bitsV w 0 8 * 2 ^ 0, 0, 0, 0, 0, 0⟩
theorem rd_24 {f w : Int} (h : shapeV f = 24) : readV f w = rdI24 f w := by
  unfold readV; rw [h]
  exact in_ext rfl rfl rfl rfl rfl (imm_ne (K := 24) (f := f) (by decide)) rfl (by_ne (K := 24) (k := xV 24 w 5) (by decide)) rfl rfl rfl
def rdI25 (f w : Int) : IN := ⟨f, 0 + bitsV w 12 4 * 2 ^ 0, 0 + bitsV w 16 4 * 2 ^ 0, 0, 0, 0 + bitsV w 0 12 * 2 ^ 0, 0, 0, 0, 0, 0⟩
theorem rd_25 {f w : Int} (h : shapeV f = 25) : readV f w = rdI25 f w := by
  unfold readV; rw [h]
  exact in_ext rfl rfl rfl rfl rfl (imm_ne (K := 25) (f := f) (by decide)) rfl (by_ne (K := 25) (k := xV 25 w 5) (by decide)) rfl rfl rfl
def rdI26 (f w : Int) : IN := ⟨f, 0 + bitsV w 12 4 * 2 ^ 0, 0 + bitsV w 16 4 * 2 ^ 0, 0 + bitsV w 0 4 * 2 ^ 0, 0, 0, 0, 0 + bitsV w 4 2 * 2 ^ 0, 0, 0, 0⟩
theorem rd_26 {f w : Int} (h : shapeV f = 26) : readV f w = rdI26 f w := by
  unfold readV; rw [h]
  exact in_ext rfl rfl rfl rfl rfl (imm_ne (K := 26) (f := f) (by decide)) rfl (by_ne (K := 26) (k := xV 26 w 5) (by decide)) rfl rfl rfl
def rdI27 (f w : Int) : IN := ⟨f, 0 + bitsV w 8 4 * 2 ^ 0, 0 + bitsV w 16 4 * 2 ^ 0, 0 + bitsV w 0 4 * 2 ^ 0, 0, 0, 0, 0, 0 + bitsV w 20 1 * 2 ^ 0, 0, 0⟩
theorem rd_27 {f w : Int} (h : shapeV f = 27) : readV f w = rdI27 f w := by
  unfold readV; rw [h]
  exact in_ext rfl rfl rfl rfl rfl (imm_ne (K := 27) (f := f) (by decide)) rfl (by_ne (K := 27) (k := xV 27 w 5) (by decide)) rfl rfl rfl
def rdI28 (f w : Int) : IN := ⟨f, 0 + bitsV w 8 4 * 2 ^ 0, 0 + bitsV w 16 4 * 2 ^ 0, 0 + bitsV w 0 4 * 2 ^ 0, 0, 0, 0, 0, 0, 0, 0⟩
theorem rd_28 {f w : Int} (h : shapeV f = 28) : readV f w = rdI28 f w := by
  unfold readV; rw [h]
  exact in_ext rfl rfl rfl rfl rfl (imm_ne (K := 28) (f := f) (by decide)) rfl (by_ne (K := 28) (k := xV 28 w 5) (by decide)) rfl rfl rfl
def rdI29 (f w : Int) : IN := ⟨f, 0 + bitsV w 8 4 * 2 ^ 0, 0 + bitsV w 16 4 * 2 ^ 0, 0 + bitsV w 0 4 * 2 ^ 0, 0 + bitsV w 12 4 * 2 ^ 0, 0, 0, 0, 0, 0, 0⟩
theorem rd_29 {f w : Int} (h : shapeV f = 29) : readV f w = rdI29 f w := by
  unfold readV; rw [h]
  exact in_ext rfl rfl rfl rfl rfl (imm_ne (K := 29) (f := f) (by decide)) rfl (by_ne (K := 29) (k := xV 29 w 5) (by decide)) rfl rfl rfl
def rdI30 (f w : Int) : IN := ⟨f, 0 + bitsV w 8 4 * 2 ^ 0, 0 + bitsV w 16 4 * 2 ^ 0, 0 + bitsV w 0 4 * 2 ^ 0, 0 + bitsV w 12 4 * 2 ^ 0, 0, 0, 0, 0, 0, 0⟩
theorem rd_30 {f w : Int} (h : shapeV f = 30) : readV f w = rdI30 f w := by
  unfold readV; rw [h]
  exact in_ext rfl rfl rfl rfl rfl (imm_ne (K := 30) (f := f) (by decide)) rfl (by_ne (K := 30) (k := xV 30 w 5) (by decide)) rfl rfl rfl
def rdI31 (f w : Int) : IN := ⟨f, 0 + bitsV w 12 4 * 2 ^ 0, 0 + bitsV w 16 4 * 2 ^ 0, 0 + bitsV w 0 4 * 2 ^ 0, 0 + bitsV w 8 4 * 2 ^ 0, 0, 0, 0, 0, 0, 0⟩
theorem rd_31 {f w : Int} (h : shapeV f = 31) : readV f w = rdI31 f w := by
  unfold readV; rw [h]
  exact in_ext rfl rfl rfl rfl rfl (imm_ne (K := 31) (f := f) (by decide)) rfl (by_ne (K := 31) (k := xV 31 w 5) (by decide)) rfl rfl rfl
def rdI32 (f w : Int) : IN := ⟨f, 0 + bitsV w 8 4 * 2 ^ 0, 0, bitsV w 0 4, 0, 0, 0, 0, 0, 0, 0⟩
theorem rd_32 {f w : Int} (h : shapeV f = 32) : readV f w = rdI32 f w := by
  unfold readV; rw [h]
  exact in_ext rfl rfl rfl rfl rfl (imm_ne (K := 32) (f := f) (by decide)) rfl (by_ne (K := 32) (k := xV 32 w 5) (by decide)) rfl rfl rfl
def rdI33 (f w : Int) : IN := ⟨f, 0, 0, 0, 0, leastV (0 + bitsV w 26 1 * 2 ^ 20 + bitsV w 16 6 * 2 ^ 12 + bitsV w 13 1 * 2 ^ 18 + bitsV w 11 1 * 2 ^ 19 + bitsV w 0 11 * 2 ^ 1) 21, 0, 0, 0, 0 + bitsV w 22 4 * 2 ^ 0, 0⟩
theorem rd_33 {f w : Int} (h : shapeV f = 33) : readV f w = rdI33 f w := by
  unfold readV; rw [h]
  exact in_ext rfl rfl rfl rfl rfl (rfl) rfl (by_ne (K := 33) (k := xV 33 w 5) (by decide)) rfl rfl rfl
def rdI34 (f w : Int) : IN := ⟨f, 0, 0, 0, 0, leastV (turnN (0 + bitsV w 26 1 * 2 ^ 24 + bitsV w 16 10 * 2 ^ 12 + bitsV w 13 1 * 2 ^ 23 + bitsV w 11 1 * 2 ^ 22 + bitsV w 0 11 * 2 ^ 1) 2) 25, 0, 0, 0, 0, 0⟩
theorem rd_34 {f w : Int} (h : shapeV f = 34) : readV f w = rdI34 f w := by
  unfold readV; rw [h]
  exact in_ext rfl rfl rfl rfl rfl (rfl) rfl (by_ne (K := 34) (k := xV 34 w 5) (by decide)) rfl rfl rfl

def U32 (x : Int) : Prop := 0 ≤ x ∧ x ≤ 4294967295
theorem cut_bits {x : Int} (hx : 0 ≤ x) (l w : Nat) : cutV x l w = bitsV x l w := by unfold cutV bitsV; rw [if_neg (by omega)]
theorem pow2_i64 (n : Nat) (h : n ≤ 64) : Ev.pow2 .i64 (n : Int) = 2 ^ n := by
  unfold Ev.pow2
  rw [Int.toNat_natCast, show min n (IntKind.bits .i64) = n from Nat.min_eq_left h]
  norm_cast
theorem q1 : Ev.pow2 .i64 1 = 2 := by decide
theorem q4 : Ev.pow2 .i64 4 = 16 := by decide
theorem q8 : Ev.pow2 .i64 8 = 256 := by decide
theorem q11 : Ev.pow2 .i64 11 = 2048 := by decide
theorem q12 : Ev.pow2 .i64 12 = 4096 := by decide
theorem q18 : Ev.pow2 .i64 18 = 262144 := by decide
theorem q19 : Ev.pow2 .i64 19 = 524288 := by decide
theorem q20 : Ev.pow2 .i64 20 = 1048576 := by decide
theorem q22 : Ev.pow2 .i64 22 = 4194304 := by decide
theorem q23 : Ev.pow2 .i64 23 = 8388608 := by decide
theorem q24 : Ev.pow2 .i64 24 = 16777216 := by decide
theorem q3 : Ev.pow2 .i64 3 = 8 := by decide
theorem r1 : Ev.pow2 .u32 1 = 2 := by decide
theorem r3 : Ev.pow2 .u32 3 = 8 := by decide
theorem r4 : Ev.pow2 .u32 4 = 16 := by decide
theorem r6 : Ev.pow2 .u32 6 = 64 := by decide
theorem r7 : Ev.pow2 .u32 7 = 128 := by decide
theorem r8 : Ev.pow2 .u32 8 = 256 := by decide
theorem r11 : Ev.pow2 .u32 11 = 2048 := by decide
theorem r12 : Ev.pow2 .u32 12 = 4096 := by decide
theorem r13 : Ev.pow2 .u32 13 = 8192 := by decide
theorem r16 : Ev.pow2 .u32 16 = 65536 := by decide
theorem r20 : Ev.pow2 .u32 20 = 1048576 := by decide
theorem r22 : Ev.pow2 .u32 22 = 4194304 := by decide
theorem r26 : Ev.pow2 .u32 26 = 67108864 := by decide
theorem at_pure (x : Int) (l w : Nat) (hx : U32 x) (hw : 1 ≤ w ∧ w ≤ 31) (hl : l ≤ 31) : PureF gT 120 [.int .u32 x, .int .i64 ((l : Int) + w - 1), .int .i64 l] (.int .i64 (bitsV x l w)) := by
  have b := bitsV_bd x l w
  have p := pow_bd w hw.2
  have c := cut_bits hx.1 l w
  refine Spec.enter gTok P120 100 Tryd.func120 rfl (by kernel_rfl) ?_
  refine ⟨[], no_rl, (cut_pure x l w hx hw hl).use (by repeat' first | exact trivial | exact rfl | exact Iff.rfl | exact Or.inl rfl | refine And.intro ?_ ?_) rfl rfl ?_⟩
  rw [c]
  refine .inl ⟨inR_i64 (by omega), ?_⟩
  exact retE rfl
theorem signed_pure (n : Int) (b : Nat) (hb : b ≤ 40) (hn : 0 ≤ n ∧ n < 2 ^ (b + 1)) : PureF gT 123 [.int .i64 n, .int .i64 b] (.int .i64 (leastV n (b + 1))) := by
  have p1 := pow2_i64 b (by omega)
  have p2 := pow2_i64 (b + 1) (by omega)
  have e : (((b + 1 : Nat)) : Int) = (b : Int) + 1 := rfl
  rw [e] at p2
  have d1 := pow_bd62 b (by omega)
  have d2 := pow_bd62 (b + 1) (by omega)
  have ep : (2 : Int) ^ (b + 1) = 2 ^ b * 2 := Int.pow_succ 2 b
  have d3 : (2 : Int) ^ (b + 1) ≤ 2199023255552 := by
    have h1 : (2 ^ (b + 1) : Nat) ≤ 2 ^ 41 := Nat.pow_le_pow_right (by omega) (by omega)
    have h3 := pow_cast (b + 1)
    omega
  obtain ⟨q, hq⟩ : ∃ q, q = n / 2 ^ b := ⟨_, rfl⟩
  have q0 : 0 ≤ q := by rw [hq]; exact Int.ediv_nonneg hn.1 (by omega)
  have q1 : q < 2 := by rw [hq]; exact Int.ediv_lt_of_lt_mul (by omega) (by omega)
  refine Spec.enter gTok P123 100 Tryd.func123 rfl (by kernel_rfl) ?_
  refine ⟨by omega, ?_⟩
  refine .inl ⟨inR_i64 (show _ ≤ (b : Int) + 1 ∧ (b : Int) + 1 ≤ _ by omega), ?_⟩
  have hm : n / 2 ^ b * 2 ^ (b + 1) = 0 ∨ n / 2 ^ b * 2 ^ (b + 1) = 2 ^ (b + 1) := by
    rw [← hq]
    have : q = 0 ∨ q = 1 := by omega
    rcases this with h | h <;> rw [h] <;> omega
  refine ⟨by omega, .inl ⟨inR_i64 (show _ ≤ n / Ev.pow2 .i64 (b : Int) * Ev.pow2 .i64 ((b : Int) + 1) ∧ n / Ev.pow2 .i64 (b : Int) * Ev.pow2 .i64 ((b : Int) + 1) ≤ _ by rw [p1, p2]; omega), ?_⟩⟩
  refine .inl ⟨inR_i64 (show _ ≤ n - n / Ev.pow2 .i64 (b : Int) * Ev.pow2 .i64 ((b : Int) + 1) ∧ n - n / Ev.pow2 .i64 (b : Int) * Ev.pow2 .i64 ((b : Int) + 1) ≤ _ by rw [p1, p2]; omega), ?_⟩
  refine retE ?_
  show n - n / Ev.pow2 .i64 (b : Int) * Ev.pow2 .i64 ((b : Int) + 1) = leastV n (b + 1)
  have eb : bitsV n b 1 = q := by
    unfold bitsV
    rw [if_neg (by omega), ← hq, show (2 : Int) ^ 1 = 2 from rfl]
    omega
  unfold leastV
  rw [p1, p2, Nat.add_sub_cancel, eb, ← hq]
  have : q = 0 ∨ q = 1 := by omega
  rcases this with h | h <;> rw [h]
  · rw [if_neg (by decide)]; omega
  · rw [if_pos rfl]; omega
theorem turned_pure (k b : Int) : PureF gT 121 [.int .i64 k, .int .i64 b] (.int .i64 (if b = 0 ∧ (k = 1 ∨ k = 2) then 32 else b)) := by
  refine Spec.enter gTok P121 100 Tryd.func121 rfl (by kernel_rfl) ?_
  repeat' ((conv => whnf); first | (refine (And.intro (fun _ => ?_) (fun _ => ?_) : (_ → _) ∧ (_ → _)) <;> (first | (exfalso; first | contradiction | omega) | skip)) | refine Or.inl (And.intro (by first | exact inR_i64 (by omega) | exact inR_u32 (by omega) | exact inR_u64 (by omega) | exact inR_u8 (by omega)) ?_) | (refine And.intro (show (_ : Int) ≠ 0 by omega) (Or.inl (And.intro (show (0 : Int) ≤ _ by omega) (And.intro (show (0 : Int) < _ by omega) ?_)))) | (refine And.intro (show (_ : Int) ≠ 0 by omega) (Or.inl (And.intro (show (0 : Int) ≤ _ by omega) (And.intro (by first | exact (show (_ : Int) ≤ 9223372036854775807 by omega) | exact (show (_ : Int) ≤ 4294967295 by omega)) (And.intro (show (0 : Int) < _ by omega) ?_))))) | (refine retE ?_; (show b = _); rw [if_neg (by omega)]) | (refine retE ?_; (show (32 : Int) = _); rw [if_pos (by omega)]) | (intro _))
def placesI (i : IN) (w : Int) : IN := {i with set := bitsV w 20 1, rn := bitsV w 16 4, rd := bitsV w 8 4, rm := bitsV w 0 4}
set_option maxHeartbeats 4000000 in
set_option maxRecDepth 100000 in
theorem places_pure (i : IN) (w : Int) (hw : U32 w) : PureF gT 124 [inP i, .int .u32 w] (inP (placesI i w)) := by
  refine Spec.enter gTok P124 100 Tryd.func124 rfl (by kernel_rfl) ?_
  refine ⟨[], no_rl, (at_pure w 20 1 hw (by decide) (by decide)).use (by repeat' first | exact trivial | exact rfl | exact Iff.rfl | exact Or.inl rfl | refine And.intro ?_ ?_) rfl rfl ?_⟩
  refine ⟨[], no_rl, (at_pure w 16 4 hw (by decide) (by decide)).use (by repeat' first | exact trivial | exact rfl | exact Iff.rfl | exact Or.inl rfl | refine And.intro ?_ ?_) rfl rfl ?_⟩
  refine ⟨[], no_rl, (at_pure w 8 4 hw (by decide) (by decide)).use (by repeat' first | exact trivial | exact rfl | exact Iff.rfl | exact Or.inl rfl | refine And.intro ?_ ?_) rfl rfl ?_⟩
  refine ⟨[], no_rl, (at_pure w 0 4 hw (by decide) (by decide)).use (by repeat' first | exact trivial | exact rfl | exact Iff.rfl | exact Or.inl rfl | refine And.intro ?_ ?_) rfl rfl ?_⟩
  (refine retE ?_; repeat' first | exact trivial | exact rfl | exact Iff.rfl | exact Or.inl rfl | refine And.intro ?_ ?_)
def threeI (i : IN) (w : Int) : IN := {i with rd := bitsV w 0 3, rn := bitsV w 3 3}
set_option maxHeartbeats 4000000 in
set_option maxRecDepth 100000 in
theorem three_pure (i : IN) (w : Int) (hw : U32 w) : PureF gT 122 [inP i, .int .u32 w] (inP (threeI i w)) := by
  refine Spec.enter gTok P122 100 Tryd.func122 rfl (by kernel_rfl) ?_
  refine ⟨[], no_rl, (at_pure w 0 3 hw (by decide) (by decide)).use (by repeat' first | exact trivial | exact rfl | exact Iff.rfl | exact Or.inl rfl | refine And.intro ?_ ?_) rfl rfl ?_⟩
  refine ⟨[], no_rl, (at_pure w 3 3 hw (by decide) (by decide)).use (by repeat' first | exact trivial | exact rfl | exact Iff.rfl | exact Or.inl rfl | refine And.intro ?_ ?_) rfl rfl ?_⟩
  (refine retE ?_; repeat' first | exact trivial | exact rfl | exact Iff.rfl | exact Or.inl rfl | refine And.intro ?_ ?_)
theorem same_pure (a b : Int) (ha : a = 0 ∨ a = 1) (hb : b = 0 ∨ b = 1) : PureF gT 148 [.int .u32 a, .int .u32 b] (.int .u32 (if a = b then 1 else 0)) := by
  refine Spec.enter gTok P148 100 Tryd.func148 rfl (by kernel_rfl) ?_
  refine retE ?_
  show bits .xor .u32 (bits .xor .u32 1 a) b = _
  rcases ha with rfl | rfl <;> rcases hb with rfl | rfl <;> decide
theorem or_comm64 (a b : Int) (ha : 0 ≤ a ∧ a ≤ 4294967295) (hb : 0 ≤ b ∧ b ≤ 4294967295) : bits .or .i64 a b = bits .or .i64 b a := by
  have ea : a = (a.toNat : Int) := by omega
  have eb : b = (b.toNat : Int) := by omega
  rw [ea, eb, Rm.i64_or_ _ _ (by omega) (by omega), Rm.i64_or_ _ _ (by omega) (by omega), Nat.or_comm]
def numT (w : Int) : Int := bitsV w 26 1 * 2048 + bitsV w 12 3 * 256 + bitsV w 0 8
theorem num_bd (w : Int) : 0 ≤ numT w ∧ numT w < 4096 := by
  have b1 := bitsV_bd w 26 1
  have b2 := bitsV_bd w 12 3
  have b3 := bitsV_bd w 0 8
  unfold numT; omega
theorem num_or (w : Int) : bits .or .i64 (bits .or .i64 (bitsV w 26 1 * 2048) (bitsV w 12 3 * 256)) (bitsV w 0 8) = numT w := by
  have b1 := bitsV_bd w 26 1
  have b2 := bitsV_bd w 12 3
  have b3 := bitsV_bd w 0 8
  rw [Rm.i64_join (bitsV w 26 1 * 2048) (bitsV w 12 3 * 256) 11 (by omega) (by omega) (by omega) (by omega) (by omega) (by omega)]
  rw [Rm.i64_join (bitsV w 26 1 * 2048 + bitsV w 12 3 * 256) (bitsV w 0 8) 8 (by omega) (by omega) (by omega) (by omega) (by omega) (by omega)]
  rfl
set_option maxHeartbeats 4000000 in
set_option maxRecDepth 100000 in
theorem number_f (w : Int) (hw : U32 w) : PureF gT 125 [.int .u32 w, .ff] (.int .i64 (numT w)) := by
  have b1 := bitsV_bd w 26 1
  have b2 := bitsV_bd w 12 3
  have b3 := bitsV_bd w 0 8
  refine Spec.enter gTok P125 100 Tryd.func125 rfl (by kernel_rfl) ?_
  refine ⟨[], no_rl, (at_pure w 26 1 hw (by decide) (by decide)).use (by repeat' first | exact trivial | exact rfl | exact Iff.rfl | exact Or.inl rfl | refine And.intro ?_ ?_) rfl rfl ?_⟩
  refine ⟨by decide, .inl ⟨inR_i64 (by rw [q11]; omega), ?_⟩⟩
  refine ⟨[], no_rl, (at_pure w 12 3 hw (by decide) (by decide)).use (by repeat' first | exact trivial | exact rfl | exact Iff.rfl | exact Or.inl rfl | refine And.intro ?_ ?_) rfl rfl ?_⟩
  refine ⟨by decide, .inl ⟨inR_i64 (by rw [q8]; omega), ?_⟩⟩
  refine ⟨[], no_rl, (at_pure w 0 8 hw (by decide) (by decide)).use (by repeat' first | exact trivial | exact rfl | exact Iff.rfl | exact Or.inl rfl | refine And.intro ?_ ?_) rfl rfl ?_⟩
  refine retE ?_
  show bits .or .i64 (bits .or .i64 (bitsV w 26 1 * Ev.pow2 .i64 11) (bitsV w 12 3 * Ev.pow2 .i64 8)) (bitsV w 0 8) = numT w
  rw [q11, q8, num_or]
set_option maxHeartbeats 4000000 in
set_option maxRecDepth 100000 in
theorem number_t (w : Int) (hw : U32 w) : PureF gT 125 [.int .u32 w, .tt] (.int .i64 (numT w + bitsV w 16 4 * 4096)) := by
  have b1 := bitsV_bd w 26 1
  have b2 := bitsV_bd w 12 3
  have b3 := bitsV_bd w 0 8
  have b4 := bitsV_bd w 16 4
  refine Spec.enter gTok P125 100 Tryd.func125 rfl (by kernel_rfl) ?_
  refine ⟨[], no_rl, (at_pure w 26 1 hw (by decide) (by decide)).use (by repeat' first | exact trivial | exact rfl | exact Iff.rfl | exact Or.inl rfl | refine And.intro ?_ ?_) rfl rfl ?_⟩
  refine ⟨by decide, .inl ⟨inR_i64 (by rw [q11]; omega), ?_⟩⟩
  refine ⟨[], no_rl, (at_pure w 12 3 hw (by decide) (by decide)).use (by repeat' first | exact trivial | exact rfl | exact Iff.rfl | exact Or.inl rfl | refine And.intro ?_ ?_) rfl rfl ?_⟩
  refine ⟨by decide, .inl ⟨inR_i64 (by rw [q8]; omega), ?_⟩⟩
  refine ⟨[], no_rl, (at_pure w 0 8 hw (by decide) (by decide)).use (by repeat' first | exact trivial | exact rfl | exact Iff.rfl | exact Or.inl rfl | refine And.intro ?_ ?_) rfl rfl ?_⟩
  refine ⟨[], no_rl, (at_pure w 16 4 hw (by decide) (by decide)).use (by repeat' first | exact trivial | exact rfl | exact Iff.rfl | exact Or.inl rfl | refine And.intro ?_ ?_) rfl rfl ?_⟩
  refine ⟨by decide, .inl ⟨inR_i64 (by rw [q12]; omega), ?_⟩⟩
  refine retE ?_
  show bits .or .i64 (bits .or .i64 (bits .or .i64 (bitsV w 26 1 * Ev.pow2 .i64 11) (bitsV w 12 3 * Ev.pow2 .i64 8)) (bitsV w 0 8)) (bitsV w 16 4 * Ev.pow2 .i64 12) = _
  have nb := num_bd w
  rw [q11, q8, q12, num_or, or_comm64 _ _ (by omega) (by omega), Rm.i64_join (bitsV w 16 4 * 4096) (numT w) 12 (by omega) (by omega) (by omega) (by omega) (by omega) (by omega)]
  omega
def condT (w : Int) : Int := 0 + bitsV w 26 1 * 2 ^ 20 + bitsV w 16 6 * 2 ^ 12 + bitsV w 13 1 * 2 ^ 18 + bitsV w 11 1 * 2 ^ 19 + bitsV w 0 11 * 2 ^ 1
set_option maxHeartbeats 4000000 in
set_option maxRecDepth 100000 in
theorem condOf_pure (w : Int) (hw : U32 w) : PureF gT 128 [.int .u32 w] (.int .i64 (leastV (condT w) 21)) := by
  have b1 := bitsV_bd w 26 1
  have b2 := bitsV_bd w 11 1
  have b3 := bitsV_bd w 13 1
  have b4 := bitsV_bd w 16 6
  have b5 := bitsV_bd w 0 11
  refine Spec.enter gTok P128 100 Tryd.func128 rfl (by kernel_rfl) ?_
  refine ⟨[], no_rl, (at_pure w 26 1 hw (by decide) (by decide)).use (by repeat' first | exact trivial | exact rfl | exact Iff.rfl | exact Or.inl rfl | refine And.intro ?_ ?_) rfl rfl ?_⟩
  refine ⟨by decide, .inl ⟨inR_i64 (by rw [q20]; omega), ?_⟩⟩
  refine ⟨[], no_rl, (at_pure w 11 1 hw (by decide) (by decide)).use (by repeat' first | exact trivial | exact rfl | exact Iff.rfl | exact Or.inl rfl | refine And.intro ?_ ?_) rfl rfl ?_⟩
  refine ⟨by decide, .inl ⟨inR_i64 (by rw [q19]; omega), ?_⟩⟩
  refine ⟨[], no_rl, (at_pure w 13 1 hw (by decide) (by decide)).use (by repeat' first | exact trivial | exact rfl | exact Iff.rfl | exact Or.inl rfl | refine And.intro ?_ ?_) rfl rfl ?_⟩
  refine ⟨by decide, .inl ⟨inR_i64 (by rw [q18]; omega), ?_⟩⟩
  refine ⟨[], no_rl, (at_pure w 16 6 hw (by decide) (by decide)).use (by repeat' first | exact trivial | exact rfl | exact Iff.rfl | exact Or.inl rfl | refine And.intro ?_ ?_) rfl rfl ?_⟩
  refine ⟨by decide, .inl ⟨inR_i64 (by rw [q12]; omega), ?_⟩⟩
  refine ⟨[], no_rl, (at_pure w 0 11 hw (by decide) (by decide)).use (by repeat' first | exact trivial | exact rfl | exact Iff.rfl | exact Or.inl rfl | refine And.intro ?_ ?_) rfl rfl ?_⟩
  refine ⟨by decide, .inl ⟨inR_i64 (by rw [q1]; omega), ?_⟩⟩
  have e : bits .or .i64 (bits .or .i64 (bits .or .i64 (bits .or .i64 (bitsV w 26 1 * Ev.pow2 .i64 20) (bitsV w 11 1 * Ev.pow2 .i64 19)) (bitsV w 13 1 * Ev.pow2 .i64 18)) (bitsV w 16 6 * Ev.pow2 .i64 12)) (bitsV w 0 11 * Ev.pow2 .i64 1) = condT w := by
    rw [q20, q19, q18, q12, q1]
    rw [Rm.i64_join (bitsV w 26 1 * 1048576) (bitsV w 11 1 * 524288) 20 (by omega) (by omega) (by omega) (by omega) (by omega) (by omega)]
    rw [Rm.i64_join (bitsV w 26 1 * 1048576 + bitsV w 11 1 * 524288) (bitsV w 13 1 * 262144) 19 (by omega) (by omega) (by omega) (by omega) (by omega) (by omega)]
    rw [Rm.i64_join (bitsV w 26 1 * 1048576 + bitsV w 11 1 * 524288 + bitsV w 13 1 * 262144) (bitsV w 16 6 * 4096) 18 (by omega) (by omega) (by omega) (by omega) (by omega) (by omega)]
    rw [Rm.i64_join (bitsV w 26 1 * 1048576 + bitsV w 11 1 * 524288 + bitsV w 13 1 * 262144 + bitsV w 16 6 * 4096) (bitsV w 0 11 * 2) 12 (by omega) (by omega) (by omega) (by omega) (by omega) (by omega)]
    unfold condT; omega
  have hb : 0 ≤ condT w ∧ condT w < 2 ^ (20 + 1) := by unfold condT; omega
  refine ⟨[], no_rl, (signed_pure (condT w) 20 (by decide) hb).use (And.intro e (And.intro rfl trivial)) rfl rfl ?_⟩
  exact retE rfl
def jumpT (w : Int) : Int := 0 + bitsV w 26 1 * 2 ^ 24 + bitsV w 16 10 * 2 ^ 12 + bitsV w 13 1 * 2 ^ 23 + bitsV w 11 1 * 2 ^ 22 + bitsV w 0 11 * 2 ^ 1
theorem jumpT_bits (w : Int) : 0 ≤ jumpT w ∧ jumpT w < 33554432 ∧ jumpT w / 16777216 = bitsV w 26 1 ∧ jumpT w / 8388608 % 2 = bitsV w 13 1 ∧ jumpT w / 4194304 % 2 = bitsV w 11 1 ∧ jumpT w % 4194304 = bitsV w 16 10 * 4096 + bitsV w 0 11 * 2 := by
  have b1 := bitsV_bd w 26 1
  have b2 := bitsV_bd w 11 1
  have b3 := bitsV_bd w 13 1
  have b4 := bitsV_bd w 16 10
  have b5 := bitsV_bd w 0 11
  unfold jumpT; omega
theorem jumpT_turn (w : Int) : turnN (jumpT w) 2 = bitsV w 26 1 * 16777216 + (if bitsV w 13 1 = bitsV w 26 1 then 1 else 0) * 8388608 + (if bitsV w 11 1 = bitsV w 26 1 then 1 else 0) * 4194304 + bitsV w 16 10 * 4096 + bitsV w 0 11 * 2 := by
  obtain ⟨h0, h1, h2, h3, h4, h5⟩ := jumpT_bits w
  have b := turn_bits ⟨h0, h1⟩
  have c := turn_bd ⟨h0, h1⟩
  have e : jumpT w / 16777216 % 2 = bitsV w 26 1 := by omega
  rw [h2, h3, h4, h5, ← h2, h2] at b
  have e2 : bitsV w 26 1 % 2 = bitsV w 26 1 := by omega
  rw [e2] at b
  obtain ⟨t, ht⟩ : ∃ t, t = turnN (jumpT w) 2 := ⟨_, rfl⟩
  rw [← ht] at b c ⊢
  clear ht
  obtain ⟨k1, k2, k3, k4⟩ := b
  rw [← k3, ← k4]
  clear k3 k4
  omega
set_option maxHeartbeats 4000000 in
set_option maxRecDepth 100000 in
theorem jumpOf_pure (w : Int) (hw : U32 w) : PureF gT 129 [.int .u32 w] (.int .i64 (leastV (turnN (jumpT w) 2) 25)) := by
  have b1 := bitsV_bd w 26 1
  have b2 := bitsV_bd w 11 1
  have b3 := bitsV_bd w 13 1
  have b4 := bitsV_bd w 16 10
  have b5 := bitsV_bd w 0 11
  have c1 : cutV w 26 1 = bitsV w 26 1 := cut_bits hw.1 26 1
  have c2 : cutV w 13 1 = bitsV w 13 1 := cut_bits hw.1 13 1
  have c3 : cutV w 11 1 = bitsV w 11 1 := cut_bits hw.1 11 1
  have s2 := same_pure (bitsV w 13 1) (bitsV w 26 1) (bit_bd w 13) (bit_bd w 26)
  have s3 := same_pure (bitsV w 11 1) (bitsV w 26 1) (bit_bd w 11) (bit_bd w 26)
  have k2 := cut_pure w 26 1 hw (by decide) (by decide)
  have k3 := cut_pure w 13 1 hw (by decide) (by decide)
  have k4 := cut_pure w 11 1 hw (by decide) (by decide)
  rw [c1] at k2
  rw [c2] at k3
  rw [c3] at k4
  have jt := jumpT_turn w
  obtain ⟨m2, hm2⟩ : ∃ m : Int, m = if bitsV w 13 1 = bitsV w 26 1 then 1 else 0 := ⟨_, rfl⟩
  obtain ⟨m3, hm3⟩ : ∃ m : Int, m = if bitsV w 11 1 = bitsV w 26 1 then 1 else 0 := ⟨_, rfl⟩
  have d2 : 0 ≤ m2 ∧ m2 ≤ 1 := by rw [hm2]; split <;> omega
  have d3 : 0 ≤ m3 ∧ m3 ≤ 1 := by rw [hm3]; split <;> omega
  rw [← hm2] at s2 jt
  rw [← hm3] at s3 jt
  refine Spec.enter gTok P129 100 Tryd.func129 rfl (by kernel_rfl) ?_
  refine ⟨[], no_rl, k2.use (by repeat' first | exact trivial | exact rfl | exact Iff.rfl | exact Or.inl rfl | refine And.intro ?_ ?_) rfl rfl ?_⟩
  refine .inl ⟨inR_i64 (by omega), ?_⟩
  refine ⟨by decide, .inl ⟨inR_i64 (by rw [q24]; omega), ?_⟩⟩
  refine ⟨[], no_rl, k3.use (by repeat' first | exact trivial | exact rfl | exact Iff.rfl | exact Or.inl rfl | refine And.intro ?_ ?_) rfl rfl ?_⟩
  refine ⟨[], no_rl, s2.use (by repeat' first | exact trivial | exact rfl | exact Iff.rfl | exact Or.inl rfl | refine And.intro ?_ ?_) rfl rfl ?_⟩
  refine .inl ⟨inR_i64 (by omega), ?_⟩
  refine ⟨by decide, .inl ⟨inR_i64 (by rw [q23]; omega), ?_⟩⟩
  refine ⟨[], no_rl, k4.use (by repeat' first | exact trivial | exact rfl | exact Iff.rfl | exact Or.inl rfl | refine And.intro ?_ ?_) rfl rfl ?_⟩
  refine ⟨[], no_rl, s3.use (by repeat' first | exact trivial | exact rfl | exact Iff.rfl | exact Or.inl rfl | refine And.intro ?_ ?_) rfl rfl ?_⟩
  refine .inl ⟨inR_i64 (by omega), ?_⟩
  refine ⟨by decide, .inl ⟨inR_i64 (by rw [q22]; omega), ?_⟩⟩
  refine ⟨[], no_rl, (at_pure w 16 10 hw (by decide) (by decide)).use (by repeat' first | exact trivial | exact rfl | exact Iff.rfl | exact Or.inl rfl | refine And.intro ?_ ?_) rfl rfl ?_⟩
  refine ⟨by decide, .inl ⟨inR_i64 (by rw [q12]; omega), ?_⟩⟩
  refine ⟨[], no_rl, (at_pure w 0 11 hw (by decide) (by decide)).use (by repeat' first | exact trivial | exact rfl | exact Iff.rfl | exact Or.inl rfl | refine And.intro ?_ ?_) rfl rfl ?_⟩
  refine ⟨by decide, .inl ⟨inR_i64 (by rw [q1]; omega), ?_⟩⟩
  have e : bits .or .i64 (bits .or .i64 (bits .or .i64 (bits .or .i64 (bitsV w 26 1 * Ev.pow2 .i64 24) (m2 * Ev.pow2 .i64 23)) (m3 * Ev.pow2 .i64 22)) (bitsV w 16 10 * Ev.pow2 .i64 12)) (bitsV w 0 11 * Ev.pow2 .i64 1) = turnN (jumpT w) 2 := by
    rw [q24, q23, q22, q12, q1]
    rw [Rm.i64_join (bitsV w 26 1 * 16777216) (m2 * 8388608) 24 (by omega) (by omega) (by omega) (by omega) (by omega) (by omega)]
    rw [Rm.i64_join (bitsV w 26 1 * 16777216 + m2 * 8388608) (m3 * 4194304) 23 (by omega) (by omega) (by omega) (by omega) (by omega) (by omega)]
    rw [Rm.i64_join (bitsV w 26 1 * 16777216 + m2 * 8388608 + m3 * 4194304) (bitsV w 16 10 * 4096) 22 (by omega) (by omega) (by omega) (by omega) (by omega) (by omega)]
    rw [Rm.i64_join (bitsV w 26 1 * 16777216 + m2 * 8388608 + m3 * 4194304 + bitsV w 16 10 * 4096) (bitsV w 0 11 * 2) 12 (by omega) (by omega) (by omega) (by omega) (by omega) (by omega)]
    rw [jt]
  have hb := turn_bd ⟨(jumpT_bits w).1, (jumpT_bits w).2.1⟩
  refine ⟨[], no_rl, (signed_pure (turnN (jumpT w) 2) 24 (by decide) ⟨hb.1, by omega⟩).use (And.intro e (And.intro rfl trivial)) rfl rfl ?_⟩
  exact retE rfl

end Go.Proofs.YthpkejlmelednaaDoor.Pw

/- Chapter 4 over values: the document's fields of each shape, as known numbers (by gen_tu.py). -/
namespace Go.Proofs.YthpkejlmelednaaDoor.Pw
open Go Go.RowKit

/-- a contract whose result says less -/
theorem PureF.weak {G : Gx} {f : FuncId} {args : List PV} {r r' : PV} (h : PureF G f args r) (hle : PLe r r') : PureF G f args r' := by
  refine Spec.intro h.run.1 fun I β w vals hH hM hA => ?_
  refine (h.run.2 I β w vals hH hM hA).mono fun e w' ⟨v, r1, S', I', β', he, hr, hi, hrest⟩ => ?_
  subst hr
  exact ⟨v, r', S', I', β', he, rfl, hle _ _ _ _ hi, hrest⟩
theorem shapeLit {f K : Int} (hf : I64 f) (h : shapeV f = K) : PureF gT 41 [.int .i64 f] (.lit .i64 K) :=
  (rshape_pure' f hf).weak (leK_ok (x := .int .i64 (shapeV f)) (y := .lit .i64 K) h)
theorem pshapeLit {f K : Int} (h : shapeV f = K) : PureF gT 79 [.int .i64 f] (.lit .i64 K) :=
  (shape_pure f).weak (leK_ok (x := .int .i64 (shapeV f)) (y := .lit .i64 K) h)
def intsA (k : IntKind) (l : List Int) : PV := .agg (l.map (.int k))
def litsA (k : IntKind) (l : List Int) : PV := .agg (l.map (.lit k))
theorem isAt_lit {w : World} {I : Nat → Prop} {k : IntKind} : ∀ (l : List Int) (g o : Nat), IsAt w I (l.map (.int k)) g o → IsAt w I (l.map (.lit k)) g o
  | [], _, _, _ => by simp only [List.map, IsAt]
  | x :: l, g, o, h => by
    simp only [List.map, IsAt, PV.Is] at h ⊢
    exact ⟨h.1, isAt_lit l g (o + 1) h.2⟩
theorem isEs_lit {w : World} {I : Nat → Prop} {k : IntKind} : ∀ (es : List (List Int)) (n g o : Nat), IsEs w I (es.map (intsA k)) n g o → IsEs w I (es.map (litsA k)) n g o
  | [], _, _, _, _ => by simp only [List.map, IsEs]
  | l :: es, n, g, o, h => by
    simp only [List.map, intsA, litsA, IsEs] at h ⊢
    exact ⟨⟨by rw [List.length_map]; rw [List.length_map] at h; exact h.1.1, isAt_lit l g o h.1.2⟩, isEs_lit es n g (o + n) h.2⟩
theorem sl_lit {k : IntKind} (n : Nat) (es : List (List Int)) : PLe (.sl n (es.map (intsA k))) (.sl n (es.map (litsA k))) := fun w I β v h => by
  simp only [PV.Is, List.length_map] at h ⊢
  obtain ⟨a, cap, h1, h2, h3, h4, h5⟩ := h
  exact ⟨a, cap, h1, h2, h3, fun g o e => isEs_lit es n g o (h4 g o e), h5⟩
theorem fieldsLit (s : Int) (es : List (List Int)) (e : (fieldsV s).map fdP = es.map (intsA .i64)) : PureF gT 74 [.int .i64 s] (.sl 4 (es.map (litsA .i64))) := by
  have h := fields_pure s
  rw [e] at h
  exact h.weak (sl_lit 4 es)
theorem fieldsLit_1 : PureF gT 74 [.int .i64 1] (.sl 4 [.agg [.lit .i64 4, .lit .i64 0, .lit .i64 6, .lit .i64 5], .agg [.lit .i64 2, .lit .i64 0, .lit .i64 3, .lit .i64 3], .agg [.lit .i64 0, .lit .i64 0, .lit .i64 0, .lit .i64 3]]) := fieldsLit 1 [[4, 0, 6, 5], [2, 0, 3, 3], [0, 0, 0, 3]] rfl
theorem fieldsLit_2 : PureF gT 74 [.int .i64 2] (.sl 4 [.agg [.lit .i64 2, .lit .i64 0, .lit .i64 6, .lit .i64 3], .agg [.lit .i64 1, .lit .i64 0, .lit .i64 3, .lit .i64 3], .agg [.lit .i64 0, .lit .i64 0, .lit .i64 0, .lit .i64 3]]) := fieldsLit 2 [[2, 0, 6, 3], [1, 0, 3, 3], [0, 0, 0, 3]] rfl
theorem fieldsLit_3 : PureF gT 74 [.int .i64 3] (.sl 4 [.agg [.lit .i64 4, .lit .i64 0, .lit .i64 6, .lit .i64 3], .agg [.lit .i64 1, .lit .i64 0, .lit .i64 3, .lit .i64 3], .agg [.lit .i64 0, .lit .i64 0, .lit .i64 0, .lit .i64 3]]) := fieldsLit 3 [[4, 0, 6, 3], [1, 0, 3, 3], [0, 0, 0, 3]] rfl
theorem fieldsLit_4 : PureF gT 74 [.int .i64 4] (.sl 4 [.agg [.lit .i64 0, .lit .i64 0, .lit .i64 8, .lit .i64 3], .agg [.lit .i64 4, .lit .i64 0, .lit .i64 0, .lit .i64 8]]) := fieldsLit 4 [[0, 0, 8, 3], [4, 0, 0, 8]] rfl
theorem fieldsLit_5 : PureF gT 74 [.int .i64 5] (.sl 4 [.agg [.lit .i64 2, .lit .i64 0, .lit .i64 3, .lit .i64 3], .agg [.lit .i64 0, .lit .i64 0, .lit .i64 0, .lit .i64 3]]) := fieldsLit 5 [[2, 0, 3, 3], [0, 0, 0, 3]] rfl
theorem fieldsLit_6 : PureF gT 74 [.int .i64 6] (.sl 4 [.agg [.lit .i64 0, .lit .i64 3, .lit .i64 7, .lit .i64 1], .agg [.lit .i64 2, .lit .i64 0, .lit .i64 3, .lit .i64 4], .agg [.lit .i64 0, .lit .i64 0, .lit .i64 0, .lit .i64 3]]) := fieldsLit 6 [[0, 3, 7, 1], [2, 0, 3, 4], [0, 0, 0, 3]] rfl
theorem fieldsLit_7 : PureF gT 74 [.int .i64 7] (.sl 4 [.agg [.lit .i64 2, .lit .i64 0, .lit .i64 3, .lit .i64 4]]) := fieldsLit 7 [[2, 0, 3, 4]] rfl
theorem fieldsLit_8 : PureF gT 74 [.int .i64 8] (.sl 4 [.agg [.lit .i64 0, .lit .i64 0, .lit .i64 8, .lit .i64 3], .agg [.lit .i64 4, .lit .i64 2, .lit .i64 0, .lit .i64 8]]) := fieldsLit 8 [[0, 0, 8, 3], [4, 2, 0, 8]] rfl
theorem fieldsLit_9 : PureF gT 74 [.int .i64 9] (.sl 4 [.agg [.lit .i64 4, .lit .i64 2, .lit .i64 6, .lit .i64 5], .agg [.lit .i64 1, .lit .i64 0, .lit .i64 3, .lit .i64 3], .agg [.lit .i64 0, .lit .i64 0, .lit .i64 0, .lit .i64 3]]) := fieldsLit 9 [[4, 2, 6, 5], [1, 0, 3, 3], [0, 0, 0, 3]] rfl
theorem fieldsLit_10 : PureF gT 74 [.int .i64 10] (.sl 4 [.agg [.lit .i64 4, .lit .i64 2, .lit .i64 0, .lit .i64 7]]) := fieldsLit 10 [[4, 2, 0, 7]] rfl
theorem fieldsLit_11 : PureF gT 74 [.int .i64 11] (.sl 4 [.agg [.lit .i64 9, .lit .i64 14, .lit .i64 8, .lit .i64 1], .agg [.lit .i64 9, .lit .i64 0, .lit .i64 0, .lit .i64 8]]) := fieldsLit 11 [[9, 14, 8, 1], [9, 0, 0, 8]] rfl
theorem fieldsLit_12 : PureF gT 74 [.int .i64 12] (.sl 4 [.agg [.lit .i64 9, .lit .i64 15, .lit .i64 8, .lit .i64 1], .agg [.lit .i64 9, .lit .i64 0, .lit .i64 0, .lit .i64 8]]) := fieldsLit 12 [[9, 15, 8, 1], [9, 0, 0, 8]] rfl
theorem fieldsLit_13 : PureF gT 74 [.int .i64 13] (.sl 4 []) := fieldsLit 13 [] rfl
theorem fieldsLit_14 : PureF gT 74 [.int .i64 14] (.sl 4 [.agg [.lit .i64 4, .lit .i64 0, .lit .i64 0, .lit .i64 8]]) := fieldsLit 14 [[4, 0, 0, 8]] rfl
theorem fieldsLit_15 : PureF gT 74 [.int .i64 15] (.sl 4 [.agg [.lit .i64 8, .lit .i64 0, .lit .i64 8, .lit .i64 4], .agg [.lit .i64 4, .lit .i64 1, .lit .i64 0, .lit .i64 8]]) := fieldsLit 15 [[8, 0, 8, 4], [4, 1, 0, 8]] rfl
theorem fieldsLit_16 : PureF gT 74 [.int .i64 16] (.sl 4 [.agg [.lit .i64 4, .lit .i64 1, .lit .i64 0, .lit .i64 11]]) := fieldsLit 16 [[4, 1, 0, 11]] rfl
theorem fieldsLit_17 : PureF gT 74 [.int .i64 17] (.sl 4 [.agg [.lit .i64 4, .lit .i64 11, .lit .i64 26, .lit .i64 1], .agg [.lit .i64 4, .lit .i64 12, .lit .i64 16, .lit .i64 4], .agg [.lit .i64 4, .lit .i64 8, .lit .i64 12, .lit .i64 3], .agg [.lit .i64 4, .lit .i64 0, .lit .i64 0, .lit .i64 8], .agg [.lit .i64 0, .lit .i64 0, .lit .i64 8, .lit .i64 4]]) := fieldsLit 17 [[4, 11, 26, 1], [4, 12, 16, 4], [4, 8, 12, 3], [4, 0, 0, 8], [0, 0, 8, 4]] rfl
theorem fieldsLit_18 : PureF gT 74 [.int .i64 18] (.sl 4 [.agg [.lit .i64 4, .lit .i64 11, .lit .i64 26, .lit .i64 1], .agg [.lit .i64 4, .lit .i64 8, .lit .i64 12, .lit .i64 3], .agg [.lit .i64 4, .lit .i64 0, .lit .i64 0, .lit .i64 8], .agg [.lit .i64 7, .lit .i64 0, .lit .i64 20, .lit .i64 1], .agg [.lit .i64 1, .lit .i64 0, .lit .i64 16, .lit .i64 4], .agg [.lit .i64 0, .lit .i64 0, .lit .i64 8, .lit .i64 4]]) := fieldsLit 18 [[4, 11, 26, 1], [4, 8, 12, 3], [4, 0, 0, 8], [7, 0, 20, 1], [1, 0, 16, 4], [0, 0, 8, 4]] rfl
theorem fieldsLit_19 : PureF gT 74 [.int .i64 19] (.sl 4 [.agg [.lit .i64 4, .lit .i64 11, .lit .i64 26, .lit .i64 1], .agg [.lit .i64 4, .lit .i64 8, .lit .i64 12, .lit .i64 3], .agg [.lit .i64 4, .lit .i64 0, .lit .i64 0, .lit .i64 8], .agg [.lit .i64 7, .lit .i64 0, .lit .i64 20, .lit .i64 1], .agg [.lit .i64 0, .lit .i64 0, .lit .i64 8, .lit .i64 4]]) := fieldsLit 19 [[4, 11, 26, 1], [4, 8, 12, 3], [4, 0, 0, 8], [7, 0, 20, 1], [0, 0, 8, 4]] rfl
theorem fieldsLit_20 : PureF gT 74 [.int .i64 20] (.sl 4 [.agg [.lit .i64 4, .lit .i64 11, .lit .i64 26, .lit .i64 1], .agg [.lit .i64 4, .lit .i64 8, .lit .i64 12, .lit .i64 3], .agg [.lit .i64 4, .lit .i64 0, .lit .i64 0, .lit .i64 8], .agg [.lit .i64 1, .lit .i64 0, .lit .i64 16, .lit .i64 4]]) := fieldsLit 20 [[4, 11, 26, 1], [4, 8, 12, 3], [4, 0, 0, 8], [1, 0, 16, 4]] rfl
theorem fieldsLit_21 : PureF gT 74 [.int .i64 21] (.sl 4 [.agg [.lit .i64 6, .lit .i64 2, .lit .i64 12, .lit .i64 3], .agg [.lit .i64 6, .lit .i64 0, .lit .i64 6, .lit .i64 2], .agg [.lit .i64 5, .lit .i64 0, .lit .i64 4, .lit .i64 2], .agg [.lit .i64 7, .lit .i64 0, .lit .i64 20, .lit .i64 1], .agg [.lit .i64 1, .lit .i64 0, .lit .i64 16, .lit .i64 4], .agg [.lit .i64 0, .lit .i64 0, .lit .i64 8, .lit .i64 4], .agg [.lit .i64 2, .lit .i64 0, .lit .i64 0, .lit .i64 4]]) := fieldsLit 21 [[6, 2, 12, 3], [6, 0, 6, 2], [5, 0, 4, 2], [7, 0, 20, 1], [1, 0, 16, 4], [0, 0, 8, 4], [2, 0, 0, 4]] rfl
theorem fieldsLit_22 : PureF gT 74 [.int .i64 22] (.sl 4 [.agg [.lit .i64 6, .lit .i64 2, .lit .i64 12, .lit .i64 3], .agg [.lit .i64 6, .lit .i64 0, .lit .i64 6, .lit .i64 2], .agg [.lit .i64 5, .lit .i64 0, .lit .i64 4, .lit .i64 2], .agg [.lit .i64 7, .lit .i64 0, .lit .i64 20, .lit .i64 1], .agg [.lit .i64 0, .lit .i64 0, .lit .i64 8, .lit .i64 4], .agg [.lit .i64 2, .lit .i64 0, .lit .i64 0, .lit .i64 4]]) := fieldsLit 22 [[6, 2, 12, 3], [6, 0, 6, 2], [5, 0, 4, 2], [7, 0, 20, 1], [0, 0, 8, 4], [2, 0, 0, 4]] rfl
theorem fieldsLit_23 : PureF gT 74 [.int .i64 23] (.sl 4 [.agg [.lit .i64 6, .lit .i64 2, .lit .i64 12, .lit .i64 3], .agg [.lit .i64 6, .lit .i64 0, .lit .i64 6, .lit .i64 2], .agg [.lit .i64 5, .lit .i64 0, .lit .i64 4, .lit .i64 2], .agg [.lit .i64 1, .lit .i64 0, .lit .i64 16, .lit .i64 4], .agg [.lit .i64 2, .lit .i64 0, .lit .i64 0, .lit .i64 4]]) := fieldsLit 23 [[6, 2, 12, 3], [6, 0, 6, 2], [5, 0, 4, 2], [1, 0, 16, 4], [2, 0, 0, 4]] rfl
theorem fieldsLit_24 : PureF gT 74 [.int .i64 24] (.sl 4 [.agg [.lit .i64 4, .lit .i64 11, .lit .i64 26, .lit .i64 1], .agg [.lit .i64 4, .lit .i64 8, .lit .i64 12, .lit .i64 3], .agg [.lit .i64 4, .lit .i64 0, .lit .i64 0, .lit .i64 8], .agg [.lit .i64 1, .lit .i64 0, .lit .i64 16, .lit .i64 4], .agg [.lit .i64 0, .lit .i64 0, .lit .i64 8, .lit .i64 4]]) := fieldsLit 24 [[4, 11, 26, 1], [4, 8, 12, 3], [4, 0, 0, 8], [1, 0, 16, 4], [0, 0, 8, 4]] rfl
theorem fieldsLit_25 : PureF gT 74 [.int .i64 25] (.sl 4 [.agg [.lit .i64 1, .lit .i64 0, .lit .i64 16, .lit .i64 4], .agg [.lit .i64 0, .lit .i64 0, .lit .i64 12, .lit .i64 4], .agg [.lit .i64 4, .lit .i64 0, .lit .i64 0, .lit .i64 12]]) := fieldsLit 25 [[1, 0, 16, 4], [0, 0, 12, 4], [4, 0, 0, 12]] rfl
theorem fieldsLit_26 : PureF gT 74 [.int .i64 26] (.sl 4 [.agg [.lit .i64 1, .lit .i64 0, .lit .i64 16, .lit .i64 4], .agg [.lit .i64 0, .lit .i64 0, .lit .i64 12, .lit .i64 4], .agg [.lit .i64 6, .lit .i64 0, .lit .i64 4, .lit .i64 2], .agg [.lit .i64 2, .lit .i64 0, .lit .i64 0, .lit .i64 4]]) := fieldsLit 26 [[1, 0, 16, 4], [0, 0, 12, 4], [6, 0, 4, 2], [2, 0, 0, 4]] rfl
theorem fieldsLit_27 : PureF gT 74 [.int .i64 27] (.sl 4 [.agg [.lit .i64 7, .lit .i64 0, .lit .i64 20, .lit .i64 1], .agg [.lit .i64 1, .lit .i64 0, .lit .i64 16, .lit .i64 4], .agg [.lit .i64 0, .lit .i64 0, .lit .i64 8, .lit .i64 4], .agg [.lit .i64 2, .lit .i64 0, .lit .i64 0, .lit .i64 4]]) := fieldsLit 27 [[7, 0, 20, 1], [1, 0, 16, 4], [0, 0, 8, 4], [2, 0, 0, 4]] rfl
theorem fieldsLit_28 : PureF gT 74 [.int .i64 28] (.sl 4 [.agg [.lit .i64 1, .lit .i64 0, .lit .i64 16, .lit .i64 4], .agg [.lit .i64 0, .lit .i64 0, .lit .i64 8, .lit .i64 4], .agg [.lit .i64 2, .lit .i64 0, .lit .i64 0, .lit .i64 4]]) := fieldsLit 28 [[1, 0, 16, 4], [0, 0, 8, 4], [2, 0, 0, 4]] rfl
theorem fieldsLit_29 : PureF gT 74 [.int .i64 29] (.sl 4 [.agg [.lit .i64 1, .lit .i64 0, .lit .i64 16, .lit .i64 4], .agg [.lit .i64 3, .lit .i64 0, .lit .i64 12, .lit .i64 4], .agg [.lit .i64 0, .lit .i64 0, .lit .i64 8, .lit .i64 4], .agg [.lit .i64 2, .lit .i64 0, .lit .i64 0, .lit .i64 4]]) := fieldsLit 29 [[1, 0, 16, 4], [3, 0, 12, 4], [0, 0, 8, 4], [2, 0, 0, 4]] rfl
theorem fieldsLit_30 : PureF gT 74 [.int .i64 30] (.sl 4 [.agg [.lit .i64 1, .lit .i64 0, .lit .i64 16, .lit .i64 4], .agg [.lit .i64 3, .lit .i64 0, .lit .i64 12, .lit .i64 4], .agg [.lit .i64 0, .lit .i64 0, .lit .i64 8, .lit .i64 4], .agg [.lit .i64 2, .lit .i64 0, .lit .i64 0, .lit .i64 4]]) := fieldsLit 30 [[1, 0, 16, 4], [3, 0, 12, 4], [0, 0, 8, 4], [2, 0, 0, 4]] rfl
theorem fieldsLit_31 : PureF gT 74 [.int .i64 31] (.sl 4 [.agg [.lit .i64 1, .lit .i64 0, .lit .i64 16, .lit .i64 4], .agg [.lit .i64 0, .lit .i64 0, .lit .i64 12, .lit .i64 4], .agg [.lit .i64 3, .lit .i64 0, .lit .i64 8, .lit .i64 4], .agg [.lit .i64 2, .lit .i64 0, .lit .i64 0, .lit .i64 4]]) := fieldsLit 31 [[1, 0, 16, 4], [0, 0, 12, 4], [3, 0, 8, 4], [2, 0, 0, 4]] rfl
theorem fieldsLit_32 : PureF gT 74 [.int .i64 32] (.sl 4 [.agg [.lit .i64 2, .lit .i64 0, .lit .i64 16, .lit .i64 4], .agg [.lit .i64 0, .lit .i64 0, .lit .i64 8, .lit .i64 4], .agg [.lit .i64 2, .lit .i64 0, .lit .i64 0, .lit .i64 4]]) := fieldsLit 32 [[2, 0, 16, 4], [0, 0, 8, 4], [2, 0, 0, 4]] rfl
theorem fieldsLit_33 : PureF gT 74 [.int .i64 33] (.sl 4 [.agg [.lit .i64 4, .lit .i64 20, .lit .i64 26, .lit .i64 1], .agg [.lit .i64 8, .lit .i64 0, .lit .i64 22, .lit .i64 4], .agg [.lit .i64 4, .lit .i64 12, .lit .i64 16, .lit .i64 6], .agg [.lit .i64 4, .lit .i64 18, .lit .i64 13, .lit .i64 1], .agg [.lit .i64 4, .lit .i64 19, .lit .i64 11, .lit .i64 1], .agg [.lit .i64 4, .lit .i64 1, .lit .i64 0, .lit .i64 11]]) := fieldsLit 33 [[4, 20, 26, 1], [8, 0, 22, 4], [4, 12, 16, 6], [4, 18, 13, 1], [4, 19, 11, 1], [4, 1, 0, 11]] rfl
theorem fieldsLit_34 : PureF gT 74 [.int .i64 34] (.sl 4 [.agg [.lit .i64 4, .lit .i64 24, .lit .i64 26, .lit .i64 1], .agg [.lit .i64 4, .lit .i64 12, .lit .i64 16, .lit .i64 10], .agg [.lit .i64 4, .lit .i64 23, .lit .i64 13, .lit .i64 1], .agg [.lit .i64 4, .lit .i64 22, .lit .i64 11, .lit .i64 1], .agg [.lit .i64 4, .lit .i64 1, .lit .i64 0, .lit .i64 11]]) := fieldsLit 34 [[4, 24, 26, 1], [4, 12, 16, 10], [4, 23, 13, 1], [4, 22, 11, 1], [4, 1, 0, 11]] rfl

end Go.Proofs.YthpkejlmelednaaDoor.Pw

/- Chapter 4 over values: the program's bits of fields (by gen_tx.py). -/
namespace Go.Proofs.YthpkejlmelednaaDoor.Pw
open Go Go.RowKit

/-- a field's bits in their place -/
def B (v : Int) (l w a : Nat) : Nat := (bitsV v l w).toNat <<< a
theorem B_lt (v : Int) {l w a : Nat} (h : w + a ≤ 32) : B v l w a < 4294967296 := by
  have b := bitsV_bd v l w
  have e := pow_cast w
  have h1 : (bitsV v l w).toNat < 2 ^ w := by omega
  unfold B
  rw [Nat.shiftLeft_eq]
  calc (bitsV v l w).toNat * 2 ^ a < 2 ^ w * 2 ^ a := Nat.mul_lt_mul_of_pos_right h1 (Nat.two_pow_pos a)
    _ = 2 ^ (w + a) := (Nat.pow_add ..).symm
    _ ≤ 2 ^ 32 := Nat.pow_le_pow_right (by omega) h
theorem B_eq (v : Int) (l w a : Nat) (p : Int) (hp : p = 2 ^ a) : bitsV v l w * p = ((B v l w a : Nat) : Int) := by
  have b := bitsV_bd v l w
  unfold B
  rw [Nat.shiftLeft_eq, hp, Int.natCast_mul, Int.toNat_of_nonneg b.1, pow_cast]
/-- a word as a number of nature, within its bounds -/
def IsN (x : Int) (a : Nat) : Prop := x = (a : Int) ∧ a < 4294967296
theorem IsN.or {x y : Int} {a b : Nat} (hx : IsN x a) (hy : IsN y b) : IsN (bits .or .u32 x y) (a ||| b) := by
  obtain ⟨rfl, ha⟩ := hx
  obtain ⟨rfl, hb⟩ := hy
  refine ⟨?_, Nat.or_lt_two_pow (n := 32) ha hb⟩
  rw [u32_or _ _ (by omega) (by omega) (by omega) (by omega), Int.toNat_natCast, Int.toNat_natCast]
theorem isB (v : Int) (l w a : Nat) {p : Int} (hp : p = 2 ^ a) (h : w + a ≤ 32) : IsN (bitsV v l w * p) (B v l w a) := ⟨B_eq v l w a p hp, B_lt v h⟩
theorem isB0 (v : Int) (l w : Nat) (h : w ≤ 32) : IsN (bitsV v l w) (B v l w 0) := ⟨by have := B_eq v l w 0 1 rfl; rwa [Int.mul_one] at this, B_lt v h⟩
theorem bits_id {v : Int} {w : Nat} (h : 0 ≤ v ∧ v < 2 ^ w) : bitsV v 0 w = v := by
  unfold bitsV
  rw [if_neg (by omega), show (2 : Int) ^ 0 = 1 from rfl, Int.ediv_one]
  exact Int.emod_eq_of_lt h.1 h.2
theorem isR (v : Int) (w a : Nat) {p : Int} (hp : p = 2 ^ a) (h : w + a ≤ 32) (hv : 0 ≤ v ∧ v < 2 ^ w) : IsN (v * p) (B v 0 w a) := by
  have := isB v 0 w a hp h
  rwa [bits_id hv] at this
theorem isR0 (v : Int) (w : Nat) (h : w ≤ 32) (hv : 0 ≤ v ∧ v < 2 ^ w) : IsN v (B v 0 w 0) := by
  have := isB0 v 0 w h
  rwa [bits_id hv] at this
theorem B_zero {v : Int} {l w a : Nat} (h : bitsV v l w = 0) : B v l w a = 0 := by unfold B; rw [h]; simp
theorem B_0 {v : Int} {l w a : Nat} (h : v = 0) : B v l w a = 0 := by
  subst h
  apply B_zero
  unfold bitsV
  rw [if_neg (by omega), Int.zero_ediv, Int.zero_emod]
/-- fields or-ed together -/
def orF (i : IN) (l : List (Nat × Nat × Nat × Nat)) : Nat := l.foldl (fun w x => w ||| B (getV i x.1) x.2.1 x.2.2.2 x.2.2.1) 0
theorem fold_or (i : IN) : ∀ (l : List (Nat × Nat × Nat × Nat)) (W V : Nat), l.foldl (putF i) (W ||| V) = W ||| l.foldl (fun w x => w ||| B (getV i x.1) x.2.1 x.2.2.2 x.2.2.1) V
  | [], _, _ => rfl
  | x :: l, W, V => by
    rw [List.foldl_cons, List.foldl_cons]
    have e : putF i (W ||| V) x = W ||| (V ||| B (getV i x.1) x.2.1 x.2.2.2 x.2.2.1) := by
      have h : (bitsV (getV i x.1) x.2.1 x.2.2.2).toNat < 2 ^ x.2.2.2 := vF_lt i x
      unfold putF plus B
      rw [Nat.mod_eq_of_lt h, Nat.or_assoc]
    rw [e, fold_or i l]
theorem wordF_or (i : IN) (l : List (Nat × Nat × Nat × Nat)) : wordF i l = (fbV i.form).toNat ||| orF i l := by
  unfold wordF orF
  rw [← fold_or i l, Nat.or_zero]
theorem word_or (i : IN) : wordV i = (((fbV i.form).toNat ||| orF (turnI i) (fieldsV (shapeV i.form)) : Nat) : Int) := by
  unfold wordV
  rw [wordF_or, turnI_form]
theorem or4_lt {a b : Nat} (ha : a < 4294967296) (hb : b < 4294967296) : a ||| b < 4294967296 := Nat.or_lt_two_pow (n := 32) ha hb
theorem isPlain (i : IN) : IsN ((B i.set 0 1 20 ||| B i.rn 0 4 16 ||| B i.ra 0 4 12 ||| B i.rd 0 4 8 ||| B i.rm 0 4 0 : Nat) : Int) (B i.set 0 1 20 ||| B i.rn 0 4 16 ||| B i.ra 0 4 12 ||| B i.rd 0 4 8 ||| B i.rm 0 4 0) :=
  ⟨rfl, or4_lt (or4_lt (or4_lt (or4_lt (B_lt _ (by decide)) (B_lt _ (by decide))) (B_lt _ (by decide))) (B_lt _ (by decide))) (B_lt _ (by decide))⟩
theorem isTwelve (n : Int) : IsN ((B n 11 1 26 ||| B n 12 4 16 ||| B n 8 3 12 ||| B n 0 8 0 : Nat) : Int) (B n 11 1 26 ||| B n 12 4 16 ||| B n 8 3 12 ||| B n 0 8 0) :=
  ⟨rfl, or4_lt (or4_lt (or4_lt (B_lt _ (by decide)) (B_lt _ (by decide))) (B_lt _ (by decide))) (B_lt _ (by decide))⟩
/-- a cut of a word, as the document's bits -/
theorem cutB (x : Int) (l w : Nat) (hx : U32 x) (hw : 1 ≤ w ∧ w ≤ 31) (hl : l ≤ 31) : PureF gT 144 [.int .u32 x, .int .i64 ((l : Int) + w - 1), .int .i64 l] (.int .u32 (bitsV x l w)) := by
  have h := cut_pure x l w hx hw hl
  rwa [cut_bits hx.1 l w] at h
theorem wrap_bits (v : Int) (l w : Nat) (h : l + w ≤ 32) (hv : -1099511627776 ≤ v) : cutV (IntKind.u32.wrap v) l w = bitsV v l w := by
  rw [IntKind.wrap_u32', cut_bits (by omega)]
  obtain ⟨n, hn⟩ : ∃ n : Nat, (n : Int) = if v < 0 then v + 1099511627776 else v := ⟨(if v < 0 then v + 1099511627776 else v).toNat, Int.toNat_of_nonneg (by split <;> omega)⟩
  have e : v % 4294967296 = ((n % 4294967296 : Nat) : Int) := by
    rw [Int.natCast_emod, hn]
    split <;> omega
  rw [e, bitsV_nat]
  unfold bitsV
  rw [← hn]
  have key : n % 4294967296 / 2 ^ l % 2 ^ w = n / 2 ^ l % 2 ^ w := by
    apply Nat.eq_of_testBit_eq
    intro p
    rw [Nat.testBit_mod_two_pow, Nat.testBit_mod_two_pow, Nat.testBit_div_two_pow, Nat.testBit_div_two_pow, show (4294967296 : Nat) = 2 ^ 32 from rfl, Nat.testBit_mod_two_pow]
    by_cases hp : p < w
    · rw [decide_eq_true hp, decide_eq_true (show p + l < 32 by omega)]; simp
    · rw [decide_eq_false hp]; simp
  rw [key, ← pow_cast, ← pow_cast]
  norm_cast
theorem cutW (v : Int) (l w : Nat) (hv : -1099511627776 ≤ v) (hw : 1 ≤ w ∧ w ≤ 31) (hl : l ≤ 31) (h : l + w ≤ 32) : PureF gT 144 [.int .u32 (IntKind.u32.wrap v), .int .i64 ((l : Int) + w - 1), .int .i64 l] (.int .u32 (bitsV v l w)) := by
  have hx : 0 ≤ IntKind.u32.wrap v ∧ IntKind.u32.wrap v ≤ 4294967295 := by rw [IntKind.wrap_u32']; omega
  have k := cut_pure (IntKind.u32.wrap v) l w hx hw hl
  rwa [wrap_bits v l w h hv] at k
theorem bits_div {v : Int} (h : 0 ≤ v) (w : Nat) : bitsV (v / 4) 0 w = bitsV v 2 w := by
  unfold bitsV
  rw [if_neg (by omega), if_neg (by omega), show (2 : Int) ^ 0 = 1 from rfl, show (2 : Int) ^ 2 = 4 from rfl, Int.ediv_one]
theorem B_div {v : Int} {w a : Nat} (h : 0 ≤ v) : B (v / 4) 0 w a = B v 2 w a := by unfold B; rw [bits_div h]
theorem isD (v : Int) (w : Nat) (h : w ≤ 32) (h0 : 0 ≤ v) (hv : v / 4 < 2 ^ w) : IsN (v / 4) (B v 2 w 0) := by
  have := isR0 (v / 4) w h ⟨by omega, hv⟩
  rwa [B_div h0] at this
set_option maxHeartbeats 4000000 in
set_option maxRecDepth 100000 in
theorem small_pure (i : IN) (v : Int) (w : Nat) (hv : 0 ≤ v ∧ v < 2 ^ w) (hd : 0 ≤ i.rd ∧ i.rd < 8) (hn : 0 ≤ i.rn ∧ i.rn < 8) (hw : w ≤ 20) : PureF gT 147 [inP i, .int .u32 v] (.int .u32 ((B v 0 w 6 ||| B i.rn 0 3 3 ||| B i.rd 0 3 0 : Nat) : Int)) := by
  have hp := pow_bd w (by omega)
  have hp2 : (2 : Int) ^ w ≤ 1048576 := by
    have h1 : (2 ^ w : Nat) ≤ 2 ^ 20 := Nat.pow_le_pow_right (by omega) hw
    have h3 := pow_cast w
    omega
  refine Spec.enter gTok P147 100 Tryd.func147 rfl (by kernel_rfl) ?_
  refine ⟨by decide, .inl ⟨inR_u32 (by rw [r6]; omega), ?_⟩⟩
  refine .inl ⟨inR_u32 (by omega), ?_⟩
  refine ⟨by decide, .inl ⟨inR_u32 (by rw [r3]; omega), ?_⟩⟩
  refine .inl ⟨inR_u32 (by omega), ?_⟩
  refine retE ?_
  exact (show bits .or .u32 (bits .or .u32 (v * Ev.pow2 .u32 6) (i.rn * Ev.pow2 .u32 3)) i.rd = _ from (((isR v w 6 (by decide) (by omega) hv).or (isR i.rn 3 3 (by decide) (by decide) hn)).or (isR0 i.rd 3 (by decide) hd)).1)
set_option maxHeartbeats 4000000 in
set_option maxRecDepth 100000 in
theorem plain_pure (i : IN) (hs : 0 ≤ i.set ∧ i.set < 2) (hd : 0 ≤ i.rd ∧ i.rd < 16) (hn : 0 ≤ i.rn ∧ i.rn < 16) (hm : 0 ≤ i.rm ∧ i.rm < 16) (ha : 0 ≤ i.ra ∧ i.ra < 16) : PureF gT 142 [inP i] (.int .u32 ((B i.set 0 1 20 ||| B i.rn 0 4 16 ||| B i.ra 0 4 12 ||| B i.rd 0 4 8 ||| B i.rm 0 4 0 : Nat) : Int)) := by
  refine Spec.enter gTok P142 100 Tryd.func142 rfl (by kernel_rfl) ?_
  refine .inl ⟨inR_u32 (by omega), ?_⟩
  refine ⟨by decide, .inl ⟨inR_u32 (by rw [r20]; omega), ?_⟩⟩
  refine .inl ⟨inR_u32 (by omega), ?_⟩
  refine ⟨by decide, .inl ⟨inR_u32 (by rw [r16]; omega), ?_⟩⟩
  refine .inl ⟨inR_u32 (by omega), ?_⟩
  refine ⟨by decide, .inl ⟨inR_u32 (by rw [r12]; omega), ?_⟩⟩
  refine .inl ⟨inR_u32 (by omega), ?_⟩
  refine ⟨by decide, .inl ⟨inR_u32 (by rw [r8]; omega), ?_⟩⟩
  refine .inl ⟨inR_u32 (by omega), ?_⟩
  refine retE ?_
  exact (show bits .or .u32 (bits .or .u32 (bits .or .u32 (bits .or .u32 (i.set * Ev.pow2 .u32 20) (i.rn * Ev.pow2 .u32 16)) (i.ra * Ev.pow2 .u32 12)) (i.rd * Ev.pow2 .u32 8)) i.rm = _ from (((((isR i.set 1 20 (by decide) (by decide) hs).or (isR i.rn 4 16 (by decide) (by decide) hn)).or (isR i.ra 4 12 (by decide) (by decide) ha)).or (isR i.rd 4 8 (by decide) (by decide) hd)).or (isR0 i.rm 4 (by decide) hm)).1)
set_option maxHeartbeats 4000000 in
set_option maxRecDepth 100000 in
theorem twelve_pure (n : Int) (hn : U32 n) : PureF gT 143 [.int .u32 n] (.int .u32 ((B n 11 1 26 ||| B n 12 4 16 ||| B n 8 3 12 ||| B n 0 8 0 : Nat) : Int)) := by
  have b0 := bitsV_bd n 11 1
  have b1 := bitsV_bd n 12 4
  have b2 := bitsV_bd n 8 3
  have b3 := bitsV_bd n 0 8
  refine Spec.enter gTok P143 100 Tryd.func143 rfl (by kernel_rfl) ?_
  refine ⟨[], no_rl, (cutB n 11 1 hn (by decide) (by decide)).use (by repeat' first | exact trivial | exact rfl | exact Iff.rfl | exact Or.inl rfl | refine And.intro ?_ ?_) rfl rfl ?_⟩
  refine ⟨by decide, .inl ⟨inR_u32 (by rw [r26]; omega), ?_⟩⟩
  refine ⟨[], no_rl, (cutB n 12 4 hn (by decide) (by decide)).use (by repeat' first | exact trivial | exact rfl | exact Iff.rfl | exact Or.inl rfl | refine And.intro ?_ ?_) rfl rfl ?_⟩
  refine ⟨by decide, .inl ⟨inR_u32 (by rw [r16]; omega), ?_⟩⟩
  refine ⟨[], no_rl, (cutB n 8 3 hn (by decide) (by decide)).use (by repeat' first | exact trivial | exact rfl | exact Iff.rfl | exact Or.inl rfl | refine And.intro ?_ ?_) rfl rfl ?_⟩
  refine ⟨by decide, .inl ⟨inR_u32 (by rw [r12]; omega), ?_⟩⟩
  refine ⟨[], no_rl, (cutB n 0 8 hn (by decide) (by decide)).use (by repeat' first | exact trivial | exact rfl | exact Iff.rfl | exact Or.inl rfl | refine And.intro ?_ ?_) rfl rfl ?_⟩
  refine retE ?_
  exact (show bits .or .u32 (bits .or .u32 (bits .or .u32 (bitsV n 11 1 * Ev.pow2 .u32 26) (bitsV n 12 4 * Ev.pow2 .u32 16)) (bitsV n 8 3 * Ev.pow2 .u32 12)) (bitsV n 0 8) = _ from ((((isB n 11 1 26 (by decide) (by decide)).or (isB n 12 4 16 (by decide) (by decide))).or (isB n 8 3 12 (by decide) (by decide))).or (isB0 n 0 8 (by decide))).1)


end Go.Proofs.YthpkejlmelednaaDoor.Pw

/- Chapter 4 over values: the program's bits of narrow shapes (by gen_tx.py). -/
namespace Go.Proofs.YthpkejlmelednaaDoor.Pw
open Go Go.RowKit

set_option maxHeartbeats 8000000 in
set_option maxRecDepth 100000 in
theorem narrow_1 (i : IN) (hs : shapeV i.form = 1) (hr : rightR i (ruW 1)) (hg : i.regs ≤ 9223372036854775807) : PureF gT 118 [inP i] (.int .u32 ((orF i (fieldsV 1) : Nat) : Int)) := by
  obtain ⟨hf, h1, h2, h3, h4, h5, h6, h7, h8, h9, h10⟩ := hr
  have g0 := has_1 (r := i.rd) h1
  have g1 := has_0 (r := i.rn) h2
  have g2 := has_1 (r := i.rm) h3
  have g3 := has_0 (r := i.ra) h4
  have g4 : 0 ≤ i.imm ∧ i.imm ≤ 32 ∧ i.imm % 1 = 0 := sp_s (s := 1) (by decide) h7
  have g5 : i.kind = 0 := (sh_0 rfl h9).1
  have g6 : i.by_ = 0 := sp_0 (sh_0 rfl h9).2
  have g7 : i.set = 0 := h8.elim id fun e => absurd (show false = true from e.2) Bool.false_ne_true
  have g8 : i.cond = 0 := h6.elim id fun e => absurd (show false = true from e.1) Bool.false_ne_true
  clear h1 h2 h3 h4 h5 h6 h7 h8 h9 h10
  have b0 := bitsV_bd i.imm 0 5
  refine Spec.enter gTok P118 100 Tryd.func118 rfl (by kernel_rfl) ?_
  refine .inl ⟨inR_u32 (by omega), ?_⟩
  refine .inl ⟨inR_u32 (by omega), ?_⟩
  refine .inl ⟨inR_u32 (by omega), ?_⟩
  refine ⟨[], no_rl, (pshapeLit hs).use (And.intro rfl trivial) rfl rfl ?_⟩
  refine ⟨[], no_rl, (cutB i.imm 0 5 (by unfold U32; omega) (by decide) (by decide)).use (And.intro rfl (And.intro rfl (And.intro rfl trivial))) rfl rfl ?_⟩
  refine ⟨by decide, .inl ⟨inR_u32 (by rw [r6]; omega), ?_⟩⟩
  refine ⟨by decide, .inl ⟨inR_u32 (by rw [r3]; omega), ?_⟩⟩
  refine retE ?_
  have eo : orF i (fieldsV 1) = 0 ||| B i.imm 0 5 6 ||| B i.rm 0 3 3 ||| B i.rd 0 3 0 := rfl
  rw [eo]
  refine (show bits .or .u32 (bits .or .u32 (bitsV i.imm 0 5 * Ev.pow2 .u32 6) (i.rm * Ev.pow2 .u32 3)) (i.rd) = _ from ?_)
  refine ((((((isB i.imm 0 5 6 (by decide) (by decide))).or (isR i.rm 3 3 (by decide) (by decide) (by omega)))).or (isR0 i.rd 3 (by decide) (by omega)))).1.trans (congrArg (fun n : Nat => (n : Int)) ?_)
  first
  | (simp only [Nat.or_zero, Nat.zero_or]; done)
  | (simp only [Nat.or_zero, Nat.zero_or]
     generalize B i.imm 0 5 6 = n0
     generalize B i.rm 0 3 3 = n1
     generalize B i.rd 0 3 0 = n2
     ac_rfl)
set_option maxHeartbeats 8000000 in
set_option maxRecDepth 100000 in
theorem narrow_2 (i : IN) (hs : shapeV i.form = 2) (hr : rightR i (ruW 2)) (hg : i.regs ≤ 9223372036854775807) : PureF gT 118 [inP i] (.int .u32 ((orF i (fieldsV 2) : Nat) : Int)) := by
  obtain ⟨hf, h1, h2, h3, h4, h5, h6, h7, h8, h9, h10⟩ := hr
  have g0 := has_1 (r := i.rd) h1
  have g1 := has_1 (r := i.rn) h2
  have g2 := has_1 (r := i.rm) h3
  have g3 := has_0 (r := i.ra) h4
  have g4 : i.imm = 0 := sp_0 h7
  have g5 : i.kind = 0 := (sh_0 rfl h9).1
  have g6 : i.by_ = 0 := sp_0 (sh_0 rfl h9).2
  have g7 : i.set = 0 := h8.elim id fun e => absurd (show false = true from e.2) Bool.false_ne_true
  have g8 : i.cond = 0 := h6.elim id fun e => absurd (show false = true from e.1) Bool.false_ne_true
  clear h1 h2 h3 h4 h5 h6 h7 h8 h9 h10
  refine Spec.enter gTok P118 100 Tryd.func118 rfl (by kernel_rfl) ?_
  refine .inl ⟨inR_u32 (by omega), ?_⟩
  refine .inl ⟨inR_u32 (by omega), ?_⟩
  refine .inl ⟨inR_u32 (by omega), ?_⟩
  refine ⟨[], no_rl, (pshapeLit hs).use (And.intro rfl trivial) rfl rfl ?_⟩
  refine ⟨[], no_rl, (small_pure i i.rm 3 (by omega) (by omega) (by omega) (by decide)).use (by repeat' first | exact trivial | exact rfl | exact Iff.rfl | exact Or.inl rfl | refine And.intro ?_ ?_) rfl rfl ?_⟩
  refine retE ?_
  have eo : orF i (fieldsV 2) = 0 ||| B i.rm 0 3 6 ||| B i.rn 0 3 3 ||| B i.rd 0 3 0 := rfl
  rw [eo]
  refine (show _ = _ from congrArg (fun n : Nat => (n : Int)) ?_)
  simp only [Nat.zero_or]
set_option maxHeartbeats 8000000 in
set_option maxRecDepth 100000 in
theorem narrow_3 (i : IN) (hs : shapeV i.form = 3) (hr : rightR i (ruW 3)) (hg : i.regs ≤ 9223372036854775807) : PureF gT 118 [inP i] (.int .u32 ((orF i (fieldsV 3) : Nat) : Int)) := by
  obtain ⟨hf, h1, h2, h3, h4, h5, h6, h7, h8, h9, h10⟩ := hr
  have g0 := has_1 (r := i.rd) h1
  have g1 := has_1 (r := i.rn) h2
  have g2 := has_0 (r := i.rm) h3
  have g3 := has_0 (r := i.ra) h4
  have g4 : 0 ≤ i.imm ∧ i.imm ≤ 7 ∧ i.imm % 1 = 0 := sp_s (s := 1) (by decide) h7
  have g5 : i.kind = 0 := (sh_0 rfl h9).1
  have g6 : i.by_ = 0 := sp_0 (sh_0 rfl h9).2
  have g7 : i.set = 0 := h8.elim id fun e => absurd (show false = true from e.2) Bool.false_ne_true
  have g8 : i.cond = 0 := h6.elim id fun e => absurd (show false = true from e.1) Bool.false_ne_true
  clear h1 h2 h3 h4 h5 h6 h7 h8 h9 h10
  refine Spec.enter gTok P118 100 Tryd.func118 rfl (by kernel_rfl) ?_
  refine .inl ⟨inR_u32 (by omega), ?_⟩
  refine .inl ⟨inR_u32 (by omega), ?_⟩
  refine .inl ⟨inR_u32 (by omega), ?_⟩
  refine ⟨[], no_rl, (pshapeLit hs).use (And.intro rfl trivial) rfl rfl ?_⟩
  refine ⟨[], no_rl, (small_pure i i.imm 3 (by omega) (by omega) (by omega) (by decide)).use (by repeat' first | exact trivial | exact rfl | exact Iff.rfl | exact Or.inl rfl | refine And.intro ?_ ?_) rfl rfl ?_⟩
  refine retE ?_
  have eo : orF i (fieldsV 3) = 0 ||| B i.imm 0 3 6 ||| B i.rn 0 3 3 ||| B i.rd 0 3 0 := rfl
  rw [eo]
  refine (show _ = _ from congrArg (fun n : Nat => (n : Int)) ?_)
  simp only [Nat.zero_or]
set_option maxHeartbeats 8000000 in
set_option maxRecDepth 100000 in
theorem narrow_4 (i : IN) (hs : shapeV i.form = 4) (hr : rightR i (ruW 4)) (hg : i.regs ≤ 9223372036854775807) : PureF gT 118 [inP i] (.int .u32 ((orF i (fieldsV 4) : Nat) : Int)) := by
  obtain ⟨hf, h1, h2, h3, h4, h5, h6, h7, h8, h9, h10⟩ := hr
  have g0 := has_1 (r := i.rd) h1
  have g1 := has_0 (r := i.rn) h2
  have g2 := has_0 (r := i.rm) h3
  have g3 := has_0 (r := i.ra) h4
  have g4 : 0 ≤ i.imm ∧ i.imm ≤ 255 ∧ i.imm % 1 = 0 := sp_s (s := 1) (by decide) h7
  have g5 : i.kind = 0 := (sh_0 rfl h9).1
  have g6 : i.by_ = 0 := sp_0 (sh_0 rfl h9).2
  have g7 : i.set = 0 := h8.elim id fun e => absurd (show false = true from e.2) Bool.false_ne_true
  have g8 : i.cond = 0 := h6.elim id fun e => absurd (show false = true from e.1) Bool.false_ne_true
  clear h1 h2 h3 h4 h5 h6 h7 h8 h9 h10
  refine Spec.enter gTok P118 100 Tryd.func118 rfl (by kernel_rfl) ?_
  refine .inl ⟨inR_u32 (by omega), ?_⟩
  refine .inl ⟨inR_u32 (by omega), ?_⟩
  refine .inl ⟨inR_u32 (by omega), ?_⟩
  refine ⟨[], no_rl, (pshapeLit hs).use (And.intro rfl trivial) rfl rfl ?_⟩
  refine ⟨by decide, .inl ⟨inR_u32 (by rw [r8]; omega), ?_⟩⟩
  refine retE ?_
  have eo : orF i (fieldsV 4) = 0 ||| B i.rd 0 3 8 ||| B i.imm 0 8 0 := rfl
  rw [eo]
  refine (show bits .or .u32 (i.rd * Ev.pow2 .u32 8) (i.imm) = _ from ?_)
  refine ((((isR i.rd 3 8 (by decide) (by decide) (by omega))).or (isR0 i.imm 8 (by decide) (by omega)))).1.trans (congrArg (fun n : Nat => (n : Int)) ?_)
  first
  | (simp only [Nat.or_zero, Nat.zero_or]; done)
  | (simp only [Nat.or_zero, Nat.zero_or]
     generalize B i.rd 0 3 8 = n0
     generalize B i.imm 0 8 0 = n1
     ac_rfl)
set_option maxHeartbeats 8000000 in
set_option maxRecDepth 100000 in
theorem narrow_5 (i : IN) (hs : shapeV i.form = 5) (hr : rightR i (ruW 5)) (hg : i.regs ≤ 9223372036854775807) : PureF gT 118 [inP i] (.int .u32 ((orF i (fieldsV 5) : Nat) : Int)) := by
  obtain ⟨hf, h1, h2, h3, h4, h5, h6, h7, h8, h9, h10⟩ := hr
  have g0 := has_1 (r := i.rd) h1
  have g1 := has_0 (r := i.rn) h2
  have g2 := has_1 (r := i.rm) h3
  have g3 := has_0 (r := i.ra) h4
  have g4 : i.imm = 0 := sp_0 h7
  have g5 : i.kind = 0 := (sh_0 rfl h9).1
  have g6 : i.by_ = 0 := sp_0 (sh_0 rfl h9).2
  have g7 : i.set = 0 := h8.elim id fun e => absurd (show false = true from e.2) Bool.false_ne_true
  have g8 : i.cond = 0 := h6.elim id fun e => absurd (show false = true from e.1) Bool.false_ne_true
  clear h1 h2 h3 h4 h5 h6 h7 h8 h9 h10
  refine Spec.enter gTok P118 100 Tryd.func118 rfl (by kernel_rfl) ?_
  refine .inl ⟨inR_u32 (by omega), ?_⟩
  refine .inl ⟨inR_u32 (by omega), ?_⟩
  refine .inl ⟨inR_u32 (by omega), ?_⟩
  refine ⟨[], no_rl, (pshapeLit hs).use (And.intro rfl trivial) rfl rfl ?_⟩
  refine ⟨by decide, .inl ⟨inR_u32 (by rw [r3]; omega), ?_⟩⟩
  refine retE ?_
  have eo : orF i (fieldsV 5) = 0 ||| B i.rm 0 3 3 ||| B i.rd 0 3 0 := rfl
  rw [eo]
  refine (show bits .or .u32 (i.rm * Ev.pow2 .u32 3) (i.rd) = _ from ?_)
  refine ((((isR i.rm 3 3 (by decide) (by decide) (by omega))).or (isR0 i.rd 3 (by decide) (by omega)))).1.trans (congrArg (fun n : Nat => (n : Int)) ?_)
  first
  | (simp only [Nat.or_zero, Nat.zero_or]; done)
  | (simp only [Nat.or_zero, Nat.zero_or]
     generalize B i.rm 0 3 3 = n0
     generalize B i.rd 0 3 0 = n1
     ac_rfl)
set_option maxHeartbeats 8000000 in
set_option maxRecDepth 100000 in
theorem narrow_6 (i : IN) (hs : shapeV i.form = 6) (hr : rightR i (ruW 6)) (hg : i.regs ≤ 9223372036854775807) : PureF gT 118 [inP i] (.int .u32 ((orF i (fieldsV 6) : Nat) : Int)) := by
  obtain ⟨hf, h1, h2, h3, h4, h5, h6, h7, h8, h9, h10⟩ := hr
  have g0 := has_2 (r := i.rd) h1
  have g1 := has_0 (r := i.rn) h2
  have g2 := has_2 (r := i.rm) h3
  have g3 := has_0 (r := i.ra) h4
  have g4 : i.imm = 0 := sp_0 h7
  have g5 : i.kind = 0 := (sh_0 rfl h9).1
  have g6 : i.by_ = 0 := sp_0 (sh_0 rfl h9).2
  have g7 : i.set = 0 := h8.elim id fun e => absurd (show false = true from e.2) Bool.false_ne_true
  have g8 : i.cond = 0 := h6.elim id fun e => absurd (show false = true from e.1) Bool.false_ne_true
  clear h1 h2 h3 h4 h5 h6 h7 h8 h9 h10
  have b0 := bitsV_bd i.rd 3 1
  have b1 := bitsV_bd i.rd 0 3
  refine Spec.enter gTok P118 100 Tryd.func118 rfl (by kernel_rfl) ?_
  refine .inl ⟨inR_u32 (by omega), ?_⟩
  refine .inl ⟨inR_u32 (by omega), ?_⟩
  refine .inl ⟨inR_u32 (by omega), ?_⟩
  refine ⟨[], no_rl, (pshapeLit hs).use (And.intro rfl trivial) rfl rfl ?_⟩
  refine ⟨[], no_rl, (cutB i.rd 3 1 (by unfold U32; omega) (by decide) (by decide)).use (And.intro rfl (And.intro rfl (And.intro rfl trivial))) rfl rfl ?_⟩
  refine ⟨by decide, .inl ⟨inR_u32 (by rw [r7]; omega), ?_⟩⟩
  refine ⟨by decide, .inl ⟨inR_u32 (by rw [r3]; omega), ?_⟩⟩
  refine ⟨[], no_rl, (cutB i.rd 0 3 (by unfold U32; omega) (by decide) (by decide)).use (And.intro rfl (And.intro rfl (And.intro rfl trivial))) rfl rfl ?_⟩
  refine retE ?_
  have eo : orF i (fieldsV 6) = 0 ||| B i.rd 3 1 7 ||| B i.rm 0 4 3 ||| B i.rd 0 3 0 := rfl
  rw [eo]
  refine (show bits .or .u32 (bits .or .u32 (bitsV i.rd 3 1 * Ev.pow2 .u32 7) (i.rm * Ev.pow2 .u32 3)) (bitsV i.rd 0 3) = _ from ?_)
  refine ((((((isB i.rd 3 1 7 (by decide) (by decide))).or (isR i.rm 4 3 (by decide) (by decide) (by omega)))).or (isB0 i.rd 0 3 (by decide)))).1.trans (congrArg (fun n : Nat => (n : Int)) ?_)
  first
  | (simp only [Nat.or_zero, Nat.zero_or]; done)
  | (simp only [Nat.or_zero, Nat.zero_or]
     generalize B i.rd 3 1 7 = n0
     generalize B i.rm 0 4 3 = n1
     generalize B i.rd 0 3 0 = n2
     ac_rfl)
set_option maxHeartbeats 8000000 in
set_option maxRecDepth 100000 in
theorem narrow_7 (i : IN) (hs : shapeV i.form = 7) (hr : rightR i (ruW 7)) (hg : i.regs ≤ 9223372036854775807) : PureF gT 118 [inP i] (.int .u32 ((orF i (fieldsV 7) : Nat) : Int)) := by
  obtain ⟨hf, h1, h2, h3, h4, h5, h6, h7, h8, h9, h10⟩ := hr
  have g0 := has_0 (r := i.rd) h1
  have g1 := has_0 (r := i.rn) h2
  have g2 := has_2 (r := i.rm) h3
  have g3 := has_0 (r := i.ra) h4
  have g4 : i.imm = 0 := sp_0 h7
  have g5 : i.kind = 0 := (sh_0 rfl h9).1
  have g6 : i.by_ = 0 := sp_0 (sh_0 rfl h9).2
  have g7 : i.set = 0 := h8.elim id fun e => absurd (show false = true from e.2) Bool.false_ne_true
  have g8 : i.cond = 0 := h6.elim id fun e => absurd (show false = true from e.1) Bool.false_ne_true
  clear h1 h2 h3 h4 h5 h6 h7 h8 h9 h10
  refine Spec.enter gTok P118 100 Tryd.func118 rfl (by kernel_rfl) ?_
  refine .inl ⟨inR_u32 (by omega), ?_⟩
  refine .inl ⟨inR_u32 (by omega), ?_⟩
  refine .inl ⟨inR_u32 (by omega), ?_⟩
  refine ⟨[], no_rl, (pshapeLit hs).use (And.intro rfl trivial) rfl rfl ?_⟩
  refine ⟨by decide, .inl ⟨inR_u32 (by rw [r3]; omega), ?_⟩⟩
  refine retE ?_
  have eo : orF i (fieldsV 7) = 0 ||| B i.rm 0 4 3 := rfl
  rw [eo]
  refine (show i.rm * Ev.pow2 .u32 3 = _ from ?_)
  refine ((isR i.rm 4 3 (by decide) (by decide) (by omega))).1.trans (congrArg (fun n : Nat => (n : Int)) ?_)
  first
  | (simp only [Nat.or_zero, Nat.zero_or]; done)
  | (simp only [Nat.or_zero, Nat.zero_or]
     generalize B i.rm 0 4 3 = n0
     ac_rfl)
set_option maxHeartbeats 8000000 in
set_option maxRecDepth 100000 in
theorem narrow_8 (i : IN) (hs : shapeV i.form = 8) (hr : rightR i (ruW 8)) (hg : i.regs ≤ 9223372036854775807) : PureF gT 118 [inP i] (.int .u32 ((orF i (fieldsV 8) : Nat) : Int)) := by
  obtain ⟨hf, h1, h2, h3, h4, h5, h6, h7, h8, h9, h10⟩ := hr
  have g0 := has_1 (r := i.rd) h1
  have g1 := has_0 (r := i.rn) h2
  have g2 := has_0 (r := i.rm) h3
  have g3 := has_0 (r := i.ra) h4
  have g4 : 0 ≤ i.imm ∧ i.imm ≤ 1020 ∧ i.imm % 4 = 0 := sp_s (s := 4) (by decide) h7
  have g5 : i.kind = 0 := (sh_0 rfl h9).1
  have g6 : i.by_ = 0 := sp_0 (sh_0 rfl h9).2
  have g7 : i.set = 0 := h8.elim id fun e => absurd (show false = true from e.2) Bool.false_ne_true
  have g8 : i.cond = 0 := h6.elim id fun e => absurd (show false = true from e.1) Bool.false_ne_true
  clear h1 h2 h3 h4 h5 h6 h7 h8 h9 h10
  refine Spec.enter gTok P118 100 Tryd.func118 rfl (by kernel_rfl) ?_
  refine .inl ⟨inR_u32 (by omega), ?_⟩
  refine .inl ⟨inR_u32 (by omega), ?_⟩
  refine .inl ⟨inR_u32 (by omega), ?_⟩
  refine ⟨[], no_rl, (pshapeLit hs).use (And.intro rfl trivial) rfl rfl ?_⟩
  refine ⟨by decide, .inl ⟨inR_u32 (by rw [r8]; omega), ?_⟩⟩
  refine ⟨by decide, .inl ⟨by omega, by first | exact (show (_ : Int) ≤ 4294967295 by omega) | omega, by decide, ?_⟩⟩
  refine retE ?_
  have eo : orF i (fieldsV 8) = 0 ||| B i.rd 0 3 8 ||| B i.imm 2 8 0 := rfl
  rw [eo]
  refine (show bits .or .u32 (i.rd * Ev.pow2 .u32 8) (i.imm / 4) = _ from ?_)
  refine ((((isR i.rd 3 8 (by decide) (by decide) (by omega))).or (isD i.imm 8 (by decide) (by omega) (by omega)))).1.trans (congrArg (fun n : Nat => (n : Int)) ?_)
  first
  | (simp only [Nat.or_zero, Nat.zero_or]; done)
  | (simp only [Nat.or_zero, Nat.zero_or]
     generalize B i.rd 0 3 8 = n0
     generalize B i.imm 2 8 0 = n1
     ac_rfl)
set_option maxHeartbeats 8000000 in
set_option maxRecDepth 100000 in
theorem narrow_9 (i : IN) (hs : shapeV i.form = 9) (hr : rightR i (ruW 9)) (hg : i.regs ≤ 9223372036854775807) : PureF gT 118 [inP i] (.int .u32 ((orF i (fieldsV 9) : Nat) : Int)) := by
  obtain ⟨hf, h1, h2, h3, h4, h5, h6, h7, h8, h9, h10⟩ := hr
  have g0 := has_1 (r := i.rd) h1
  have g1 := has_1 (r := i.rn) h2
  have g2 := has_0 (r := i.rm) h3
  have g3 := has_0 (r := i.ra) h4
  have g4 : 0 ≤ i.imm ∧ i.imm ≤ 124 ∧ i.imm % 4 = 0 := sp_s (s := 4) (by decide) h7
  have g5 : i.kind = 0 := (sh_0 rfl h9).1
  have g6 : i.by_ = 0 := sp_0 (sh_0 rfl h9).2
  have g7 : i.set = 0 := h8.elim id fun e => absurd (show false = true from e.2) Bool.false_ne_true
  have g8 : i.cond = 0 := h6.elim id fun e => absurd (show false = true from e.1) Bool.false_ne_true
  clear h1 h2 h3 h4 h5 h6 h7 h8 h9 h10
  refine Spec.enter gTok P118 100 Tryd.func118 rfl (by kernel_rfl) ?_
  refine .inl ⟨inR_u32 (by omega), ?_⟩
  refine .inl ⟨inR_u32 (by omega), ?_⟩
  refine .inl ⟨inR_u32 (by omega), ?_⟩
  refine ⟨[], no_rl, (pshapeLit hs).use (And.intro rfl trivial) rfl rfl ?_⟩
  refine ⟨by decide, .inl ⟨by omega, by first | exact (show (_ : Int) ≤ 4294967295 by omega) | omega, by decide, ?_⟩⟩
  refine ⟨[], no_rl, (small_pure i (i.imm / 4) 5 (by omega) (by omega) (by omega) (by decide)).use (by repeat' first | exact trivial | exact rfl | exact Iff.rfl | exact Or.inl rfl | refine And.intro ?_ ?_) rfl rfl ?_⟩
  refine retE ?_
  have eo : orF i (fieldsV 9) = 0 ||| B i.imm 2 5 6 ||| B i.rn 0 3 3 ||| B i.rd 0 3 0 := rfl
  rw [eo]
  refine (show _ = _ from congrArg (fun n : Nat => (n : Int)) ?_)
  rw [B_div (by omega)]; simp only [Nat.zero_or]
set_option maxHeartbeats 8000000 in
set_option maxRecDepth 100000 in
theorem narrow_10 (i : IN) (hs : shapeV i.form = 10) (hr : rightR i (ruW 10)) (hg : i.regs ≤ 9223372036854775807) : PureF gT 118 [inP i] (.int .u32 ((orF i (fieldsV 10) : Nat) : Int)) := by
  obtain ⟨hf, h1, h2, h3, h4, h5, h6, h7, h8, h9, h10⟩ := hr
  have g0 := has_0 (r := i.rd) h1
  have g1 := has_0 (r := i.rn) h2
  have g2 := has_0 (r := i.rm) h3
  have g3 := has_0 (r := i.ra) h4
  have g4 : 0 ≤ i.imm ∧ i.imm ≤ 508 ∧ i.imm % 4 = 0 := sp_s (s := 4) (by decide) h7
  have g5 : i.kind = 0 := (sh_0 rfl h9).1
  have g6 : i.by_ = 0 := sp_0 (sh_0 rfl h9).2
  have g7 : i.set = 0 := h8.elim id fun e => absurd (show false = true from e.2) Bool.false_ne_true
  have g8 : i.cond = 0 := h6.elim id fun e => absurd (show false = true from e.1) Bool.false_ne_true
  clear h1 h2 h3 h4 h5 h6 h7 h8 h9 h10
  refine Spec.enter gTok P118 100 Tryd.func118 rfl (by kernel_rfl) ?_
  refine .inl ⟨inR_u32 (by omega), ?_⟩
  refine .inl ⟨inR_u32 (by omega), ?_⟩
  refine .inl ⟨inR_u32 (by omega), ?_⟩
  refine ⟨[], no_rl, (pshapeLit hs).use (And.intro rfl trivial) rfl rfl ?_⟩
  refine ⟨by decide, .inl ⟨by omega, by first | exact (show (_ : Int) ≤ 4294967295 by omega) | omega, by decide, ?_⟩⟩
  refine retE ?_
  have eo : orF i (fieldsV 10) = 0 ||| B i.imm 2 7 0 := rfl
  rw [eo]
  refine (show i.imm / 4 = _ from ?_)
  refine ((isD i.imm 7 (by decide) (by omega) (by omega))).1.trans (congrArg (fun n : Nat => (n : Int)) ?_)
  first
  | (simp only [Nat.or_zero, Nat.zero_or]; done)
  | (simp only [Nat.or_zero, Nat.zero_or]
     generalize B i.imm 2 7 0 = n0
     ac_rfl)
set_option maxHeartbeats 8000000 in
set_option maxRecDepth 100000 in
theorem narrow_11 (i : IN) (hs : shapeV i.form = 11) (hr : rightR i (ruW 11)) (hg : i.regs ≤ 9223372036854775807) : PureF gT 118 [inP i] (.int .u32 ((orF i (fieldsV 11) : Nat) : Int)) := by
  obtain ⟨hf, h1, h2, h3, h4, h5, h6, h7, h8, h9, h10⟩ := hr
  have g0 := has_0 (r := i.rd) h1
  have g1 := has_0 (r := i.rn) h2
  have g2 := has_0 (r := i.rm) h3
  have g3 := has_0 (r := i.ra) h4
  have g4 : i.imm = 0 := sp_0 h7
  have g5 : i.kind = 0 := (sh_0 rfl h9).1
  have g6 : i.by_ = 0 := sp_0 (sh_0 rfl h9).2
  have g7 : i.set = 0 := h8.elim id fun e => absurd (show false = true from e.2) Bool.false_ne_true
  have g8 : i.cond = 0 := h6.elim id fun e => absurd (show false = true from e.1) Bool.false_ne_true
  have g9 : 0 < i.regs ∧ i.regs / 16384 % 2 * 16384 + i.regs % 256 = i.regs := lis_k 14 (by decide) (by decide) rfl h5 hg
  clear h1 h2 h3 h4 h5 h6 h7 h8 h9 h10
  have b0 := bitsV_bd i.regs 14 1
  have b1 := bitsV_bd i.regs 0 8
  refine Spec.enter gTok P118 100 Tryd.func118 rfl (by kernel_rfl) ?_
  refine .inl ⟨inR_u32 (by omega), ?_⟩
  refine .inl ⟨inR_u32 (by omega), ?_⟩
  refine .inl ⟨inR_u32 (by omega), ?_⟩
  refine ⟨[], no_rl, (pshapeLit hs).use (And.intro rfl trivial) rfl rfl ?_⟩
  repeat (refine Or.inl (And.intro (inR_u32 (by omega)) ?_))
  refine ⟨[], no_rl, (cutB i.regs 14 1 (by unfold U32; omega) (by decide) (by decide)).use (And.intro rfl (And.intro rfl (And.intro rfl trivial))) rfl rfl ?_⟩
  refine ⟨by decide, .inl ⟨inR_u32 (by rw [r8]; omega), ?_⟩⟩
  repeat (refine Or.inl (And.intro (inR_u32 (by omega)) ?_))
  refine ⟨[], no_rl, (cutB i.regs 0 8 (by unfold U32; omega) (by decide) (by decide)).use (And.intro rfl (And.intro rfl (And.intro rfl trivial))) rfl rfl ?_⟩
  refine retE ?_
  have eo : orF i (fieldsV 11) = 0 ||| B i.regs 14 1 8 ||| B i.regs 0 8 0 := rfl
  rw [eo]
  refine (show bits .or .u32 (bitsV i.regs 14 1 * Ev.pow2 .u32 8) (bitsV i.regs 0 8) = _ from ?_)
  refine ((((isB i.regs 14 1 8 (by decide) (by decide))).or (isB0 i.regs 0 8 (by decide)))).1.trans (congrArg (fun n : Nat => (n : Int)) ?_)
  first
  | (simp only [Nat.or_zero, Nat.zero_or]; done)
  | (simp only [Nat.or_zero, Nat.zero_or]
     generalize B i.regs 14 1 8 = n0
     generalize B i.regs 0 8 0 = n1
     ac_rfl)
set_option maxHeartbeats 8000000 in
set_option maxRecDepth 100000 in
theorem narrow_12 (i : IN) (hs : shapeV i.form = 12) (hr : rightR i (ruW 12)) (hg : i.regs ≤ 9223372036854775807) : PureF gT 118 [inP i] (.int .u32 ((orF i (fieldsV 12) : Nat) : Int)) := by
  obtain ⟨hf, h1, h2, h3, h4, h5, h6, h7, h8, h9, h10⟩ := hr
  have g0 := has_0 (r := i.rd) h1
  have g1 := has_0 (r := i.rn) h2
  have g2 := has_0 (r := i.rm) h3
  have g3 := has_0 (r := i.ra) h4
  have g4 : i.imm = 0 := sp_0 h7
  have g5 : i.kind = 0 := (sh_0 rfl h9).1
  have g6 : i.by_ = 0 := sp_0 (sh_0 rfl h9).2
  have g7 : i.set = 0 := h8.elim id fun e => absurd (show false = true from e.2) Bool.false_ne_true
  have g8 : i.cond = 0 := h6.elim id fun e => absurd (show false = true from e.1) Bool.false_ne_true
  have g9 : 0 < i.regs ∧ i.regs / 32768 % 2 * 32768 + i.regs % 256 = i.regs := lis_k 15 (by decide) (by decide) rfl h5 hg
  clear h1 h2 h3 h4 h5 h6 h7 h8 h9 h10
  have b0 := bitsV_bd i.regs 15 1
  have b1 := bitsV_bd i.regs 0 8
  refine Spec.enter gTok P118 100 Tryd.func118 rfl (by kernel_rfl) ?_
  refine .inl ⟨inR_u32 (by omega), ?_⟩
  refine .inl ⟨inR_u32 (by omega), ?_⟩
  refine .inl ⟨inR_u32 (by omega), ?_⟩
  refine ⟨[], no_rl, (pshapeLit hs).use (And.intro rfl trivial) rfl rfl ?_⟩
  repeat (refine Or.inl (And.intro (inR_u32 (by omega)) ?_))
  refine ⟨[], no_rl, (cutB i.regs 15 1 (by unfold U32; omega) (by decide) (by decide)).use (And.intro rfl (And.intro rfl (And.intro rfl trivial))) rfl rfl ?_⟩
  refine ⟨by decide, .inl ⟨inR_u32 (by rw [r8]; omega), ?_⟩⟩
  repeat (refine Or.inl (And.intro (inR_u32 (by omega)) ?_))
  refine ⟨[], no_rl, (cutB i.regs 0 8 (by unfold U32; omega) (by decide) (by decide)).use (And.intro rfl (And.intro rfl (And.intro rfl trivial))) rfl rfl ?_⟩
  refine retE ?_
  have eo : orF i (fieldsV 12) = 0 ||| B i.regs 15 1 8 ||| B i.regs 0 8 0 := rfl
  rw [eo]
  refine (show bits .or .u32 (bitsV i.regs 15 1 * Ev.pow2 .u32 8) (bitsV i.regs 0 8) = _ from ?_)
  refine ((((isB i.regs 15 1 8 (by decide) (by decide))).or (isB0 i.regs 0 8 (by decide)))).1.trans (congrArg (fun n : Nat => (n : Int)) ?_)
  first
  | (simp only [Nat.or_zero, Nat.zero_or]; done)
  | (simp only [Nat.or_zero, Nat.zero_or]
     generalize B i.regs 15 1 8 = n0
     generalize B i.regs 0 8 0 = n1
     ac_rfl)
set_option maxHeartbeats 8000000 in
set_option maxRecDepth 100000 in
theorem narrow_13 (i : IN) (hs : shapeV i.form = 13) (hr : rightR i (ruW 13)) (hg : i.regs ≤ 9223372036854775807) : PureF gT 118 [inP i] (.int .u32 ((orF i (fieldsV 13) : Nat) : Int)) := by
  obtain ⟨hf, h1, h2, h3, h4, h5, h6, h7, h8, h9, h10⟩ := hr
  have g0 := has_0 (r := i.rd) h1
  have g1 := has_0 (r := i.rn) h2
  have g2 := has_0 (r := i.rm) h3
  have g3 := has_0 (r := i.ra) h4
  have g4 : i.imm = 0 := sp_0 h7
  have g5 : i.kind = 0 := (sh_0 rfl h9).1
  have g6 : i.by_ = 0 := sp_0 (sh_0 rfl h9).2
  have g7 : i.set = 0 := h8.elim id fun e => absurd (show false = true from e.2) Bool.false_ne_true
  have g8 : i.cond = 0 := h6.elim id fun e => absurd (show false = true from e.1) Bool.false_ne_true
  clear h1 h2 h3 h4 h5 h6 h7 h8 h9 h10
  refine Spec.enter gTok P118 100 Tryd.func118 rfl (by kernel_rfl) ?_
  refine .inl ⟨inR_u32 (by omega), ?_⟩
  refine .inl ⟨inR_u32 (by omega), ?_⟩
  refine .inl ⟨inR_u32 (by omega), ?_⟩
  refine ⟨[], no_rl, (pshapeLit hs).use (And.intro rfl trivial) rfl rfl ?_⟩
  exact retE rfl
set_option maxHeartbeats 8000000 in
set_option maxRecDepth 100000 in
theorem narrow_14 (i : IN) (hs : shapeV i.form = 14) (hr : rightR i (ruW 14)) (hg : i.regs ≤ 9223372036854775807) : PureF gT 118 [inP i] (.int .u32 ((orF i (fieldsV 14) : Nat) : Int)) := by
  obtain ⟨hf, h1, h2, h3, h4, h5, h6, h7, h8, h9, h10⟩ := hr
  have g0 := has_0 (r := i.rd) h1
  have g1 := has_0 (r := i.rn) h2
  have g2 := has_0 (r := i.rm) h3
  have g3 := has_0 (r := i.ra) h4
  have g4 : 0 ≤ i.imm ∧ i.imm ≤ 255 ∧ i.imm % 1 = 0 := sp_s (s := 1) (by decide) h7
  have g5 : i.kind = 0 := (sh_0 rfl h9).1
  have g6 : i.by_ = 0 := sp_0 (sh_0 rfl h9).2
  have g7 : i.set = 0 := h8.elim id fun e => absurd (show false = true from e.2) Bool.false_ne_true
  have g8 : i.cond = 0 := h6.elim id fun e => absurd (show false = true from e.1) Bool.false_ne_true
  clear h1 h2 h3 h4 h5 h6 h7 h8 h9 h10
  refine Spec.enter gTok P118 100 Tryd.func118 rfl (by kernel_rfl) ?_
  refine .inl ⟨inR_u32 (by omega), ?_⟩
  refine .inl ⟨inR_u32 (by omega), ?_⟩
  refine .inl ⟨inR_u32 (by omega), ?_⟩
  refine ⟨[], no_rl, (pshapeLit hs).use (And.intro rfl trivial) rfl rfl ?_⟩
  refine retE ?_
  have eo : orF i (fieldsV 14) = 0 ||| B i.imm 0 8 0 := rfl
  rw [eo]
  refine (show i.imm = _ from ?_)
  refine ((isR0 i.imm 8 (by decide) (by omega))).1.trans (congrArg (fun n : Nat => (n : Int)) ?_)
  first
  | (simp only [Nat.or_zero, Nat.zero_or]; done)
  | (simp only [Nat.or_zero, Nat.zero_or]
     generalize B i.imm 0 8 0 = n0
     ac_rfl)
set_option maxHeartbeats 8000000 in
set_option maxRecDepth 100000 in
theorem narrow_15 (i : IN) (hs : shapeV i.form = 15) (hr : rightR i (ruW 15)) (hg : i.regs ≤ 9223372036854775807) : PureF gT 118 [inP i] (.int .u32 ((orF i (fieldsV 15) : Nat) : Int)) := by
  obtain ⟨hf, h1, h2, h3, h4, h5, h6, h7, h8, h9, h10⟩ := hr
  have g0 := has_0 (r := i.rd) h1
  have g1 := has_0 (r := i.rn) h2
  have g2 := has_0 (r := i.rm) h3
  have g3 := has_0 (r := i.ra) h4
  have g4 : -256 ≤ i.imm ∧ i.imm ≤ 254 ∧ i.imm % 2 = 0 := sp_s (s := 2) (by decide) h7
  have g5 : i.kind = 0 := (sh_0 rfl h9).1
  have g6 : i.by_ = 0 := sp_0 (sh_0 rfl h9).2
  have g7 : i.set = 0 := h8.elim id fun e => absurd (show false = true from e.2) Bool.false_ne_true
  have g8 : 0 ≤ i.cond ∧ i.cond ≤ 13 := by rcases h6 with h6 | h6 <;> omega
  clear h1 h2 h3 h4 h5 h6 h7 h8 h9 h10
  have b0 := bitsV_bd i.imm 1 8
  refine Spec.enter gTok P118 100 Tryd.func118 rfl (by kernel_rfl) ?_
  refine .inr ?_
  refine .inl ⟨inR_u32 (by omega), ?_⟩
  refine .inl ⟨inR_u32 (by omega), ?_⟩
  refine ⟨[], no_rl, (pshapeLit hs).use (And.intro rfl trivial) rfl rfl ?_⟩
  refine .inl ⟨inR_u32 (by omega), ?_⟩
  refine ⟨by decide, .inl ⟨inR_u32 (by rw [r8]; omega), ?_⟩⟩
  refine ⟨[], no_rl, (cutW i.imm 1 8 (by omega) (by decide) (by decide) (by decide)).use (And.intro rfl (And.intro rfl (And.intro rfl trivial))) rfl rfl ?_⟩
  refine retE ?_
  have eo : orF i (fieldsV 15) = 0 ||| B i.cond 0 4 8 ||| B i.imm 1 8 0 := rfl
  rw [eo]
  refine (show bits .or .u32 (i.cond * Ev.pow2 .u32 8) (bitsV i.imm 1 8) = _ from ?_)
  refine ((((isR i.cond 4 8 (by decide) (by decide) (by omega))).or (isB0 i.imm 1 8 (by decide)))).1.trans (congrArg (fun n : Nat => (n : Int)) ?_)
  first
  | (simp only [Nat.or_zero, Nat.zero_or]; done)
  | (simp only [Nat.or_zero, Nat.zero_or]
     generalize B i.cond 0 4 8 = n0
     generalize B i.imm 1 8 0 = n1
     ac_rfl)
set_option maxHeartbeats 8000000 in
set_option maxRecDepth 100000 in
theorem narrow_16 (i : IN) (hs : shapeV i.form = 16) (hr : rightR i (ruW 16)) (hg : i.regs ≤ 9223372036854775807) : PureF gT 118 [inP i] (.int .u32 ((orF i (fieldsV 16) : Nat) : Int)) := by
  obtain ⟨hf, h1, h2, h3, h4, h5, h6, h7, h8, h9, h10⟩ := hr
  have g0 := has_0 (r := i.rd) h1
  have g1 := has_0 (r := i.rn) h2
  have g2 := has_0 (r := i.rm) h3
  have g3 := has_0 (r := i.ra) h4
  have g4 : -2048 ≤ i.imm ∧ i.imm ≤ 2046 ∧ i.imm % 2 = 0 := sp_s (s := 2) (by decide) h7
  have g5 : i.kind = 0 := (sh_0 rfl h9).1
  have g6 : i.by_ = 0 := sp_0 (sh_0 rfl h9).2
  have g7 : i.set = 0 := h8.elim id fun e => absurd (show false = true from e.2) Bool.false_ne_true
  have g8 : i.cond = 0 := h6.elim id fun e => absurd (show false = true from e.1) Bool.false_ne_true
  clear h1 h2 h3 h4 h5 h6 h7 h8 h9 h10
  have b0 := bitsV_bd i.imm 1 11
  refine Spec.enter gTok P118 100 Tryd.func118 rfl (by kernel_rfl) ?_
  refine .inr ?_
  refine .inl ⟨inR_u32 (by omega), ?_⟩
  refine .inl ⟨inR_u32 (by omega), ?_⟩
  refine ⟨[], no_rl, (pshapeLit hs).use (And.intro rfl trivial) rfl rfl ?_⟩
  refine ⟨[], no_rl, (cutW i.imm 1 11 (by omega) (by decide) (by decide) (by decide)).use (And.intro rfl (And.intro rfl (And.intro rfl trivial))) rfl rfl ?_⟩
  refine retE ?_
  have eo : orF i (fieldsV 16) = 0 ||| B i.imm 1 11 0 := rfl
  rw [eo]
  refine (show bitsV i.imm 1 11 = _ from ?_)
  refine ((isB0 i.imm 1 11 (by decide))).1.trans (congrArg (fun n : Nat => (n : Int)) ?_)
  first
  | (simp only [Nat.or_zero, Nat.zero_or]; done)
  | (simp only [Nat.or_zero, Nat.zero_or]
     generalize B i.imm 1 11 0 = n0
     ac_rfl)

end Go.Proofs.YthpkejlmelednaaDoor.Pw

/- Chapter 4 over values: the program's bits of wide shapes (by gen_tx.py). -/
namespace Go.Proofs.YthpkejlmelednaaDoor.Pw
open Go Go.RowKit

set_option maxHeartbeats 8000000 in
set_option maxRecDepth 100000 in
theorem wide_17 (i : IN) (hs : shapeV i.form = 17) (hr : rightR i (ruW 17)) (hg : i.regs ≤ 9223372036854775807) : PureF gT 117 [inP i] (.int .u32 ((orF i (fieldsV 17) : Nat) : Int)) := by
  obtain ⟨hf, h1, h2, h3, h4, h5, h6, h7, h8, h9, h10⟩ := hr
  have g0 := has_3 (r := i.rd) h1
  have g1 := has_0 (r := i.rn) h2
  have g2 := has_0 (r := i.rm) h3
  have g3 := has_0 (r := i.ra) h4
  have g4 : 0 ≤ i.imm ∧ i.imm ≤ 65535 ∧ i.imm % 1 = 0 := sp_s (s := 1) (by decide) h7
  have g5 : i.kind = 0 := (sh_0 rfl h9).1
  have g6 : i.by_ = 0 := sp_0 (sh_0 rfl h9).2
  have g7 : i.set = 0 := h8.elim id fun e => absurd (show false = true from e.2) Bool.false_ne_true
  have g8 : i.cond = 0 := h6.elim id fun e => absurd (show false = true from e.1) Bool.false_ne_true
  clear h1 h2 h3 h4 h5 h6 h7 h8 h9 h10
  refine Spec.enter gTok P117 100 Tryd.func117 rfl (by kernel_rfl) ?_
  refine .inl ⟨inR_u32 (by omega), ?_⟩
  refine .inl ⟨inR_u32 (by omega), ?_⟩
  refine ⟨[], no_rl, (pshapeLit hs).use (And.intro rfl trivial) rfl rfl ?_⟩
  refine ⟨[], no_rl, (plain_pure i (by omega) (by omega) (by omega) (by omega) (by omega)).use (by repeat' first | exact trivial | exact rfl | exact Iff.rfl | exact Or.inl rfl | refine And.intro ?_ ?_) rfl rfl ?_⟩
  refine ⟨[], no_rl, (twelve_pure i.imm (by unfold U32; omega)).use (And.intro rfl trivial) rfl rfl ?_⟩
  refine retE ?_
  have eo : orF i (fieldsV 17) = 0 ||| B i.imm 11 1 26 ||| B i.imm 12 4 16 ||| B i.imm 8 3 12 ||| B i.imm 0 8 0 ||| B i.rd 0 4 8 := rfl
  rw [eo]
  refine (show bits .or .u32 (((B i.set 0 1 20 ||| B i.rn 0 4 16 ||| B i.ra 0 4 12 ||| B i.rd 0 4 8 ||| B i.rm 0 4 0 : Nat) : Int)) (((B i.imm 11 1 26 ||| B i.imm 12 4 16 ||| B i.imm 8 3 12 ||| B i.imm 0 8 0 : Nat) : Int)) = _ from ?_)
  refine ((((isPlain i)).or (isTwelve i.imm))).1.trans (congrArg (fun n : Nat => (n : Int)) ?_)
  first
  | (simp only [B_0 g1, B_0 g2, B_0 g3, B_0 g7, Nat.or_zero, Nat.zero_or]; done)
  | (simp only [B_0 g1, B_0 g2, B_0 g3, B_0 g7, Nat.or_zero, Nat.zero_or]
     generalize B i.imm 11 1 26 = n0
     generalize B i.imm 12 4 16 = n1
     generalize B i.imm 8 3 12 = n2
     generalize B i.imm 0 8 0 = n3
     generalize B i.rd 0 4 8 = n4
     ac_rfl)
set_option maxHeartbeats 8000000 in
set_option maxRecDepth 100000 in
theorem wide_18 (i : IN) (hs : shapeV i.form = 18) (hr : rightR i (ruW 18)) (hg : i.regs ≤ 9223372036854775807) : PureF gT 117 [inP i] (.int .u32 ((orF i (fieldsV 18) : Nat) : Int)) := by
  obtain ⟨hf, h1, h2, h3, h4, h5, h6, h7, h8, h9, h10⟩ := hr
  have g0 := has_3 (r := i.rd) h1
  have g1 := has_3 (r := i.rn) h2
  have g2 := has_0 (r := i.rm) h3
  have g3 := has_0 (r := i.ra) h4
  have g4 : 0 ≤ i.imm ∧ i.imm ≤ 4095 ∧ i.imm % 1 = 0 := sp_s (s := 1) (by decide) h7
  have g5 : i.kind = 0 := (sh_0 rfl h9).1
  have g6 : i.by_ = 0 := sp_0 (sh_0 rfl h9).2
  have g7 : i.set = 0 ∨ i.set = 1 := h8.imp id fun e => e.1
  have g8 : i.cond = 0 := h6.elim id fun e => absurd (show false = true from e.1) Bool.false_ne_true
  clear h1 h2 h3 h4 h5 h6 h7 h8 h9 h10
  refine Spec.enter gTok P117 100 Tryd.func117 rfl (by kernel_rfl) ?_
  refine .inl ⟨inR_u32 (by omega), ?_⟩
  refine .inl ⟨inR_u32 (by omega), ?_⟩
  refine ⟨[], no_rl, (pshapeLit hs).use (And.intro rfl trivial) rfl rfl ?_⟩
  refine ⟨[], no_rl, (plain_pure i (by omega) (by omega) (by omega) (by omega) (by omega)).use (by repeat' first | exact trivial | exact rfl | exact Iff.rfl | exact Or.inl rfl | refine And.intro ?_ ?_) rfl rfl ?_⟩
  refine ⟨[], no_rl, (twelve_pure i.imm (by unfold U32; omega)).use (And.intro rfl trivial) rfl rfl ?_⟩
  refine retE ?_
  have eo : orF i (fieldsV 18) = 0 ||| B i.imm 11 1 26 ||| B i.imm 8 3 12 ||| B i.imm 0 8 0 ||| B i.set 0 1 20 ||| B i.rn 0 4 16 ||| B i.rd 0 4 8 := rfl
  have z12 : B i.imm 12 4 16 = 0 := B_zero (by unfold bitsV; split <;> omega)
  rw [eo]
  refine (show bits .or .u32 (((B i.set 0 1 20 ||| B i.rn 0 4 16 ||| B i.ra 0 4 12 ||| B i.rd 0 4 8 ||| B i.rm 0 4 0 : Nat) : Int)) (((B i.imm 11 1 26 ||| B i.imm 12 4 16 ||| B i.imm 8 3 12 ||| B i.imm 0 8 0 : Nat) : Int)) = _ from ?_)
  refine ((((isPlain i)).or (isTwelve i.imm))).1.trans (congrArg (fun n : Nat => (n : Int)) ?_)
  first
  | (simp only [B_0 g2, B_0 g3, z12, Nat.or_zero, Nat.zero_or]; done)
  | (simp only [B_0 g2, B_0 g3, z12, Nat.or_zero, Nat.zero_or]
     generalize B i.imm 11 1 26 = n0
     generalize B i.imm 8 3 12 = n1
     generalize B i.imm 0 8 0 = n2
     generalize B i.set 0 1 20 = n3
     generalize B i.rn 0 4 16 = n4
     generalize B i.rd 0 4 8 = n5
     ac_rfl)
set_option maxHeartbeats 8000000 in
set_option maxRecDepth 100000 in
theorem wide_19 (i : IN) (hs : shapeV i.form = 19) (hr : rightR i (ruW 19)) (hg : i.regs ≤ 9223372036854775807) : PureF gT 117 [inP i] (.int .u32 ((orF i (fieldsV 19) : Nat) : Int)) := by
  obtain ⟨hf, h1, h2, h3, h4, h5, h6, h7, h8, h9, h10⟩ := hr
  have g0 := has_3 (r := i.rd) h1
  have g1 := has_0 (r := i.rn) h2
  have g2 := has_0 (r := i.rm) h3
  have g3 := has_0 (r := i.ra) h4
  have g4 : 0 ≤ i.imm ∧ i.imm ≤ 4095 ∧ i.imm % 1 = 0 := sp_s (s := 1) (by decide) h7
  have g5 : i.kind = 0 := (sh_0 rfl h9).1
  have g6 : i.by_ = 0 := sp_0 (sh_0 rfl h9).2
  have g7 : i.set = 0 ∨ i.set = 1 := h8.imp id fun e => e.1
  have g8 : i.cond = 0 := h6.elim id fun e => absurd (show false = true from e.1) Bool.false_ne_true
  clear h1 h2 h3 h4 h5 h6 h7 h8 h9 h10
  refine Spec.enter gTok P117 100 Tryd.func117 rfl (by kernel_rfl) ?_
  refine .inl ⟨inR_u32 (by omega), ?_⟩
  refine .inl ⟨inR_u32 (by omega), ?_⟩
  refine ⟨[], no_rl, (pshapeLit hs).use (And.intro rfl trivial) rfl rfl ?_⟩
  refine ⟨[], no_rl, (plain_pure i (by omega) (by omega) (by omega) (by omega) (by omega)).use (by repeat' first | exact trivial | exact rfl | exact Iff.rfl | exact Or.inl rfl | refine And.intro ?_ ?_) rfl rfl ?_⟩
  refine ⟨[], no_rl, (twelve_pure i.imm (by unfold U32; omega)).use (And.intro rfl trivial) rfl rfl ?_⟩
  refine retE ?_
  have eo : orF i (fieldsV 19) = 0 ||| B i.imm 11 1 26 ||| B i.imm 8 3 12 ||| B i.imm 0 8 0 ||| B i.set 0 1 20 ||| B i.rd 0 4 8 := rfl
  have z12 : B i.imm 12 4 16 = 0 := B_zero (by unfold bitsV; split <;> omega)
  rw [eo]
  refine (show bits .or .u32 (((B i.set 0 1 20 ||| B i.rn 0 4 16 ||| B i.ra 0 4 12 ||| B i.rd 0 4 8 ||| B i.rm 0 4 0 : Nat) : Int)) (((B i.imm 11 1 26 ||| B i.imm 12 4 16 ||| B i.imm 8 3 12 ||| B i.imm 0 8 0 : Nat) : Int)) = _ from ?_)
  refine ((((isPlain i)).or (isTwelve i.imm))).1.trans (congrArg (fun n : Nat => (n : Int)) ?_)
  first
  | (simp only [B_0 g1, B_0 g2, B_0 g3, z12, Nat.or_zero, Nat.zero_or]; done)
  | (simp only [B_0 g1, B_0 g2, B_0 g3, z12, Nat.or_zero, Nat.zero_or]
     generalize B i.imm 11 1 26 = n0
     generalize B i.imm 8 3 12 = n1
     generalize B i.imm 0 8 0 = n2
     generalize B i.set 0 1 20 = n3
     generalize B i.rd 0 4 8 = n4
     ac_rfl)
set_option maxHeartbeats 8000000 in
set_option maxRecDepth 100000 in
theorem wide_20 (i : IN) (hs : shapeV i.form = 20) (hr : rightR i (ruW 20)) (hg : i.regs ≤ 9223372036854775807) : PureF gT 117 [inP i] (.int .u32 ((orF i (fieldsV 20) : Nat) : Int)) := by
  obtain ⟨hf, h1, h2, h3, h4, h5, h6, h7, h8, h9, h10⟩ := hr
  have g0 := has_0 (r := i.rd) h1
  have g1 := has_3 (r := i.rn) h2
  have g2 := has_0 (r := i.rm) h3
  have g3 := has_0 (r := i.ra) h4
  have g4 : 0 ≤ i.imm ∧ i.imm ≤ 4095 ∧ i.imm % 1 = 0 := sp_s (s := 1) (by decide) h7
  have g5 : i.kind = 0 := (sh_0 rfl h9).1
  have g6 : i.by_ = 0 := sp_0 (sh_0 rfl h9).2
  have g7 : i.set = 0 := h8.elim id fun e => absurd (show false = true from e.2) Bool.false_ne_true
  have g8 : i.cond = 0 := h6.elim id fun e => absurd (show false = true from e.1) Bool.false_ne_true
  clear h1 h2 h3 h4 h5 h6 h7 h8 h9 h10
  refine Spec.enter gTok P117 100 Tryd.func117 rfl (by kernel_rfl) ?_
  refine .inl ⟨inR_u32 (by omega), ?_⟩
  refine .inl ⟨inR_u32 (by omega), ?_⟩
  refine ⟨[], no_rl, (pshapeLit hs).use (And.intro rfl trivial) rfl rfl ?_⟩
  refine ⟨[], no_rl, (plain_pure i (by omega) (by omega) (by omega) (by omega) (by omega)).use (by repeat' first | exact trivial | exact rfl | exact Iff.rfl | exact Or.inl rfl | refine And.intro ?_ ?_) rfl rfl ?_⟩
  refine ⟨[], no_rl, (twelve_pure i.imm (by unfold U32; omega)).use (And.intro rfl trivial) rfl rfl ?_⟩
  refine retE ?_
  have eo : orF i (fieldsV 20) = 0 ||| B i.imm 11 1 26 ||| B i.imm 8 3 12 ||| B i.imm 0 8 0 ||| B i.rn 0 4 16 := rfl
  have z12 : B i.imm 12 4 16 = 0 := B_zero (by unfold bitsV; split <;> omega)
  rw [eo]
  refine (show bits .or .u32 (((B i.set 0 1 20 ||| B i.rn 0 4 16 ||| B i.ra 0 4 12 ||| B i.rd 0 4 8 ||| B i.rm 0 4 0 : Nat) : Int)) (((B i.imm 11 1 26 ||| B i.imm 12 4 16 ||| B i.imm 8 3 12 ||| B i.imm 0 8 0 : Nat) : Int)) = _ from ?_)
  refine ((((isPlain i)).or (isTwelve i.imm))).1.trans (congrArg (fun n : Nat => (n : Int)) ?_)
  first
  | (simp only [B_0 g0, B_0 g2, B_0 g3, B_0 g7, z12, Nat.or_zero, Nat.zero_or]; done)
  | (simp only [B_0 g0, B_0 g2, B_0 g3, B_0 g7, z12, Nat.or_zero, Nat.zero_or]
     generalize B i.imm 11 1 26 = n0
     generalize B i.imm 8 3 12 = n1
     generalize B i.imm 0 8 0 = n2
     generalize B i.rn 0 4 16 = n3
     ac_rfl)
set_option maxHeartbeats 8000000 in
set_option maxRecDepth 100000 in
theorem wide_21 (i : IN) (hs : shapeV i.form = 21) (hr : rightR i (ruW 21)) (hg : i.regs ≤ 9223372036854775807) : PureF gT 117 [inP i] (.int .u32 ((orF i (fieldsV 21) : Nat) : Int)) := by
  obtain ⟨hf, h1, h2, h3, h4, h5, h6, h7, h8, h9, h10⟩ := hr
  have g0 := has_3 (r := i.rd) h1
  have g1 := has_3 (r := i.rn) h2
  have g2 := has_3 (r := i.rm) h3
  have g3 := has_0 (r := i.ra) h4
  have g4 : i.imm = 0 := sp_0 h7
  have g6 : barrelV i.kind i.by_ := sh_1 rfl h9
  have g5 := kind_bd g6
  have g6b : 0 ≤ i.by_ ∧ i.by_ ≤ 32 := by unfold barrelV at g6; omega
  have g7 : i.set = 0 ∨ i.set = 1 := h8.imp id fun e => e.1
  have g8 : i.cond = 0 := h6.elim id fun e => absurd (show false = true from e.1) Bool.false_ne_true
  clear h1 h2 h3 h4 h5 h6 h7 h8 h9 h10
  have b0 := bitsV_bd i.by_ 2 3
  have b1 := bitsV_bd i.by_ 0 2
  refine Spec.enter gTok P117 100 Tryd.func117 rfl (by kernel_rfl) ?_
  refine .inl ⟨inR_u32 (by omega), ?_⟩
  refine .inl ⟨inR_u32 (by omega), ?_⟩
  refine ⟨[], no_rl, (pshapeLit hs).use (And.intro rfl trivial) rfl rfl ?_⟩
  refine .inl ⟨inR_u32 (by omega), ?_⟩
  refine ⟨by decide, .inl ⟨inR_u32 (by rw [r4]; omega), ?_⟩⟩
  refine ⟨[], no_rl, (plain_pure i (by omega) (by omega) (by omega) (by omega) (by omega)).use (by repeat' first | exact trivial | exact rfl | exact Iff.rfl | exact Or.inl rfl | refine And.intro ?_ ?_) rfl rfl ?_⟩
  repeat (first
    | (refine ⟨[], no_rl, (cutB i.by_ 2 3 (by unfold U32; omega) (by decide) (by decide)).use (And.intro rfl (And.intro rfl (And.intro rfl trivial))) rfl rfl ?_⟩)
    | (refine ⟨by decide, .inl ⟨inR_u32 (by rw [r12]; omega), ?_⟩⟩)
    | (refine ⟨[], no_rl, (cutB i.by_ 0 2 (by unfold U32; omega) (by decide) (by decide)).use (And.intro rfl (And.intro rfl (And.intro rfl trivial))) rfl rfl ?_⟩)
    | (refine ⟨by decide, .inl ⟨inR_u32 (by rw [r6]; omega), ?_⟩⟩)
    | (refine .inl ⟨inR_u32 (by omega), ?_⟩)
    | (refine ⟨by decide, .inl ⟨inR_u32 (by rw [r4]; omega), ?_⟩⟩))
  refine retE ?_
  have eo : orF i (fieldsV 21) = 0 ||| B i.by_ 2 3 12 ||| B i.by_ 0 2 6 ||| B i.kind 0 2 4 ||| B i.set 0 1 20 ||| B i.rn 0 4 16 ||| B i.rd 0 4 8 ||| B i.rm 0 4 0 := rfl
  rw [eo]
  refine (show bits .or .u32 (bits .or .u32 (bits .or .u32 (((B i.set 0 1 20 ||| B i.rn 0 4 16 ||| B i.ra 0 4 12 ||| B i.rd 0 4 8 ||| B i.rm 0 4 0 : Nat) : Int)) (bitsV i.by_ 2 3 * Ev.pow2 .u32 12)) (bitsV i.by_ 0 2 * Ev.pow2 .u32 6)) (i.kind * Ev.pow2 .u32 4) = _ from ?_)
  refine ((((((((isPlain i)).or (isB i.by_ 2 3 12 (by decide) (by decide)))).or (isB i.by_ 0 2 6 (by decide) (by decide)))).or (isR i.kind 2 4 (by decide) (by decide) (by omega)))).1.trans (congrArg (fun n : Nat => (n : Int)) ?_)
  first
  | (simp only [B_0 g3, Nat.or_zero, Nat.zero_or]; done)
  | (simp only [B_0 g3, Nat.or_zero, Nat.zero_or]
     generalize B i.by_ 2 3 12 = n0
     generalize B i.by_ 0 2 6 = n1
     generalize B i.kind 0 2 4 = n2
     generalize B i.set 0 1 20 = n3
     generalize B i.rn 0 4 16 = n4
     generalize B i.rd 0 4 8 = n5
     generalize B i.rm 0 4 0 = n6
     ac_rfl)
set_option maxHeartbeats 8000000 in
set_option maxRecDepth 100000 in
theorem wide_22 (i : IN) (hs : shapeV i.form = 22) (hr : rightR i (ruW 22)) (hg : i.regs ≤ 9223372036854775807) : PureF gT 117 [inP i] (.int .u32 ((orF i (fieldsV 22) : Nat) : Int)) := by
  obtain ⟨hf, h1, h2, h3, h4, h5, h6, h7, h8, h9, h10⟩ := hr
  have g0 := has_3 (r := i.rd) h1
  have g1 := has_0 (r := i.rn) h2
  have g2 := has_3 (r := i.rm) h3
  have g3 := has_0 (r := i.ra) h4
  have g4 : i.imm = 0 := sp_0 h7
  have g6 : barrelV i.kind i.by_ := sh_1 rfl h9
  have g5 := kind_bd g6
  have g6b : 0 ≤ i.by_ ∧ i.by_ ≤ 32 := by unfold barrelV at g6; omega
  have g7 : i.set = 0 ∨ i.set = 1 := h8.imp id fun e => e.1
  have g8 : i.cond = 0 := h6.elim id fun e => absurd (show false = true from e.1) Bool.false_ne_true
  clear h1 h2 h3 h4 h5 h6 h7 h8 h9 h10
  have b0 := bitsV_bd i.by_ 2 3
  have b1 := bitsV_bd i.by_ 0 2
  refine Spec.enter gTok P117 100 Tryd.func117 rfl (by kernel_rfl) ?_
  refine .inl ⟨inR_u32 (by omega), ?_⟩
  refine .inl ⟨inR_u32 (by omega), ?_⟩
  refine ⟨[], no_rl, (pshapeLit hs).use (And.intro rfl trivial) rfl rfl ?_⟩
  refine .inl ⟨inR_u32 (by omega), ?_⟩
  refine ⟨by decide, .inl ⟨inR_u32 (by rw [r4]; omega), ?_⟩⟩
  refine ⟨[], no_rl, (plain_pure i (by omega) (by omega) (by omega) (by omega) (by omega)).use (by repeat' first | exact trivial | exact rfl | exact Iff.rfl | exact Or.inl rfl | refine And.intro ?_ ?_) rfl rfl ?_⟩
  repeat (first
    | (refine ⟨[], no_rl, (cutB i.by_ 2 3 (by unfold U32; omega) (by decide) (by decide)).use (And.intro rfl (And.intro rfl (And.intro rfl trivial))) rfl rfl ?_⟩)
    | (refine ⟨by decide, .inl ⟨inR_u32 (by rw [r12]; omega), ?_⟩⟩)
    | (refine ⟨[], no_rl, (cutB i.by_ 0 2 (by unfold U32; omega) (by decide) (by decide)).use (And.intro rfl (And.intro rfl (And.intro rfl trivial))) rfl rfl ?_⟩)
    | (refine ⟨by decide, .inl ⟨inR_u32 (by rw [r6]; omega), ?_⟩⟩)
    | (refine .inl ⟨inR_u32 (by omega), ?_⟩)
    | (refine ⟨by decide, .inl ⟨inR_u32 (by rw [r4]; omega), ?_⟩⟩))
  refine retE ?_
  have eo : orF i (fieldsV 22) = 0 ||| B i.by_ 2 3 12 ||| B i.by_ 0 2 6 ||| B i.kind 0 2 4 ||| B i.set 0 1 20 ||| B i.rd 0 4 8 ||| B i.rm 0 4 0 := rfl
  rw [eo]
  refine (show bits .or .u32 (bits .or .u32 (bits .or .u32 (((B i.set 0 1 20 ||| B i.rn 0 4 16 ||| B i.ra 0 4 12 ||| B i.rd 0 4 8 ||| B i.rm 0 4 0 : Nat) : Int)) (bitsV i.by_ 2 3 * Ev.pow2 .u32 12)) (bitsV i.by_ 0 2 * Ev.pow2 .u32 6)) (i.kind * Ev.pow2 .u32 4) = _ from ?_)
  refine ((((((((isPlain i)).or (isB i.by_ 2 3 12 (by decide) (by decide)))).or (isB i.by_ 0 2 6 (by decide) (by decide)))).or (isR i.kind 2 4 (by decide) (by decide) (by omega)))).1.trans (congrArg (fun n : Nat => (n : Int)) ?_)
  first
  | (simp only [B_0 g1, B_0 g3, Nat.or_zero, Nat.zero_or]; done)
  | (simp only [B_0 g1, B_0 g3, Nat.or_zero, Nat.zero_or]
     generalize B i.by_ 2 3 12 = n0
     generalize B i.by_ 0 2 6 = n1
     generalize B i.kind 0 2 4 = n2
     generalize B i.set 0 1 20 = n3
     generalize B i.rd 0 4 8 = n4
     generalize B i.rm 0 4 0 = n5
     ac_rfl)
set_option maxHeartbeats 8000000 in
set_option maxRecDepth 100000 in
theorem wide_23 (i : IN) (hs : shapeV i.form = 23) (hr : rightR i (ruW 23)) (hg : i.regs ≤ 9223372036854775807) : PureF gT 117 [inP i] (.int .u32 ((orF i (fieldsV 23) : Nat) : Int)) := by
  obtain ⟨hf, h1, h2, h3, h4, h5, h6, h7, h8, h9, h10⟩ := hr
  have g0 := has_0 (r := i.rd) h1
  have g1 := has_3 (r := i.rn) h2
  have g2 := has_3 (r := i.rm) h3
  have g3 := has_0 (r := i.ra) h4
  have g4 : i.imm = 0 := sp_0 h7
  have g6 : barrelV i.kind i.by_ := sh_1 rfl h9
  have g5 := kind_bd g6
  have g6b : 0 ≤ i.by_ ∧ i.by_ ≤ 32 := by unfold barrelV at g6; omega
  have g7 : i.set = 0 := h8.elim id fun e => absurd (show false = true from e.2) Bool.false_ne_true
  have g8 : i.cond = 0 := h6.elim id fun e => absurd (show false = true from e.1) Bool.false_ne_true
  clear h1 h2 h3 h4 h5 h6 h7 h8 h9 h10
  have b0 := bitsV_bd i.by_ 2 3
  have b1 := bitsV_bd i.by_ 0 2
  refine Spec.enter gTok P117 100 Tryd.func117 rfl (by kernel_rfl) ?_
  refine .inl ⟨inR_u32 (by omega), ?_⟩
  refine .inl ⟨inR_u32 (by omega), ?_⟩
  refine ⟨[], no_rl, (pshapeLit hs).use (And.intro rfl trivial) rfl rfl ?_⟩
  refine .inl ⟨inR_u32 (by omega), ?_⟩
  refine ⟨by decide, .inl ⟨inR_u32 (by rw [r4]; omega), ?_⟩⟩
  refine ⟨[], no_rl, (plain_pure i (by omega) (by omega) (by omega) (by omega) (by omega)).use (by repeat' first | exact trivial | exact rfl | exact Iff.rfl | exact Or.inl rfl | refine And.intro ?_ ?_) rfl rfl ?_⟩
  repeat (first
    | (refine ⟨[], no_rl, (cutB i.by_ 2 3 (by unfold U32; omega) (by decide) (by decide)).use (And.intro rfl (And.intro rfl (And.intro rfl trivial))) rfl rfl ?_⟩)
    | (refine ⟨by decide, .inl ⟨inR_u32 (by rw [r12]; omega), ?_⟩⟩)
    | (refine ⟨[], no_rl, (cutB i.by_ 0 2 (by unfold U32; omega) (by decide) (by decide)).use (And.intro rfl (And.intro rfl (And.intro rfl trivial))) rfl rfl ?_⟩)
    | (refine ⟨by decide, .inl ⟨inR_u32 (by rw [r6]; omega), ?_⟩⟩)
    | (refine .inl ⟨inR_u32 (by omega), ?_⟩)
    | (refine ⟨by decide, .inl ⟨inR_u32 (by rw [r4]; omega), ?_⟩⟩))
  refine retE ?_
  have eo : orF i (fieldsV 23) = 0 ||| B i.by_ 2 3 12 ||| B i.by_ 0 2 6 ||| B i.kind 0 2 4 ||| B i.rn 0 4 16 ||| B i.rm 0 4 0 := rfl
  rw [eo]
  refine (show bits .or .u32 (bits .or .u32 (bits .or .u32 (((B i.set 0 1 20 ||| B i.rn 0 4 16 ||| B i.ra 0 4 12 ||| B i.rd 0 4 8 ||| B i.rm 0 4 0 : Nat) : Int)) (bitsV i.by_ 2 3 * Ev.pow2 .u32 12)) (bitsV i.by_ 0 2 * Ev.pow2 .u32 6)) (i.kind * Ev.pow2 .u32 4) = _ from ?_)
  refine ((((((((isPlain i)).or (isB i.by_ 2 3 12 (by decide) (by decide)))).or (isB i.by_ 0 2 6 (by decide) (by decide)))).or (isR i.kind 2 4 (by decide) (by decide) (by omega)))).1.trans (congrArg (fun n : Nat => (n : Int)) ?_)
  first
  | (simp only [B_0 g0, B_0 g3, B_0 g7, Nat.or_zero, Nat.zero_or]; done)
  | (simp only [B_0 g0, B_0 g3, B_0 g7, Nat.or_zero, Nat.zero_or]
     generalize B i.by_ 2 3 12 = n0
     generalize B i.by_ 0 2 6 = n1
     generalize B i.kind 0 2 4 = n2
     generalize B i.rn 0 4 16 = n3
     generalize B i.rm 0 4 0 = n4
     ac_rfl)
set_option maxHeartbeats 8000000 in
set_option maxRecDepth 100000 in
theorem wide_24 (i : IN) (hs : shapeV i.form = 24) (hr : rightR i (ruW 24)) (hg : i.regs ≤ 9223372036854775807) : PureF gT 117 [inP i] (.int .u32 ((orF i (fieldsV 24) : Nat) : Int)) := by
  obtain ⟨hf, h1, h2, h3, h4, h5, h6, h7, h8, h9, h10⟩ := hr
  have g0 := has_3 (r := i.rd) h1
  have g1 := has_3 (r := i.rn) h2
  have g2 := has_0 (r := i.rm) h3
  have g3 := has_0 (r := i.ra) h4
  have g4 : 0 ≤ i.imm ∧ i.imm ≤ 4095 ∧ i.imm % 1 = 0 := sp_s (s := 1) (by decide) h7
  have g5 : i.kind = 0 := (sh_0 rfl h9).1
  have g6 : i.by_ = 0 := sp_0 (sh_0 rfl h9).2
  have g7 : i.set = 0 := h8.elim id fun e => absurd (show false = true from e.2) Bool.false_ne_true
  have g8 : i.cond = 0 := h6.elim id fun e => absurd (show false = true from e.1) Bool.false_ne_true
  clear h1 h2 h3 h4 h5 h6 h7 h8 h9 h10
  refine Spec.enter gTok P117 100 Tryd.func117 rfl (by kernel_rfl) ?_
  refine .inl ⟨inR_u32 (by omega), ?_⟩
  refine .inl ⟨inR_u32 (by omega), ?_⟩
  refine ⟨[], no_rl, (pshapeLit hs).use (And.intro rfl trivial) rfl rfl ?_⟩
  refine ⟨[], no_rl, (plain_pure i (by omega) (by omega) (by omega) (by omega) (by omega)).use (by repeat' first | exact trivial | exact rfl | exact Iff.rfl | exact Or.inl rfl | refine And.intro ?_ ?_) rfl rfl ?_⟩
  refine ⟨[], no_rl, (twelve_pure i.imm (by unfold U32; omega)).use (And.intro rfl trivial) rfl rfl ?_⟩
  refine retE ?_
  have eo : orF i (fieldsV 24) = 0 ||| B i.imm 11 1 26 ||| B i.imm 8 3 12 ||| B i.imm 0 8 0 ||| B i.rn 0 4 16 ||| B i.rd 0 4 8 := rfl
  have z12 : B i.imm 12 4 16 = 0 := B_zero (by unfold bitsV; split <;> omega)
  rw [eo]
  refine (show bits .or .u32 (((B i.set 0 1 20 ||| B i.rn 0 4 16 ||| B i.ra 0 4 12 ||| B i.rd 0 4 8 ||| B i.rm 0 4 0 : Nat) : Int)) (((B i.imm 11 1 26 ||| B i.imm 12 4 16 ||| B i.imm 8 3 12 ||| B i.imm 0 8 0 : Nat) : Int)) = _ from ?_)
  refine ((((isPlain i)).or (isTwelve i.imm))).1.trans (congrArg (fun n : Nat => (n : Int)) ?_)
  first
  | (simp only [B_0 g2, B_0 g3, B_0 g7, z12, Nat.or_zero, Nat.zero_or]; done)
  | (simp only [B_0 g2, B_0 g3, B_0 g7, z12, Nat.or_zero, Nat.zero_or]
     generalize B i.imm 11 1 26 = n0
     generalize B i.imm 8 3 12 = n1
     generalize B i.imm 0 8 0 = n2
     generalize B i.rn 0 4 16 = n3
     generalize B i.rd 0 4 8 = n4
     ac_rfl)
set_option maxHeartbeats 8000000 in
set_option maxRecDepth 100000 in
theorem wide_25 (i : IN) (hs : shapeV i.form = 25) (hr : rightR i (ruW 25)) (hg : i.regs ≤ 9223372036854775807) : PureF gT 117 [inP i] (.int .u32 ((orF i (fieldsV 25) : Nat) : Int)) := by
  obtain ⟨hf, h1, h2, h3, h4, h5, h6, h7, h8, h9, h10⟩ := hr
  have g0 := has_3 (r := i.rd) h1
  have g1 := has_2 (r := i.rn) h2
  have g2 := has_0 (r := i.rm) h3
  have g3 := has_0 (r := i.ra) h4
  have g4 : 0 ≤ i.imm ∧ i.imm ≤ 4095 ∧ i.imm % 1 = 0 := sp_s (s := 1) (by decide) h7
  have g5 : i.kind = 0 := (sh_0 rfl h9).1
  have g6 : i.by_ = 0 := sp_0 (sh_0 rfl h9).2
  have g7 : i.set = 0 := h8.elim id fun e => absurd (show false = true from e.2) Bool.false_ne_true
  have g8 : i.cond = 0 := h6.elim id fun e => absurd (show false = true from e.1) Bool.false_ne_true
  clear h1 h2 h3 h4 h5 h6 h7 h8 h9 h10
  refine Spec.enter gTok P117 100 Tryd.func117 rfl (by kernel_rfl) ?_
  refine .inl ⟨inR_u32 (by omega), ?_⟩
  refine .inl ⟨inR_u32 (by omega), ?_⟩
  refine ⟨[], no_rl, (pshapeLit hs).use (And.intro rfl trivial) rfl rfl ?_⟩
  refine .inl ⟨inR_u32 (by omega), ?_⟩
  refine ⟨by decide, .inl ⟨inR_u32 (by rw [r16]; omega), ?_⟩⟩
  refine .inl ⟨inR_u32 (by omega), ?_⟩
  refine ⟨by decide, .inl ⟨inR_u32 (by rw [r12]; omega), ?_⟩⟩
  refine retE ?_
  have eo : orF i (fieldsV 25) = 0 ||| B i.rn 0 4 16 ||| B i.rd 0 4 12 ||| B i.imm 0 12 0 := rfl
  rw [eo]
  refine (show bits .or .u32 (bits .or .u32 (i.rn * Ev.pow2 .u32 16) (i.rd * Ev.pow2 .u32 12)) (i.imm) = _ from ?_)
  refine ((((((isR i.rn 4 16 (by decide) (by decide) (by omega))).or (isR i.rd 4 12 (by decide) (by decide) (by omega)))).or (isR0 i.imm 12 (by decide) (by omega)))).1.trans (congrArg (fun n : Nat => (n : Int)) ?_)
  first
  | (simp only [Nat.or_zero, Nat.zero_or]; done)
  | (simp only [Nat.or_zero, Nat.zero_or]
     generalize B i.rn 0 4 16 = n0
     generalize B i.rd 0 4 12 = n1
     generalize B i.imm 0 12 0 = n2
     ac_rfl)
set_option maxHeartbeats 8000000 in
set_option maxRecDepth 100000 in
theorem wide_26 (i : IN) (hs : shapeV i.form = 26) (hr : rightR i (ruW 26)) (hg : i.regs ≤ 9223372036854775807) : PureF gT 117 [inP i] (.int .u32 ((orF i (fieldsV 26) : Nat) : Int)) := by
  obtain ⟨hf, h1, h2, h3, h4, h5, h6, h7, h8, h9, h10⟩ := hr
  have g0 := has_3 (r := i.rd) h1
  have g1 := has_2 (r := i.rn) h2
  have g2 := has_3 (r := i.rm) h3
  have g3 := has_0 (r := i.ra) h4
  have g4 : i.imm = 0 := sp_0 h7
  have g5 : i.kind = 0 := (sh_0 rfl h9).1
  have g6 : 0 ≤ i.by_ ∧ i.by_ ≤ 3 ∧ i.by_ % 1 = 0 := sp_s (s := 1) (by decide) (sh_0 rfl h9).2
  have g7 : i.set = 0 := h8.elim id fun e => absurd (show false = true from e.2) Bool.false_ne_true
  have g8 : i.cond = 0 := h6.elim id fun e => absurd (show false = true from e.1) Bool.false_ne_true
  clear h1 h2 h3 h4 h5 h6 h7 h8 h9 h10
  refine Spec.enter gTok P117 100 Tryd.func117 rfl (by kernel_rfl) ?_
  refine .inl ⟨inR_u32 (by omega), ?_⟩
  refine .inl ⟨inR_u32 (by omega), ?_⟩
  refine ⟨[], no_rl, (pshapeLit hs).use (And.intro rfl trivial) rfl rfl ?_⟩
  refine .inl ⟨inR_u32 (by omega), ?_⟩
  refine ⟨by decide, .inl ⟨inR_u32 (by rw [r16]; omega), ?_⟩⟩
  refine .inl ⟨inR_u32 (by omega), ?_⟩
  refine ⟨by decide, .inl ⟨inR_u32 (by rw [r12]; omega), ?_⟩⟩
  refine ⟨by decide, .inl ⟨inR_u32 (by rw [r4]; omega), ?_⟩⟩
  refine .inl ⟨inR_u32 (by omega), ?_⟩
  refine retE ?_
  have eo : orF i (fieldsV 26) = 0 ||| B i.rn 0 4 16 ||| B i.rd 0 4 12 ||| B i.by_ 0 2 4 ||| B i.rm 0 4 0 := rfl
  rw [eo]
  refine (show bits .or .u32 (bits .or .u32 (bits .or .u32 (i.rn * Ev.pow2 .u32 16) (i.rd * Ev.pow2 .u32 12)) (i.by_ * Ev.pow2 .u32 4)) (i.rm) = _ from ?_)
  refine ((((((((isR i.rn 4 16 (by decide) (by decide) (by omega))).or (isR i.rd 4 12 (by decide) (by decide) (by omega)))).or (isR i.by_ 2 4 (by decide) (by decide) (by omega)))).or (isR0 i.rm 4 (by decide) (by omega)))).1.trans (congrArg (fun n : Nat => (n : Int)) ?_)
  first
  | (simp only [Nat.or_zero, Nat.zero_or]; done)
  | (simp only [Nat.or_zero, Nat.zero_or]
     generalize B i.rn 0 4 16 = n0
     generalize B i.rd 0 4 12 = n1
     generalize B i.by_ 0 2 4 = n2
     generalize B i.rm 0 4 0 = n3
     ac_rfl)
set_option maxHeartbeats 8000000 in
set_option maxRecDepth 100000 in
theorem wide_27 (i : IN) (hs : shapeV i.form = 27) (hr : rightR i (ruW 27)) (hg : i.regs ≤ 9223372036854775807) : PureF gT 117 [inP i] (.int .u32 ((orF i (fieldsV 27) : Nat) : Int)) := by
  obtain ⟨hf, h1, h2, h3, h4, h5, h6, h7, h8, h9, h10⟩ := hr
  have g0 := has_3 (r := i.rd) h1
  have g1 := has_3 (r := i.rn) h2
  have g2 := has_3 (r := i.rm) h3
  have g3 := has_0 (r := i.ra) h4
  have g4 : i.imm = 0 := sp_0 h7
  have g5 : i.kind = 0 := (sh_0 rfl h9).1
  have g6 : i.by_ = 0 := sp_0 (sh_0 rfl h9).2
  have g7 : i.set = 0 ∨ i.set = 1 := h8.imp id fun e => e.1
  have g8 : i.cond = 0 := h6.elim id fun e => absurd (show false = true from e.1) Bool.false_ne_true
  clear h1 h2 h3 h4 h5 h6 h7 h8 h9 h10
  refine Spec.enter gTok P117 100 Tryd.func117 rfl (by kernel_rfl) ?_
  refine .inl ⟨inR_u32 (by omega), ?_⟩
  refine .inl ⟨inR_u32 (by omega), ?_⟩
  refine ⟨[], no_rl, (pshapeLit hs).use (And.intro rfl trivial) rfl rfl ?_⟩
  refine ⟨[], no_rl, (plain_pure i (by omega) (by omega) (by omega) (by omega) (by omega)).use (by repeat' first | exact trivial | exact rfl | exact Iff.rfl | exact Or.inl rfl | refine And.intro ?_ ?_) rfl rfl ?_⟩
  refine retE ?_
  have eo : orF i (fieldsV 27) = 0 ||| B i.set 0 1 20 ||| B i.rn 0 4 16 ||| B i.rd 0 4 8 ||| B i.rm 0 4 0 := rfl
  rw [eo]
  refine (show ((B i.set 0 1 20 ||| B i.rn 0 4 16 ||| B i.ra 0 4 12 ||| B i.rd 0 4 8 ||| B i.rm 0 4 0 : Nat) : Int) = _ from ?_)
  refine ((isPlain i)).1.trans (congrArg (fun n : Nat => (n : Int)) ?_)
  first
  | (simp only [B_0 g3, Nat.or_zero, Nat.zero_or]; done)
  | (simp only [B_0 g3, Nat.or_zero, Nat.zero_or]
     generalize B i.set 0 1 20 = n0
     generalize B i.rn 0 4 16 = n1
     generalize B i.rd 0 4 8 = n2
     generalize B i.rm 0 4 0 = n3
     ac_rfl)
set_option maxHeartbeats 8000000 in
set_option maxRecDepth 100000 in
theorem wide_28 (i : IN) (hs : shapeV i.form = 28) (hr : rightR i (ruW 28)) (hg : i.regs ≤ 9223372036854775807) : PureF gT 117 [inP i] (.int .u32 ((orF i (fieldsV 28) : Nat) : Int)) := by
  obtain ⟨hf, h1, h2, h3, h4, h5, h6, h7, h8, h9, h10⟩ := hr
  have g0 := has_3 (r := i.rd) h1
  have g1 := has_3 (r := i.rn) h2
  have g2 := has_3 (r := i.rm) h3
  have g3 := has_0 (r := i.ra) h4
  have g4 : i.imm = 0 := sp_0 h7
  have g5 : i.kind = 0 := (sh_0 rfl h9).1
  have g6 : i.by_ = 0 := sp_0 (sh_0 rfl h9).2
  have g7 : i.set = 0 := h8.elim id fun e => absurd (show false = true from e.2) Bool.false_ne_true
  have g8 : i.cond = 0 := h6.elim id fun e => absurd (show false = true from e.1) Bool.false_ne_true
  clear h1 h2 h3 h4 h5 h6 h7 h8 h9 h10
  refine Spec.enter gTok P117 100 Tryd.func117 rfl (by kernel_rfl) ?_
  refine .inl ⟨inR_u32 (by omega), ?_⟩
  refine .inl ⟨inR_u32 (by omega), ?_⟩
  refine ⟨[], no_rl, (pshapeLit hs).use (And.intro rfl trivial) rfl rfl ?_⟩
  refine ⟨[], no_rl, (plain_pure i (by omega) (by omega) (by omega) (by omega) (by omega)).use (by repeat' first | exact trivial | exact rfl | exact Iff.rfl | exact Or.inl rfl | refine And.intro ?_ ?_) rfl rfl ?_⟩
  refine retE ?_
  have eo : orF i (fieldsV 28) = 0 ||| B i.rn 0 4 16 ||| B i.rd 0 4 8 ||| B i.rm 0 4 0 := rfl
  rw [eo]
  refine (show ((B i.set 0 1 20 ||| B i.rn 0 4 16 ||| B i.ra 0 4 12 ||| B i.rd 0 4 8 ||| B i.rm 0 4 0 : Nat) : Int) = _ from ?_)
  refine ((isPlain i)).1.trans (congrArg (fun n : Nat => (n : Int)) ?_)
  first
  | (simp only [B_0 g3, B_0 g7, Nat.or_zero, Nat.zero_or]; done)
  | (simp only [B_0 g3, B_0 g7, Nat.or_zero, Nat.zero_or]
     generalize B i.rn 0 4 16 = n0
     generalize B i.rd 0 4 8 = n1
     generalize B i.rm 0 4 0 = n2
     ac_rfl)
set_option maxHeartbeats 8000000 in
set_option maxRecDepth 100000 in
theorem wide_29 (i : IN) (hs : shapeV i.form = 29) (hr : rightR i (ruW 29)) (hg : i.regs ≤ 9223372036854775807) : PureF gT 117 [inP i] (.int .u32 ((orF i (fieldsV 29) : Nat) : Int)) := by
  obtain ⟨hf, h1, h2, h3, h4, h5, h6, h7, h8, h9, h10⟩ := hr
  have g0 := has_3 (r := i.rd) h1
  have g1 := has_3 (r := i.rn) h2
  have g2 := has_3 (r := i.rm) h3
  have g3 := has_3 (r := i.ra) h4
  have g4 : i.imm = 0 := sp_0 h7
  have g5 : i.kind = 0 := (sh_0 rfl h9).1
  have g6 : i.by_ = 0 := sp_0 (sh_0 rfl h9).2
  have g7 : i.set = 0 := h8.elim id fun e => absurd (show false = true from e.2) Bool.false_ne_true
  have g8 : i.cond = 0 := h6.elim id fun e => absurd (show false = true from e.1) Bool.false_ne_true
  clear h1 h2 h3 h4 h5 h6 h7 h8 h9 h10
  refine Spec.enter gTok P117 100 Tryd.func117 rfl (by kernel_rfl) ?_
  refine .inl ⟨inR_u32 (by omega), ?_⟩
  refine .inl ⟨inR_u32 (by omega), ?_⟩
  refine ⟨[], no_rl, (pshapeLit hs).use (And.intro rfl trivial) rfl rfl ?_⟩
  refine ⟨[], no_rl, (plain_pure i (by omega) (by omega) (by omega) (by omega) (by omega)).use (by repeat' first | exact trivial | exact rfl | exact Iff.rfl | exact Or.inl rfl | refine And.intro ?_ ?_) rfl rfl ?_⟩
  refine retE ?_
  have eo : orF i (fieldsV 29) = 0 ||| B i.rn 0 4 16 ||| B i.ra 0 4 12 ||| B i.rd 0 4 8 ||| B i.rm 0 4 0 := rfl
  rw [eo]
  refine (show ((B i.set 0 1 20 ||| B i.rn 0 4 16 ||| B i.ra 0 4 12 ||| B i.rd 0 4 8 ||| B i.rm 0 4 0 : Nat) : Int) = _ from ?_)
  refine ((isPlain i)).1.trans (congrArg (fun n : Nat => (n : Int)) ?_)
  first
  | (simp only [B_0 g7, Nat.or_zero, Nat.zero_or]; done)
  | (simp only [B_0 g7, Nat.or_zero, Nat.zero_or]
     generalize B i.rn 0 4 16 = n0
     generalize B i.ra 0 4 12 = n1
     generalize B i.rd 0 4 8 = n2
     generalize B i.rm 0 4 0 = n3
     ac_rfl)
set_option maxHeartbeats 8000000 in
set_option maxRecDepth 100000 in
theorem wide_30 (i : IN) (hs : shapeV i.form = 30) (hr : rightR i (ruW 30)) (hg : i.regs ≤ 9223372036854775807) : PureF gT 117 [inP i] (.int .u32 ((orF i (fieldsV 30) : Nat) : Int)) := by
  obtain ⟨hf, h1, h2, h3, h4, h5, h6, h7, h8, h9, h10⟩ := hr
  have g0 := has_3 (r := i.rd) h1
  have g1 := has_3 (r := i.rn) h2
  have g2 := has_3 (r := i.rm) h3
  have g3 := has_3 (r := i.ra) h4
  have g4 : i.imm = 0 := sp_0 h7
  have g5 : i.kind = 0 := (sh_0 rfl h9).1
  have g6 : i.by_ = 0 := sp_0 (sh_0 rfl h9).2
  have g7 : i.set = 0 := h8.elim id fun e => absurd (show false = true from e.2) Bool.false_ne_true
  have g8 : i.cond = 0 := h6.elim id fun e => absurd (show false = true from e.1) Bool.false_ne_true
  clear h1 h2 h3 h4 h5 h6 h7 h8 h9 h10
  refine Spec.enter gTok P117 100 Tryd.func117 rfl (by kernel_rfl) ?_
  refine .inl ⟨inR_u32 (by omega), ?_⟩
  refine .inl ⟨inR_u32 (by omega), ?_⟩
  refine ⟨[], no_rl, (pshapeLit hs).use (And.intro rfl trivial) rfl rfl ?_⟩
  refine ⟨[], no_rl, (plain_pure i (by omega) (by omega) (by omega) (by omega) (by omega)).use (by repeat' first | exact trivial | exact rfl | exact Iff.rfl | exact Or.inl rfl | refine And.intro ?_ ?_) rfl rfl ?_⟩
  refine retE ?_
  have eo : orF i (fieldsV 30) = 0 ||| B i.rn 0 4 16 ||| B i.ra 0 4 12 ||| B i.rd 0 4 8 ||| B i.rm 0 4 0 := rfl
  rw [eo]
  refine (show ((B i.set 0 1 20 ||| B i.rn 0 4 16 ||| B i.ra 0 4 12 ||| B i.rd 0 4 8 ||| B i.rm 0 4 0 : Nat) : Int) = _ from ?_)
  refine ((isPlain i)).1.trans (congrArg (fun n : Nat => (n : Int)) ?_)
  first
  | (simp only [B_0 g7, Nat.or_zero, Nat.zero_or]; done)
  | (simp only [B_0 g7, Nat.or_zero, Nat.zero_or]
     generalize B i.rn 0 4 16 = n0
     generalize B i.ra 0 4 12 = n1
     generalize B i.rd 0 4 8 = n2
     generalize B i.rm 0 4 0 = n3
     ac_rfl)
set_option maxHeartbeats 8000000 in
set_option maxRecDepth 100000 in
theorem wide_31 (i : IN) (hs : shapeV i.form = 31) (hr : rightR i (ruW 31)) (hg : i.regs ≤ 9223372036854775807) : PureF gT 117 [inP i] (.int .u32 ((orF i (fieldsV 31) : Nat) : Int)) := by
  obtain ⟨hf, h1, h2, h3, h4, h5, h6, h7, h8, h9, h10⟩ := hr
  have g0 := has_3 (r := i.rd) h1
  have g1 := has_3 (r := i.rn) h2
  have g2 := has_3 (r := i.rm) h3
  have g3 := has_3 (r := i.ra) h4
  have g4 : i.imm = 0 := sp_0 h7
  have g5 : i.kind = 0 := (sh_0 rfl h9).1
  have g6 : i.by_ = 0 := sp_0 (sh_0 rfl h9).2
  have g7 : i.set = 0 := h8.elim id fun e => absurd (show false = true from e.2) Bool.false_ne_true
  have g8 : i.cond = 0 := h6.elim id fun e => absurd (show false = true from e.1) Bool.false_ne_true
  clear h1 h2 h3 h4 h5 h6 h7 h8 h9 h10
  refine Spec.enter gTok P117 100 Tryd.func117 rfl (by kernel_rfl) ?_
  refine .inl ⟨inR_u32 (by omega), ?_⟩
  refine .inl ⟨inR_u32 (by omega), ?_⟩
  refine ⟨[], no_rl, (pshapeLit hs).use (And.intro rfl trivial) rfl rfl ?_⟩
  refine .inl ⟨inR_u32 (by omega), ?_⟩
  refine ⟨by decide, .inl ⟨inR_u32 (by rw [r16]; omega), ?_⟩⟩
  refine .inl ⟨inR_u32 (by omega), ?_⟩
  refine ⟨by decide, .inl ⟨inR_u32 (by rw [r12]; omega), ?_⟩⟩
  refine .inl ⟨inR_u32 (by omega), ?_⟩
  refine ⟨by decide, .inl ⟨inR_u32 (by rw [r8]; omega), ?_⟩⟩
  refine .inl ⟨inR_u32 (by omega), ?_⟩
  refine retE ?_
  have eo : orF i (fieldsV 31) = 0 ||| B i.rn 0 4 16 ||| B i.rd 0 4 12 ||| B i.ra 0 4 8 ||| B i.rm 0 4 0 := rfl
  rw [eo]
  refine (show bits .or .u32 (bits .or .u32 (bits .or .u32 (i.rn * Ev.pow2 .u32 16) (i.rd * Ev.pow2 .u32 12)) (i.ra * Ev.pow2 .u32 8)) (i.rm) = _ from ?_)
  refine ((((((((isR i.rn 4 16 (by decide) (by decide) (by omega))).or (isR i.rd 4 12 (by decide) (by decide) (by omega)))).or (isR i.ra 4 8 (by decide) (by decide) (by omega)))).or (isR0 i.rm 4 (by decide) (by omega)))).1.trans (congrArg (fun n : Nat => (n : Int)) ?_)
  first
  | (simp only [Nat.or_zero, Nat.zero_or]; done)
  | (simp only [Nat.or_zero, Nat.zero_or]
     generalize B i.rn 0 4 16 = n0
     generalize B i.rd 0 4 12 = n1
     generalize B i.ra 0 4 8 = n2
     generalize B i.rm 0 4 0 = n3
     ac_rfl)
set_option maxHeartbeats 8000000 in
set_option maxRecDepth 100000 in
theorem wide_32 (i : IN) (hs : shapeV i.form = 32) (hr : rightR i (ruW 32)) (hg : i.regs ≤ 9223372036854775807) : PureF gT 117 [inP i] (.int .u32 ((orF i (fieldsV 32) : Nat) : Int)) := by
  obtain ⟨hf, h1, h2, h3, h4, h5, h6, h7, h8, h9, h10⟩ := hr
  have g0 := has_3 (r := i.rd) h1
  have g1 := has_0 (r := i.rn) h2
  have g2 := has_3 (r := i.rm) h3
  have g3 := has_0 (r := i.ra) h4
  have g4 : i.imm = 0 := sp_0 h7
  have g5 : i.kind = 0 := (sh_0 rfl h9).1
  have g6 : i.by_ = 0 := sp_0 (sh_0 rfl h9).2
  have g7 : i.set = 0 := h8.elim id fun e => absurd (show false = true from e.2) Bool.false_ne_true
  have g8 : i.cond = 0 := h6.elim id fun e => absurd (show false = true from e.1) Bool.false_ne_true
  clear h1 h2 h3 h4 h5 h6 h7 h8 h9 h10
  refine Spec.enter gTok P117 100 Tryd.func117 rfl (by kernel_rfl) ?_
  refine .inl ⟨inR_u32 (by omega), ?_⟩
  refine .inl ⟨inR_u32 (by omega), ?_⟩
  refine ⟨[], no_rl, (pshapeLit hs).use (And.intro rfl trivial) rfl rfl ?_⟩
  refine .inl ⟨inR_u32 (by omega), ?_⟩
  refine ⟨by decide, .inl ⟨inR_u32 (by rw [r16]; omega), ?_⟩⟩
  refine .inl ⟨inR_u32 (by omega), ?_⟩
  refine ⟨by decide, .inl ⟨inR_u32 (by rw [r8]; omega), ?_⟩⟩
  refine .inl ⟨inR_u32 (by omega), ?_⟩
  refine retE ?_
  have eo : orF i (fieldsV 32) = 0 ||| B i.rm 0 4 16 ||| B i.rd 0 4 8 ||| B i.rm 0 4 0 := rfl
  rw [eo]
  refine (show bits .or .u32 (bits .or .u32 (i.rm * Ev.pow2 .u32 16) (i.rd * Ev.pow2 .u32 8)) (i.rm) = _ from ?_)
  refine ((((((isR i.rm 4 16 (by decide) (by decide) (by omega))).or (isR i.rd 4 8 (by decide) (by decide) (by omega)))).or (isR0 i.rm 4 (by decide) (by omega)))).1.trans (congrArg (fun n : Nat => (n : Int)) ?_)
  first
  | (simp only [Nat.or_zero, Nat.zero_or]; done)
  | (simp only [Nat.or_zero, Nat.zero_or]
     generalize B i.rm 0 4 16 = n0
     generalize B i.rd 0 4 8 = n1
     generalize B i.rm 0 4 0 = n2
     ac_rfl)
set_option maxHeartbeats 8000000 in
set_option maxRecDepth 100000 in
theorem condWide_pure (v c : Int) (hv : -1099511627776 ≤ v) (hc : 0 ≤ c ∧ c < 16) : PureF gT 145 [.int .u32 (IntKind.u32.wrap v), .int .u32 c] (.int .u32 ((B v 20 1 26 ||| B c 0 4 22 ||| B v 12 6 16 ||| B v 18 1 13 ||| B v 19 1 11 ||| B v 1 11 0 : Nat) : Int)) := by
  have b0 := bitsV_bd v 20 1
  have b1 := bitsV_bd v 12 6
  have b2 := bitsV_bd v 18 1
  have b3 := bitsV_bd v 19 1
  have b4 := bitsV_bd v 1 11
  refine Spec.enter gTok P145 100 Tryd.func145 rfl (by kernel_rfl) ?_
  refine ⟨[], no_rl, (cutW v 20 1 (by omega) (by decide) (by decide) (by decide)).use (And.intro rfl (And.intro rfl (And.intro rfl trivial))) rfl rfl ?_⟩
  refine ⟨by decide, .inl ⟨inR_u32 (by rw [r26]; omega), ?_⟩⟩
  refine ⟨by decide, .inl ⟨inR_u32 (by rw [r22]; omega), ?_⟩⟩
  refine ⟨[], no_rl, (cutW v 12 6 (by omega) (by decide) (by decide) (by decide)).use (And.intro rfl (And.intro rfl (And.intro rfl trivial))) rfl rfl ?_⟩
  refine ⟨by decide, .inl ⟨inR_u32 (by rw [r16]; omega), ?_⟩⟩
  refine ⟨[], no_rl, (cutW v 18 1 (by omega) (by decide) (by decide) (by decide)).use (And.intro rfl (And.intro rfl (And.intro rfl trivial))) rfl rfl ?_⟩
  refine ⟨by decide, .inl ⟨inR_u32 (by rw [r13]; omega), ?_⟩⟩
  refine ⟨[], no_rl, (cutW v 19 1 (by omega) (by decide) (by decide) (by decide)).use (And.intro rfl (And.intro rfl (And.intro rfl trivial))) rfl rfl ?_⟩
  refine ⟨by decide, .inl ⟨inR_u32 (by rw [r11]; omega), ?_⟩⟩
  refine ⟨[], no_rl, (cutW v 1 11 (by omega) (by decide) (by decide) (by decide)).use (And.intro rfl (And.intro rfl (And.intro rfl trivial))) rfl rfl ?_⟩
  refine retE ?_
  exact (show bits .or .u32 (bits .or .u32 (bits .or .u32 (bits .or .u32 (bits .or .u32 (bitsV v 20 1 * Ev.pow2 .u32 26) (c * Ev.pow2 .u32 22)) (bitsV v 12 6 * Ev.pow2 .u32 16)) (bitsV v 18 1 * Ev.pow2 .u32 13)) (bitsV v 19 1 * Ev.pow2 .u32 11)) (bitsV v 1 11) = _ from ((((((((((((isB v 20 1 26 (by decide) (by decide))).or (isR c 4 22 (by decide) (by decide) hc))).or (isB v 12 6 16 (by decide) (by decide)))).or (isB v 18 1 13 (by decide) (by decide)))).or (isB v 19 1 11 (by decide) (by decide)))).or (isB0 v 1 11 (by decide)))).1)
set_option maxHeartbeats 8000000 in
set_option maxRecDepth 100000 in
theorem wide_33 (i : IN) (hs : shapeV i.form = 33) (hr : rightR i (ruW 33)) (hg : i.regs ≤ 9223372036854775807) : PureF gT 117 [inP i] (.int .u32 ((orF i (fieldsV 33) : Nat) : Int)) := by
  obtain ⟨hf, h1, h2, h3, h4, h5, h6, h7, h8, h9, h10⟩ := hr
  have g0 := has_0 (r := i.rd) h1
  have g1 := has_0 (r := i.rn) h2
  have g2 := has_0 (r := i.rm) h3
  have g3 := has_0 (r := i.ra) h4
  have g4 : -1048576 ≤ i.imm ∧ i.imm ≤ 1048574 ∧ i.imm % 2 = 0 := sp_s (s := 2) (by decide) h7
  have g5 : i.kind = 0 := (sh_0 rfl h9).1
  have g6 : i.by_ = 0 := sp_0 (sh_0 rfl h9).2
  have g7 : i.set = 0 := h8.elim id fun e => absurd (show false = true from e.2) Bool.false_ne_true
  have g8 : 0 ≤ i.cond ∧ i.cond ≤ 13 := by rcases h6 with h6 | h6 <;> omega
  clear h1 h2 h3 h4 h5 h6 h7 h8 h9 h10
  refine Spec.enter gTok P117 100 Tryd.func117 rfl (by kernel_rfl) ?_
  refine .inr ?_
  refine .inl ⟨inR_u32 (by omega), ?_⟩
  refine ⟨[], no_rl, (pshapeLit hs).use (And.intro rfl trivial) rfl rfl ?_⟩
  refine .inl ⟨inR_u32 (by omega), ?_⟩
  refine ⟨[], no_rl, (condWide_pure i.imm i.cond (by omega) (by omega)).use (by repeat' first | exact trivial | exact rfl | exact Iff.rfl | exact Or.inl rfl | refine And.intro ?_ ?_) rfl rfl ?_⟩
  refine retE ?_
  have eo : orF i (fieldsV 33) = 0 ||| B i.imm 20 1 26 ||| B i.cond 0 4 22 ||| B i.imm 12 6 16 ||| B i.imm 18 1 13 ||| B i.imm 19 1 11 ||| B i.imm 1 11 0 := rfl
  rw [eo]
  refine (show _ = _ from congrArg (fun n : Nat => (n : Int)) ?_)
  simp only [Nat.zero_or]
/-- how a jump's turned bits stand -/
theorem turned_bits (v : Int) (hv : -1099511627776 ≤ v) : bitsV (turnN (bitsV v 0 25) 2) 24 1 = bitsV v 24 1 ∧ bitsV (turnN (bitsV v 0 25) 2) 12 10 = bitsV v 12 10 ∧ bitsV (turnN (bitsV v 0 25) 2) 23 1 = (if bitsV v 23 1 = bitsV v 24 1 then 1 else 0) ∧ bitsV (turnN (bitsV v 0 25) 2) 22 1 = (if bitsV v 22 1 = bitsV v 24 1 then 1 else 0) ∧ bitsV (turnN (bitsV v 0 25) 2) 1 11 = bitsV v 1 11 := by
  obtain ⟨u, hu⟩ : ∃ u, u = if v < 0 then v + 1099511627776 else v := ⟨_, rfl⟩
  have u0 : 0 ≤ u := by rw [hu]; split <;> omega
  obtain ⟨n, hn⟩ : ∃ n, n = bitsV v 0 25 := ⟨_, rfl⟩
  have e : n = u % 33554432 := by
    rw [hn]; unfold bitsV; rw [← hu]; omega
  have hb : 0 ≤ n ∧ n < 33554432 := by omega
  have c := turn_bits hb
  have d := turn_bd hb
  rw [← hn]
  obtain ⟨t, ht⟩ : ∃ t, t = turnN n 2 := ⟨_, rfl⟩
  rw [← ht] at c d ⊢
  have e1 : bitsV v 24 1 = n / 16777216 := by unfold bitsV; rw [← hu]; omega
  have e2 : bitsV v 23 1 = n / 8388608 % 2 := by unfold bitsV; rw [← hu]; omega
  have e3 : bitsV v 22 1 = n / 4194304 % 2 := by unfold bitsV; rw [← hu]; omega
  have e4 : bitsV v 12 10 = n % 4194304 / 4096 := by unfold bitsV; rw [← hu]; omega
  have e5 : bitsV v 1 11 = n % 4194304 / 2 % 2048 := by unfold bitsV; rw [← hu]; omega
  have f1 : bitsV t 24 1 = t / 16777216 := by unfold bitsV; rw [if_neg (by omega)]; omega
  have f2 : bitsV t 23 1 = t / 8388608 % 2 := by unfold bitsV; rw [if_neg (by omega)]; omega
  have f3 : bitsV t 22 1 = t / 4194304 % 2 := by unfold bitsV; rw [if_neg (by omega)]; omega
  have f4 : bitsV t 12 10 = t % 4194304 / 4096 := by unfold bitsV; rw [if_neg (by omega)]; omega
  have f5 : bitsV t 1 11 = t % 4194304 / 2 % 2048 := by unfold bitsV; rw [if_neg (by omega)]; omega
  have e6 : n / 16777216 % 2 = n / 16777216 := by omega
  rw [e1, e2, e3, e4, e5, f1, f2, f3, f4, f5, c.1, c.2.1]
  rw [e6] at c
  exact ⟨rfl, rfl, c.2.2.2, c.2.2.1, rfl⟩
theorem sameIs (a b : Int) : ∃ m : Int, m = (if a = b then 1 else 0) ∧ 0 ≤ m ∧ m < 2 := ⟨_, rfl, by split <;> omega, by split <;> omega⟩
set_option maxHeartbeats 8000000 in
set_option maxRecDepth 100000 in
theorem jumpWide_pure (v : Int) (hv : -1099511627776 ≤ v) : PureF gT 146 [.int .u32 (IntKind.u32.wrap v)] (.int .u32 ((B (turnN (bitsV v 0 25) 2) 24 1 26 ||| B (turnN (bitsV v 0 25) 2) 12 10 16 ||| B (turnN (bitsV v 0 25) 2) 23 1 13 ||| B (turnN (bitsV v 0 25) 2) 22 1 11 ||| B (turnN (bitsV v 0 25) 2) 1 11 0 : Nat) : Int)) := by
  obtain ⟨t1, t2, t3, t4, t5⟩ := turned_bits v hv
  have s2 := same_pure (bitsV v 23 1) (bitsV v 24 1) (bit_bd v 23) (bit_bd v 24)
  have s3 := same_pure (bitsV v 22 1) (bitsV v 24 1) (bit_bd v 22) (bit_bd v 24)
  obtain ⟨m2, hm2, c2⟩ := sameIs (bitsV v 23 1) (bitsV v 24 1)
  obtain ⟨m3, hm3, c3⟩ := sameIs (bitsV v 22 1) (bitsV v 24 1)
  rw [← hm2] at s2 t3
  rw [← hm3] at s3 t4
  have b0 := bitsV_bd v 24 1
  have b1 := bitsV_bd v 12 10
  have b2 := bitsV_bd v 1 11
  refine Spec.enter gTok P146 100 Tryd.func146 rfl (by kernel_rfl) ?_
  refine ⟨[], no_rl, (cutW v 24 1 (by omega) (by decide) (by decide) (by decide)).use (And.intro rfl (And.intro rfl (And.intro rfl trivial))) rfl rfl ?_⟩
  refine ⟨by decide, .inl ⟨inR_u32 (by rw [r26]; omega), ?_⟩⟩
  refine ⟨[], no_rl, (cutW v 12 10 (by omega) (by decide) (by decide) (by decide)).use (And.intro rfl (And.intro rfl (And.intro rfl trivial))) rfl rfl ?_⟩
  refine ⟨by decide, .inl ⟨inR_u32 (by rw [r16]; omega), ?_⟩⟩
  refine ⟨[], no_rl, (cutW v 23 1 (by omega) (by decide) (by decide) (by decide)).use (And.intro rfl (And.intro rfl (And.intro rfl trivial))) rfl rfl ?_⟩
  refine ⟨[], no_rl, s2.use (by repeat' first | exact trivial | exact rfl | exact Iff.rfl | exact Or.inl rfl | refine And.intro ?_ ?_) rfl rfl ?_⟩
  refine ⟨by decide, .inl ⟨inR_u32 (by rw [r13]; omega), ?_⟩⟩
  refine ⟨[], no_rl, (cutW v 22 1 (by omega) (by decide) (by decide) (by decide)).use (And.intro rfl (And.intro rfl (And.intro rfl trivial))) rfl rfl ?_⟩
  refine ⟨[], no_rl, s3.use (by repeat' first | exact trivial | exact rfl | exact Iff.rfl | exact Or.inl rfl | refine And.intro ?_ ?_) rfl rfl ?_⟩
  refine ⟨by decide, .inl ⟨inR_u32 (by rw [r11]; omega), ?_⟩⟩
  refine ⟨[], no_rl, (cutW v 1 11 (by omega) (by decide) (by decide) (by decide)).use (And.intro rfl (And.intro rfl (And.intro rfl trivial))) rfl rfl ?_⟩
  refine retE ?_
  have k1 : IsN (bitsV v 24 1 * Ev.pow2 .u32 26) (B (turnN (bitsV v 0 25) 2) 24 1 26) := by have := isB (turnN (bitsV v 0 25) 2) 24 1 26 (p := Ev.pow2 .u32 26) (by decide) (by decide); rwa [t1] at this
  have k2 : IsN (bitsV v 12 10 * Ev.pow2 .u32 16) (B (turnN (bitsV v 0 25) 2) 12 10 16) := by have := isB (turnN (bitsV v 0 25) 2) 12 10 16 (p := Ev.pow2 .u32 16) (by decide) (by decide); rwa [t2] at this
  have k3 : IsN (m2 * Ev.pow2 .u32 13) (B (turnN (bitsV v 0 25) 2) 23 1 13) := by have := isB (turnN (bitsV v 0 25) 2) 23 1 13 (p := Ev.pow2 .u32 13) (by decide) (by decide); rwa [t3] at this
  have k4 : IsN (m3 * Ev.pow2 .u32 11) (B (turnN (bitsV v 0 25) 2) 22 1 11) := by have := isB (turnN (bitsV v 0 25) 2) 22 1 11 (p := Ev.pow2 .u32 11) (by decide) (by decide); rwa [t4] at this
  have k5 : IsN (bitsV v 1 11) (B (turnN (bitsV v 0 25) 2) 1 11 0) := by have := isB0 (turnN (bitsV v 0 25) 2) 1 11 (by decide); rwa [t5] at this
  exact (show bits .or .u32 (bits .or .u32 (bits .or .u32 (bits .or .u32 (bitsV v 24 1 * Ev.pow2 .u32 26) (bitsV v 12 10 * Ev.pow2 .u32 16)) (m2 * Ev.pow2 .u32 13)) (m3 * Ev.pow2 .u32 11)) (bitsV v 1 11) = _ from ((((k1.or k2).or k3).or k4).or k5).1)
set_option maxHeartbeats 8000000 in
set_option maxRecDepth 100000 in
theorem wide_34 (i : IN) (hs : shapeV i.form = 34) (hr : rightR i (ruW 34)) (hg : i.regs ≤ 9223372036854775807) : PureF gT 117 [inP i] (.int .u32 ((orF (turnI i) (fieldsV 34) : Nat) : Int)) := by
  obtain ⟨hf, h1, h2, h3, h4, h5, h6, h7, h8, h9, h10⟩ := hr
  have g0 := has_0 (r := i.rd) h1
  have g1 := has_0 (r := i.rn) h2
  have g2 := has_0 (r := i.rm) h3
  have g3 := has_0 (r := i.ra) h4
  have g4 : -16777216 ≤ i.imm ∧ i.imm ≤ 16777214 ∧ i.imm % 2 = 0 := sp_s (s := 2) (by decide) h7
  have g5 : i.kind = 0 := (sh_0 rfl h9).1
  have g6 : i.by_ = 0 := sp_0 (sh_0 rfl h9).2
  have g7 : i.set = 0 := h8.elim id fun e => absurd (show false = true from e.2) Bool.false_ne_true
  have g8 : i.cond = 0 := h6.elim id fun e => absurd (show false = true from e.1) Bool.false_ne_true
  clear h1 h2 h3 h4 h5 h6 h7 h8 h9 h10
  have et := sh34 hs
  rw [et]
  refine Spec.enter gTok P117 100 Tryd.func117 rfl (by kernel_rfl) ?_
  refine .inr ?_
  refine .inl ⟨inR_u32 (by omega), ?_⟩
  refine ⟨[], no_rl, (pshapeLit hs).use (And.intro rfl trivial) rfl rfl ?_⟩
  refine ⟨[], no_rl, (jumpWide_pure i.imm (by omega)).use (by repeat' first | exact trivial | exact rfl | exact Iff.rfl | exact Or.inl rfl | refine And.intro ?_ ?_) rfl rfl ?_⟩
  refine retE ?_
  have eo : orF {i with imm := turnN (bitsV i.imm 0 25) 2} (fieldsV 34) = 0 ||| B (turnN (bitsV i.imm 0 25) 2) 24 1 26 ||| B (turnN (bitsV i.imm 0 25) 2) 12 10 16 ||| B (turnN (bitsV i.imm 0 25) 2) 23 1 13 ||| B (turnN (bitsV i.imm 0 25) 2) 22 1 11 ||| B (turnN (bitsV i.imm 0 25) 2) 1 11 0 := rfl
  rw [eo]
  refine (show _ = _ from congrArg (fun n : Nat => (n : Int)) ?_)
  simp only [Nat.zero_or]

end Go.Proofs.YthpkejlmelednaaDoor.Pw

/- Chapter 4 over values: the document's reading of narrow shapes (by gen_tv.py). -/
namespace Go.Proofs.YthpkejlmelednaaDoor.Pw
open Go Go.RowKit

abbrev fl_1 : List PV := [.agg [.lit .i64 4, .lit .i64 0, .lit .i64 6, .lit .i64 5], .agg [.lit .i64 2, .lit .i64 0, .lit .i64 3, .lit .i64 3], .agg [.lit .i64 0, .lit .i64 0, .lit .i64 0, .lit .i64 3]]
set_option maxHeartbeats 8000000 in
set_option maxRecDepth 100000 in
theorem read_1 (f w : Int) (hs : shapeV f = 1) (hf : I64 f) (hw : U32 w) : PureF gT 70 [.int .i64 f, .int .i64 w] (inP (rdI1 f w)) := by
  have hw' : -1099511627776 ≤ w ∧ w ≤ 9223372036854775807 := by unfold U32 at hw; omega
  have b0 := bitsV_bd w 6 5
  have b1 := bitsV_bd w 3 3
  have b2 := bitsV_bd w 0 3
  refine Spec.enter gTok P70 100 Tryd.func70 rfl (by kernel_rfl) ?_
  refine ⟨[], no_rl, (shapeLit hf hs).use (And.intro rfl trivial) rfl rfl ?_⟩
  refine ⟨[], no_rl, fieldsLit_1.use (And.intro rfl trivial) rfl rfl ?_⟩
  refine SW.rounds gTok P70 (by kernel_rfl) (N := 60) 4 ?_
  refine fun _ => And.intro (fun _ => ?_) (fun h => absurd (show (0 : Int) < 3 by decide) h)
  repeat (refine ⟨PV, fl_1, id, rfl, by decide, by decide, fun x hx => ?_⟩; cases hx)
  refine ⟨[], no_rl, (bits_pure w 6 5 hw' (by decide) (by decide)).use (And.intro rfl (And.intro rfl (And.intro rfl trivial))) rfl rfl ?_⟩
  repeat (refine ⟨PV, fl_1, id, rfl, by decide, by decide, fun x hx => ?_⟩; cases hx)
  refine ⟨[], no_rl, (power_pure 0 (by decide)).use (And.intro rfl trivial) rfl rfl ?_⟩
  refine .inl ⟨inR_i64 (by omega), ?_⟩
  refine .inl ⟨inR_i64 (by omega), ?_⟩
  refine fun _ => And.intro (fun _ => ?_) (fun h => absurd (show (1 : Int) < 3 by decide) h)
  repeat (refine ⟨PV, fl_1, id, rfl, by decide, by decide, fun x hx => ?_⟩; cases hx)
  refine ⟨[], no_rl, (bits_pure w 3 3 hw' (by decide) (by decide)).use (And.intro rfl (And.intro rfl (And.intro rfl trivial))) rfl rfl ?_⟩
  repeat (refine ⟨PV, fl_1, id, rfl, by decide, by decide, fun x hx => ?_⟩; cases hx)
  refine ⟨[], no_rl, (power_pure 0 (by decide)).use (And.intro rfl trivial) rfl rfl ?_⟩
  refine .inl ⟨inR_i64 (by omega), ?_⟩
  refine .inl ⟨inR_i64 (by omega), ?_⟩
  refine fun _ => And.intro (fun _ => ?_) (fun h => absurd (show (2 : Int) < 3 by decide) h)
  repeat (refine ⟨PV, fl_1, id, rfl, by decide, by decide, fun x hx => ?_⟩; cases hx)
  refine ⟨[], no_rl, (bits_pure w 0 3 hw' (by decide) (by decide)).use (And.intro rfl (And.intro rfl (And.intro rfl trivial))) rfl rfl ?_⟩
  repeat (refine ⟨PV, fl_1, id, rfl, by decide, by decide, fun x hx => ?_⟩; cases hx)
  refine ⟨[], no_rl, (power_pure 0 (by decide)).use (And.intro rfl trivial) rfl rfl ?_⟩
  refine .inl ⟨inR_i64 (by omega), ?_⟩
  refine .inl ⟨inR_i64 (by omega), ?_⟩
  refine fun _ => And.intro (fun h => absurd h (show ¬ (3 : Int) < 3 by decide)) (fun _ => ?_)
  refine And.intro (fun h1 => And.intro (fun h0 => ?_) (fun h0 => ?_)) (fun h1 => ?_)
  · refine retE ?_
    exact ⟨rfl, rfl, rfl, rfl, rfl, (if_pos (And.intro h1 h0)).symm, rfl, rfl, rfl, rfl, rfl, trivial⟩
  · refine retE ?_
    exact ⟨rfl, rfl, rfl, rfl, rfl, (if_neg (fun e => h0 e.2)).symm, rfl, rfl, rfl, rfl, rfl, trivial⟩
  · refine retE ?_
    exact ⟨rfl, rfl, rfl, rfl, rfl, (if_neg (fun e => h1 e.1)).symm, rfl, rfl, rfl, rfl, rfl, trivial⟩
abbrev fl_2 : List PV := [.agg [.lit .i64 2, .lit .i64 0, .lit .i64 6, .lit .i64 3], .agg [.lit .i64 1, .lit .i64 0, .lit .i64 3, .lit .i64 3], .agg [.lit .i64 0, .lit .i64 0, .lit .i64 0, .lit .i64 3]]
set_option maxHeartbeats 8000000 in
set_option maxRecDepth 100000 in
theorem read_2 (f w : Int) (hs : shapeV f = 2) (hf : I64 f) (hw : U32 w) : PureF gT 70 [.int .i64 f, .int .i64 w] (inP (rdI2 f w)) := by
  have hw' : -1099511627776 ≤ w ∧ w ≤ 9223372036854775807 := by unfold U32 at hw; omega
  have b0 := bitsV_bd w 6 3
  have b1 := bitsV_bd w 3 3
  have b2 := bitsV_bd w 0 3
  refine Spec.enter gTok P70 100 Tryd.func70 rfl (by kernel_rfl) ?_
  refine ⟨[], no_rl, (shapeLit hf hs).use (And.intro rfl trivial) rfl rfl ?_⟩
  refine ⟨[], no_rl, fieldsLit_2.use (And.intro rfl trivial) rfl rfl ?_⟩
  refine SW.rounds gTok P70 (by kernel_rfl) (N := 60) 4 ?_
  refine fun _ => And.intro (fun _ => ?_) (fun h => absurd (show (0 : Int) < 3 by decide) h)
  repeat (refine ⟨PV, fl_2, id, rfl, by decide, by decide, fun x hx => ?_⟩; cases hx)
  refine ⟨[], no_rl, (bits_pure w 6 3 hw' (by decide) (by decide)).use (And.intro rfl (And.intro rfl (And.intro rfl trivial))) rfl rfl ?_⟩
  repeat (refine ⟨PV, fl_2, id, rfl, by decide, by decide, fun x hx => ?_⟩; cases hx)
  refine ⟨[], no_rl, (power_pure 0 (by decide)).use (And.intro rfl trivial) rfl rfl ?_⟩
  refine .inl ⟨inR_i64 (by omega), ?_⟩
  refine .inl ⟨inR_i64 (by omega), ?_⟩
  refine fun _ => And.intro (fun _ => ?_) (fun h => absurd (show (1 : Int) < 3 by decide) h)
  repeat (refine ⟨PV, fl_2, id, rfl, by decide, by decide, fun x hx => ?_⟩; cases hx)
  refine ⟨[], no_rl, (bits_pure w 3 3 hw' (by decide) (by decide)).use (And.intro rfl (And.intro rfl (And.intro rfl trivial))) rfl rfl ?_⟩
  repeat (refine ⟨PV, fl_2, id, rfl, by decide, by decide, fun x hx => ?_⟩; cases hx)
  refine ⟨[], no_rl, (power_pure 0 (by decide)).use (And.intro rfl trivial) rfl rfl ?_⟩
  refine .inl ⟨inR_i64 (by omega), ?_⟩
  refine .inl ⟨inR_i64 (by omega), ?_⟩
  refine fun _ => And.intro (fun _ => ?_) (fun h => absurd (show (2 : Int) < 3 by decide) h)
  repeat (refine ⟨PV, fl_2, id, rfl, by decide, by decide, fun x hx => ?_⟩; cases hx)
  refine ⟨[], no_rl, (bits_pure w 0 3 hw' (by decide) (by decide)).use (And.intro rfl (And.intro rfl (And.intro rfl trivial))) rfl rfl ?_⟩
  repeat (refine ⟨PV, fl_2, id, rfl, by decide, by decide, fun x hx => ?_⟩; cases hx)
  refine ⟨[], no_rl, (power_pure 0 (by decide)).use (And.intro rfl trivial) rfl rfl ?_⟩
  refine .inl ⟨inR_i64 (by omega), ?_⟩
  refine .inl ⟨inR_i64 (by omega), ?_⟩
  refine fun _ => And.intro (fun h => absurd h (show ¬ (3 : Int) < 3 by decide)) (fun _ => ?_)
  (refine retE ?_; repeat' first | exact trivial | exact rfl | exact Iff.rfl | exact Or.inl rfl | refine And.intro ?_ ?_)
abbrev fl_3 : List PV := [.agg [.lit .i64 4, .lit .i64 0, .lit .i64 6, .lit .i64 3], .agg [.lit .i64 1, .lit .i64 0, .lit .i64 3, .lit .i64 3], .agg [.lit .i64 0, .lit .i64 0, .lit .i64 0, .lit .i64 3]]
set_option maxHeartbeats 8000000 in
set_option maxRecDepth 100000 in
theorem read_3 (f w : Int) (hs : shapeV f = 3) (hf : I64 f) (hw : U32 w) : PureF gT 70 [.int .i64 f, .int .i64 w] (inP (rdI3 f w)) := by
  have hw' : -1099511627776 ≤ w ∧ w ≤ 9223372036854775807 := by unfold U32 at hw; omega
  have b0 := bitsV_bd w 6 3
  have b1 := bitsV_bd w 3 3
  have b2 := bitsV_bd w 0 3
  refine Spec.enter gTok P70 100 Tryd.func70 rfl (by kernel_rfl) ?_
  refine ⟨[], no_rl, (shapeLit hf hs).use (And.intro rfl trivial) rfl rfl ?_⟩
  refine ⟨[], no_rl, fieldsLit_3.use (And.intro rfl trivial) rfl rfl ?_⟩
  refine SW.rounds gTok P70 (by kernel_rfl) (N := 60) 4 ?_
  refine fun _ => And.intro (fun _ => ?_) (fun h => absurd (show (0 : Int) < 3 by decide) h)
  repeat (refine ⟨PV, fl_3, id, rfl, by decide, by decide, fun x hx => ?_⟩; cases hx)
  refine ⟨[], no_rl, (bits_pure w 6 3 hw' (by decide) (by decide)).use (And.intro rfl (And.intro rfl (And.intro rfl trivial))) rfl rfl ?_⟩
  repeat (refine ⟨PV, fl_3, id, rfl, by decide, by decide, fun x hx => ?_⟩; cases hx)
  refine ⟨[], no_rl, (power_pure 0 (by decide)).use (And.intro rfl trivial) rfl rfl ?_⟩
  refine .inl ⟨inR_i64 (by omega), ?_⟩
  refine .inl ⟨inR_i64 (by omega), ?_⟩
  refine fun _ => And.intro (fun _ => ?_) (fun h => absurd (show (1 : Int) < 3 by decide) h)
  repeat (refine ⟨PV, fl_3, id, rfl, by decide, by decide, fun x hx => ?_⟩; cases hx)
  refine ⟨[], no_rl, (bits_pure w 3 3 hw' (by decide) (by decide)).use (And.intro rfl (And.intro rfl (And.intro rfl trivial))) rfl rfl ?_⟩
  repeat (refine ⟨PV, fl_3, id, rfl, by decide, by decide, fun x hx => ?_⟩; cases hx)
  refine ⟨[], no_rl, (power_pure 0 (by decide)).use (And.intro rfl trivial) rfl rfl ?_⟩
  refine .inl ⟨inR_i64 (by omega), ?_⟩
  refine .inl ⟨inR_i64 (by omega), ?_⟩
  refine fun _ => And.intro (fun _ => ?_) (fun h => absurd (show (2 : Int) < 3 by decide) h)
  repeat (refine ⟨PV, fl_3, id, rfl, by decide, by decide, fun x hx => ?_⟩; cases hx)
  refine ⟨[], no_rl, (bits_pure w 0 3 hw' (by decide) (by decide)).use (And.intro rfl (And.intro rfl (And.intro rfl trivial))) rfl rfl ?_⟩
  repeat (refine ⟨PV, fl_3, id, rfl, by decide, by decide, fun x hx => ?_⟩; cases hx)
  refine ⟨[], no_rl, (power_pure 0 (by decide)).use (And.intro rfl trivial) rfl rfl ?_⟩
  refine .inl ⟨inR_i64 (by omega), ?_⟩
  refine .inl ⟨inR_i64 (by omega), ?_⟩
  refine fun _ => And.intro (fun h => absurd h (show ¬ (3 : Int) < 3 by decide)) (fun _ => ?_)
  (refine retE ?_; repeat' first | exact trivial | exact rfl | exact Iff.rfl | exact Or.inl rfl | refine And.intro ?_ ?_)
abbrev fl_4 : List PV := [.agg [.lit .i64 0, .lit .i64 0, .lit .i64 8, .lit .i64 3], .agg [.lit .i64 4, .lit .i64 0, .lit .i64 0, .lit .i64 8]]
set_option maxHeartbeats 8000000 in
set_option maxRecDepth 100000 in
theorem read_4 (f w : Int) (hs : shapeV f = 4) (hf : I64 f) (hw : U32 w) : PureF gT 70 [.int .i64 f, .int .i64 w] (inP (rdI4 f w)) := by
  have hw' : -1099511627776 ≤ w ∧ w ≤ 9223372036854775807 := by unfold U32 at hw; omega
  have b0 := bitsV_bd w 8 3
  have b1 := bitsV_bd w 0 8
  refine Spec.enter gTok P70 100 Tryd.func70 rfl (by kernel_rfl) ?_
  refine ⟨[], no_rl, (shapeLit hf hs).use (And.intro rfl trivial) rfl rfl ?_⟩
  refine ⟨[], no_rl, fieldsLit_4.use (And.intro rfl trivial) rfl rfl ?_⟩
  refine SW.rounds gTok P70 (by kernel_rfl) (N := 60) 3 ?_
  refine fun _ => And.intro (fun _ => ?_) (fun h => absurd (show (0 : Int) < 2 by decide) h)
  repeat (refine ⟨PV, fl_4, id, rfl, by decide, by decide, fun x hx => ?_⟩; cases hx)
  refine ⟨[], no_rl, (bits_pure w 8 3 hw' (by decide) (by decide)).use (And.intro rfl (And.intro rfl (And.intro rfl trivial))) rfl rfl ?_⟩
  repeat (refine ⟨PV, fl_4, id, rfl, by decide, by decide, fun x hx => ?_⟩; cases hx)
  refine ⟨[], no_rl, (power_pure 0 (by decide)).use (And.intro rfl trivial) rfl rfl ?_⟩
  refine .inl ⟨inR_i64 (by omega), ?_⟩
  refine .inl ⟨inR_i64 (by omega), ?_⟩
  refine fun _ => And.intro (fun _ => ?_) (fun h => absurd (show (1 : Int) < 2 by decide) h)
  repeat (refine ⟨PV, fl_4, id, rfl, by decide, by decide, fun x hx => ?_⟩; cases hx)
  refine ⟨[], no_rl, (bits_pure w 0 8 hw' (by decide) (by decide)).use (And.intro rfl (And.intro rfl (And.intro rfl trivial))) rfl rfl ?_⟩
  repeat (refine ⟨PV, fl_4, id, rfl, by decide, by decide, fun x hx => ?_⟩; cases hx)
  refine ⟨[], no_rl, (power_pure 0 (by decide)).use (And.intro rfl trivial) rfl rfl ?_⟩
  refine .inl ⟨inR_i64 (by omega), ?_⟩
  refine .inl ⟨inR_i64 (by omega), ?_⟩
  refine fun _ => And.intro (fun h => absurd h (show ¬ (2 : Int) < 2 by decide)) (fun _ => ?_)
  (refine retE ?_; repeat' first | exact trivial | exact rfl | exact Iff.rfl | exact Or.inl rfl | refine And.intro ?_ ?_)
abbrev fl_5 : List PV := [.agg [.lit .i64 2, .lit .i64 0, .lit .i64 3, .lit .i64 3], .agg [.lit .i64 0, .lit .i64 0, .lit .i64 0, .lit .i64 3]]
set_option maxHeartbeats 8000000 in
set_option maxRecDepth 100000 in
theorem read_5 (f w : Int) (hs : shapeV f = 5) (hf : I64 f) (hw : U32 w) : PureF gT 70 [.int .i64 f, .int .i64 w] (inP (rdI5 f w)) := by
  have hw' : -1099511627776 ≤ w ∧ w ≤ 9223372036854775807 := by unfold U32 at hw; omega
  have b0 := bitsV_bd w 3 3
  have b1 := bitsV_bd w 0 3
  refine Spec.enter gTok P70 100 Tryd.func70 rfl (by kernel_rfl) ?_
  refine ⟨[], no_rl, (shapeLit hf hs).use (And.intro rfl trivial) rfl rfl ?_⟩
  refine ⟨[], no_rl, fieldsLit_5.use (And.intro rfl trivial) rfl rfl ?_⟩
  refine SW.rounds gTok P70 (by kernel_rfl) (N := 60) 3 ?_
  refine fun _ => And.intro (fun _ => ?_) (fun h => absurd (show (0 : Int) < 2 by decide) h)
  repeat (refine ⟨PV, fl_5, id, rfl, by decide, by decide, fun x hx => ?_⟩; cases hx)
  refine ⟨[], no_rl, (bits_pure w 3 3 hw' (by decide) (by decide)).use (And.intro rfl (And.intro rfl (And.intro rfl trivial))) rfl rfl ?_⟩
  repeat (refine ⟨PV, fl_5, id, rfl, by decide, by decide, fun x hx => ?_⟩; cases hx)
  refine ⟨[], no_rl, (power_pure 0 (by decide)).use (And.intro rfl trivial) rfl rfl ?_⟩
  refine .inl ⟨inR_i64 (by omega), ?_⟩
  refine .inl ⟨inR_i64 (by omega), ?_⟩
  refine fun _ => And.intro (fun _ => ?_) (fun h => absurd (show (1 : Int) < 2 by decide) h)
  repeat (refine ⟨PV, fl_5, id, rfl, by decide, by decide, fun x hx => ?_⟩; cases hx)
  refine ⟨[], no_rl, (bits_pure w 0 3 hw' (by decide) (by decide)).use (And.intro rfl (And.intro rfl (And.intro rfl trivial))) rfl rfl ?_⟩
  repeat (refine ⟨PV, fl_5, id, rfl, by decide, by decide, fun x hx => ?_⟩; cases hx)
  refine ⟨[], no_rl, (power_pure 0 (by decide)).use (And.intro rfl trivial) rfl rfl ?_⟩
  refine .inl ⟨inR_i64 (by omega), ?_⟩
  refine .inl ⟨inR_i64 (by omega), ?_⟩
  refine fun _ => And.intro (fun h => absurd h (show ¬ (2 : Int) < 2 by decide)) (fun _ => ?_)
  (refine retE ?_; repeat' first | exact trivial | exact rfl | exact Iff.rfl | exact Or.inl rfl | refine And.intro ?_ ?_)
abbrev fl_6 : List PV := [.agg [.lit .i64 0, .lit .i64 3, .lit .i64 7, .lit .i64 1], .agg [.lit .i64 2, .lit .i64 0, .lit .i64 3, .lit .i64 4], .agg [.lit .i64 0, .lit .i64 0, .lit .i64 0, .lit .i64 3]]
set_option maxHeartbeats 8000000 in
set_option maxRecDepth 100000 in
theorem read_6 (f w : Int) (hs : shapeV f = 6) (hf : I64 f) (hw : U32 w) : PureF gT 70 [.int .i64 f, .int .i64 w] (inP (rdI6 f w)) := by
  have hw' : -1099511627776 ≤ w ∧ w ≤ 9223372036854775807 := by unfold U32 at hw; omega
  have b0 := bitsV_bd w 7 1
  have b1 := bitsV_bd w 3 4
  have b2 := bitsV_bd w 0 3
  refine Spec.enter gTok P70 100 Tryd.func70 rfl (by kernel_rfl) ?_
  refine ⟨[], no_rl, (shapeLit hf hs).use (And.intro rfl trivial) rfl rfl ?_⟩
  refine ⟨[], no_rl, fieldsLit_6.use (And.intro rfl trivial) rfl rfl ?_⟩
  refine SW.rounds gTok P70 (by kernel_rfl) (N := 60) 4 ?_
  refine fun _ => And.intro (fun _ => ?_) (fun h => absurd (show (0 : Int) < 3 by decide) h)
  repeat (refine ⟨PV, fl_6, id, rfl, by decide, by decide, fun x hx => ?_⟩; cases hx)
  refine ⟨[], no_rl, (bits_pure w 7 1 hw' (by decide) (by decide)).use (And.intro rfl (And.intro rfl (And.intro rfl trivial))) rfl rfl ?_⟩
  repeat (refine ⟨PV, fl_6, id, rfl, by decide, by decide, fun x hx => ?_⟩; cases hx)
  refine ⟨[], no_rl, (power_pure 3 (by decide)).use (And.intro rfl trivial) rfl rfl ?_⟩
  refine .inl ⟨inR_i64 (by omega), ?_⟩
  refine .inl ⟨inR_i64 (by omega), ?_⟩
  refine fun _ => And.intro (fun _ => ?_) (fun h => absurd (show (1 : Int) < 3 by decide) h)
  repeat (refine ⟨PV, fl_6, id, rfl, by decide, by decide, fun x hx => ?_⟩; cases hx)
  refine ⟨[], no_rl, (bits_pure w 3 4 hw' (by decide) (by decide)).use (And.intro rfl (And.intro rfl (And.intro rfl trivial))) rfl rfl ?_⟩
  repeat (refine ⟨PV, fl_6, id, rfl, by decide, by decide, fun x hx => ?_⟩; cases hx)
  refine ⟨[], no_rl, (power_pure 0 (by decide)).use (And.intro rfl trivial) rfl rfl ?_⟩
  refine .inl ⟨inR_i64 (by omega), ?_⟩
  refine .inl ⟨inR_i64 (by omega), ?_⟩
  refine fun _ => And.intro (fun _ => ?_) (fun h => absurd (show (2 : Int) < 3 by decide) h)
  repeat (refine ⟨PV, fl_6, id, rfl, by decide, by decide, fun x hx => ?_⟩; cases hx)
  refine ⟨[], no_rl, (bits_pure w 0 3 hw' (by decide) (by decide)).use (And.intro rfl (And.intro rfl (And.intro rfl trivial))) rfl rfl ?_⟩
  repeat (refine ⟨PV, fl_6, id, rfl, by decide, by decide, fun x hx => ?_⟩; cases hx)
  refine ⟨[], no_rl, (power_pure 0 (by decide)).use (And.intro rfl trivial) rfl rfl ?_⟩
  refine .inl ⟨inR_i64 (by omega), ?_⟩
  refine .inl ⟨inR_i64 (by omega), ?_⟩
  refine fun _ => And.intro (fun h => absurd h (show ¬ (3 : Int) < 3 by decide)) (fun _ => ?_)
  (refine retE ?_; repeat' first | exact trivial | exact rfl | exact Iff.rfl | exact Or.inl rfl | refine And.intro ?_ ?_)
abbrev fl_7 : List PV := [.agg [.lit .i64 2, .lit .i64 0, .lit .i64 3, .lit .i64 4]]
set_option maxHeartbeats 8000000 in
set_option maxRecDepth 100000 in
theorem read_7 (f w : Int) (hs : shapeV f = 7) (hf : I64 f) (hw : U32 w) : PureF gT 70 [.int .i64 f, .int .i64 w] (inP (rdI7 f w)) := by
  have hw' : -1099511627776 ≤ w ∧ w ≤ 9223372036854775807 := by unfold U32 at hw; omega
  have b0 := bitsV_bd w 3 4
  refine Spec.enter gTok P70 100 Tryd.func70 rfl (by kernel_rfl) ?_
  refine ⟨[], no_rl, (shapeLit hf hs).use (And.intro rfl trivial) rfl rfl ?_⟩
  refine ⟨[], no_rl, fieldsLit_7.use (And.intro rfl trivial) rfl rfl ?_⟩
  refine SW.rounds gTok P70 (by kernel_rfl) (N := 60) 2 ?_
  refine fun _ => And.intro (fun _ => ?_) (fun h => absurd (show (0 : Int) < 1 by decide) h)
  repeat (refine ⟨PV, fl_7, id, rfl, by decide, by decide, fun x hx => ?_⟩; cases hx)
  refine ⟨[], no_rl, (bits_pure w 3 4 hw' (by decide) (by decide)).use (And.intro rfl (And.intro rfl (And.intro rfl trivial))) rfl rfl ?_⟩
  repeat (refine ⟨PV, fl_7, id, rfl, by decide, by decide, fun x hx => ?_⟩; cases hx)
  refine ⟨[], no_rl, (power_pure 0 (by decide)).use (And.intro rfl trivial) rfl rfl ?_⟩
  refine .inl ⟨inR_i64 (by omega), ?_⟩
  refine .inl ⟨inR_i64 (by omega), ?_⟩
  refine fun _ => And.intro (fun h => absurd h (show ¬ (1 : Int) < 1 by decide)) (fun _ => ?_)
  (refine retE ?_; repeat' first | exact trivial | exact rfl | exact Iff.rfl | exact Or.inl rfl | refine And.intro ?_ ?_)
abbrev fl_8 : List PV := [.agg [.lit .i64 0, .lit .i64 0, .lit .i64 8, .lit .i64 3], .agg [.lit .i64 4, .lit .i64 2, .lit .i64 0, .lit .i64 8]]
set_option maxHeartbeats 8000000 in
set_option maxRecDepth 100000 in
theorem read_8 (f w : Int) (hs : shapeV f = 8) (hf : I64 f) (hw : U32 w) : PureF gT 70 [.int .i64 f, .int .i64 w] (inP (rdI8 f w)) := by
  have hw' : -1099511627776 ≤ w ∧ w ≤ 9223372036854775807 := by unfold U32 at hw; omega
  have b0 := bitsV_bd w 8 3
  have b1 := bitsV_bd w 0 8
  refine Spec.enter gTok P70 100 Tryd.func70 rfl (by kernel_rfl) ?_
  refine ⟨[], no_rl, (shapeLit hf hs).use (And.intro rfl trivial) rfl rfl ?_⟩
  refine ⟨[], no_rl, fieldsLit_8.use (And.intro rfl trivial) rfl rfl ?_⟩
  refine SW.rounds gTok P70 (by kernel_rfl) (N := 60) 3 ?_
  refine fun _ => And.intro (fun _ => ?_) (fun h => absurd (show (0 : Int) < 2 by decide) h)
  repeat (refine ⟨PV, fl_8, id, rfl, by decide, by decide, fun x hx => ?_⟩; cases hx)
  refine ⟨[], no_rl, (bits_pure w 8 3 hw' (by decide) (by decide)).use (And.intro rfl (And.intro rfl (And.intro rfl trivial))) rfl rfl ?_⟩
  repeat (refine ⟨PV, fl_8, id, rfl, by decide, by decide, fun x hx => ?_⟩; cases hx)
  refine ⟨[], no_rl, (power_pure 0 (by decide)).use (And.intro rfl trivial) rfl rfl ?_⟩
  refine .inl ⟨inR_i64 (by omega), ?_⟩
  refine .inl ⟨inR_i64 (by omega), ?_⟩
  refine fun _ => And.intro (fun _ => ?_) (fun h => absurd (show (1 : Int) < 2 by decide) h)
  repeat (refine ⟨PV, fl_8, id, rfl, by decide, by decide, fun x hx => ?_⟩; cases hx)
  refine ⟨[], no_rl, (bits_pure w 0 8 hw' (by decide) (by decide)).use (And.intro rfl (And.intro rfl (And.intro rfl trivial))) rfl rfl ?_⟩
  repeat (refine ⟨PV, fl_8, id, rfl, by decide, by decide, fun x hx => ?_⟩; cases hx)
  refine ⟨[], no_rl, (power_pure 2 (by decide)).use (And.intro rfl trivial) rfl rfl ?_⟩
  refine .inl ⟨inR_i64 (by omega), ?_⟩
  refine .inl ⟨inR_i64 (by omega), ?_⟩
  refine fun _ => And.intro (fun h => absurd h (show ¬ (2 : Int) < 2 by decide)) (fun _ => ?_)
  (refine retE ?_; repeat' first | exact trivial | exact rfl | exact Iff.rfl | exact Or.inl rfl | refine And.intro ?_ ?_)
abbrev fl_9 : List PV := [.agg [.lit .i64 4, .lit .i64 2, .lit .i64 6, .lit .i64 5], .agg [.lit .i64 1, .lit .i64 0, .lit .i64 3, .lit .i64 3], .agg [.lit .i64 0, .lit .i64 0, .lit .i64 0, .lit .i64 3]]
set_option maxHeartbeats 8000000 in
set_option maxRecDepth 100000 in
theorem read_9 (f w : Int) (hs : shapeV f = 9) (hf : I64 f) (hw : U32 w) : PureF gT 70 [.int .i64 f, .int .i64 w] (inP (rdI9 f w)) := by
  have hw' : -1099511627776 ≤ w ∧ w ≤ 9223372036854775807 := by unfold U32 at hw; omega
  have b0 := bitsV_bd w 6 5
  have b1 := bitsV_bd w 3 3
  have b2 := bitsV_bd w 0 3
  refine Spec.enter gTok P70 100 Tryd.func70 rfl (by kernel_rfl) ?_
  refine ⟨[], no_rl, (shapeLit hf hs).use (And.intro rfl trivial) rfl rfl ?_⟩
  refine ⟨[], no_rl, fieldsLit_9.use (And.intro rfl trivial) rfl rfl ?_⟩
  refine SW.rounds gTok P70 (by kernel_rfl) (N := 60) 4 ?_
  refine fun _ => And.intro (fun _ => ?_) (fun h => absurd (show (0 : Int) < 3 by decide) h)
  repeat (refine ⟨PV, fl_9, id, rfl, by decide, by decide, fun x hx => ?_⟩; cases hx)
  refine ⟨[], no_rl, (bits_pure w 6 5 hw' (by decide) (by decide)).use (And.intro rfl (And.intro rfl (And.intro rfl trivial))) rfl rfl ?_⟩
  repeat (refine ⟨PV, fl_9, id, rfl, by decide, by decide, fun x hx => ?_⟩; cases hx)
  refine ⟨[], no_rl, (power_pure 2 (by decide)).use (And.intro rfl trivial) rfl rfl ?_⟩
  refine .inl ⟨inR_i64 (by omega), ?_⟩
  refine .inl ⟨inR_i64 (by omega), ?_⟩
  refine fun _ => And.intro (fun _ => ?_) (fun h => absurd (show (1 : Int) < 3 by decide) h)
  repeat (refine ⟨PV, fl_9, id, rfl, by decide, by decide, fun x hx => ?_⟩; cases hx)
  refine ⟨[], no_rl, (bits_pure w 3 3 hw' (by decide) (by decide)).use (And.intro rfl (And.intro rfl (And.intro rfl trivial))) rfl rfl ?_⟩
  repeat (refine ⟨PV, fl_9, id, rfl, by decide, by decide, fun x hx => ?_⟩; cases hx)
  refine ⟨[], no_rl, (power_pure 0 (by decide)).use (And.intro rfl trivial) rfl rfl ?_⟩
  refine .inl ⟨inR_i64 (by omega), ?_⟩
  refine .inl ⟨inR_i64 (by omega), ?_⟩
  refine fun _ => And.intro (fun _ => ?_) (fun h => absurd (show (2 : Int) < 3 by decide) h)
  repeat (refine ⟨PV, fl_9, id, rfl, by decide, by decide, fun x hx => ?_⟩; cases hx)
  refine ⟨[], no_rl, (bits_pure w 0 3 hw' (by decide) (by decide)).use (And.intro rfl (And.intro rfl (And.intro rfl trivial))) rfl rfl ?_⟩
  repeat (refine ⟨PV, fl_9, id, rfl, by decide, by decide, fun x hx => ?_⟩; cases hx)
  refine ⟨[], no_rl, (power_pure 0 (by decide)).use (And.intro rfl trivial) rfl rfl ?_⟩
  refine .inl ⟨inR_i64 (by omega), ?_⟩
  refine .inl ⟨inR_i64 (by omega), ?_⟩
  refine fun _ => And.intro (fun h => absurd h (show ¬ (3 : Int) < 3 by decide)) (fun _ => ?_)
  (refine retE ?_; repeat' first | exact trivial | exact rfl | exact Iff.rfl | exact Or.inl rfl | refine And.intro ?_ ?_)
abbrev fl_10 : List PV := [.agg [.lit .i64 4, .lit .i64 2, .lit .i64 0, .lit .i64 7]]
set_option maxHeartbeats 8000000 in
set_option maxRecDepth 100000 in
theorem read_10 (f w : Int) (hs : shapeV f = 10) (hf : I64 f) (hw : U32 w) : PureF gT 70 [.int .i64 f, .int .i64 w] (inP (rdI10 f w)) := by
  have hw' : -1099511627776 ≤ w ∧ w ≤ 9223372036854775807 := by unfold U32 at hw; omega
  have b0 := bitsV_bd w 0 7
  refine Spec.enter gTok P70 100 Tryd.func70 rfl (by kernel_rfl) ?_
  refine ⟨[], no_rl, (shapeLit hf hs).use (And.intro rfl trivial) rfl rfl ?_⟩
  refine ⟨[], no_rl, fieldsLit_10.use (And.intro rfl trivial) rfl rfl ?_⟩
  refine SW.rounds gTok P70 (by kernel_rfl) (N := 60) 2 ?_
  refine fun _ => And.intro (fun _ => ?_) (fun h => absurd (show (0 : Int) < 1 by decide) h)
  repeat (refine ⟨PV, fl_10, id, rfl, by decide, by decide, fun x hx => ?_⟩; cases hx)
  refine ⟨[], no_rl, (bits_pure w 0 7 hw' (by decide) (by decide)).use (And.intro rfl (And.intro rfl (And.intro rfl trivial))) rfl rfl ?_⟩
  repeat (refine ⟨PV, fl_10, id, rfl, by decide, by decide, fun x hx => ?_⟩; cases hx)
  refine ⟨[], no_rl, (power_pure 2 (by decide)).use (And.intro rfl trivial) rfl rfl ?_⟩
  refine .inl ⟨inR_i64 (by omega), ?_⟩
  refine .inl ⟨inR_i64 (by omega), ?_⟩
  refine fun _ => And.intro (fun h => absurd h (show ¬ (1 : Int) < 1 by decide)) (fun _ => ?_)
  (refine retE ?_; repeat' first | exact trivial | exact rfl | exact Iff.rfl | exact Or.inl rfl | refine And.intro ?_ ?_)
abbrev fl_11 : List PV := [.agg [.lit .i64 9, .lit .i64 14, .lit .i64 8, .lit .i64 1], .agg [.lit .i64 9, .lit .i64 0, .lit .i64 0, .lit .i64 8]]
set_option maxHeartbeats 8000000 in
set_option maxRecDepth 100000 in
theorem read_11 (f w : Int) (hs : shapeV f = 11) (hf : I64 f) (hw : U32 w) : PureF gT 70 [.int .i64 f, .int .i64 w] (inP (rdI11 f w)) := by
  have hw' : -1099511627776 ≤ w ∧ w ≤ 9223372036854775807 := by unfold U32 at hw; omega
  have b0 := bitsV_bd w 8 1
  have b1 := bitsV_bd w 0 8
  refine Spec.enter gTok P70 100 Tryd.func70 rfl (by kernel_rfl) ?_
  refine ⟨[], no_rl, (shapeLit hf hs).use (And.intro rfl trivial) rfl rfl ?_⟩
  refine ⟨[], no_rl, fieldsLit_11.use (And.intro rfl trivial) rfl rfl ?_⟩
  refine SW.rounds gTok P70 (by kernel_rfl) (N := 60) 3 ?_
  refine fun _ => And.intro (fun _ => ?_) (fun h => absurd (show (0 : Int) < 2 by decide) h)
  repeat (refine ⟨PV, fl_11, id, rfl, by decide, by decide, fun x hx => ?_⟩; cases hx)
  refine ⟨[], no_rl, (bits_pure w 8 1 hw' (by decide) (by decide)).use (And.intro rfl (And.intro rfl (And.intro rfl trivial))) rfl rfl ?_⟩
  repeat (refine ⟨PV, fl_11, id, rfl, by decide, by decide, fun x hx => ?_⟩; cases hx)
  refine ⟨[], no_rl, (power_pure 14 (by decide)).use (And.intro rfl trivial) rfl rfl ?_⟩
  refine .inl ⟨inR_i64 (by omega), ?_⟩
  refine .inl ⟨inR_i64 (by omega), ?_⟩
  refine fun _ => And.intro (fun _ => ?_) (fun h => absurd (show (1 : Int) < 2 by decide) h)
  repeat (refine ⟨PV, fl_11, id, rfl, by decide, by decide, fun x hx => ?_⟩; cases hx)
  refine ⟨[], no_rl, (bits_pure w 0 8 hw' (by decide) (by decide)).use (And.intro rfl (And.intro rfl (And.intro rfl trivial))) rfl rfl ?_⟩
  repeat (refine ⟨PV, fl_11, id, rfl, by decide, by decide, fun x hx => ?_⟩; cases hx)
  refine ⟨[], no_rl, (power_pure 0 (by decide)).use (And.intro rfl trivial) rfl rfl ?_⟩
  refine .inl ⟨inR_i64 (by omega), ?_⟩
  refine .inl ⟨inR_i64 (by omega), ?_⟩
  refine fun _ => And.intro (fun h => absurd h (show ¬ (2 : Int) < 2 by decide)) (fun _ => ?_)
  (refine retE ?_; repeat' first | exact trivial | exact rfl | exact Iff.rfl | exact Or.inl rfl | refine And.intro ?_ ?_)
abbrev fl_12 : List PV := [.agg [.lit .i64 9, .lit .i64 15, .lit .i64 8, .lit .i64 1], .agg [.lit .i64 9, .lit .i64 0, .lit .i64 0, .lit .i64 8]]
set_option maxHeartbeats 8000000 in
set_option maxRecDepth 100000 in
theorem read_12 (f w : Int) (hs : shapeV f = 12) (hf : I64 f) (hw : U32 w) : PureF gT 70 [.int .i64 f, .int .i64 w] (inP (rdI12 f w)) := by
  have hw' : -1099511627776 ≤ w ∧ w ≤ 9223372036854775807 := by unfold U32 at hw; omega
  have b0 := bitsV_bd w 8 1
  have b1 := bitsV_bd w 0 8
  refine Spec.enter gTok P70 100 Tryd.func70 rfl (by kernel_rfl) ?_
  refine ⟨[], no_rl, (shapeLit hf hs).use (And.intro rfl trivial) rfl rfl ?_⟩
  refine ⟨[], no_rl, fieldsLit_12.use (And.intro rfl trivial) rfl rfl ?_⟩
  refine SW.rounds gTok P70 (by kernel_rfl) (N := 60) 3 ?_
  refine fun _ => And.intro (fun _ => ?_) (fun h => absurd (show (0 : Int) < 2 by decide) h)
  repeat (refine ⟨PV, fl_12, id, rfl, by decide, by decide, fun x hx => ?_⟩; cases hx)
  refine ⟨[], no_rl, (bits_pure w 8 1 hw' (by decide) (by decide)).use (And.intro rfl (And.intro rfl (And.intro rfl trivial))) rfl rfl ?_⟩
  repeat (refine ⟨PV, fl_12, id, rfl, by decide, by decide, fun x hx => ?_⟩; cases hx)
  refine ⟨[], no_rl, (power_pure 15 (by decide)).use (And.intro rfl trivial) rfl rfl ?_⟩
  refine .inl ⟨inR_i64 (by omega), ?_⟩
  refine .inl ⟨inR_i64 (by omega), ?_⟩
  refine fun _ => And.intro (fun _ => ?_) (fun h => absurd (show (1 : Int) < 2 by decide) h)
  repeat (refine ⟨PV, fl_12, id, rfl, by decide, by decide, fun x hx => ?_⟩; cases hx)
  refine ⟨[], no_rl, (bits_pure w 0 8 hw' (by decide) (by decide)).use (And.intro rfl (And.intro rfl (And.intro rfl trivial))) rfl rfl ?_⟩
  repeat (refine ⟨PV, fl_12, id, rfl, by decide, by decide, fun x hx => ?_⟩; cases hx)
  refine ⟨[], no_rl, (power_pure 0 (by decide)).use (And.intro rfl trivial) rfl rfl ?_⟩
  refine .inl ⟨inR_i64 (by omega), ?_⟩
  refine .inl ⟨inR_i64 (by omega), ?_⟩
  refine fun _ => And.intro (fun h => absurd h (show ¬ (2 : Int) < 2 by decide)) (fun _ => ?_)
  (refine retE ?_; repeat' first | exact trivial | exact rfl | exact Iff.rfl | exact Or.inl rfl | refine And.intro ?_ ?_)
abbrev fl_13 : List PV := []
set_option maxHeartbeats 8000000 in
set_option maxRecDepth 100000 in
theorem read_13 (f w : Int) (hs : shapeV f = 13) (hf : I64 f) (hw : U32 w) : PureF gT 70 [.int .i64 f, .int .i64 w] (inP (rdI13 f w)) := by
  have hw' : -1099511627776 ≤ w ∧ w ≤ 9223372036854775807 := by unfold U32 at hw; omega
  refine Spec.enter gTok P70 100 Tryd.func70 rfl (by kernel_rfl) ?_
  refine ⟨[], no_rl, (shapeLit hf hs).use (And.intro rfl trivial) rfl rfl ?_⟩
  refine ⟨[], no_rl, fieldsLit_13.use (And.intro rfl trivial) rfl rfl ?_⟩
  refine SW.rounds gTok P70 (by kernel_rfl) (N := 60) 1 ?_
  refine fun _ => And.intro (fun h => absurd h (show ¬ (0 : Int) < 0 by decide)) (fun _ => ?_)
  (refine retE ?_; repeat' first | exact trivial | exact rfl | exact Iff.rfl | exact Or.inl rfl | refine And.intro ?_ ?_)
abbrev fl_14 : List PV := [.agg [.lit .i64 4, .lit .i64 0, .lit .i64 0, .lit .i64 8]]
set_option maxHeartbeats 8000000 in
set_option maxRecDepth 100000 in
theorem read_14 (f w : Int) (hs : shapeV f = 14) (hf : I64 f) (hw : U32 w) : PureF gT 70 [.int .i64 f, .int .i64 w] (inP (rdI14 f w)) := by
  have hw' : -1099511627776 ≤ w ∧ w ≤ 9223372036854775807 := by unfold U32 at hw; omega
  have b0 := bitsV_bd w 0 8
  refine Spec.enter gTok P70 100 Tryd.func70 rfl (by kernel_rfl) ?_
  refine ⟨[], no_rl, (shapeLit hf hs).use (And.intro rfl trivial) rfl rfl ?_⟩
  refine ⟨[], no_rl, fieldsLit_14.use (And.intro rfl trivial) rfl rfl ?_⟩
  refine SW.rounds gTok P70 (by kernel_rfl) (N := 60) 2 ?_
  refine fun _ => And.intro (fun _ => ?_) (fun h => absurd (show (0 : Int) < 1 by decide) h)
  repeat (refine ⟨PV, fl_14, id, rfl, by decide, by decide, fun x hx => ?_⟩; cases hx)
  refine ⟨[], no_rl, (bits_pure w 0 8 hw' (by decide) (by decide)).use (And.intro rfl (And.intro rfl (And.intro rfl trivial))) rfl rfl ?_⟩
  repeat (refine ⟨PV, fl_14, id, rfl, by decide, by decide, fun x hx => ?_⟩; cases hx)
  refine ⟨[], no_rl, (power_pure 0 (by decide)).use (And.intro rfl trivial) rfl rfl ?_⟩
  refine .inl ⟨inR_i64 (by omega), ?_⟩
  refine .inl ⟨inR_i64 (by omega), ?_⟩
  refine fun _ => And.intro (fun h => absurd h (show ¬ (1 : Int) < 1 by decide)) (fun _ => ?_)
  (refine retE ?_; repeat' first | exact trivial | exact rfl | exact Iff.rfl | exact Or.inl rfl | refine And.intro ?_ ?_)
abbrev fl_15 : List PV := [.agg [.lit .i64 8, .lit .i64 0, .lit .i64 8, .lit .i64 4], .agg [.lit .i64 4, .lit .i64 1, .lit .i64 0, .lit .i64 8]]
set_option maxHeartbeats 8000000 in
set_option maxRecDepth 100000 in
theorem read_15 (f w : Int) (hs : shapeV f = 15) (hf : I64 f) (hw : U32 w) : PureF gT 70 [.int .i64 f, .int .i64 w] (inP (rdI15 f w)) := by
  have hw' : -1099511627776 ≤ w ∧ w ≤ 9223372036854775807 := by unfold U32 at hw; omega
  have b0 := bitsV_bd w 8 4
  have b1 := bitsV_bd w 0 8
  refine Spec.enter gTok P70 100 Tryd.func70 rfl (by kernel_rfl) ?_
  refine ⟨[], no_rl, (shapeLit hf hs).use (And.intro rfl trivial) rfl rfl ?_⟩
  refine ⟨[], no_rl, fieldsLit_15.use (And.intro rfl trivial) rfl rfl ?_⟩
  refine SW.rounds gTok P70 (by kernel_rfl) (N := 60) 3 ?_
  refine fun _ => And.intro (fun _ => ?_) (fun h => absurd (show (0 : Int) < 2 by decide) h)
  repeat (refine ⟨PV, fl_15, id, rfl, by decide, by decide, fun x hx => ?_⟩; cases hx)
  refine ⟨[], no_rl, (bits_pure w 8 4 hw' (by decide) (by decide)).use (And.intro rfl (And.intro rfl (And.intro rfl trivial))) rfl rfl ?_⟩
  repeat (refine ⟨PV, fl_15, id, rfl, by decide, by decide, fun x hx => ?_⟩; cases hx)
  refine ⟨[], no_rl, (power_pure 0 (by decide)).use (And.intro rfl trivial) rfl rfl ?_⟩
  refine .inl ⟨inR_i64 (by omega), ?_⟩
  refine .inl ⟨inR_i64 (by omega), ?_⟩
  refine fun _ => And.intro (fun _ => ?_) (fun h => absurd (show (1 : Int) < 2 by decide) h)
  repeat (refine ⟨PV, fl_15, id, rfl, by decide, by decide, fun x hx => ?_⟩; cases hx)
  refine ⟨[], no_rl, (bits_pure w 0 8 hw' (by decide) (by decide)).use (And.intro rfl (And.intro rfl (And.intro rfl trivial))) rfl rfl ?_⟩
  repeat (refine ⟨PV, fl_15, id, rfl, by decide, by decide, fun x hx => ?_⟩; cases hx)
  refine ⟨[], no_rl, (power_pure 1 (by decide)).use (And.intro rfl trivial) rfl rfl ?_⟩
  refine .inl ⟨inR_i64 (by omega), ?_⟩
  refine .inl ⟨inR_i64 (by omega), ?_⟩
  refine fun _ => And.intro (fun h => absurd h (show ¬ (2 : Int) < 2 by decide)) (fun _ => ?_)
  refine ⟨[], no_rl, (least_pure (0 + bitsV w 0 8 * 2 ^ 1) 9 ⟨by omega, by omega⟩ (by decide)).use (And.intro rfl (And.intro rfl trivial)) rfl rfl ?_⟩
  (refine retE ?_; repeat' first | exact trivial | exact rfl | exact Iff.rfl | exact Or.inl rfl | refine And.intro ?_ ?_)
abbrev fl_16 : List PV := [.agg [.lit .i64 4, .lit .i64 1, .lit .i64 0, .lit .i64 11]]
set_option maxHeartbeats 8000000 in
set_option maxRecDepth 100000 in
theorem read_16 (f w : Int) (hs : shapeV f = 16) (hf : I64 f) (hw : U32 w) : PureF gT 70 [.int .i64 f, .int .i64 w] (inP (rdI16 f w)) := by
  have hw' : -1099511627776 ≤ w ∧ w ≤ 9223372036854775807 := by unfold U32 at hw; omega
  have b0 := bitsV_bd w 0 11
  refine Spec.enter gTok P70 100 Tryd.func70 rfl (by kernel_rfl) ?_
  refine ⟨[], no_rl, (shapeLit hf hs).use (And.intro rfl trivial) rfl rfl ?_⟩
  refine ⟨[], no_rl, fieldsLit_16.use (And.intro rfl trivial) rfl rfl ?_⟩
  refine SW.rounds gTok P70 (by kernel_rfl) (N := 60) 2 ?_
  refine fun _ => And.intro (fun _ => ?_) (fun h => absurd (show (0 : Int) < 1 by decide) h)
  repeat (refine ⟨PV, fl_16, id, rfl, by decide, by decide, fun x hx => ?_⟩; cases hx)
  refine ⟨[], no_rl, (bits_pure w 0 11 hw' (by decide) (by decide)).use (And.intro rfl (And.intro rfl (And.intro rfl trivial))) rfl rfl ?_⟩
  repeat (refine ⟨PV, fl_16, id, rfl, by decide, by decide, fun x hx => ?_⟩; cases hx)
  refine ⟨[], no_rl, (power_pure 1 (by decide)).use (And.intro rfl trivial) rfl rfl ?_⟩
  refine .inl ⟨inR_i64 (by omega), ?_⟩
  refine .inl ⟨inR_i64 (by omega), ?_⟩
  refine fun _ => And.intro (fun h => absurd h (show ¬ (1 : Int) < 1 by decide)) (fun _ => ?_)
  refine ⟨[], no_rl, (least_pure (0 + bitsV w 0 11 * 2 ^ 1) 12 ⟨by omega, by omega⟩ (by decide)).use (And.intro rfl (And.intro rfl trivial)) rfl rfl ?_⟩
  (refine retE ?_; repeat' first | exact trivial | exact rfl | exact Iff.rfl | exact Or.inl rfl | refine And.intro ?_ ?_)

end Go.Proofs.YthpkejlmelednaaDoor.Pw

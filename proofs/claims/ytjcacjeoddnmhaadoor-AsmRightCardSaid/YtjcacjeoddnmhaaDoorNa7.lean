/- What the laws of this claim are proved with, joined (join.py) of 13 texts: no condition. -/
import Derived.Test.YtjcacjeoddnmhaaDoorNa6
set_option linter.unusedVariables false
set_option linter.unusedSimpArgs false

/- Chapter 4 over values: the program's bits of words, small ones; the readings of each shape, written out (by gen_tt.py). -/
namespace Go.Proofs.YtjcacjeoddnmhaaDoor.Pw
open Go Go.RowKit

def rdI1 (f w : Int) : IN := ⟨f, 0 + bitsV w 0 3 * 2 ^ 0, 0, 0 + bitsV w 3 3 * 2 ^ 0, 0, if 1 < f ∧ 0 + bitsV w 6 5 * 2 ^ 0 = 0 then 32 else 0 + bitsV w 6 5 * 2 ^ 0, 0, 0, 0, 0, 0⟩
theorem rd_1 {f w : Int} (h : shapeV f = 1) : readV f w = rdI1 f w := by
  unfold readV; rw [h]
  exact in_ext rfl rfl rfl rfl rfl (imm_1) rfl (by_ne (K := 1) (k := xV 1 w 5) (by decide)) rfl rfl rfl
def rdI2 (f w : Int) : IN := ⟨f, 0 + bitsV w 0 3 * 2 ^ 0, 0 + bitsV w 3 3 * 2 ^ 0, 0 + bitsV w 6 3 * 2 ^ 0, 0, 0, 0, 0, 0, 0, 0⟩
theorem rd_2 {f w : Int} (h : shapeV f = 2) : readV f w = rdI2 f w := by
  unfold readV; rw [h]
  exact in_ext rfl rfl rfl rfl rfl (imm_ne (K := 2) (f := f) (by decide)) rfl (by_ne (K := 2) (k := xV 2 w 5) (by decide)) rfl rfl rfl
def rdI3 (f w : Int) : IN := ⟨f, 0 + bitsV w 0 3 * 2 ^ 0, 0 + bitsV w 3 3 * 2 ^ 0, 0, 0, 0 + bitsV w 6 3 * 2 ^ 0, 0, 0, 0, 0, 0⟩
theorem rd_3 {f w : Int} (h : shapeV f = 3) : readV f w = rdI3 f w := by
  unfold readV; rw [h]
  exact in_ext rfl rfl rfl rfl rfl (imm_ne (K := 3) (f := f) (by decide)) rfl (by_ne (K := 3) (k := xV 3 w 5) (by decide)) rfl rfl rfl
def rdI4 (f w : Int) : IN := ⟨f, 0 + bitsV w 8 3 * 2 ^ 0, 0, 0, 0, 0 + bitsV w 0 8 * 2 ^ 0, 0, 0, 0, 0, 0⟩
theorem rd_4 {f w : Int} (h : shapeV f = 4) : readV f w = rdI4 f w := by
  unfold readV; rw [h]
  exact in_ext rfl rfl rfl rfl rfl (imm_ne (K := 4) (f := f) (by decide)) rfl (by_ne (K := 4) (k := xV 4 w 5) (by decide)) rfl rfl rfl
def rdI5 (f w : Int) : IN := ⟨f, 0 + bitsV w 0 3 * 2 ^ 0, 0, 0 + bitsV w 3 3 * 2 ^ 0, 0, 0, 0, 0, 0, 0, 0⟩
theorem rd_5 {f w : Int} (h : shapeV f = 5) : readV f w = rdI5 f w := by
  unfold readV; rw [h]
  exact in_ext rfl rfl rfl rfl rfl (imm_ne (K := 5) (f := f) (by decide)) rfl (by_ne (K := 5) (k := xV 5 w 5) (by decide)) rfl rfl rfl
def rdI6 (f w : Int) : IN := ⟨f, 0 + bitsV w 7 1 * 2 ^ 3 + bitsV w 0 3 * 2 ^ 0, 0, 0 + bitsV w 3 4 * 2 ^ 0, 0, 0, 0, 0, 0, 0, 0⟩
theorem rd_6 {f w : Int} (h : shapeV f = 6) : readV f w = rdI6 f w := by
  unfold readV; rw [h]
  exact in_ext rfl rfl rfl rfl rfl (imm_ne (K := 6) (f := f) (by decide)) rfl (by_ne (K := 6) (k := xV 6 w 5) (by decide)) rfl rfl rfl
def rdI7 (f w : Int) : IN := ⟨f, 0, 0, 0 + bitsV w 3 4 * 2 ^ 0, 0, 0, 0, 0, 0, 0, 0⟩
theorem rd_7 {f w : Int} (h : shapeV f = 7) : readV f w = rdI7 f w := by
  unfold readV; rw [h]
  exact in_ext rfl rfl rfl rfl rfl (imm_ne (K := 7) (f := f) (by decide)) rfl (by_ne (K := 7) (k := xV 7 w 5) (by decide)) rfl rfl rfl
def rdI8 (f w : Int) : IN := ⟨f, 0 + bitsV w 8 3 * 2 ^ 0, 0, 0, 0, 0 + bitsV w 0 8 * 2 ^ 2, 0, 0, 0, 0, 0⟩
theorem rd_8 {f w : Int} (h : shapeV f = 8) : readV f w = rdI8 f w := by
  unfold readV; rw [h]
  exact in_ext rfl rfl rfl rfl rfl (imm_ne (K := 8) (f := f) (by decide)) rfl (by_ne (K := 8) (k := xV 8 w 5) (by decide)) rfl rfl rfl
def rdI9 (f w : Int) : IN := ⟨f, 0 + bitsV w 0 3 * 2 ^ 0, 0 + bitsV w 3 3 * 2 ^ 0, 0, 0, 0 + bitsV w 6 5 * 2 ^ 2, 0, 0, 0, 0, 0⟩
theorem rd_9 {f w : Int} (h : shapeV f = 9) : readV f w = rdI9 f w := by
  unfold readV; rw [h]
  exact in_ext rfl rfl rfl rfl rfl (imm_ne (K := 9) (f := f) (by decide)) rfl (by_ne (K := 9) (k := xV 9 w 5) (by decide)) rfl rfl rfl
def rdI10 (f w : Int) : IN := ⟨f, 0, 0, 0, 0, 0 + bitsV w 0 7 * 2 ^ 2, 0, 0, 0, 0, 0⟩
theorem rd_10 {f w : Int} (h : shapeV f = 10) : readV f w = rdI10 f w := by
  unfold readV; rw [h]
  exact in_ext rfl rfl rfl rfl rfl (imm_ne (K := 10) (f := f) (by decide)) rfl (by_ne (K := 10) (k := xV 10 w 5) (by decide)) rfl rfl rfl
def rdI11 (f w : Int) : IN := ⟨f, 0, 0, 0, 0, 0, 0, 0, 0, 0, 0 + bitsV w 8 1 * 2 ^ 14 + bitsV w 0 8 * 2 ^ 0⟩
theorem rd_11 {f w : Int} (h : shapeV f = 11) : readV f w = rdI11 f w := by
  unfold readV; rw [h]
  exact in_ext rfl rfl rfl rfl rfl (imm_ne (K := 11) (f := f) (by decide)) rfl (by_ne (K := 11) (k := xV 11 w 5) (by decide)) rfl rfl rfl
def rdI12 (f w : Int) : IN := ⟨f, 0, 0, 0, 0, 0, 0, 0, 0, 0, 0 + bitsV w 8 1 * 2 ^ 15 + bitsV w 0 8 * 2 ^ 0⟩
theorem rd_12 {f w : Int} (h : shapeV f = 12) : readV f w = rdI12 f w := by
  unfold readV; rw [h]
  exact in_ext rfl rfl rfl rfl rfl (imm_ne (K := 12) (f := f) (by decide)) rfl (by_ne (K := 12) (k := xV 12 w 5) (by decide)) rfl rfl rfl
def rdI13 (f w : Int) : IN := ⟨f, 0, 0, 0, 0, 0, 0, 0, 0, 0, 0⟩
theorem rd_13 {f w : Int} (h : shapeV f = 13) : readV f w = rdI13 f w := by
  unfold readV; rw [h]
  exact in_ext rfl rfl rfl rfl rfl (imm_ne (K := 13) (f := f) (by decide)) rfl (by_ne (K := 13) (k := xV 13 w 5) (by decide)) rfl rfl rfl
def rdI14 (f w : Int) : IN := ⟨f, 0, 0, 0, 0, 0 + bitsV w 0 8 * 2 ^ 0, 0, 0, 0, 0, 0⟩
theorem rd_14 {f w : Int} (h : shapeV f = 14) : readV f w = rdI14 f w := by
  unfold readV; rw [h]
  exact in_ext rfl rfl rfl rfl rfl (imm_ne (K := 14) (f := f) (by decide)) rfl (by_ne (K := 14) (k := xV 14 w 5) (by decide)) rfl rfl rfl
def rdI15 (f w : Int) : IN := ⟨f, 0, 0, 0, 0, leastV (0 + bitsV w 0 8 * 2 ^ 1) 9, 0, 0, 0, 0 + bitsV w 8 4 * 2 ^ 0, 0⟩
theorem rd_15 {f w : Int} (h : shapeV f = 15) : readV f w = rdI15 f w := by
  unfold readV; rw [h]
  exact in_ext rfl rfl rfl rfl rfl (rfl) rfl (by_ne (K := 15) (k := xV 15 w 5) (by decide)) rfl rfl rfl
def rdI16 (f w : Int) : IN := ⟨f, 0, 0, 0, 0, leastV (0 + bitsV w 0 11 * 2 ^ 1) 12, 0, 0, 0, 0, 0⟩
theorem rd_16 {f w : Int} (h : shapeV f = 16) : readV f w = rdI16 f w := by
  unfold readV; rw [h]
  exact in_ext rfl rfl rfl rfl rfl (rfl) rfl (by_ne (K := 16) (k := xV 16 w 5) (by decide)) rfl rfl rfl
def rdI17 (f w : Int) : IN := ⟨f, 0 + bitsV w 8 4 * 2 ^ 0, 0, 0, 0, 0 + bitsV w 26 1 * 2 ^ 11 + bitsV w 16 4 * 2 ^ 12 + bitsV w 12 3 * 2 ^ 8 + bitsV w 0 8 * 2 ^ 0, 0, 0, 0, 0, 0⟩
theorem rd_17 {f w : Int} (h : shapeV f = 17) : readV f w = rdI17 f w := by
  unfold readV; rw [h]
  exact in_ext rfl rfl rfl rfl rfl (imm_ne (K := 17) (f := f) (by decide)) rfl (by_ne (K := 17) (k := xV 17 w 5) (by decide)) rfl rfl rfl
def rdI18 (f w : Int) : IN := ⟨f, 0 + bitsV w 8 4 * 2 ^ 0, 0 + bitsV w 16 4 * 2 ^ 0, 0, 0, 0 + bitsV w 26 1 * 2 ^ 11 + bitsV w 12 3 * 2 ^ 8 + bitsV w 0 8 * 2 ^ 0, 0, 0, 0 + bitsV w 20 1 * 2 ^ 0, 0, 0⟩
theorem rd_18 {f w : Int} (h : shapeV f = 18) : readV f w = rdI18 f w := by
  unfold readV; rw [h]
  exact in_ext rfl rfl rfl rfl rfl (imm_ne (K := 18) (f := f) (by decide)) rfl (by_ne (K := 18) (k := xV 18 w 5) (by decide)) rfl rfl rfl
def rdI19 (f w : Int) : IN := ⟨f, 0 + bitsV w 8 4 * 2 ^ 0, 0, 0, 0, 0 + bitsV w 26 1 * 2 ^ 11 + bitsV w 12 3 * 2 ^ 8 + bitsV w 0 8 * 2 ^ 0, 0, 0, 0 + bitsV w 20 1 * 2 ^ 0, 0, 0⟩
theorem rd_19 {f w : Int} (h : shapeV f = 19) : readV f w = rdI19 f w := by
  unfold readV; rw [h]
  exact in_ext rfl rfl rfl rfl rfl (imm_ne (K := 19) (f := f) (by decide)) rfl (by_ne (K := 19) (k := xV 19 w 5) (by decide)) rfl rfl rfl
def rdI20 (f w : Int) : IN := ⟨f, 0, 0 + bitsV w 16 4 * 2 ^ 0, 0, 0, 0 + bitsV w 26 1 * 2 ^ 11 + bitsV w 12 3 * 2 ^ 8 + bitsV w 0 8 * 2 ^ 0, 0, 0, 0, 0, 0⟩
theorem rd_20 {f w : Int} (h : shapeV f = 20) : readV f w = rdI20 f w := by
  unfold readV; rw [h]
  exact in_ext rfl rfl rfl rfl rfl (imm_ne (K := 20) (f := f) (by decide)) rfl (by_ne (K := 20) (k := xV 20 w 5) (by decide)) rfl rfl rfl
def rdI21 (f w : Int) : IN := ⟨f, 0 + bitsV w 8 4 * 2 ^ 0, 0 + bitsV w 16 4 * 2 ^ 0, 0 + bitsV w 0 4 * 2 ^ 0, 0, 0, 0 + bitsV w 4 2 * 2 ^ 0, if 0 + bitsV w 12 3 * 2 ^ 2 + bitsV w 6 2 * 2 ^ 0 = 0 ∧ (0 + bitsV w 4 2 * 2 ^ 0 = 1 ∨ 0 + bitsV w 4 2 * 2 ^ 0 = 2) then 32 else 0 + bitsV w 12 3 * 2 ^ 2 + bitsV w 6 2 * 2 ^ 0, 0 + bitsV w 20 1 * 2 ^ 0, 0, 0⟩
theorem rd_21 {f w : Int} (h : shapeV f = 21) : readV f w = rdI21 f w := by
  unfold readV; rw [h]
  exact in_ext rfl rfl rfl rfl rfl (imm_ne (K := 21) (f := f) (by decide)) rfl (by_in (K := 21) (by decide)) rfl rfl rfl
def rdI22 (f w : Int) : IN := ⟨f, 0 + bitsV w 8 4 * 2 ^ 0, 0, 0 + bitsV w 0 4 * 2 ^ 0, 0, 0, 0 + bitsV w 4 2 * 2 ^ 0, if 0 + bitsV w 12 3 * 2 ^ 2 + bitsV w 6 2 * 2 ^ 0 = 0 ∧ (0 + bitsV w 4 2 * 2 ^ 0 = 1 ∨ 0 + bitsV w 4 2 * 2 ^ 0 = 2) then 32 else 0 + bitsV w 12 3 * 2 ^ 2 + bitsV w 6 2 * 2 ^ 0, 0 + bitsV w 20 1 * 2 ^ 0, 0, 0⟩
theorem rd_22 {f w : Int} (h : shapeV f = 22) : readV f w = rdI22 f w := by
  unfold readV; rw [h]
  exact in_ext rfl rfl rfl rfl rfl (imm_ne (K := 22) (f := f) (by decide)) rfl (by_in (K := 22) (by decide)) rfl rfl rfl
def rdI23 (f w : Int) : IN := ⟨f, 0, 0 + bitsV w 16 4 * 2 ^ 0, 0 + bitsV w 0 4 * 2 ^ 0, 0, 0, 0 + bitsV w 4 2 * 2 ^ 0, if 0 + bitsV w 12 3 * 2 ^ 2 + bitsV w 6 2 * 2 ^ 0 = 0 ∧ (0 + bitsV w 4 2 * 2 ^ 0 = 1 ∨ 0 + bitsV w 4 2 * 2 ^ 0 = 2) then 32 else 0 + bitsV w 12 3 * 2 ^ 2 + bitsV w 6 2 * 2 ^ 0, 0, 0, 0⟩
theorem rd_23 {f w : Int} (h : shapeV f = 23) : readV f w = rdI23 f w := by
  unfold readV; rw [h]
  exact in_ext rfl rfl rfl rfl rfl (imm_ne (K := 23) (f := f) (by decide)) rfl (by_in (K := 23) (by decide)) rfl rfl rfl
def rdI24 (f w : Int) : IN := ⟨f, 0 + bitsV w 8 4 * 2 ^ 0, 0 + bitsV w 16 4 * 2 ^ 0, 0, 0, 0 + bitsV w 26 1 * 2 ^ 11 + bitsV w 12 3 * 2 ^ 8 + bitsV w 0 8 * 2 ^ 0, 0, 0, 0, 0, 0⟩
theorem rd_24 {f w : Int} (h : shapeV f = 24) : readV f w = rdI24 f w := by
  unfold readV; rw [h]
  exact in_ext rfl rfl rfl rfl rfl (imm_ne (K := 24) (f := f) (by decide)) rfl (by_ne (K := 24) (k := xV 24 w 5) (by decide)) rfl rfl rfl
def rdI25 (f w : Int) : IN := ⟨f, 0 + bitsV w 12 4 * 2 ^ 0, 0 + bitsV w 16 4 * 2 ^ 0, 0, 0, 0 + bitsV w 0 12 * 2 ^ 0, 0, 0, 0, 0, 0⟩
theorem rd_25 {f w : Int} (h : shapeV f = 25) : readV f w = rdI25 f w := by
  unfold readV; rw [h]
  exact in_ext rfl rfl rfl rfl rfl (imm_ne (K := 25) (f := f) (by decide)) rfl (by_ne (K := 25) (k := xV 25 w 5) (by decide)) rfl rfl rfl
def rdI26 (f w : Int) : IN := ⟨f, 0 + bitsV w 12 4 * 2 ^ 0, 0 + bitsV w 16 4 * 2 ^ 0, 0 + bitsV w 0 4 * 2 ^ 0, 0, 0, 0, 0 + bitsV w 4 2 * 2 ^ 0, 0, 0, 0⟩
theorem rd_26 {f w : Int} (h : shapeV f = 26) : readV f w = rdI26 f w := by
  unfold readV; rw [h]
  exact in_ext rfl rfl rfl rfl rfl (imm_ne (K := 26) (f := f) (by decide)) rfl (by_ne (K := 26) (k := xV 26 w 5) (by decide)) rfl rfl rfl
def rdI27 (f w : Int) : IN := ⟨f, 0 + bitsV w 8 4 * 2 ^ 0, 0 + bitsV w 16 4 * 2 ^ 0, 0 + bitsV w 0 4 * 2 ^ 0, 0, 0, 0, 0, 0 + bitsV w 20 1 * 2 ^ 0, 0, 0⟩
theorem rd_27 {f w : Int} (h : shapeV f = 27) : readV f w = rdI27 f w := by
  unfold readV; rw [h]
  exact in_ext rfl rfl rfl rfl rfl (imm_ne (K := 27) (f := f) (by decide)) rfl (by_ne (K := 27) (k := xV 27 w 5) (by decide)) rfl rfl rfl
def rdI28 (f w : Int) : IN := ⟨f, 0 + bitsV w 8 4 * 2 ^ 0, 0 + bitsV w 16 4 * 2 ^ 0, 0 + bitsV w 0 4 * 2 ^ 0, 0, 0, 0, 0, 0, 0, 0⟩
theorem rd_28 {f w : Int} (h : shapeV f = 28) : readV f w = rdI28 f w := by
  unfold readV; rw [h]
  exact in_ext rfl rfl rfl rfl rfl (imm_ne (K := 28) (f := f) (by decide)) rfl (by_ne (K := 28) (k := xV 28 w 5) (by decide)) rfl rfl rfl
def rdI29 (f w : Int) : IN := ⟨f, 0 + bitsV w 8 4 * 2 ^ 0, 0 + bitsV w 16 4 * 2 ^ 0, 0 + bitsV w 0 4 * 2 ^ 0, 0 + bitsV w 12 4 * 2 ^ 0, 0, 0, 0, 0, 0, 0⟩
theorem rd_29 {f w : Int} (h : shapeV f = 29) : readV f w = rdI29 f w := by
  unfold readV; rw [h]
  exact in_ext rfl rfl rfl rfl rfl (imm_ne (K := 29) (f := f) (by decide)) rfl (by_ne (K := 29) (k := xV 29 w 5) (by decide)) rfl rfl rfl
def rdI30 (f w : Int) : IN := ⟨f, 0 + bitsV w 8 4 * 2 ^ 0, 0 + bitsV w 16 4 * 2 ^ 0, 0 + bitsV w 0 4 * 2 ^ 0, 0 + bitsV w 12 4 * 2 ^ 0, 0, 0, 0, 0, 0, 0⟩
theorem rd_30 {f w : Int} (h : shapeV f = 30) : readV f w = rdI30 f w := by
  unfold readV; rw [h]
  exact in_ext rfl rfl rfl rfl rfl (imm_ne (K := 30) (f := f) (by decide)) rfl (by_ne (K := 30) (k := xV 30 w 5) (by decide)) rfl rfl rfl
def rdI31 (f w : Int) : IN := ⟨f, 0 + bitsV w 12 4 * 2 ^ 0, 0 + bitsV w 16 4 * 2 ^ 0, 0 + bitsV w 0 4 * 2 ^ 0, 0 + bitsV w 8 4 * 2 ^ 0, 0, 0, 0, 0, 0, 0⟩
theorem rd_31 {f w : Int} (h : shapeV f = 31) : readV f w = rdI31 f w := by
  unfold readV; rw [h]
  exact in_ext rfl rfl rfl rfl rfl (imm_ne (K := 31) (f := f) (by decide)) rfl (by_ne (K := 31) (k := xV 31 w 5) (by decide)) rfl rfl rfl
def rdI32 (f w : Int) : IN := ⟨f, 0 + bitsV w 8 4 * 2 ^ 0, 0, bitsV w 0 4, 0, 0, 0, 0, 0, 0, 0⟩
theorem rd_32 {f w : Int} (h : shapeV f = 32) : readV f w = rdI32 f w := by
  unfold readV; rw [h]
  exact in_ext rfl rfl rfl rfl rfl (imm_ne (K := 32) (f := f) (by decide)) rfl (by_ne (K := 32) (k := xV 32 w 5) (by decide)) rfl rfl rfl
def rdI33 (f w : Int) : IN := ⟨f, 0, 0, 0, 0, leastV (0 + bitsV w 26 1 * 2 ^ 20 + bitsV w 16 6 * 2 ^ 12 + bitsV w 13 1 * 2 ^ 18 + bitsV w 11 1 * 2 ^ 19 + bitsV w 0 11 * 2 ^ 1) 21, 0, 0, 0, 0 + bitsV w 22 4 * 2 ^ 0, 0⟩
theorem rd_33 {f w : Int} (h : shapeV f = 33) : readV f w = rdI33 f w := by
  unfold readV; rw [h]
  exact in_ext rfl rfl rfl rfl rfl (rfl) rfl (by_ne (K := 33) (k := xV 33 w 5) (by decide)) rfl rfl rfl
def rdI34 (f w : Int) : IN := ⟨f, 0, 0, 0, 0, leastV (turnN (0 + bitsV w 26 1 * 2 ^ 24 + bitsV w 16 10 * 2 ^ 12 + bitsV w 13 1 * 2 ^ 23 + bitsV w 11 1 * 2 ^ 22 + bitsV w 0 11 * 2 ^ 1) 2) 25, 0, 0, 0, 0, 0⟩
theorem rd_34 {f w : Int} (h : shapeV f = 34) : readV f w = rdI34 f w := by
  unfold readV; rw [h]
  exact in_ext rfl rfl rfl rfl rfl (rfl) rfl (by_ne (K := 34) (k := xV 34 w 5) (by decide)) rfl rfl rfl

def U32 (x : Int) : Prop := 0 ≤ x ∧ x ≤ 4294967295
theorem cut_bits {x : Int} (hx : 0 ≤ x) (l w : Nat) : cutV x l w = bitsV x l w := by unfold cutV bitsV; rw [if_neg (by omega)]
theorem pow2_i64 (n : Nat) (h : n ≤ 64) : Ev.pow2 .i64 (n : Int) = 2 ^ n := by
  unfold Ev.pow2
  rw [Int.toNat_natCast, show min n (IntKind.bits .i64) = n from Nat.min_eq_left h]
  norm_cast
theorem q1 : Ev.pow2 .i64 1 = 2 := by decide
theorem q8 : Ev.pow2 .i64 8 = 256 := by decide
theorem q11 : Ev.pow2 .i64 11 = 2048 := by decide
theorem q12 : Ev.pow2 .i64 12 = 4096 := by decide
theorem q18 : Ev.pow2 .i64 18 = 262144 := by decide
theorem q19 : Ev.pow2 .i64 19 = 524288 := by decide
theorem q20 : Ev.pow2 .i64 20 = 1048576 := by decide
theorem q22 : Ev.pow2 .i64 22 = 4194304 := by decide
theorem q23 : Ev.pow2 .i64 23 = 8388608 := by decide
theorem q24 : Ev.pow2 .i64 24 = 16777216 := by decide
theorem q3 : Ev.pow2 .i64 3 = 8 := by decide
theorem r3 : Ev.pow2 .u32 3 = 8 := by decide
theorem r4 : Ev.pow2 .u32 4 = 16 := by decide
theorem r6 : Ev.pow2 .u32 6 = 64 := by decide
theorem r7 : Ev.pow2 .u32 7 = 128 := by decide
theorem r8 : Ev.pow2 .u32 8 = 256 := by decide
theorem r11 : Ev.pow2 .u32 11 = 2048 := by decide
theorem r12 : Ev.pow2 .u32 12 = 4096 := by decide
theorem r13 : Ev.pow2 .u32 13 = 8192 := by decide
theorem r16 : Ev.pow2 .u32 16 = 65536 := by decide
theorem r20 : Ev.pow2 .u32 20 = 1048576 := by decide
theorem r22 : Ev.pow2 .u32 22 = 4194304 := by decide
theorem r26 : Ev.pow2 .u32 26 = 67108864 := by decide
theorem at_pure (x : Int) (l w : Nat) (hx : U32 x) (hw : 1 ≤ w ∧ w ≤ 31) (hl : l ≤ 31) : PureF gT 69 [.int .u32 x, .int .i64 ((l : Int) + w - 1), .int .i64 l] (.int .i64 (bitsV x l w)) := by
  have b := bitsV_bd x l w
  have p := pow_bd w hw.2
  have c := cut_bits hx.1 l w
  refine Spec.enter gTok P69 100 Tryd.func69 rfl (by kernel_rfl) ?_
  refine ⟨[], no_rl, (cut_pure x l w hx hw hl).use (by repeat' first | exact trivial | exact rfl | exact Iff.rfl | exact Or.inl rfl | refine And.intro ?_ ?_) rfl rfl ?_⟩
  rw [c]
  refine .inl ⟨inR_i64 (by omega), ?_⟩
  exact retE rfl
theorem signed_pure (n : Int) (b : Nat) (hb : b ≤ 40) (hn : 0 ≤ n ∧ n < 2 ^ (b + 1)) : PureF gT 72 [.int .i64 n, .int .i64 b] (.int .i64 (leastV n (b + 1))) := by
  have p1 := pow2_i64 b (by omega)
  have p2 := pow2_i64 (b + 1) (by omega)
  have e : (((b + 1 : Nat)) : Int) = (b : Int) + 1 := rfl
  rw [e] at p2
  have d1 := pow_bd62 b (by omega)
  have d2 := pow_bd62 (b + 1) (by omega)
  have ep : (2 : Int) ^ (b + 1) = 2 ^ b * 2 := Int.pow_succ 2 b
  have d3 : (2 : Int) ^ (b + 1) ≤ 2199023255552 := by
    have h1 : (2 ^ (b + 1) : Nat) ≤ 2 ^ 41 := Nat.pow_le_pow_right (by omega) (by omega)
    have h3 := pow_cast (b + 1)
    omega
  obtain ⟨q, hq⟩ : ∃ q, q = n / 2 ^ b := ⟨_, rfl⟩
  have q0 : 0 ≤ q := by rw [hq]; exact Int.ediv_nonneg hn.1 (by omega)
  have q1 : q < 2 := by rw [hq]; exact Int.ediv_lt_of_lt_mul (by omega) (by omega)
  refine Spec.enter gTok P72 100 Tryd.func72 rfl (by kernel_rfl) ?_
  refine ⟨by omega, ?_⟩
  refine .inl ⟨inR_i64 (show _ ≤ (b : Int) + 1 ∧ (b : Int) + 1 ≤ _ by omega), ?_⟩
  have hm : n / 2 ^ b * 2 ^ (b + 1) = 0 ∨ n / 2 ^ b * 2 ^ (b + 1) = 2 ^ (b + 1) := by
    rw [← hq]
    have : q = 0 ∨ q = 1 := by omega
    rcases this with h | h <;> rw [h] <;> omega
  refine ⟨by omega, .inl ⟨inR_i64 (show _ ≤ n / Ev.pow2 .i64 (b : Int) * Ev.pow2 .i64 ((b : Int) + 1) ∧ n / Ev.pow2 .i64 (b : Int) * Ev.pow2 .i64 ((b : Int) + 1) ≤ _ by rw [p1, p2]; omega), ?_⟩⟩
  refine .inl ⟨inR_i64 (show _ ≤ n - n / Ev.pow2 .i64 (b : Int) * Ev.pow2 .i64 ((b : Int) + 1) ∧ n - n / Ev.pow2 .i64 (b : Int) * Ev.pow2 .i64 ((b : Int) + 1) ≤ _ by rw [p1, p2]; omega), ?_⟩
  refine retE ?_
  show n - n / Ev.pow2 .i64 (b : Int) * Ev.pow2 .i64 ((b : Int) + 1) = leastV n (b + 1)
  have eb : bitsV n b 1 = q := by
    unfold bitsV
    rw [if_neg (by omega), ← hq, show (2 : Int) ^ 1 = 2 from rfl]
    omega
  unfold leastV
  rw [p1, p2, Nat.add_sub_cancel, eb, ← hq]
  have : q = 0 ∨ q = 1 := by omega
  rcases this with h | h <;> rw [h]
  · rw [if_neg (by decide)]; omega
  · rw [if_pos rfl]; omega
theorem turned_pure (k b : Int) : PureF gT 70 [.int .i64 k, .int .i64 b] (.int .i64 (if b = 0 ∧ (k = 1 ∨ k = 2) then 32 else b)) := by
  refine Spec.enter gTok P70 100 Tryd.func70 rfl (by kernel_rfl) ?_
  repeat' ((conv => whnf); first | (refine (And.intro (fun _ => ?_) (fun _ => ?_) : (_ → _) ∧ (_ → _)) <;> (first | (exfalso; first | contradiction | omega) | skip)) | refine Or.inl (And.intro (by first | exact inR_i64 (by omega) | exact inR_u32 (by omega) | exact inR_u64 (by omega) | exact inR_u8 (by omega)) ?_) | (refine And.intro (show (_ : Int) ≠ 0 by omega) (Or.inl (And.intro (show (0 : Int) ≤ _ by omega) (And.intro (show (0 : Int) < _ by omega) ?_)))) | (refine And.intro (show (_ : Int) ≠ 0 by omega) (Or.inl (And.intro (show (0 : Int) ≤ _ by omega) (And.intro (by first | exact (show (_ : Int) ≤ 9223372036854775807 by omega) | exact (show (_ : Int) ≤ 4294967295 by omega)) (And.intro (show (0 : Int) < _ by omega) ?_))))) | (refine retE ?_; (show b = _); rw [if_neg (by omega)]) | (refine retE ?_; (show (32 : Int) = _); rw [if_pos (by omega)]) | (intro _))
def placesI (i : IN) (w : Int) : IN := {i with set := bitsV w 20 1, rn := bitsV w 16 4, rd := bitsV w 8 4, rm := bitsV w 0 4}
set_option maxHeartbeats 4000000 in
set_option maxRecDepth 100000 in
theorem places_pure (i : IN) (w : Int) (hw : U32 w) : PureF gT 73 [inP i, .int .u32 w] (inP (placesI i w)) := by
  refine Spec.enter gTok P73 100 Tryd.func73 rfl (by kernel_rfl) ?_
  refine ⟨[], no_rl, (at_pure w 20 1 hw (by decide) (by decide)).use (by repeat' first | exact trivial | exact rfl | exact Iff.rfl | exact Or.inl rfl | refine And.intro ?_ ?_) rfl rfl ?_⟩
  refine ⟨[], no_rl, (at_pure w 16 4 hw (by decide) (by decide)).use (by repeat' first | exact trivial | exact rfl | exact Iff.rfl | exact Or.inl rfl | refine And.intro ?_ ?_) rfl rfl ?_⟩
  refine ⟨[], no_rl, (at_pure w 8 4 hw (by decide) (by decide)).use (by repeat' first | exact trivial | exact rfl | exact Iff.rfl | exact Or.inl rfl | refine And.intro ?_ ?_) rfl rfl ?_⟩
  refine ⟨[], no_rl, (at_pure w 0 4 hw (by decide) (by decide)).use (by repeat' first | exact trivial | exact rfl | exact Iff.rfl | exact Or.inl rfl | refine And.intro ?_ ?_) rfl rfl ?_⟩
  (refine retE ?_; repeat' first | exact trivial | exact rfl | exact Iff.rfl | exact Or.inl rfl | refine And.intro ?_ ?_)
def threeI (i : IN) (w : Int) : IN := {i with rd := bitsV w 0 3, rn := bitsV w 3 3}
set_option maxHeartbeats 4000000 in
set_option maxRecDepth 100000 in
theorem three_pure (i : IN) (w : Int) (hw : U32 w) : PureF gT 71 [inP i, .int .u32 w] (inP (threeI i w)) := by
  refine Spec.enter gTok P71 100 Tryd.func71 rfl (by kernel_rfl) ?_
  refine ⟨[], no_rl, (at_pure w 0 3 hw (by decide) (by decide)).use (by repeat' first | exact trivial | exact rfl | exact Iff.rfl | exact Or.inl rfl | refine And.intro ?_ ?_) rfl rfl ?_⟩
  refine ⟨[], no_rl, (at_pure w 3 3 hw (by decide) (by decide)).use (by repeat' first | exact trivial | exact rfl | exact Iff.rfl | exact Or.inl rfl | refine And.intro ?_ ?_) rfl rfl ?_⟩
  (refine retE ?_; repeat' first | exact trivial | exact rfl | exact Iff.rfl | exact Or.inl rfl | refine And.intro ?_ ?_)
theorem same_pure (a b : Int) (ha : a = 0 ∨ a = 1) (hb : b = 0 ∨ b = 1) : PureF gT 84 [.int .u32 a, .int .u32 b] (.int .u32 (if a = b then 1 else 0)) := by
  refine Spec.enter gTok P84 100 Tryd.func84 rfl (by kernel_rfl) ?_
  refine retE ?_
  show bits .xor .u32 (bits .xor .u32 1 a) b = _
  rcases ha with rfl | rfl <;> rcases hb with rfl | rfl <;> decide
theorem or_comm64 (a b : Int) (ha : 0 ≤ a ∧ a ≤ 4294967295) (hb : 0 ≤ b ∧ b ≤ 4294967295) : bits .or .i64 a b = bits .or .i64 b a := by
  have ea : a = (a.toNat : Int) := by omega
  have eb : b = (b.toNat : Int) := by omega
  rw [ea, eb, Rm.i64_or_ _ _ (by omega) (by omega), Rm.i64_or_ _ _ (by omega) (by omega), Nat.or_comm]
def numT (w : Int) : Int := bitsV w 26 1 * 2048 + bitsV w 12 3 * 256 + bitsV w 0 8
theorem num_bd (w : Int) : 0 ≤ numT w ∧ numT w < 4096 := by
  have b1 := bitsV_bd w 26 1
  have b2 := bitsV_bd w 12 3
  have b3 := bitsV_bd w 0 8
  unfold numT; omega
theorem num_or (w : Int) : bits .or .i64 (bits .or .i64 (bitsV w 26 1 * 2048) (bitsV w 12 3 * 256)) (bitsV w 0 8) = numT w := by
  have b1 := bitsV_bd w 26 1
  have b2 := bitsV_bd w 12 3
  have b3 := bitsV_bd w 0 8
  rw [Rm.i64_join (bitsV w 26 1 * 2048) (bitsV w 12 3 * 256) 11 (by omega) (by omega) (by omega) (by omega) (by omega) (by omega)]
  rw [Rm.i64_join (bitsV w 26 1 * 2048 + bitsV w 12 3 * 256) (bitsV w 0 8) 8 (by omega) (by omega) (by omega) (by omega) (by omega) (by omega)]
  rfl
set_option maxHeartbeats 4000000 in
set_option maxRecDepth 100000 in
theorem number_f (w : Int) (hw : U32 w) : PureF gT 74 [.int .u32 w, .ff] (.int .i64 (numT w)) := by
  have b1 := bitsV_bd w 26 1
  have b2 := bitsV_bd w 12 3
  have b3 := bitsV_bd w 0 8
  refine Spec.enter gTok P74 100 Tryd.func74 rfl (by kernel_rfl) ?_
  refine ⟨[], no_rl, (at_pure w 26 1 hw (by decide) (by decide)).use (by repeat' first | exact trivial | exact rfl | exact Iff.rfl | exact Or.inl rfl | refine And.intro ?_ ?_) rfl rfl ?_⟩
  refine ⟨by decide, .inl ⟨inR_i64 (by rw [q11]; omega), ?_⟩⟩
  refine ⟨[], no_rl, (at_pure w 12 3 hw (by decide) (by decide)).use (by repeat' first | exact trivial | exact rfl | exact Iff.rfl | exact Or.inl rfl | refine And.intro ?_ ?_) rfl rfl ?_⟩
  refine ⟨by decide, .inl ⟨inR_i64 (by rw [q8]; omega), ?_⟩⟩
  refine ⟨[], no_rl, (at_pure w 0 8 hw (by decide) (by decide)).use (by repeat' first | exact trivial | exact rfl | exact Iff.rfl | exact Or.inl rfl | refine And.intro ?_ ?_) rfl rfl ?_⟩
  refine retE ?_
  show bits .or .i64 (bits .or .i64 (bitsV w 26 1 * Ev.pow2 .i64 11) (bitsV w 12 3 * Ev.pow2 .i64 8)) (bitsV w 0 8) = numT w
  rw [q11, q8, num_or]
set_option maxHeartbeats 4000000 in
set_option maxRecDepth 100000 in
theorem number_t (w : Int) (hw : U32 w) : PureF gT 74 [.int .u32 w, .tt] (.int .i64 (numT w + bitsV w 16 4 * 4096)) := by
  have b1 := bitsV_bd w 26 1
  have b2 := bitsV_bd w 12 3
  have b3 := bitsV_bd w 0 8
  have b4 := bitsV_bd w 16 4
  refine Spec.enter gTok P74 100 Tryd.func74 rfl (by kernel_rfl) ?_
  refine ⟨[], no_rl, (at_pure w 26 1 hw (by decide) (by decide)).use (by repeat' first | exact trivial | exact rfl | exact Iff.rfl | exact Or.inl rfl | refine And.intro ?_ ?_) rfl rfl ?_⟩
  refine ⟨by decide, .inl ⟨inR_i64 (by rw [q11]; omega), ?_⟩⟩
  refine ⟨[], no_rl, (at_pure w 12 3 hw (by decide) (by decide)).use (by repeat' first | exact trivial | exact rfl | exact Iff.rfl | exact Or.inl rfl | refine And.intro ?_ ?_) rfl rfl ?_⟩
  refine ⟨by decide, .inl ⟨inR_i64 (by rw [q8]; omega), ?_⟩⟩
  refine ⟨[], no_rl, (at_pure w 0 8 hw (by decide) (by decide)).use (by repeat' first | exact trivial | exact rfl | exact Iff.rfl | exact Or.inl rfl | refine And.intro ?_ ?_) rfl rfl ?_⟩
  refine ⟨[], no_rl, (at_pure w 16 4 hw (by decide) (by decide)).use (by repeat' first | exact trivial | exact rfl | exact Iff.rfl | exact Or.inl rfl | refine And.intro ?_ ?_) rfl rfl ?_⟩
  refine ⟨by decide, .inl ⟨inR_i64 (by rw [q12]; omega), ?_⟩⟩
  refine retE ?_
  show bits .or .i64 (bits .or .i64 (bits .or .i64 (bitsV w 26 1 * Ev.pow2 .i64 11) (bitsV w 12 3 * Ev.pow2 .i64 8)) (bitsV w 0 8)) (bitsV w 16 4 * Ev.pow2 .i64 12) = _
  have nb := num_bd w
  rw [q11, q8, q12, num_or, or_comm64 _ _ (by omega) (by omega), Rm.i64_join (bitsV w 16 4 * 4096) (numT w) 12 (by omega) (by omega) (by omega) (by omega) (by omega) (by omega)]
  omega
def condT (w : Int) : Int := 0 + bitsV w 26 1 * 2 ^ 20 + bitsV w 16 6 * 2 ^ 12 + bitsV w 13 1 * 2 ^ 18 + bitsV w 11 1 * 2 ^ 19 + bitsV w 0 11 * 2 ^ 1
set_option maxHeartbeats 4000000 in
set_option maxRecDepth 100000 in
theorem condOf_pure (w : Int) (hw : U32 w) : PureF gT 77 [.int .u32 w] (.int .i64 (leastV (condT w) 21)) := by
  have b1 := bitsV_bd w 26 1
  have b2 := bitsV_bd w 11 1
  have b3 := bitsV_bd w 13 1
  have b4 := bitsV_bd w 16 6
  have b5 := bitsV_bd w 0 11
  refine Spec.enter gTok P77 100 Tryd.func77 rfl (by kernel_rfl) ?_
  refine ⟨[], no_rl, (at_pure w 26 1 hw (by decide) (by decide)).use (by repeat' first | exact trivial | exact rfl | exact Iff.rfl | exact Or.inl rfl | refine And.intro ?_ ?_) rfl rfl ?_⟩
  refine ⟨by decide, .inl ⟨inR_i64 (by rw [q20]; omega), ?_⟩⟩
  refine ⟨[], no_rl, (at_pure w 11 1 hw (by decide) (by decide)).use (by repeat' first | exact trivial | exact rfl | exact Iff.rfl | exact Or.inl rfl | refine And.intro ?_ ?_) rfl rfl ?_⟩
  refine ⟨by decide, .inl ⟨inR_i64 (by rw [q19]; omega), ?_⟩⟩
  refine ⟨[], no_rl, (at_pure w 13 1 hw (by decide) (by decide)).use (by repeat' first | exact trivial | exact rfl | exact Iff.rfl | exact Or.inl rfl | refine And.intro ?_ ?_) rfl rfl ?_⟩
  refine ⟨by decide, .inl ⟨inR_i64 (by rw [q18]; omega), ?_⟩⟩
  refine ⟨[], no_rl, (at_pure w 16 6 hw (by decide) (by decide)).use (by repeat' first | exact trivial | exact rfl | exact Iff.rfl | exact Or.inl rfl | refine And.intro ?_ ?_) rfl rfl ?_⟩
  refine ⟨by decide, .inl ⟨inR_i64 (by rw [q12]; omega), ?_⟩⟩
  refine ⟨[], no_rl, (at_pure w 0 11 hw (by decide) (by decide)).use (by repeat' first | exact trivial | exact rfl | exact Iff.rfl | exact Or.inl rfl | refine And.intro ?_ ?_) rfl rfl ?_⟩
  refine ⟨by decide, .inl ⟨inR_i64 (by rw [q1]; omega), ?_⟩⟩
  have e : bits .or .i64 (bits .or .i64 (bits .or .i64 (bits .or .i64 (bitsV w 26 1 * Ev.pow2 .i64 20) (bitsV w 11 1 * Ev.pow2 .i64 19)) (bitsV w 13 1 * Ev.pow2 .i64 18)) (bitsV w 16 6 * Ev.pow2 .i64 12)) (bitsV w 0 11 * Ev.pow2 .i64 1) = condT w := by
    rw [q20, q19, q18, q12, q1]
    rw [Rm.i64_join (bitsV w 26 1 * 1048576) (bitsV w 11 1 * 524288) 20 (by omega) (by omega) (by omega) (by omega) (by omega) (by omega)]
    rw [Rm.i64_join (bitsV w 26 1 * 1048576 + bitsV w 11 1 * 524288) (bitsV w 13 1 * 262144) 19 (by omega) (by omega) (by omega) (by omega) (by omega) (by omega)]
    rw [Rm.i64_join (bitsV w 26 1 * 1048576 + bitsV w 11 1 * 524288 + bitsV w 13 1 * 262144) (bitsV w 16 6 * 4096) 18 (by omega) (by omega) (by omega) (by omega) (by omega) (by omega)]
    rw [Rm.i64_join (bitsV w 26 1 * 1048576 + bitsV w 11 1 * 524288 + bitsV w 13 1 * 262144 + bitsV w 16 6 * 4096) (bitsV w 0 11 * 2) 12 (by omega) (by omega) (by omega) (by omega) (by omega) (by omega)]
    unfold condT; omega
  have hb : 0 ≤ condT w ∧ condT w < 2 ^ (20 + 1) := by unfold condT; omega
  refine ⟨[], no_rl, (signed_pure (condT w) 20 (by decide) hb).use (And.intro e (And.intro rfl trivial)) rfl rfl ?_⟩
  exact retE rfl
def jumpT (w : Int) : Int := 0 + bitsV w 26 1 * 2 ^ 24 + bitsV w 16 10 * 2 ^ 12 + bitsV w 13 1 * 2 ^ 23 + bitsV w 11 1 * 2 ^ 22 + bitsV w 0 11 * 2 ^ 1
theorem jumpT_bits (w : Int) : 0 ≤ jumpT w ∧ jumpT w < 33554432 ∧ jumpT w / 16777216 = bitsV w 26 1 ∧ jumpT w / 8388608 % 2 = bitsV w 13 1 ∧ jumpT w / 4194304 % 2 = bitsV w 11 1 ∧ jumpT w % 4194304 = bitsV w 16 10 * 4096 + bitsV w 0 11 * 2 := by
  have b1 := bitsV_bd w 26 1
  have b2 := bitsV_bd w 11 1
  have b3 := bitsV_bd w 13 1
  have b4 := bitsV_bd w 16 10
  have b5 := bitsV_bd w 0 11
  unfold jumpT; omega
theorem jumpT_turn (w : Int) : turnN (jumpT w) 2 = bitsV w 26 1 * 16777216 + (if bitsV w 13 1 = bitsV w 26 1 then 1 else 0) * 8388608 + (if bitsV w 11 1 = bitsV w 26 1 then 1 else 0) * 4194304 + bitsV w 16 10 * 4096 + bitsV w 0 11 * 2 := by
  obtain ⟨h0, h1, h2, h3, h4, h5⟩ := jumpT_bits w
  have b := turn_bits ⟨h0, h1⟩
  have c := turn_bd ⟨h0, h1⟩
  have e : jumpT w / 16777216 % 2 = bitsV w 26 1 := by omega
  rw [h2, h3, h4, h5, ← h2, h2] at b
  have e2 : bitsV w 26 1 % 2 = bitsV w 26 1 := by omega
  rw [e2] at b
  obtain ⟨t, ht⟩ : ∃ t, t = turnN (jumpT w) 2 := ⟨_, rfl⟩
  rw [← ht] at b c ⊢
  clear ht
  obtain ⟨k1, k2, k3, k4⟩ := b
  rw [← k3, ← k4]
  clear k3 k4
  omega
set_option maxHeartbeats 4000000 in
set_option maxRecDepth 100000 in
theorem jumpOf_pure (w : Int) (hw : U32 w) : PureF gT 78 [.int .u32 w] (.int .i64 (leastV (turnN (jumpT w) 2) 25)) := by
  have b1 := bitsV_bd w 26 1
  have b2 := bitsV_bd w 11 1
  have b3 := bitsV_bd w 13 1
  have b4 := bitsV_bd w 16 10
  have b5 := bitsV_bd w 0 11
  have c1 : cutV w 26 1 = bitsV w 26 1 := cut_bits hw.1 26 1
  have c2 : cutV w 13 1 = bitsV w 13 1 := cut_bits hw.1 13 1
  have c3 : cutV w 11 1 = bitsV w 11 1 := cut_bits hw.1 11 1
  have s2 := same_pure (bitsV w 13 1) (bitsV w 26 1) (bit_bd w 13) (bit_bd w 26)
  have s3 := same_pure (bitsV w 11 1) (bitsV w 26 1) (bit_bd w 11) (bit_bd w 26)
  have k2 := cut_pure w 26 1 hw (by decide) (by decide)
  have k3 := cut_pure w 13 1 hw (by decide) (by decide)
  have k4 := cut_pure w 11 1 hw (by decide) (by decide)
  rw [c1] at k2
  rw [c2] at k3
  rw [c3] at k4
  have jt := jumpT_turn w
  obtain ⟨m2, hm2⟩ : ∃ m : Int, m = if bitsV w 13 1 = bitsV w 26 1 then 1 else 0 := ⟨_, rfl⟩
  obtain ⟨m3, hm3⟩ : ∃ m : Int, m = if bitsV w 11 1 = bitsV w 26 1 then 1 else 0 := ⟨_, rfl⟩
  have d2 : 0 ≤ m2 ∧ m2 ≤ 1 := by rw [hm2]; split <;> omega
  have d3 : 0 ≤ m3 ∧ m3 ≤ 1 := by rw [hm3]; split <;> omega
  rw [← hm2] at s2 jt
  rw [← hm3] at s3 jt
  refine Spec.enter gTok P78 100 Tryd.func78 rfl (by kernel_rfl) ?_
  refine ⟨[], no_rl, k2.use (by repeat' first | exact trivial | exact rfl | exact Iff.rfl | exact Or.inl rfl | refine And.intro ?_ ?_) rfl rfl ?_⟩
  refine .inl ⟨inR_i64 (by omega), ?_⟩
  refine ⟨by decide, .inl ⟨inR_i64 (by rw [q24]; omega), ?_⟩⟩
  refine ⟨[], no_rl, k3.use (by repeat' first | exact trivial | exact rfl | exact Iff.rfl | exact Or.inl rfl | refine And.intro ?_ ?_) rfl rfl ?_⟩
  refine ⟨[], no_rl, s2.use (by repeat' first | exact trivial | exact rfl | exact Iff.rfl | exact Or.inl rfl | refine And.intro ?_ ?_) rfl rfl ?_⟩
  refine .inl ⟨inR_i64 (by omega), ?_⟩
  refine ⟨by decide, .inl ⟨inR_i64 (by rw [q23]; omega), ?_⟩⟩
  refine ⟨[], no_rl, k4.use (by repeat' first | exact trivial | exact rfl | exact Iff.rfl | exact Or.inl rfl | refine And.intro ?_ ?_) rfl rfl ?_⟩
  refine ⟨[], no_rl, s3.use (by repeat' first | exact trivial | exact rfl | exact Iff.rfl | exact Or.inl rfl | refine And.intro ?_ ?_) rfl rfl ?_⟩
  refine .inl ⟨inR_i64 (by omega), ?_⟩
  refine ⟨by decide, .inl ⟨inR_i64 (by rw [q22]; omega), ?_⟩⟩
  refine ⟨[], no_rl, (at_pure w 16 10 hw (by decide) (by decide)).use (by repeat' first | exact trivial | exact rfl | exact Iff.rfl | exact Or.inl rfl | refine And.intro ?_ ?_) rfl rfl ?_⟩
  refine ⟨by decide, .inl ⟨inR_i64 (by rw [q12]; omega), ?_⟩⟩
  refine ⟨[], no_rl, (at_pure w 0 11 hw (by decide) (by decide)).use (by repeat' first | exact trivial | exact rfl | exact Iff.rfl | exact Or.inl rfl | refine And.intro ?_ ?_) rfl rfl ?_⟩
  refine ⟨by decide, .inl ⟨inR_i64 (by rw [q1]; omega), ?_⟩⟩
  have e : bits .or .i64 (bits .or .i64 (bits .or .i64 (bits .or .i64 (bitsV w 26 1 * Ev.pow2 .i64 24) (m2 * Ev.pow2 .i64 23)) (m3 * Ev.pow2 .i64 22)) (bitsV w 16 10 * Ev.pow2 .i64 12)) (bitsV w 0 11 * Ev.pow2 .i64 1) = turnN (jumpT w) 2 := by
    rw [q24, q23, q22, q12, q1]
    rw [Rm.i64_join (bitsV w 26 1 * 16777216) (m2 * 8388608) 24 (by omega) (by omega) (by omega) (by omega) (by omega) (by omega)]
    rw [Rm.i64_join (bitsV w 26 1 * 16777216 + m2 * 8388608) (m3 * 4194304) 23 (by omega) (by omega) (by omega) (by omega) (by omega) (by omega)]
    rw [Rm.i64_join (bitsV w 26 1 * 16777216 + m2 * 8388608 + m3 * 4194304) (bitsV w 16 10 * 4096) 22 (by omega) (by omega) (by omega) (by omega) (by omega) (by omega)]
    rw [Rm.i64_join (bitsV w 26 1 * 16777216 + m2 * 8388608 + m3 * 4194304 + bitsV w 16 10 * 4096) (bitsV w 0 11 * 2) 12 (by omega) (by omega) (by omega) (by omega) (by omega) (by omega)]
    rw [jt]
  have hb := turn_bd ⟨(jumpT_bits w).1, (jumpT_bits w).2.1⟩
  refine ⟨[], no_rl, (signed_pure (turnN (jumpT w) 2) 24 (by decide) ⟨hb.1, by omega⟩).use (And.intro e (And.intro rfl trivial)) rfl rfl ?_⟩
  exact retE rfl

end Go.Proofs.YtjcacjeoddnmhaaDoor.Pw

/- Chapter 4 over values: the document's fields of each shape, as known numbers (by gen_tu.py). -/
namespace Go.Proofs.YtjcacjeoddnmhaaDoor.Pw
open Go Go.RowKit

/-- a contract whose result says less -/
theorem PureF.weak {G : Gx} {f : FuncId} {args : List PV} {r r' : PV} (h : PureF G f args r) (hle : PLe r r') : PureF G f args r' := by
  refine Spec.intro h.run.1 fun I β w vals hH hM hA => ?_
  refine (h.run.2 I β w vals hH hM hA).mono fun e w' ⟨v, r1, S', I', β', he, hr, hi, hrest⟩ => ?_
  subst hr
  exact ⟨v, r', S', I', β', he, rfl, hle _ _ _ _ hi, hrest⟩
theorem pshapeLit {f K : Int} (h : shapeV f = K) : PureF gT 35 [.int .i64 f] (.lit .i64 K) :=
  (shape_pure f).weak (leK_ok (x := .int .i64 (shapeV f)) (y := .lit .i64 K) h)
end Go.Proofs.YtjcacjeoddnmhaaDoor.Pw

/- Chapter 4 over values: the program's bits of fields (by gen_tx.py). -/
namespace Go.Proofs.YtjcacjeoddnmhaaDoor.Pw
open Go Go.RowKit

/-- a field's bits in their place -/
def B (v : Int) (l w a : Nat) : Nat := (bitsV v l w).toNat <<< a
theorem B_lt (v : Int) {l w a : Nat} (h : w + a ≤ 32) : B v l w a < 4294967296 := by
  have b := bitsV_bd v l w
  have e := pow_cast w
  have h1 : (bitsV v l w).toNat < 2 ^ w := by omega
  unfold B
  rw [Nat.shiftLeft_eq]
  calc (bitsV v l w).toNat * 2 ^ a < 2 ^ w * 2 ^ a := Nat.mul_lt_mul_of_pos_right h1 (Nat.two_pow_pos a)
    _ = 2 ^ (w + a) := (Nat.pow_add ..).symm
    _ ≤ 2 ^ 32 := Nat.pow_le_pow_right (by omega) h
theorem B_eq (v : Int) (l w a : Nat) (p : Int) (hp : p = 2 ^ a) : bitsV v l w * p = ((B v l w a : Nat) : Int) := by
  have b := bitsV_bd v l w
  unfold B
  rw [Nat.shiftLeft_eq, hp, Int.natCast_mul, Int.toNat_of_nonneg b.1, pow_cast]
/-- a word as a number of nature, within its bounds -/
def IsN (x : Int) (a : Nat) : Prop := x = (a : Int) ∧ a < 4294967296
theorem IsN.or {x y : Int} {a b : Nat} (hx : IsN x a) (hy : IsN y b) : IsN (bits .or .u32 x y) (a ||| b) := by
  obtain ⟨rfl, ha⟩ := hx
  obtain ⟨rfl, hb⟩ := hy
  refine ⟨?_, Nat.or_lt_two_pow (n := 32) ha hb⟩
  rw [u32_or _ _ (by omega) (by omega) (by omega) (by omega), Int.toNat_natCast, Int.toNat_natCast]
theorem isB (v : Int) (l w a : Nat) {p : Int} (hp : p = 2 ^ a) (h : w + a ≤ 32) : IsN (bitsV v l w * p) (B v l w a) := ⟨B_eq v l w a p hp, B_lt v h⟩
theorem isB0 (v : Int) (l w : Nat) (h : w ≤ 32) : IsN (bitsV v l w) (B v l w 0) := ⟨by have := B_eq v l w 0 1 rfl; rwa [Int.mul_one] at this, B_lt v h⟩
theorem bits_id {v : Int} {w : Nat} (h : 0 ≤ v ∧ v < 2 ^ w) : bitsV v 0 w = v := by
  unfold bitsV
  rw [if_neg (by omega), show (2 : Int) ^ 0 = 1 from rfl, Int.ediv_one]
  exact Int.emod_eq_of_lt h.1 h.2
theorem isR (v : Int) (w a : Nat) {p : Int} (hp : p = 2 ^ a) (h : w + a ≤ 32) (hv : 0 ≤ v ∧ v < 2 ^ w) : IsN (v * p) (B v 0 w a) := by
  have := isB v 0 w a hp h
  rwa [bits_id hv] at this
theorem isR0 (v : Int) (w : Nat) (h : w ≤ 32) (hv : 0 ≤ v ∧ v < 2 ^ w) : IsN v (B v 0 w 0) := by
  have := isB0 v 0 w h
  rwa [bits_id hv] at this
theorem B_zero {v : Int} {l w a : Nat} (h : bitsV v l w = 0) : B v l w a = 0 := by unfold B; rw [h]; simp
theorem B_0 {v : Int} {l w a : Nat} (h : v = 0) : B v l w a = 0 := by
  subst h
  apply B_zero
  unfold bitsV
  rw [if_neg (by omega), Int.zero_ediv, Int.zero_emod]
/-- fields or-ed together -/
def orF (i : IN) (l : List (Nat × Nat × Nat × Nat)) : Nat := l.foldl (fun w x => w ||| B (getV i x.1) x.2.1 x.2.2.2 x.2.2.1) 0
theorem fold_or (i : IN) : ∀ (l : List (Nat × Nat × Nat × Nat)) (W V : Nat), l.foldl (putF i) (W ||| V) = W ||| l.foldl (fun w x => w ||| B (getV i x.1) x.2.1 x.2.2.2 x.2.2.1) V
  | [], _, _ => rfl
  | x :: l, W, V => by
    rw [List.foldl_cons, List.foldl_cons]
    have e : putF i (W ||| V) x = W ||| (V ||| B (getV i x.1) x.2.1 x.2.2.2 x.2.2.1) := by
      have h : (bitsV (getV i x.1) x.2.1 x.2.2.2).toNat < 2 ^ x.2.2.2 := vF_lt i x
      unfold putF plus B
      rw [Nat.mod_eq_of_lt h, Nat.or_assoc]
    rw [e, fold_or i l]
theorem wordF_or (i : IN) (l : List (Nat × Nat × Nat × Nat)) : wordF i l = (fbV i.form).toNat ||| orF i l := by
  unfold wordF orF
  rw [← fold_or i l, Nat.or_zero]
theorem word_or (i : IN) : wordV i = (((fbV i.form).toNat ||| orF (turnI i) (fieldsV (shapeV i.form)) : Nat) : Int) := by
  unfold wordV
  rw [wordF_or, turnI_form]
theorem or4_lt {a b : Nat} (ha : a < 4294967296) (hb : b < 4294967296) : a ||| b < 4294967296 := Nat.or_lt_two_pow (n := 32) ha hb
theorem isPlain (i : IN) : IsN ((B i.set 0 1 20 ||| B i.rn 0 4 16 ||| B i.ra 0 4 12 ||| B i.rd 0 4 8 ||| B i.rm 0 4 0 : Nat) : Int) (B i.set 0 1 20 ||| B i.rn 0 4 16 ||| B i.ra 0 4 12 ||| B i.rd 0 4 8 ||| B i.rm 0 4 0) :=
  ⟨rfl, or4_lt (or4_lt (or4_lt (or4_lt (B_lt _ (by decide)) (B_lt _ (by decide))) (B_lt _ (by decide))) (B_lt _ (by decide))) (B_lt _ (by decide))⟩
theorem isTwelve (n : Int) : IsN ((B n 11 1 26 ||| B n 12 4 16 ||| B n 8 3 12 ||| B n 0 8 0 : Nat) : Int) (B n 11 1 26 ||| B n 12 4 16 ||| B n 8 3 12 ||| B n 0 8 0) :=
  ⟨rfl, or4_lt (or4_lt (or4_lt (B_lt _ (by decide)) (B_lt _ (by decide))) (B_lt _ (by decide))) (B_lt _ (by decide))⟩
/-- a cut of a word, as the document's bits -/
theorem cutB (x : Int) (l w : Nat) (hx : U32 x) (hw : 1 ≤ w ∧ w ≤ 31) (hl : l ≤ 31) : PureF gT 83 [.int .u32 x, .int .i64 ((l : Int) + w - 1), .int .i64 l] (.int .u32 (bitsV x l w)) := by
  have h := cut_pure x l w hx hw hl
  rwa [cut_bits hx.1 l w] at h
theorem wrap_bits (v : Int) (l w : Nat) (h : l + w ≤ 32) (hv : -1099511627776 ≤ v) : cutV (IntKind.u32.wrap v) l w = bitsV v l w := by
  rw [IntKind.wrap_u32', cut_bits (by omega)]
  obtain ⟨n, hn⟩ : ∃ n : Nat, (n : Int) = if v < 0 then v + 1099511627776 else v := ⟨(if v < 0 then v + 1099511627776 else v).toNat, Int.toNat_of_nonneg (by split <;> omega)⟩
  have e : v % 4294967296 = ((n % 4294967296 : Nat) : Int) := by
    rw [Int.natCast_emod, hn]
    split <;> omega
  rw [e, bitsV_nat]
  unfold bitsV
  rw [← hn]
  have key : n % 4294967296 / 2 ^ l % 2 ^ w = n / 2 ^ l % 2 ^ w := by
    apply Nat.eq_of_testBit_eq
    intro p
    rw [Nat.testBit_mod_two_pow, Nat.testBit_mod_two_pow, Nat.testBit_div_two_pow, Nat.testBit_div_two_pow, show (4294967296 : Nat) = 2 ^ 32 from rfl, Nat.testBit_mod_two_pow]
    by_cases hp : p < w
    · rw [decide_eq_true hp, decide_eq_true (show p + l < 32 by omega)]; simp
    · rw [decide_eq_false hp]; simp
  rw [key, ← pow_cast, ← pow_cast]
  norm_cast
theorem cutW (v : Int) (l w : Nat) (hv : -1099511627776 ≤ v) (hw : 1 ≤ w ∧ w ≤ 31) (hl : l ≤ 31) (h : l + w ≤ 32) : PureF gT 83 [.int .u32 (IntKind.u32.wrap v), .int .i64 ((l : Int) + w - 1), .int .i64 l] (.int .u32 (bitsV v l w)) := by
  have hx : 0 ≤ IntKind.u32.wrap v ∧ IntKind.u32.wrap v ≤ 4294967295 := by rw [IntKind.wrap_u32']; omega
  have k := cut_pure (IntKind.u32.wrap v) l w hx hw hl
  rwa [wrap_bits v l w h hv] at k
theorem bits_div {v : Int} (h : 0 ≤ v) (w : Nat) : bitsV (v / 4) 0 w = bitsV v 2 w := by
  unfold bitsV
  rw [if_neg (by omega), if_neg (by omega), show (2 : Int) ^ 0 = 1 from rfl, show (2 : Int) ^ 2 = 4 from rfl, Int.ediv_one]
theorem B_div {v : Int} {w a : Nat} (h : 0 ≤ v) : B (v / 4) 0 w a = B v 2 w a := by unfold B; rw [bits_div h]
theorem isD (v : Int) (w : Nat) (h : w ≤ 32) (h0 : 0 ≤ v) (hv : v / 4 < 2 ^ w) : IsN (v / 4) (B v 2 w 0) := by
  have := isR0 (v / 4) w h ⟨by omega, hv⟩
  rwa [B_div h0] at this
set_option maxHeartbeats 4000000 in
set_option maxRecDepth 100000 in
theorem small_pure (i : IN) (v : Int) (w : Nat) (hv : 0 ≤ v ∧ v < 2 ^ w) (hd : 0 ≤ i.rd ∧ i.rd < 8) (hn : 0 ≤ i.rn ∧ i.rn < 8) (hw : w ≤ 20) : PureF gT 89 [inP i, .int .u32 v] (.int .u32 ((B v 0 w 6 ||| B i.rn 0 3 3 ||| B i.rd 0 3 0 : Nat) : Int)) := by
  have hp := pow_bd w (by omega)
  have hp2 : (2 : Int) ^ w ≤ 1048576 := by
    have h1 : (2 ^ w : Nat) ≤ 2 ^ 20 := Nat.pow_le_pow_right (by omega) hw
    have h3 := pow_cast w
    omega
  refine Spec.enter gTok P89 100 Tryd.func89 rfl (by kernel_rfl) ?_
  refine ⟨by decide, .inl ⟨inR_u32 (by rw [r6]; omega), ?_⟩⟩
  refine .inl ⟨inR_u32 (by omega), ?_⟩
  refine ⟨by decide, .inl ⟨inR_u32 (by rw [r3]; omega), ?_⟩⟩
  refine .inl ⟨inR_u32 (by omega), ?_⟩
  refine retE ?_
  exact (show bits .or .u32 (bits .or .u32 (v * Ev.pow2 .u32 6) (i.rn * Ev.pow2 .u32 3)) i.rd = _ from (((isR v w 6 (by decide) (by omega) hv).or (isR i.rn 3 3 (by decide) (by decide) hn)).or (isR0 i.rd 3 (by decide) hd)).1)
set_option maxHeartbeats 4000000 in
set_option maxRecDepth 100000 in
theorem plain_pure (i : IN) (hs : 0 ≤ i.set ∧ i.set < 2) (hd : 0 ≤ i.rd ∧ i.rd < 16) (hn : 0 ≤ i.rn ∧ i.rn < 16) (hm : 0 ≤ i.rm ∧ i.rm < 16) (ha : 0 ≤ i.ra ∧ i.ra < 16) : PureF gT 85 [inP i] (.int .u32 ((B i.set 0 1 20 ||| B i.rn 0 4 16 ||| B i.ra 0 4 12 ||| B i.rd 0 4 8 ||| B i.rm 0 4 0 : Nat) : Int)) := by
  refine Spec.enter gTok P85 100 Tryd.func85 rfl (by kernel_rfl) ?_
  refine .inl ⟨inR_u32 (by omega), ?_⟩
  refine ⟨by decide, .inl ⟨inR_u32 (by rw [r20]; omega), ?_⟩⟩
  refine .inl ⟨inR_u32 (by omega), ?_⟩
  refine ⟨by decide, .inl ⟨inR_u32 (by rw [r16]; omega), ?_⟩⟩
  refine .inl ⟨inR_u32 (by omega), ?_⟩
  refine ⟨by decide, .inl ⟨inR_u32 (by rw [r12]; omega), ?_⟩⟩
  refine .inl ⟨inR_u32 (by omega), ?_⟩
  refine ⟨by decide, .inl ⟨inR_u32 (by rw [r8]; omega), ?_⟩⟩
  refine .inl ⟨inR_u32 (by omega), ?_⟩
  refine retE ?_
  exact (show bits .or .u32 (bits .or .u32 (bits .or .u32 (bits .or .u32 (i.set * Ev.pow2 .u32 20) (i.rn * Ev.pow2 .u32 16)) (i.ra * Ev.pow2 .u32 12)) (i.rd * Ev.pow2 .u32 8)) i.rm = _ from (((((isR i.set 1 20 (by decide) (by decide) hs).or (isR i.rn 4 16 (by decide) (by decide) hn)).or (isR i.ra 4 12 (by decide) (by decide) ha)).or (isR i.rd 4 8 (by decide) (by decide) hd)).or (isR0 i.rm 4 (by decide) hm)).1)
set_option maxHeartbeats 4000000 in
set_option maxRecDepth 100000 in
theorem twelve_pure (n : Int) (hn : U32 n) : PureF gT 86 [.int .u32 n] (.int .u32 ((B n 11 1 26 ||| B n 12 4 16 ||| B n 8 3 12 ||| B n 0 8 0 : Nat) : Int)) := by
  have b0 := bitsV_bd n 11 1
  have b1 := bitsV_bd n 12 4
  have b2 := bitsV_bd n 8 3
  have b3 := bitsV_bd n 0 8
  refine Spec.enter gTok P86 100 Tryd.func86 rfl (by kernel_rfl) ?_
  refine ⟨[], no_rl, (cutB n 11 1 hn (by decide) (by decide)).use (by repeat' first | exact trivial | exact rfl | exact Iff.rfl | exact Or.inl rfl | refine And.intro ?_ ?_) rfl rfl ?_⟩
  refine ⟨by decide, .inl ⟨inR_u32 (by rw [r26]; omega), ?_⟩⟩
  refine ⟨[], no_rl, (cutB n 12 4 hn (by decide) (by decide)).use (by repeat' first | exact trivial | exact rfl | exact Iff.rfl | exact Or.inl rfl | refine And.intro ?_ ?_) rfl rfl ?_⟩
  refine ⟨by decide, .inl ⟨inR_u32 (by rw [r16]; omega), ?_⟩⟩
  refine ⟨[], no_rl, (cutB n 8 3 hn (by decide) (by decide)).use (by repeat' first | exact trivial | exact rfl | exact Iff.rfl | exact Or.inl rfl | refine And.intro ?_ ?_) rfl rfl ?_⟩
  refine ⟨by decide, .inl ⟨inR_u32 (by rw [r12]; omega), ?_⟩⟩
  refine ⟨[], no_rl, (cutB n 0 8 hn (by decide) (by decide)).use (by repeat' first | exact trivial | exact rfl | exact Iff.rfl | exact Or.inl rfl | refine And.intro ?_ ?_) rfl rfl ?_⟩
  refine retE ?_
  exact (show bits .or .u32 (bits .or .u32 (bits .or .u32 (bitsV n 11 1 * Ev.pow2 .u32 26) (bitsV n 12 4 * Ev.pow2 .u32 16)) (bitsV n 8 3 * Ev.pow2 .u32 12)) (bitsV n 0 8) = _ from ((((isB n 11 1 26 (by decide) (by decide)).or (isB n 12 4 16 (by decide) (by decide))).or (isB n 8 3 12 (by decide) (by decide))).or (isB0 n 0 8 (by decide))).1)

end Go.Proofs.YtjcacjeoddnmhaaDoor.Pw

/- Chapter 4 over values: the program's bits of narrow shapes (by gen_tx.py). -/
namespace Go.Proofs.YtjcacjeoddnmhaaDoor.Pw
open Go Go.RowKit

set_option maxHeartbeats 8000000 in
set_option maxRecDepth 100000 in
theorem narrow_1 (i : IN) (hs : shapeV i.form = 1) (hr : rightR i (ruW 1)) (hg : i.regs ≤ 9223372036854775807) : PureF gT 80 [inP i] (.int .u32 ((orF i (fieldsV 1) : Nat) : Int)) := by
  obtain ⟨hf, h1, h2, h3, h4, h5, h6, h7, h8, h9, h10⟩ := hr
  have g0 := has_1 (r := i.rd) h1
  have g1 := has_0 (r := i.rn) h2
  have g2 := has_1 (r := i.rm) h3
  have g3 := has_0 (r := i.ra) h4
  have g4 : 0 ≤ i.imm ∧ i.imm ≤ 32 ∧ i.imm % 1 = 0 := sp_s (s := 1) (by decide) h7
  have g5 : i.kind = 0 := (sh_0 rfl h9).1
  have g6 : i.by_ = 0 := sp_0 (sh_0 rfl h9).2
  have g7 : i.set = 0 := h8.elim id fun e => absurd (show false = true from e.2) Bool.false_ne_true
  have g8 : i.cond = 0 := h6.elim id fun e => absurd (show false = true from e.1) Bool.false_ne_true
  clear h1 h2 h3 h4 h5 h6 h7 h8 h9 h10
  have b0 := bitsV_bd i.imm 0 5
  refine Spec.enter gTok P80 100 Tryd.func80 rfl (by kernel_rfl) ?_
  refine .inl ⟨inR_u32 (by omega), ?_⟩
  refine .inl ⟨inR_u32 (by omega), ?_⟩
  refine .inl ⟨inR_u32 (by omega), ?_⟩
  refine ⟨[], no_rl, (pshapeLit hs).use (And.intro rfl trivial) rfl rfl ?_⟩
  refine ⟨[], no_rl, (cutB i.imm 0 5 (by unfold U32; omega) (by decide) (by decide)).use (And.intro rfl (And.intro rfl (And.intro rfl trivial))) rfl rfl ?_⟩
  refine ⟨by decide, .inl ⟨inR_u32 (by rw [r6]; omega), ?_⟩⟩
  refine ⟨by decide, .inl ⟨inR_u32 (by rw [r3]; omega), ?_⟩⟩
  refine retE ?_
  have eo : orF i (fieldsV 1) = 0 ||| B i.imm 0 5 6 ||| B i.rm 0 3 3 ||| B i.rd 0 3 0 := rfl
  rw [eo]
  refine (show bits .or .u32 (bits .or .u32 (bitsV i.imm 0 5 * Ev.pow2 .u32 6) (i.rm * Ev.pow2 .u32 3)) (i.rd) = _ from ?_)
  refine ((((((isB i.imm 0 5 6 (by decide) (by decide))).or (isR i.rm 3 3 (by decide) (by decide) (by omega)))).or (isR0 i.rd 3 (by decide) (by omega)))).1.trans (congrArg (fun n : Nat => (n : Int)) ?_)
  first
  | (simp only [Nat.or_zero, Nat.zero_or]; done)
  | (simp only [Nat.or_zero, Nat.zero_or]
     generalize B i.imm 0 5 6 = n0
     generalize B i.rm 0 3 3 = n1
     generalize B i.rd 0 3 0 = n2
     ac_rfl)
set_option maxHeartbeats 8000000 in
set_option maxRecDepth 100000 in
theorem narrow_2 (i : IN) (hs : shapeV i.form = 2) (hr : rightR i (ruW 2)) (hg : i.regs ≤ 9223372036854775807) : PureF gT 80 [inP i] (.int .u32 ((orF i (fieldsV 2) : Nat) : Int)) := by
  obtain ⟨hf, h1, h2, h3, h4, h5, h6, h7, h8, h9, h10⟩ := hr
  have g0 := has_1 (r := i.rd) h1
  have g1 := has_1 (r := i.rn) h2
  have g2 := has_1 (r := i.rm) h3
  have g3 := has_0 (r := i.ra) h4
  have g4 : i.imm = 0 := sp_0 h7
  have g5 : i.kind = 0 := (sh_0 rfl h9).1
  have g6 : i.by_ = 0 := sp_0 (sh_0 rfl h9).2
  have g7 : i.set = 0 := h8.elim id fun e => absurd (show false = true from e.2) Bool.false_ne_true
  have g8 : i.cond = 0 := h6.elim id fun e => absurd (show false = true from e.1) Bool.false_ne_true
  clear h1 h2 h3 h4 h5 h6 h7 h8 h9 h10
  refine Spec.enter gTok P80 100 Tryd.func80 rfl (by kernel_rfl) ?_
  refine .inl ⟨inR_u32 (by omega), ?_⟩
  refine .inl ⟨inR_u32 (by omega), ?_⟩
  refine .inl ⟨inR_u32 (by omega), ?_⟩
  refine ⟨[], no_rl, (pshapeLit hs).use (And.intro rfl trivial) rfl rfl ?_⟩
  refine ⟨[], no_rl, (small_pure i i.rm 3 (by omega) (by omega) (by omega) (by decide)).use (by repeat' first | exact trivial | exact rfl | exact Iff.rfl | exact Or.inl rfl | refine And.intro ?_ ?_) rfl rfl ?_⟩
  refine retE ?_
  have eo : orF i (fieldsV 2) = 0 ||| B i.rm 0 3 6 ||| B i.rn 0 3 3 ||| B i.rd 0 3 0 := rfl
  rw [eo]
  refine (show _ = _ from congrArg (fun n : Nat => (n : Int)) ?_)
  simp only [Nat.zero_or]
set_option maxHeartbeats 8000000 in
set_option maxRecDepth 100000 in
theorem narrow_3 (i : IN) (hs : shapeV i.form = 3) (hr : rightR i (ruW 3)) (hg : i.regs ≤ 9223372036854775807) : PureF gT 80 [inP i] (.int .u32 ((orF i (fieldsV 3) : Nat) : Int)) := by
  obtain ⟨hf, h1, h2, h3, h4, h5, h6, h7, h8, h9, h10⟩ := hr
  have g0 := has_1 (r := i.rd) h1
  have g1 := has_1 (r := i.rn) h2
  have g2 := has_0 (r := i.rm) h3
  have g3 := has_0 (r := i.ra) h4
  have g4 : 0 ≤ i.imm ∧ i.imm ≤ 7 ∧ i.imm % 1 = 0 := sp_s (s := 1) (by decide) h7
  have g5 : i.kind = 0 := (sh_0 rfl h9).1
  have g6 : i.by_ = 0 := sp_0 (sh_0 rfl h9).2
  have g7 : i.set = 0 := h8.elim id fun e => absurd (show false = true from e.2) Bool.false_ne_true
  have g8 : i.cond = 0 := h6.elim id fun e => absurd (show false = true from e.1) Bool.false_ne_true
  clear h1 h2 h3 h4 h5 h6 h7 h8 h9 h10
  refine Spec.enter gTok P80 100 Tryd.func80 rfl (by kernel_rfl) ?_
  refine .inl ⟨inR_u32 (by omega), ?_⟩
  refine .inl ⟨inR_u32 (by omega), ?_⟩
  refine .inl ⟨inR_u32 (by omega), ?_⟩
  refine ⟨[], no_rl, (pshapeLit hs).use (And.intro rfl trivial) rfl rfl ?_⟩
  refine ⟨[], no_rl, (small_pure i i.imm 3 (by omega) (by omega) (by omega) (by decide)).use (by repeat' first | exact trivial | exact rfl | exact Iff.rfl | exact Or.inl rfl | refine And.intro ?_ ?_) rfl rfl ?_⟩
  refine retE ?_
  have eo : orF i (fieldsV 3) = 0 ||| B i.imm 0 3 6 ||| B i.rn 0 3 3 ||| B i.rd 0 3 0 := rfl
  rw [eo]
  refine (show _ = _ from congrArg (fun n : Nat => (n : Int)) ?_)
  simp only [Nat.zero_or]
set_option maxHeartbeats 8000000 in
set_option maxRecDepth 100000 in
theorem narrow_4 (i : IN) (hs : shapeV i.form = 4) (hr : rightR i (ruW 4)) (hg : i.regs ≤ 9223372036854775807) : PureF gT 80 [inP i] (.int .u32 ((orF i (fieldsV 4) : Nat) : Int)) := by
  obtain ⟨hf, h1, h2, h3, h4, h5, h6, h7, h8, h9, h10⟩ := hr
  have g0 := has_1 (r := i.rd) h1
  have g1 := has_0 (r := i.rn) h2
  have g2 := has_0 (r := i.rm) h3
  have g3 := has_0 (r := i.ra) h4
  have g4 : 0 ≤ i.imm ∧ i.imm ≤ 255 ∧ i.imm % 1 = 0 := sp_s (s := 1) (by decide) h7
  have g5 : i.kind = 0 := (sh_0 rfl h9).1
  have g6 : i.by_ = 0 := sp_0 (sh_0 rfl h9).2
  have g7 : i.set = 0 := h8.elim id fun e => absurd (show false = true from e.2) Bool.false_ne_true
  have g8 : i.cond = 0 := h6.elim id fun e => absurd (show false = true from e.1) Bool.false_ne_true
  clear h1 h2 h3 h4 h5 h6 h7 h8 h9 h10
  refine Spec.enter gTok P80 100 Tryd.func80 rfl (by kernel_rfl) ?_
  refine .inl ⟨inR_u32 (by omega), ?_⟩
  refine .inl ⟨inR_u32 (by omega), ?_⟩
  refine .inl ⟨inR_u32 (by omega), ?_⟩
  refine ⟨[], no_rl, (pshapeLit hs).use (And.intro rfl trivial) rfl rfl ?_⟩
  refine ⟨by decide, .inl ⟨inR_u32 (by rw [r8]; omega), ?_⟩⟩
  refine retE ?_
  have eo : orF i (fieldsV 4) = 0 ||| B i.rd 0 3 8 ||| B i.imm 0 8 0 := rfl
  rw [eo]
  refine (show bits .or .u32 (i.rd * Ev.pow2 .u32 8) (i.imm) = _ from ?_)
  refine ((((isR i.rd 3 8 (by decide) (by decide) (by omega))).or (isR0 i.imm 8 (by decide) (by omega)))).1.trans (congrArg (fun n : Nat => (n : Int)) ?_)
  first
  | (simp only [Nat.or_zero, Nat.zero_or]; done)
  | (simp only [Nat.or_zero, Nat.zero_or]
     generalize B i.rd 0 3 8 = n0
     generalize B i.imm 0 8 0 = n1
     ac_rfl)
set_option maxHeartbeats 8000000 in
set_option maxRecDepth 100000 in
theorem narrow_5 (i : IN) (hs : shapeV i.form = 5) (hr : rightR i (ruW 5)) (hg : i.regs ≤ 9223372036854775807) : PureF gT 80 [inP i] (.int .u32 ((orF i (fieldsV 5) : Nat) : Int)) := by
  obtain ⟨hf, h1, h2, h3, h4, h5, h6, h7, h8, h9, h10⟩ := hr
  have g0 := has_1 (r := i.rd) h1
  have g1 := has_0 (r := i.rn) h2
  have g2 := has_1 (r := i.rm) h3
  have g3 := has_0 (r := i.ra) h4
  have g4 : i.imm = 0 := sp_0 h7
  have g5 : i.kind = 0 := (sh_0 rfl h9).1
  have g6 : i.by_ = 0 := sp_0 (sh_0 rfl h9).2
  have g7 : i.set = 0 := h8.elim id fun e => absurd (show false = true from e.2) Bool.false_ne_true
  have g8 : i.cond = 0 := h6.elim id fun e => absurd (show false = true from e.1) Bool.false_ne_true
  clear h1 h2 h3 h4 h5 h6 h7 h8 h9 h10
  refine Spec.enter gTok P80 100 Tryd.func80 rfl (by kernel_rfl) ?_
  refine .inl ⟨inR_u32 (by omega), ?_⟩
  refine .inl ⟨inR_u32 (by omega), ?_⟩
  refine .inl ⟨inR_u32 (by omega), ?_⟩
  refine ⟨[], no_rl, (pshapeLit hs).use (And.intro rfl trivial) rfl rfl ?_⟩
  refine ⟨by decide, .inl ⟨inR_u32 (by rw [r3]; omega), ?_⟩⟩
  refine retE ?_
  have eo : orF i (fieldsV 5) = 0 ||| B i.rm 0 3 3 ||| B i.rd 0 3 0 := rfl
  rw [eo]
  refine (show bits .or .u32 (i.rm * Ev.pow2 .u32 3) (i.rd) = _ from ?_)
  refine ((((isR i.rm 3 3 (by decide) (by decide) (by omega))).or (isR0 i.rd 3 (by decide) (by omega)))).1.trans (congrArg (fun n : Nat => (n : Int)) ?_)
  first
  | (simp only [Nat.or_zero, Nat.zero_or]; done)
  | (simp only [Nat.or_zero, Nat.zero_or]
     generalize B i.rm 0 3 3 = n0
     generalize B i.rd 0 3 0 = n1
     ac_rfl)
set_option maxHeartbeats 8000000 in
set_option maxRecDepth 100000 in
theorem narrow_6 (i : IN) (hs : shapeV i.form = 6) (hr : rightR i (ruW 6)) (hg : i.regs ≤ 9223372036854775807) : PureF gT 80 [inP i] (.int .u32 ((orF i (fieldsV 6) : Nat) : Int)) := by
  obtain ⟨hf, h1, h2, h3, h4, h5, h6, h7, h8, h9, h10⟩ := hr
  have g0 := has_2 (r := i.rd) h1
  have g1 := has_0 (r := i.rn) h2
  have g2 := has_2 (r := i.rm) h3
  have g3 := has_0 (r := i.ra) h4
  have g4 : i.imm = 0 := sp_0 h7
  have g5 : i.kind = 0 := (sh_0 rfl h9).1
  have g6 : i.by_ = 0 := sp_0 (sh_0 rfl h9).2
  have g7 : i.set = 0 := h8.elim id fun e => absurd (show false = true from e.2) Bool.false_ne_true
  have g8 : i.cond = 0 := h6.elim id fun e => absurd (show false = true from e.1) Bool.false_ne_true
  clear h1 h2 h3 h4 h5 h6 h7 h8 h9 h10
  have b0 := bitsV_bd i.rd 3 1
  have b1 := bitsV_bd i.rd 0 3
  refine Spec.enter gTok P80 100 Tryd.func80 rfl (by kernel_rfl) ?_
  refine .inl ⟨inR_u32 (by omega), ?_⟩
  refine .inl ⟨inR_u32 (by omega), ?_⟩
  refine .inl ⟨inR_u32 (by omega), ?_⟩
  refine ⟨[], no_rl, (pshapeLit hs).use (And.intro rfl trivial) rfl rfl ?_⟩
  refine ⟨[], no_rl, (cutB i.rd 3 1 (by unfold U32; omega) (by decide) (by decide)).use (And.intro rfl (And.intro rfl (And.intro rfl trivial))) rfl rfl ?_⟩
  refine ⟨by decide, .inl ⟨inR_u32 (by rw [r7]; omega), ?_⟩⟩
  refine ⟨by decide, .inl ⟨inR_u32 (by rw [r3]; omega), ?_⟩⟩
  refine ⟨[], no_rl, (cutB i.rd 0 3 (by unfold U32; omega) (by decide) (by decide)).use (And.intro rfl (And.intro rfl (And.intro rfl trivial))) rfl rfl ?_⟩
  refine retE ?_
  have eo : orF i (fieldsV 6) = 0 ||| B i.rd 3 1 7 ||| B i.rm 0 4 3 ||| B i.rd 0 3 0 := rfl
  rw [eo]
  refine (show bits .or .u32 (bits .or .u32 (bitsV i.rd 3 1 * Ev.pow2 .u32 7) (i.rm * Ev.pow2 .u32 3)) (bitsV i.rd 0 3) = _ from ?_)
  refine ((((((isB i.rd 3 1 7 (by decide) (by decide))).or (isR i.rm 4 3 (by decide) (by decide) (by omega)))).or (isB0 i.rd 0 3 (by decide)))).1.trans (congrArg (fun n : Nat => (n : Int)) ?_)
  first
  | (simp only [Nat.or_zero, Nat.zero_or]; done)
  | (simp only [Nat.or_zero, Nat.zero_or]
     generalize B i.rd 3 1 7 = n0
     generalize B i.rm 0 4 3 = n1
     generalize B i.rd 0 3 0 = n2
     ac_rfl)
set_option maxHeartbeats 8000000 in
set_option maxRecDepth 100000 in
theorem narrow_7 (i : IN) (hs : shapeV i.form = 7) (hr : rightR i (ruW 7)) (hg : i.regs ≤ 9223372036854775807) : PureF gT 80 [inP i] (.int .u32 ((orF i (fieldsV 7) : Nat) : Int)) := by
  obtain ⟨hf, h1, h2, h3, h4, h5, h6, h7, h8, h9, h10⟩ := hr
  have g0 := has_0 (r := i.rd) h1
  have g1 := has_0 (r := i.rn) h2
  have g2 := has_2 (r := i.rm) h3
  have g3 := has_0 (r := i.ra) h4
  have g4 : i.imm = 0 := sp_0 h7
  have g5 : i.kind = 0 := (sh_0 rfl h9).1
  have g6 : i.by_ = 0 := sp_0 (sh_0 rfl h9).2
  have g7 : i.set = 0 := h8.elim id fun e => absurd (show false = true from e.2) Bool.false_ne_true
  have g8 : i.cond = 0 := h6.elim id fun e => absurd (show false = true from e.1) Bool.false_ne_true
  clear h1 h2 h3 h4 h5 h6 h7 h8 h9 h10
  refine Spec.enter gTok P80 100 Tryd.func80 rfl (by kernel_rfl) ?_
  refine .inl ⟨inR_u32 (by omega), ?_⟩
  refine .inl ⟨inR_u32 (by omega), ?_⟩
  refine .inl ⟨inR_u32 (by omega), ?_⟩
  refine ⟨[], no_rl, (pshapeLit hs).use (And.intro rfl trivial) rfl rfl ?_⟩
  refine ⟨by decide, .inl ⟨inR_u32 (by rw [r3]; omega), ?_⟩⟩
  refine retE ?_
  have eo : orF i (fieldsV 7) = 0 ||| B i.rm 0 4 3 := rfl
  rw [eo]
  refine (show i.rm * Ev.pow2 .u32 3 = _ from ?_)
  refine ((isR i.rm 4 3 (by decide) (by decide) (by omega))).1.trans (congrArg (fun n : Nat => (n : Int)) ?_)
  first
  | (simp only [Nat.or_zero, Nat.zero_or]; done)
  | (simp only [Nat.or_zero, Nat.zero_or]
     generalize B i.rm 0 4 3 = n0
     ac_rfl)
set_option maxHeartbeats 8000000 in
set_option maxRecDepth 100000 in
theorem narrow_8 (i : IN) (hs : shapeV i.form = 8) (hr : rightR i (ruW 8)) (hg : i.regs ≤ 9223372036854775807) : PureF gT 80 [inP i] (.int .u32 ((orF i (fieldsV 8) : Nat) : Int)) := by
  obtain ⟨hf, h1, h2, h3, h4, h5, h6, h7, h8, h9, h10⟩ := hr
  have g0 := has_1 (r := i.rd) h1
  have g1 := has_0 (r := i.rn) h2
  have g2 := has_0 (r := i.rm) h3
  have g3 := has_0 (r := i.ra) h4
  have g4 : 0 ≤ i.imm ∧ i.imm ≤ 1020 ∧ i.imm % 4 = 0 := sp_s (s := 4) (by decide) h7
  have g5 : i.kind = 0 := (sh_0 rfl h9).1
  have g6 : i.by_ = 0 := sp_0 (sh_0 rfl h9).2
  have g7 : i.set = 0 := h8.elim id fun e => absurd (show false = true from e.2) Bool.false_ne_true
  have g8 : i.cond = 0 := h6.elim id fun e => absurd (show false = true from e.1) Bool.false_ne_true
  clear h1 h2 h3 h4 h5 h6 h7 h8 h9 h10
  refine Spec.enter gTok P80 100 Tryd.func80 rfl (by kernel_rfl) ?_
  refine .inl ⟨inR_u32 (by omega), ?_⟩
  refine .inl ⟨inR_u32 (by omega), ?_⟩
  refine .inl ⟨inR_u32 (by omega), ?_⟩
  refine ⟨[], no_rl, (pshapeLit hs).use (And.intro rfl trivial) rfl rfl ?_⟩
  refine ⟨by decide, .inl ⟨inR_u32 (by rw [r8]; omega), ?_⟩⟩
  refine ⟨by decide, .inl ⟨by omega, by first | exact (show (_ : Int) ≤ 4294967295 by omega) | omega, by decide, ?_⟩⟩
  refine retE ?_
  have eo : orF i (fieldsV 8) = 0 ||| B i.rd 0 3 8 ||| B i.imm 2 8 0 := rfl
  rw [eo]
  refine (show bits .or .u32 (i.rd * Ev.pow2 .u32 8) (i.imm / 4) = _ from ?_)
  refine ((((isR i.rd 3 8 (by decide) (by decide) (by omega))).or (isD i.imm 8 (by decide) (by omega) (by omega)))).1.trans (congrArg (fun n : Nat => (n : Int)) ?_)
  first
  | (simp only [Nat.or_zero, Nat.zero_or]; done)
  | (simp only [Nat.or_zero, Nat.zero_or]
     generalize B i.rd 0 3 8 = n0
     generalize B i.imm 2 8 0 = n1
     ac_rfl)
set_option maxHeartbeats 8000000 in
set_option maxRecDepth 100000 in
theorem narrow_9 (i : IN) (hs : shapeV i.form = 9) (hr : rightR i (ruW 9)) (hg : i.regs ≤ 9223372036854775807) : PureF gT 80 [inP i] (.int .u32 ((orF i (fieldsV 9) : Nat) : Int)) := by
  obtain ⟨hf, h1, h2, h3, h4, h5, h6, h7, h8, h9, h10⟩ := hr
  have g0 := has_1 (r := i.rd) h1
  have g1 := has_1 (r := i.rn) h2
  have g2 := has_0 (r := i.rm) h3
  have g3 := has_0 (r := i.ra) h4
  have g4 : 0 ≤ i.imm ∧ i.imm ≤ 124 ∧ i.imm % 4 = 0 := sp_s (s := 4) (by decide) h7
  have g5 : i.kind = 0 := (sh_0 rfl h9).1
  have g6 : i.by_ = 0 := sp_0 (sh_0 rfl h9).2
  have g7 : i.set = 0 := h8.elim id fun e => absurd (show false = true from e.2) Bool.false_ne_true
  have g8 : i.cond = 0 := h6.elim id fun e => absurd (show false = true from e.1) Bool.false_ne_true
  clear h1 h2 h3 h4 h5 h6 h7 h8 h9 h10
  refine Spec.enter gTok P80 100 Tryd.func80 rfl (by kernel_rfl) ?_
  refine .inl ⟨inR_u32 (by omega), ?_⟩
  refine .inl ⟨inR_u32 (by omega), ?_⟩
  refine .inl ⟨inR_u32 (by omega), ?_⟩
  refine ⟨[], no_rl, (pshapeLit hs).use (And.intro rfl trivial) rfl rfl ?_⟩
  refine ⟨by decide, .inl ⟨by omega, by first | exact (show (_ : Int) ≤ 4294967295 by omega) | omega, by decide, ?_⟩⟩
  refine ⟨[], no_rl, (small_pure i (i.imm / 4) 5 (by omega) (by omega) (by omega) (by decide)).use (by repeat' first | exact trivial | exact rfl | exact Iff.rfl | exact Or.inl rfl | refine And.intro ?_ ?_) rfl rfl ?_⟩
  refine retE ?_
  have eo : orF i (fieldsV 9) = 0 ||| B i.imm 2 5 6 ||| B i.rn 0 3 3 ||| B i.rd 0 3 0 := rfl
  rw [eo]
  refine (show _ = _ from congrArg (fun n : Nat => (n : Int)) ?_)
  rw [B_div (by omega)]; simp only [Nat.zero_or]
set_option maxHeartbeats 8000000 in
set_option maxRecDepth 100000 in
theorem narrow_10 (i : IN) (hs : shapeV i.form = 10) (hr : rightR i (ruW 10)) (hg : i.regs ≤ 9223372036854775807) : PureF gT 80 [inP i] (.int .u32 ((orF i (fieldsV 10) : Nat) : Int)) := by
  obtain ⟨hf, h1, h2, h3, h4, h5, h6, h7, h8, h9, h10⟩ := hr
  have g0 := has_0 (r := i.rd) h1
  have g1 := has_0 (r := i.rn) h2
  have g2 := has_0 (r := i.rm) h3
  have g3 := has_0 (r := i.ra) h4
  have g4 : 0 ≤ i.imm ∧ i.imm ≤ 508 ∧ i.imm % 4 = 0 := sp_s (s := 4) (by decide) h7
  have g5 : i.kind = 0 := (sh_0 rfl h9).1
  have g6 : i.by_ = 0 := sp_0 (sh_0 rfl h9).2
  have g7 : i.set = 0 := h8.elim id fun e => absurd (show false = true from e.2) Bool.false_ne_true
  have g8 : i.cond = 0 := h6.elim id fun e => absurd (show false = true from e.1) Bool.false_ne_true
  clear h1 h2 h3 h4 h5 h6 h7 h8 h9 h10
  refine Spec.enter gTok P80 100 Tryd.func80 rfl (by kernel_rfl) ?_
  refine .inl ⟨inR_u32 (by omega), ?_⟩
  refine .inl ⟨inR_u32 (by omega), ?_⟩
  refine .inl ⟨inR_u32 (by omega), ?_⟩
  refine ⟨[], no_rl, (pshapeLit hs).use (And.intro rfl trivial) rfl rfl ?_⟩
  refine ⟨by decide, .inl ⟨by omega, by first | exact (show (_ : Int) ≤ 4294967295 by omega) | omega, by decide, ?_⟩⟩
  refine retE ?_
  have eo : orF i (fieldsV 10) = 0 ||| B i.imm 2 7 0 := rfl
  rw [eo]
  refine (show i.imm / 4 = _ from ?_)
  refine ((isD i.imm 7 (by decide) (by omega) (by omega))).1.trans (congrArg (fun n : Nat => (n : Int)) ?_)
  first
  | (simp only [Nat.or_zero, Nat.zero_or]; done)
  | (simp only [Nat.or_zero, Nat.zero_or]
     generalize B i.imm 2 7 0 = n0
     ac_rfl)
set_option maxHeartbeats 8000000 in
set_option maxRecDepth 100000 in
theorem narrow_11 (i : IN) (hs : shapeV i.form = 11) (hr : rightR i (ruW 11)) (hg : i.regs ≤ 9223372036854775807) : PureF gT 80 [inP i] (.int .u32 ((orF i (fieldsV 11) : Nat) : Int)) := by
  obtain ⟨hf, h1, h2, h3, h4, h5, h6, h7, h8, h9, h10⟩ := hr
  have g0 := has_0 (r := i.rd) h1
  have g1 := has_0 (r := i.rn) h2
  have g2 := has_0 (r := i.rm) h3
  have g3 := has_0 (r := i.ra) h4
  have g4 : i.imm = 0 := sp_0 h7
  have g5 : i.kind = 0 := (sh_0 rfl h9).1
  have g6 : i.by_ = 0 := sp_0 (sh_0 rfl h9).2
  have g7 : i.set = 0 := h8.elim id fun e => absurd (show false = true from e.2) Bool.false_ne_true
  have g8 : i.cond = 0 := h6.elim id fun e => absurd (show false = true from e.1) Bool.false_ne_true
  have g9 : 0 < i.regs ∧ i.regs / 16384 % 2 * 16384 + i.regs % 256 = i.regs := lis_k 14 (by decide) (by decide) rfl h5 hg
  clear h1 h2 h3 h4 h5 h6 h7 h8 h9 h10
  have b0 := bitsV_bd i.regs 14 1
  have b1 := bitsV_bd i.regs 0 8
  refine Spec.enter gTok P80 100 Tryd.func80 rfl (by kernel_rfl) ?_
  refine .inl ⟨inR_u32 (by omega), ?_⟩
  refine .inl ⟨inR_u32 (by omega), ?_⟩
  refine .inl ⟨inR_u32 (by omega), ?_⟩
  refine ⟨[], no_rl, (pshapeLit hs).use (And.intro rfl trivial) rfl rfl ?_⟩
  repeat (refine Or.inl (And.intro (inR_u32 (by omega)) ?_))
  refine ⟨[], no_rl, (cutB i.regs 14 1 (by unfold U32; omega) (by decide) (by decide)).use (And.intro rfl (And.intro rfl (And.intro rfl trivial))) rfl rfl ?_⟩
  refine ⟨by decide, .inl ⟨inR_u32 (by rw [r8]; omega), ?_⟩⟩
  repeat (refine Or.inl (And.intro (inR_u32 (by omega)) ?_))
  refine ⟨[], no_rl, (cutB i.regs 0 8 (by unfold U32; omega) (by decide) (by decide)).use (And.intro rfl (And.intro rfl (And.intro rfl trivial))) rfl rfl ?_⟩
  refine retE ?_
  have eo : orF i (fieldsV 11) = 0 ||| B i.regs 14 1 8 ||| B i.regs 0 8 0 := rfl
  rw [eo]
  refine (show bits .or .u32 (bitsV i.regs 14 1 * Ev.pow2 .u32 8) (bitsV i.regs 0 8) = _ from ?_)
  refine ((((isB i.regs 14 1 8 (by decide) (by decide))).or (isB0 i.regs 0 8 (by decide)))).1.trans (congrArg (fun n : Nat => (n : Int)) ?_)
  first
  | (simp only [Nat.or_zero, Nat.zero_or]; done)
  | (simp only [Nat.or_zero, Nat.zero_or]
     generalize B i.regs 14 1 8 = n0
     generalize B i.regs 0 8 0 = n1
     ac_rfl)
set_option maxHeartbeats 8000000 in
set_option maxRecDepth 100000 in
theorem narrow_12 (i : IN) (hs : shapeV i.form = 12) (hr : rightR i (ruW 12)) (hg : i.regs ≤ 9223372036854775807) : PureF gT 80 [inP i] (.int .u32 ((orF i (fieldsV 12) : Nat) : Int)) := by
  obtain ⟨hf, h1, h2, h3, h4, h5, h6, h7, h8, h9, h10⟩ := hr
  have g0 := has_0 (r := i.rd) h1
  have g1 := has_0 (r := i.rn) h2
  have g2 := has_0 (r := i.rm) h3
  have g3 := has_0 (r := i.ra) h4
  have g4 : i.imm = 0 := sp_0 h7
  have g5 : i.kind = 0 := (sh_0 rfl h9).1
  have g6 : i.by_ = 0 := sp_0 (sh_0 rfl h9).2
  have g7 : i.set = 0 := h8.elim id fun e => absurd (show false = true from e.2) Bool.false_ne_true
  have g8 : i.cond = 0 := h6.elim id fun e => absurd (show false = true from e.1) Bool.false_ne_true
  have g9 : 0 < i.regs ∧ i.regs / 32768 % 2 * 32768 + i.regs % 256 = i.regs := lis_k 15 (by decide) (by decide) rfl h5 hg
  clear h1 h2 h3 h4 h5 h6 h7 h8 h9 h10
  have b0 := bitsV_bd i.regs 15 1
  have b1 := bitsV_bd i.regs 0 8
  refine Spec.enter gTok P80 100 Tryd.func80 rfl (by kernel_rfl) ?_
  refine .inl ⟨inR_u32 (by omega), ?_⟩
  refine .inl ⟨inR_u32 (by omega), ?_⟩
  refine .inl ⟨inR_u32 (by omega), ?_⟩
  refine ⟨[], no_rl, (pshapeLit hs).use (And.intro rfl trivial) rfl rfl ?_⟩
  repeat (refine Or.inl (And.intro (inR_u32 (by omega)) ?_))
  refine ⟨[], no_rl, (cutB i.regs 15 1 (by unfold U32; omega) (by decide) (by decide)).use (And.intro rfl (And.intro rfl (And.intro rfl trivial))) rfl rfl ?_⟩
  refine ⟨by decide, .inl ⟨inR_u32 (by rw [r8]; omega), ?_⟩⟩
  repeat (refine Or.inl (And.intro (inR_u32 (by omega)) ?_))
  refine ⟨[], no_rl, (cutB i.regs 0 8 (by unfold U32; omega) (by decide) (by decide)).use (And.intro rfl (And.intro rfl (And.intro rfl trivial))) rfl rfl ?_⟩
  refine retE ?_
  have eo : orF i (fieldsV 12) = 0 ||| B i.regs 15 1 8 ||| B i.regs 0 8 0 := rfl
  rw [eo]
  refine (show bits .or .u32 (bitsV i.regs 15 1 * Ev.pow2 .u32 8) (bitsV i.regs 0 8) = _ from ?_)
  refine ((((isB i.regs 15 1 8 (by decide) (by decide))).or (isB0 i.regs 0 8 (by decide)))).1.trans (congrArg (fun n : Nat => (n : Int)) ?_)
  first
  | (simp only [Nat.or_zero, Nat.zero_or]; done)
  | (simp only [Nat.or_zero, Nat.zero_or]
     generalize B i.regs 15 1 8 = n0
     generalize B i.regs 0 8 0 = n1
     ac_rfl)
set_option maxHeartbeats 8000000 in
set_option maxRecDepth 100000 in
theorem narrow_13 (i : IN) (hs : shapeV i.form = 13) (hr : rightR i (ruW 13)) (hg : i.regs ≤ 9223372036854775807) : PureF gT 80 [inP i] (.int .u32 ((orF i (fieldsV 13) : Nat) : Int)) := by
  obtain ⟨hf, h1, h2, h3, h4, h5, h6, h7, h8, h9, h10⟩ := hr
  have g0 := has_0 (r := i.rd) h1
  have g1 := has_0 (r := i.rn) h2
  have g2 := has_0 (r := i.rm) h3
  have g3 := has_0 (r := i.ra) h4
  have g4 : i.imm = 0 := sp_0 h7
  have g5 : i.kind = 0 := (sh_0 rfl h9).1
  have g6 : i.by_ = 0 := sp_0 (sh_0 rfl h9).2
  have g7 : i.set = 0 := h8.elim id fun e => absurd (show false = true from e.2) Bool.false_ne_true
  have g8 : i.cond = 0 := h6.elim id fun e => absurd (show false = true from e.1) Bool.false_ne_true
  clear h1 h2 h3 h4 h5 h6 h7 h8 h9 h10
  refine Spec.enter gTok P80 100 Tryd.func80 rfl (by kernel_rfl) ?_
  refine .inl ⟨inR_u32 (by omega), ?_⟩
  refine .inl ⟨inR_u32 (by omega), ?_⟩
  refine .inl ⟨inR_u32 (by omega), ?_⟩
  refine ⟨[], no_rl, (pshapeLit hs).use (And.intro rfl trivial) rfl rfl ?_⟩
  exact retE rfl
set_option maxHeartbeats 8000000 in
set_option maxRecDepth 100000 in
theorem narrow_14 (i : IN) (hs : shapeV i.form = 14) (hr : rightR i (ruW 14)) (hg : i.regs ≤ 9223372036854775807) : PureF gT 80 [inP i] (.int .u32 ((orF i (fieldsV 14) : Nat) : Int)) := by
  obtain ⟨hf, h1, h2, h3, h4, h5, h6, h7, h8, h9, h10⟩ := hr
  have g0 := has_0 (r := i.rd) h1
  have g1 := has_0 (r := i.rn) h2
  have g2 := has_0 (r := i.rm) h3
  have g3 := has_0 (r := i.ra) h4
  have g4 : 0 ≤ i.imm ∧ i.imm ≤ 255 ∧ i.imm % 1 = 0 := sp_s (s := 1) (by decide) h7
  have g5 : i.kind = 0 := (sh_0 rfl h9).1
  have g6 : i.by_ = 0 := sp_0 (sh_0 rfl h9).2
  have g7 : i.set = 0 := h8.elim id fun e => absurd (show false = true from e.2) Bool.false_ne_true
  have g8 : i.cond = 0 := h6.elim id fun e => absurd (show false = true from e.1) Bool.false_ne_true
  clear h1 h2 h3 h4 h5 h6 h7 h8 h9 h10
  refine Spec.enter gTok P80 100 Tryd.func80 rfl (by kernel_rfl) ?_
  refine .inl ⟨inR_u32 (by omega), ?_⟩
  refine .inl ⟨inR_u32 (by omega), ?_⟩
  refine .inl ⟨inR_u32 (by omega), ?_⟩
  refine ⟨[], no_rl, (pshapeLit hs).use (And.intro rfl trivial) rfl rfl ?_⟩
  refine retE ?_
  have eo : orF i (fieldsV 14) = 0 ||| B i.imm 0 8 0 := rfl
  rw [eo]
  refine (show i.imm = _ from ?_)
  refine ((isR0 i.imm 8 (by decide) (by omega))).1.trans (congrArg (fun n : Nat => (n : Int)) ?_)
  first
  | (simp only [Nat.or_zero, Nat.zero_or]; done)
  | (simp only [Nat.or_zero, Nat.zero_or]
     generalize B i.imm 0 8 0 = n0
     ac_rfl)
set_option maxHeartbeats 8000000 in
set_option maxRecDepth 100000 in
theorem narrow_15 (i : IN) (hs : shapeV i.form = 15) (hr : rightR i (ruW 15)) (hg : i.regs ≤ 9223372036854775807) : PureF gT 80 [inP i] (.int .u32 ((orF i (fieldsV 15) : Nat) : Int)) := by
  obtain ⟨hf, h1, h2, h3, h4, h5, h6, h7, h8, h9, h10⟩ := hr
  have g0 := has_0 (r := i.rd) h1
  have g1 := has_0 (r := i.rn) h2
  have g2 := has_0 (r := i.rm) h3
  have g3 := has_0 (r := i.ra) h4
  have g4 : -256 ≤ i.imm ∧ i.imm ≤ 254 ∧ i.imm % 2 = 0 := sp_s (s := 2) (by decide) h7
  have g5 : i.kind = 0 := (sh_0 rfl h9).1
  have g6 : i.by_ = 0 := sp_0 (sh_0 rfl h9).2
  have g7 : i.set = 0 := h8.elim id fun e => absurd (show false = true from e.2) Bool.false_ne_true
  have g8 : 0 ≤ i.cond ∧ i.cond ≤ 13 := by rcases h6 with h6 | h6 <;> omega
  clear h1 h2 h3 h4 h5 h6 h7 h8 h9 h10
  have b0 := bitsV_bd i.imm 1 8
  refine Spec.enter gTok P80 100 Tryd.func80 rfl (by kernel_rfl) ?_
  refine .inr ?_
  refine .inl ⟨inR_u32 (by omega), ?_⟩
  refine .inl ⟨inR_u32 (by omega), ?_⟩
  refine ⟨[], no_rl, (pshapeLit hs).use (And.intro rfl trivial) rfl rfl ?_⟩
  refine .inl ⟨inR_u32 (by omega), ?_⟩
  refine ⟨by decide, .inl ⟨inR_u32 (by rw [r8]; omega), ?_⟩⟩
  refine ⟨[], no_rl, (cutW i.imm 1 8 (by omega) (by decide) (by decide) (by decide)).use (And.intro rfl (And.intro rfl (And.intro rfl trivial))) rfl rfl ?_⟩
  refine retE ?_
  have eo : orF i (fieldsV 15) = 0 ||| B i.cond 0 4 8 ||| B i.imm 1 8 0 := rfl
  rw [eo]
  refine (show bits .or .u32 (i.cond * Ev.pow2 .u32 8) (bitsV i.imm 1 8) = _ from ?_)
  refine ((((isR i.cond 4 8 (by decide) (by decide) (by omega))).or (isB0 i.imm 1 8 (by decide)))).1.trans (congrArg (fun n : Nat => (n : Int)) ?_)
  first
  | (simp only [Nat.or_zero, Nat.zero_or]; done)
  | (simp only [Nat.or_zero, Nat.zero_or]
     generalize B i.cond 0 4 8 = n0
     generalize B i.imm 1 8 0 = n1
     ac_rfl)
set_option maxHeartbeats 8000000 in
set_option maxRecDepth 100000 in
theorem narrow_16 (i : IN) (hs : shapeV i.form = 16) (hr : rightR i (ruW 16)) (hg : i.regs ≤ 9223372036854775807) : PureF gT 80 [inP i] (.int .u32 ((orF i (fieldsV 16) : Nat) : Int)) := by
  obtain ⟨hf, h1, h2, h3, h4, h5, h6, h7, h8, h9, h10⟩ := hr
  have g0 := has_0 (r := i.rd) h1
  have g1 := has_0 (r := i.rn) h2
  have g2 := has_0 (r := i.rm) h3
  have g3 := has_0 (r := i.ra) h4
  have g4 : -2048 ≤ i.imm ∧ i.imm ≤ 2046 ∧ i.imm % 2 = 0 := sp_s (s := 2) (by decide) h7
  have g5 : i.kind = 0 := (sh_0 rfl h9).1
  have g6 : i.by_ = 0 := sp_0 (sh_0 rfl h9).2
  have g7 : i.set = 0 := h8.elim id fun e => absurd (show false = true from e.2) Bool.false_ne_true
  have g8 : i.cond = 0 := h6.elim id fun e => absurd (show false = true from e.1) Bool.false_ne_true
  clear h1 h2 h3 h4 h5 h6 h7 h8 h9 h10
  have b0 := bitsV_bd i.imm 1 11
  refine Spec.enter gTok P80 100 Tryd.func80 rfl (by kernel_rfl) ?_
  refine .inr ?_
  refine .inl ⟨inR_u32 (by omega), ?_⟩
  refine .inl ⟨inR_u32 (by omega), ?_⟩
  refine ⟨[], no_rl, (pshapeLit hs).use (And.intro rfl trivial) rfl rfl ?_⟩
  refine ⟨[], no_rl, (cutW i.imm 1 11 (by omega) (by decide) (by decide) (by decide)).use (And.intro rfl (And.intro rfl (And.intro rfl trivial))) rfl rfl ?_⟩
  refine retE ?_
  have eo : orF i (fieldsV 16) = 0 ||| B i.imm 1 11 0 := rfl
  rw [eo]
  refine (show bitsV i.imm 1 11 = _ from ?_)
  refine ((isB0 i.imm 1 11 (by decide))).1.trans (congrArg (fun n : Nat => (n : Int)) ?_)
  first
  | (simp only [Nat.or_zero, Nat.zero_or]; done)
  | (simp only [Nat.or_zero, Nat.zero_or]
     generalize B i.imm 1 11 0 = n0
     ac_rfl)

end Go.Proofs.YtjcacjeoddnmhaaDoor.Pw

/- Chapter 4 over values: the program's bits of wide shapes (by gen_tx.py). -/
namespace Go.Proofs.YtjcacjeoddnmhaaDoor.Pw
open Go Go.RowKit

set_option maxHeartbeats 8000000 in
set_option maxRecDepth 100000 in
theorem wide_17 (i : IN) (hs : shapeV i.form = 17) (hr : rightR i (ruW 17)) (hg : i.regs ≤ 9223372036854775807) : PureF gT 79 [inP i] (.int .u32 ((orF i (fieldsV 17) : Nat) : Int)) := by
  obtain ⟨hf, h1, h2, h3, h4, h5, h6, h7, h8, h9, h10⟩ := hr
  have g0 := has_3 (r := i.rd) h1
  have g1 := has_0 (r := i.rn) h2
  have g2 := has_0 (r := i.rm) h3
  have g3 := has_0 (r := i.ra) h4
  have g4 : 0 ≤ i.imm ∧ i.imm ≤ 65535 ∧ i.imm % 1 = 0 := sp_s (s := 1) (by decide) h7
  have g5 : i.kind = 0 := (sh_0 rfl h9).1
  have g6 : i.by_ = 0 := sp_0 (sh_0 rfl h9).2
  have g7 : i.set = 0 := h8.elim id fun e => absurd (show false = true from e.2) Bool.false_ne_true
  have g8 : i.cond = 0 := h6.elim id fun e => absurd (show false = true from e.1) Bool.false_ne_true
  clear h1 h2 h3 h4 h5 h6 h7 h8 h9 h10
  refine Spec.enter gTok P79 100 Tryd.func79 rfl (by kernel_rfl) ?_
  refine .inl ⟨inR_u32 (by omega), ?_⟩
  refine .inl ⟨inR_u32 (by omega), ?_⟩
  refine ⟨[], no_rl, (pshapeLit hs).use (And.intro rfl trivial) rfl rfl ?_⟩
  refine ⟨[], no_rl, (plain_pure i (by omega) (by omega) (by omega) (by omega) (by omega)).use (by repeat' first | exact trivial | exact rfl | exact Iff.rfl | exact Or.inl rfl | refine And.intro ?_ ?_) rfl rfl ?_⟩
  refine ⟨[], no_rl, (twelve_pure i.imm (by unfold U32; omega)).use (And.intro rfl trivial) rfl rfl ?_⟩
  refine retE ?_
  have eo : orF i (fieldsV 17) = 0 ||| B i.imm 11 1 26 ||| B i.imm 12 4 16 ||| B i.imm 8 3 12 ||| B i.imm 0 8 0 ||| B i.rd 0 4 8 := rfl
  rw [eo]
  refine (show bits .or .u32 (((B i.set 0 1 20 ||| B i.rn 0 4 16 ||| B i.ra 0 4 12 ||| B i.rd 0 4 8 ||| B i.rm 0 4 0 : Nat) : Int)) (((B i.imm 11 1 26 ||| B i.imm 12 4 16 ||| B i.imm 8 3 12 ||| B i.imm 0 8 0 : Nat) : Int)) = _ from ?_)
  refine ((((isPlain i)).or (isTwelve i.imm))).1.trans (congrArg (fun n : Nat => (n : Int)) ?_)
  first
  | (simp only [B_0 g1, B_0 g2, B_0 g3, B_0 g7, Nat.or_zero, Nat.zero_or]; done)
  | (simp only [B_0 g1, B_0 g2, B_0 g3, B_0 g7, Nat.or_zero, Nat.zero_or]
     generalize B i.imm 11 1 26 = n0
     generalize B i.imm 12 4 16 = n1
     generalize B i.imm 8 3 12 = n2
     generalize B i.imm 0 8 0 = n3
     generalize B i.rd 0 4 8 = n4
     ac_rfl)
set_option maxHeartbeats 8000000 in
set_option maxRecDepth 100000 in
theorem wide_18 (i : IN) (hs : shapeV i.form = 18) (hr : rightR i (ruW 18)) (hg : i.regs ≤ 9223372036854775807) : PureF gT 79 [inP i] (.int .u32 ((orF i (fieldsV 18) : Nat) : Int)) := by
  obtain ⟨hf, h1, h2, h3, h4, h5, h6, h7, h8, h9, h10⟩ := hr
  have g0 := has_3 (r := i.rd) h1
  have g1 := has_3 (r := i.rn) h2
  have g2 := has_0 (r := i.rm) h3
  have g3 := has_0 (r := i.ra) h4
  have g4 : 0 ≤ i.imm ∧ i.imm ≤ 4095 ∧ i.imm % 1 = 0 := sp_s (s := 1) (by decide) h7
  have g5 : i.kind = 0 := (sh_0 rfl h9).1
  have g6 : i.by_ = 0 := sp_0 (sh_0 rfl h9).2
  have g7 : i.set = 0 ∨ i.set = 1 := h8.imp id fun e => e.1
  have g8 : i.cond = 0 := h6.elim id fun e => absurd (show false = true from e.1) Bool.false_ne_true
  clear h1 h2 h3 h4 h5 h6 h7 h8 h9 h10
  refine Spec.enter gTok P79 100 Tryd.func79 rfl (by kernel_rfl) ?_
  refine .inl ⟨inR_u32 (by omega), ?_⟩
  refine .inl ⟨inR_u32 (by omega), ?_⟩
  refine ⟨[], no_rl, (pshapeLit hs).use (And.intro rfl trivial) rfl rfl ?_⟩
  refine ⟨[], no_rl, (plain_pure i (by omega) (by omega) (by omega) (by omega) (by omega)).use (by repeat' first | exact trivial | exact rfl | exact Iff.rfl | exact Or.inl rfl | refine And.intro ?_ ?_) rfl rfl ?_⟩
  refine ⟨[], no_rl, (twelve_pure i.imm (by unfold U32; omega)).use (And.intro rfl trivial) rfl rfl ?_⟩
  refine retE ?_
  have eo : orF i (fieldsV 18) = 0 ||| B i.imm 11 1 26 ||| B i.imm 8 3 12 ||| B i.imm 0 8 0 ||| B i.set 0 1 20 ||| B i.rn 0 4 16 ||| B i.rd 0 4 8 := rfl
  have z12 : B i.imm 12 4 16 = 0 := B_zero (by unfold bitsV; split <;> omega)
  rw [eo]
  refine (show bits .or .u32 (((B i.set 0 1 20 ||| B i.rn 0 4 16 ||| B i.ra 0 4 12 ||| B i.rd 0 4 8 ||| B i.rm 0 4 0 : Nat) : Int)) (((B i.imm 11 1 26 ||| B i.imm 12 4 16 ||| B i.imm 8 3 12 ||| B i.imm 0 8 0 : Nat) : Int)) = _ from ?_)
  refine ((((isPlain i)).or (isTwelve i.imm))).1.trans (congrArg (fun n : Nat => (n : Int)) ?_)
  first
  | (simp only [B_0 g2, B_0 g3, z12, Nat.or_zero, Nat.zero_or]; done)
  | (simp only [B_0 g2, B_0 g3, z12, Nat.or_zero, Nat.zero_or]
     generalize B i.imm 11 1 26 = n0
     generalize B i.imm 8 3 12 = n1
     generalize B i.imm 0 8 0 = n2
     generalize B i.set 0 1 20 = n3
     generalize B i.rn 0 4 16 = n4
     generalize B i.rd 0 4 8 = n5
     ac_rfl)
set_option maxHeartbeats 8000000 in
set_option maxRecDepth 100000 in
theorem wide_19 (i : IN) (hs : shapeV i.form = 19) (hr : rightR i (ruW 19)) (hg : i.regs ≤ 9223372036854775807) : PureF gT 79 [inP i] (.int .u32 ((orF i (fieldsV 19) : Nat) : Int)) := by
  obtain ⟨hf, h1, h2, h3, h4, h5, h6, h7, h8, h9, h10⟩ := hr
  have g0 := has_3 (r := i.rd) h1
  have g1 := has_0 (r := i.rn) h2
  have g2 := has_0 (r := i.rm) h3
  have g3 := has_0 (r := i.ra) h4
  have g4 : 0 ≤ i.imm ∧ i.imm ≤ 4095 ∧ i.imm % 1 = 0 := sp_s (s := 1) (by decide) h7
  have g5 : i.kind = 0 := (sh_0 rfl h9).1
  have g6 : i.by_ = 0 := sp_0 (sh_0 rfl h9).2
  have g7 : i.set = 0 ∨ i.set = 1 := h8.imp id fun e => e.1
  have g8 : i.cond = 0 := h6.elim id fun e => absurd (show false = true from e.1) Bool.false_ne_true
  clear h1 h2 h3 h4 h5 h6 h7 h8 h9 h10
  refine Spec.enter gTok P79 100 Tryd.func79 rfl (by kernel_rfl) ?_
  refine .inl ⟨inR_u32 (by omega), ?_⟩
  refine .inl ⟨inR_u32 (by omega), ?_⟩
  refine ⟨[], no_rl, (pshapeLit hs).use (And.intro rfl trivial) rfl rfl ?_⟩
  refine ⟨[], no_rl, (plain_pure i (by omega) (by omega) (by omega) (by omega) (by omega)).use (by repeat' first | exact trivial | exact rfl | exact Iff.rfl | exact Or.inl rfl | refine And.intro ?_ ?_) rfl rfl ?_⟩
  refine ⟨[], no_rl, (twelve_pure i.imm (by unfold U32; omega)).use (And.intro rfl trivial) rfl rfl ?_⟩
  refine retE ?_
  have eo : orF i (fieldsV 19) = 0 ||| B i.imm 11 1 26 ||| B i.imm 8 3 12 ||| B i.imm 0 8 0 ||| B i.set 0 1 20 ||| B i.rd 0 4 8 := rfl
  have z12 : B i.imm 12 4 16 = 0 := B_zero (by unfold bitsV; split <;> omega)
  rw [eo]
  refine (show bits .or .u32 (((B i.set 0 1 20 ||| B i.rn 0 4 16 ||| B i.ra 0 4 12 ||| B i.rd 0 4 8 ||| B i.rm 0 4 0 : Nat) : Int)) (((B i.imm 11 1 26 ||| B i.imm 12 4 16 ||| B i.imm 8 3 12 ||| B i.imm 0 8 0 : Nat) : Int)) = _ from ?_)
  refine ((((isPlain i)).or (isTwelve i.imm))).1.trans (congrArg (fun n : Nat => (n : Int)) ?_)
  first
  | (simp only [B_0 g1, B_0 g2, B_0 g3, z12, Nat.or_zero, Nat.zero_or]; done)
  | (simp only [B_0 g1, B_0 g2, B_0 g3, z12, Nat.or_zero, Nat.zero_or]
     generalize B i.imm 11 1 26 = n0
     generalize B i.imm 8 3 12 = n1
     generalize B i.imm 0 8 0 = n2
     generalize B i.set 0 1 20 = n3
     generalize B i.rd 0 4 8 = n4
     ac_rfl)
set_option maxHeartbeats 8000000 in
set_option maxRecDepth 100000 in
theorem wide_20 (i : IN) (hs : shapeV i.form = 20) (hr : rightR i (ruW 20)) (hg : i.regs ≤ 9223372036854775807) : PureF gT 79 [inP i] (.int .u32 ((orF i (fieldsV 20) : Nat) : Int)) := by
  obtain ⟨hf, h1, h2, h3, h4, h5, h6, h7, h8, h9, h10⟩ := hr
  have g0 := has_0 (r := i.rd) h1
  have g1 := has_3 (r := i.rn) h2
  have g2 := has_0 (r := i.rm) h3
  have g3 := has_0 (r := i.ra) h4
  have g4 : 0 ≤ i.imm ∧ i.imm ≤ 4095 ∧ i.imm % 1 = 0 := sp_s (s := 1) (by decide) h7
  have g5 : i.kind = 0 := (sh_0 rfl h9).1
  have g6 : i.by_ = 0 := sp_0 (sh_0 rfl h9).2
  have g7 : i.set = 0 := h8.elim id fun e => absurd (show false = true from e.2) Bool.false_ne_true
  have g8 : i.cond = 0 := h6.elim id fun e => absurd (show false = true from e.1) Bool.false_ne_true
  clear h1 h2 h3 h4 h5 h6 h7 h8 h9 h10
  refine Spec.enter gTok P79 100 Tryd.func79 rfl (by kernel_rfl) ?_
  refine .inl ⟨inR_u32 (by omega), ?_⟩
  refine .inl ⟨inR_u32 (by omega), ?_⟩
  refine ⟨[], no_rl, (pshapeLit hs).use (And.intro rfl trivial) rfl rfl ?_⟩
  refine ⟨[], no_rl, (plain_pure i (by omega) (by omega) (by omega) (by omega) (by omega)).use (by repeat' first | exact trivial | exact rfl | exact Iff.rfl | exact Or.inl rfl | refine And.intro ?_ ?_) rfl rfl ?_⟩
  refine ⟨[], no_rl, (twelve_pure i.imm (by unfold U32; omega)).use (And.intro rfl trivial) rfl rfl ?_⟩
  refine retE ?_
  have eo : orF i (fieldsV 20) = 0 ||| B i.imm 11 1 26 ||| B i.imm 8 3 12 ||| B i.imm 0 8 0 ||| B i.rn 0 4 16 := rfl
  have z12 : B i.imm 12 4 16 = 0 := B_zero (by unfold bitsV; split <;> omega)
  rw [eo]
  refine (show bits .or .u32 (((B i.set 0 1 20 ||| B i.rn 0 4 16 ||| B i.ra 0 4 12 ||| B i.rd 0 4 8 ||| B i.rm 0 4 0 : Nat) : Int)) (((B i.imm 11 1 26 ||| B i.imm 12 4 16 ||| B i.imm 8 3 12 ||| B i.imm 0 8 0 : Nat) : Int)) = _ from ?_)
  refine ((((isPlain i)).or (isTwelve i.imm))).1.trans (congrArg (fun n : Nat => (n : Int)) ?_)
  first
  | (simp only [B_0 g0, B_0 g2, B_0 g3, B_0 g7, z12, Nat.or_zero, Nat.zero_or]; done)
  | (simp only [B_0 g0, B_0 g2, B_0 g3, B_0 g7, z12, Nat.or_zero, Nat.zero_or]
     generalize B i.imm 11 1 26 = n0
     generalize B i.imm 8 3 12 = n1
     generalize B i.imm 0 8 0 = n2
     generalize B i.rn 0 4 16 = n3
     ac_rfl)
set_option maxHeartbeats 8000000 in
set_option maxRecDepth 100000 in
theorem wide_21 (i : IN) (hs : shapeV i.form = 21) (hr : rightR i (ruW 21)) (hg : i.regs ≤ 9223372036854775807) : PureF gT 79 [inP i] (.int .u32 ((orF i (fieldsV 21) : Nat) : Int)) := by
  obtain ⟨hf, h1, h2, h3, h4, h5, h6, h7, h8, h9, h10⟩ := hr
  have g0 := has_3 (r := i.rd) h1
  have g1 := has_3 (r := i.rn) h2
  have g2 := has_3 (r := i.rm) h3
  have g3 := has_0 (r := i.ra) h4
  have g4 : i.imm = 0 := sp_0 h7
  have g6 : barrelV i.kind i.by_ := sh_1 rfl h9
  have g5 := kind_bd g6
  have g6b : 0 ≤ i.by_ ∧ i.by_ ≤ 32 := by unfold barrelV at g6; omega
  have g7 : i.set = 0 ∨ i.set = 1 := h8.imp id fun e => e.1
  have g8 : i.cond = 0 := h6.elim id fun e => absurd (show false = true from e.1) Bool.false_ne_true
  clear h1 h2 h3 h4 h5 h6 h7 h8 h9 h10
  have b0 := bitsV_bd i.by_ 2 3
  have b1 := bitsV_bd i.by_ 0 2
  refine Spec.enter gTok P79 100 Tryd.func79 rfl (by kernel_rfl) ?_
  refine .inl ⟨inR_u32 (by omega), ?_⟩
  refine .inl ⟨inR_u32 (by omega), ?_⟩
  refine ⟨[], no_rl, (pshapeLit hs).use (And.intro rfl trivial) rfl rfl ?_⟩
  refine .inl ⟨inR_u32 (by omega), ?_⟩
  refine ⟨by decide, .inl ⟨inR_u32 (by rw [r4]; omega), ?_⟩⟩
  refine ⟨[], no_rl, (plain_pure i (by omega) (by omega) (by omega) (by omega) (by omega)).use (by repeat' first | exact trivial | exact rfl | exact Iff.rfl | exact Or.inl rfl | refine And.intro ?_ ?_) rfl rfl ?_⟩
  repeat (first
    | (refine ⟨[], no_rl, (cutB i.by_ 2 3 (by unfold U32; omega) (by decide) (by decide)).use (And.intro rfl (And.intro rfl (And.intro rfl trivial))) rfl rfl ?_⟩)
    | (refine ⟨by decide, .inl ⟨inR_u32 (by rw [r12]; omega), ?_⟩⟩)
    | (refine ⟨[], no_rl, (cutB i.by_ 0 2 (by unfold U32; omega) (by decide) (by decide)).use (And.intro rfl (And.intro rfl (And.intro rfl trivial))) rfl rfl ?_⟩)
    | (refine ⟨by decide, .inl ⟨inR_u32 (by rw [r6]; omega), ?_⟩⟩)
    | (refine .inl ⟨inR_u32 (by omega), ?_⟩)
    | (refine ⟨by decide, .inl ⟨inR_u32 (by rw [r4]; omega), ?_⟩⟩))
  refine retE ?_
  have eo : orF i (fieldsV 21) = 0 ||| B i.by_ 2 3 12 ||| B i.by_ 0 2 6 ||| B i.kind 0 2 4 ||| B i.set 0 1 20 ||| B i.rn 0 4 16 ||| B i.rd 0 4 8 ||| B i.rm 0 4 0 := rfl
  rw [eo]
  refine (show bits .or .u32 (bits .or .u32 (bits .or .u32 (((B i.set 0 1 20 ||| B i.rn 0 4 16 ||| B i.ra 0 4 12 ||| B i.rd 0 4 8 ||| B i.rm 0 4 0 : Nat) : Int)) (bitsV i.by_ 2 3 * Ev.pow2 .u32 12)) (bitsV i.by_ 0 2 * Ev.pow2 .u32 6)) (i.kind * Ev.pow2 .u32 4) = _ from ?_)
  refine ((((((((isPlain i)).or (isB i.by_ 2 3 12 (by decide) (by decide)))).or (isB i.by_ 0 2 6 (by decide) (by decide)))).or (isR i.kind 2 4 (by decide) (by decide) (by omega)))).1.trans (congrArg (fun n : Nat => (n : Int)) ?_)
  first
  | (simp only [B_0 g3, Nat.or_zero, Nat.zero_or]; done)
  | (simp only [B_0 g3, Nat.or_zero, Nat.zero_or]
     generalize B i.by_ 2 3 12 = n0
     generalize B i.by_ 0 2 6 = n1
     generalize B i.kind 0 2 4 = n2
     generalize B i.set 0 1 20 = n3
     generalize B i.rn 0 4 16 = n4
     generalize B i.rd 0 4 8 = n5
     generalize B i.rm 0 4 0 = n6
     ac_rfl)
set_option maxHeartbeats 8000000 in
set_option maxRecDepth 100000 in
theorem wide_22 (i : IN) (hs : shapeV i.form = 22) (hr : rightR i (ruW 22)) (hg : i.regs ≤ 9223372036854775807) : PureF gT 79 [inP i] (.int .u32 ((orF i (fieldsV 22) : Nat) : Int)) := by
  obtain ⟨hf, h1, h2, h3, h4, h5, h6, h7, h8, h9, h10⟩ := hr
  have g0 := has_3 (r := i.rd) h1
  have g1 := has_0 (r := i.rn) h2
  have g2 := has_3 (r := i.rm) h3
  have g3 := has_0 (r := i.ra) h4
  have g4 : i.imm = 0 := sp_0 h7
  have g6 : barrelV i.kind i.by_ := sh_1 rfl h9
  have g5 := kind_bd g6
  have g6b : 0 ≤ i.by_ ∧ i.by_ ≤ 32 := by unfold barrelV at g6; omega
  have g7 : i.set = 0 ∨ i.set = 1 := h8.imp id fun e => e.1
  have g8 : i.cond = 0 := h6.elim id fun e => absurd (show false = true from e.1) Bool.false_ne_true
  clear h1 h2 h3 h4 h5 h6 h7 h8 h9 h10
  have b0 := bitsV_bd i.by_ 2 3
  have b1 := bitsV_bd i.by_ 0 2
  refine Spec.enter gTok P79 100 Tryd.func79 rfl (by kernel_rfl) ?_
  refine .inl ⟨inR_u32 (by omega), ?_⟩
  refine .inl ⟨inR_u32 (by omega), ?_⟩
  refine ⟨[], no_rl, (pshapeLit hs).use (And.intro rfl trivial) rfl rfl ?_⟩
  refine .inl ⟨inR_u32 (by omega), ?_⟩
  refine ⟨by decide, .inl ⟨inR_u32 (by rw [r4]; omega), ?_⟩⟩
  refine ⟨[], no_rl, (plain_pure i (by omega) (by omega) (by omega) (by omega) (by omega)).use (by repeat' first | exact trivial | exact rfl | exact Iff.rfl | exact Or.inl rfl | refine And.intro ?_ ?_) rfl rfl ?_⟩
  repeat (first
    | (refine ⟨[], no_rl, (cutB i.by_ 2 3 (by unfold U32; omega) (by decide) (by decide)).use (And.intro rfl (And.intro rfl (And.intro rfl trivial))) rfl rfl ?_⟩)
    | (refine ⟨by decide, .inl ⟨inR_u32 (by rw [r12]; omega), ?_⟩⟩)
    | (refine ⟨[], no_rl, (cutB i.by_ 0 2 (by unfold U32; omega) (by decide) (by decide)).use (And.intro rfl (And.intro rfl (And.intro rfl trivial))) rfl rfl ?_⟩)
    | (refine ⟨by decide, .inl ⟨inR_u32 (by rw [r6]; omega), ?_⟩⟩)
    | (refine .inl ⟨inR_u32 (by omega), ?_⟩)
    | (refine ⟨by decide, .inl ⟨inR_u32 (by rw [r4]; omega), ?_⟩⟩))
  refine retE ?_
  have eo : orF i (fieldsV 22) = 0 ||| B i.by_ 2 3 12 ||| B i.by_ 0 2 6 ||| B i.kind 0 2 4 ||| B i.set 0 1 20 ||| B i.rd 0 4 8 ||| B i.rm 0 4 0 := rfl
  rw [eo]
  refine (show bits .or .u32 (bits .or .u32 (bits .or .u32 (((B i.set 0 1 20 ||| B i.rn 0 4 16 ||| B i.ra 0 4 12 ||| B i.rd 0 4 8 ||| B i.rm 0 4 0 : Nat) : Int)) (bitsV i.by_ 2 3 * Ev.pow2 .u32 12)) (bitsV i.by_ 0 2 * Ev.pow2 .u32 6)) (i.kind * Ev.pow2 .u32 4) = _ from ?_)
  refine ((((((((isPlain i)).or (isB i.by_ 2 3 12 (by decide) (by decide)))).or (isB i.by_ 0 2 6 (by decide) (by decide)))).or (isR i.kind 2 4 (by decide) (by decide) (by omega)))).1.trans (congrArg (fun n : Nat => (n : Int)) ?_)
  first
  | (simp only [B_0 g1, B_0 g3, Nat.or_zero, Nat.zero_or]; done)
  | (simp only [B_0 g1, B_0 g3, Nat.or_zero, Nat.zero_or]
     generalize B i.by_ 2 3 12 = n0
     generalize B i.by_ 0 2 6 = n1
     generalize B i.kind 0 2 4 = n2
     generalize B i.set 0 1 20 = n3
     generalize B i.rd 0 4 8 = n4
     generalize B i.rm 0 4 0 = n5
     ac_rfl)
set_option maxHeartbeats 8000000 in
set_option maxRecDepth 100000 in
theorem wide_23 (i : IN) (hs : shapeV i.form = 23) (hr : rightR i (ruW 23)) (hg : i.regs ≤ 9223372036854775807) : PureF gT 79 [inP i] (.int .u32 ((orF i (fieldsV 23) : Nat) : Int)) := by
  obtain ⟨hf, h1, h2, h3, h4, h5, h6, h7, h8, h9, h10⟩ := hr
  have g0 := has_0 (r := i.rd) h1
  have g1 := has_3 (r := i.rn) h2
  have g2 := has_3 (r := i.rm) h3
  have g3 := has_0 (r := i.ra) h4
  have g4 : i.imm = 0 := sp_0 h7
  have g6 : barrelV i.kind i.by_ := sh_1 rfl h9
  have g5 := kind_bd g6
  have g6b : 0 ≤ i.by_ ∧ i.by_ ≤ 32 := by unfold barrelV at g6; omega
  have g7 : i.set = 0 := h8.elim id fun e => absurd (show false = true from e.2) Bool.false_ne_true
  have g8 : i.cond = 0 := h6.elim id fun e => absurd (show false = true from e.1) Bool.false_ne_true
  clear h1 h2 h3 h4 h5 h6 h7 h8 h9 h10
  have b0 := bitsV_bd i.by_ 2 3
  have b1 := bitsV_bd i.by_ 0 2
  refine Spec.enter gTok P79 100 Tryd.func79 rfl (by kernel_rfl) ?_
  refine .inl ⟨inR_u32 (by omega), ?_⟩
  refine .inl ⟨inR_u32 (by omega), ?_⟩
  refine ⟨[], no_rl, (pshapeLit hs).use (And.intro rfl trivial) rfl rfl ?_⟩
  refine .inl ⟨inR_u32 (by omega), ?_⟩
  refine ⟨by decide, .inl ⟨inR_u32 (by rw [r4]; omega), ?_⟩⟩
  refine ⟨[], no_rl, (plain_pure i (by omega) (by omega) (by omega) (by omega) (by omega)).use (by repeat' first | exact trivial | exact rfl | exact Iff.rfl | exact Or.inl rfl | refine And.intro ?_ ?_) rfl rfl ?_⟩
  repeat (first
    | (refine ⟨[], no_rl, (cutB i.by_ 2 3 (by unfold U32; omega) (by decide) (by decide)).use (And.intro rfl (And.intro rfl (And.intro rfl trivial))) rfl rfl ?_⟩)
    | (refine ⟨by decide, .inl ⟨inR_u32 (by rw [r12]; omega), ?_⟩⟩)
    | (refine ⟨[], no_rl, (cutB i.by_ 0 2 (by unfold U32; omega) (by decide) (by decide)).use (And.intro rfl (And.intro rfl (And.intro rfl trivial))) rfl rfl ?_⟩)
    | (refine ⟨by decide, .inl ⟨inR_u32 (by rw [r6]; omega), ?_⟩⟩)
    | (refine .inl ⟨inR_u32 (by omega), ?_⟩)
    | (refine ⟨by decide, .inl ⟨inR_u32 (by rw [r4]; omega), ?_⟩⟩))
  refine retE ?_
  have eo : orF i (fieldsV 23) = 0 ||| B i.by_ 2 3 12 ||| B i.by_ 0 2 6 ||| B i.kind 0 2 4 ||| B i.rn 0 4 16 ||| B i.rm 0 4 0 := rfl
  rw [eo]
  refine (show bits .or .u32 (bits .or .u32 (bits .or .u32 (((B i.set 0 1 20 ||| B i.rn 0 4 16 ||| B i.ra 0 4 12 ||| B i.rd 0 4 8 ||| B i.rm 0 4 0 : Nat) : Int)) (bitsV i.by_ 2 3 * Ev.pow2 .u32 12)) (bitsV i.by_ 0 2 * Ev.pow2 .u32 6)) (i.kind * Ev.pow2 .u32 4) = _ from ?_)
  refine ((((((((isPlain i)).or (isB i.by_ 2 3 12 (by decide) (by decide)))).or (isB i.by_ 0 2 6 (by decide) (by decide)))).or (isR i.kind 2 4 (by decide) (by decide) (by omega)))).1.trans (congrArg (fun n : Nat => (n : Int)) ?_)
  first
  | (simp only [B_0 g0, B_0 g3, B_0 g7, Nat.or_zero, Nat.zero_or]; done)
  | (simp only [B_0 g0, B_0 g3, B_0 g7, Nat.or_zero, Nat.zero_or]
     generalize B i.by_ 2 3 12 = n0
     generalize B i.by_ 0 2 6 = n1
     generalize B i.kind 0 2 4 = n2
     generalize B i.rn 0 4 16 = n3
     generalize B i.rm 0 4 0 = n4
     ac_rfl)
set_option maxHeartbeats 8000000 in
set_option maxRecDepth 100000 in
theorem wide_24 (i : IN) (hs : shapeV i.form = 24) (hr : rightR i (ruW 24)) (hg : i.regs ≤ 9223372036854775807) : PureF gT 79 [inP i] (.int .u32 ((orF i (fieldsV 24) : Nat) : Int)) := by
  obtain ⟨hf, h1, h2, h3, h4, h5, h6, h7, h8, h9, h10⟩ := hr
  have g0 := has_3 (r := i.rd) h1
  have g1 := has_3 (r := i.rn) h2
  have g2 := has_0 (r := i.rm) h3
  have g3 := has_0 (r := i.ra) h4
  have g4 : 0 ≤ i.imm ∧ i.imm ≤ 4095 ∧ i.imm % 1 = 0 := sp_s (s := 1) (by decide) h7
  have g5 : i.kind = 0 := (sh_0 rfl h9).1
  have g6 : i.by_ = 0 := sp_0 (sh_0 rfl h9).2
  have g7 : i.set = 0 := h8.elim id fun e => absurd (show false = true from e.2) Bool.false_ne_true
  have g8 : i.cond = 0 := h6.elim id fun e => absurd (show false = true from e.1) Bool.false_ne_true
  clear h1 h2 h3 h4 h5 h6 h7 h8 h9 h10
  refine Spec.enter gTok P79 100 Tryd.func79 rfl (by kernel_rfl) ?_
  refine .inl ⟨inR_u32 (by omega), ?_⟩
  refine .inl ⟨inR_u32 (by omega), ?_⟩
  refine ⟨[], no_rl, (pshapeLit hs).use (And.intro rfl trivial) rfl rfl ?_⟩
  refine ⟨[], no_rl, (plain_pure i (by omega) (by omega) (by omega) (by omega) (by omega)).use (by repeat' first | exact trivial | exact rfl | exact Iff.rfl | exact Or.inl rfl | refine And.intro ?_ ?_) rfl rfl ?_⟩
  refine ⟨[], no_rl, (twelve_pure i.imm (by unfold U32; omega)).use (And.intro rfl trivial) rfl rfl ?_⟩
  refine retE ?_
  have eo : orF i (fieldsV 24) = 0 ||| B i.imm 11 1 26 ||| B i.imm 8 3 12 ||| B i.imm 0 8 0 ||| B i.rn 0 4 16 ||| B i.rd 0 4 8 := rfl
  have z12 : B i.imm 12 4 16 = 0 := B_zero (by unfold bitsV; split <;> omega)
  rw [eo]
  refine (show bits .or .u32 (((B i.set 0 1 20 ||| B i.rn 0 4 16 ||| B i.ra 0 4 12 ||| B i.rd 0 4 8 ||| B i.rm 0 4 0 : Nat) : Int)) (((B i.imm 11 1 26 ||| B i.imm 12 4 16 ||| B i.imm 8 3 12 ||| B i.imm 0 8 0 : Nat) : Int)) = _ from ?_)
  refine ((((isPlain i)).or (isTwelve i.imm))).1.trans (congrArg (fun n : Nat => (n : Int)) ?_)
  first
  | (simp only [B_0 g2, B_0 g3, B_0 g7, z12, Nat.or_zero, Nat.zero_or]; done)
  | (simp only [B_0 g2, B_0 g3, B_0 g7, z12, Nat.or_zero, Nat.zero_or]
     generalize B i.imm 11 1 26 = n0
     generalize B i.imm 8 3 12 = n1
     generalize B i.imm 0 8 0 = n2
     generalize B i.rn 0 4 16 = n3
     generalize B i.rd 0 4 8 = n4
     ac_rfl)
set_option maxHeartbeats 8000000 in
set_option maxRecDepth 100000 in
theorem wide_25 (i : IN) (hs : shapeV i.form = 25) (hr : rightR i (ruW 25)) (hg : i.regs ≤ 9223372036854775807) : PureF gT 79 [inP i] (.int .u32 ((orF i (fieldsV 25) : Nat) : Int)) := by
  obtain ⟨hf, h1, h2, h3, h4, h5, h6, h7, h8, h9, h10⟩ := hr
  have g0 := has_3 (r := i.rd) h1
  have g1 := has_2 (r := i.rn) h2
  have g2 := has_0 (r := i.rm) h3
  have g3 := has_0 (r := i.ra) h4
  have g4 : 0 ≤ i.imm ∧ i.imm ≤ 4095 ∧ i.imm % 1 = 0 := sp_s (s := 1) (by decide) h7
  have g5 : i.kind = 0 := (sh_0 rfl h9).1
  have g6 : i.by_ = 0 := sp_0 (sh_0 rfl h9).2
  have g7 : i.set = 0 := h8.elim id fun e => absurd (show false = true from e.2) Bool.false_ne_true
  have g8 : i.cond = 0 := h6.elim id fun e => absurd (show false = true from e.1) Bool.false_ne_true
  clear h1 h2 h3 h4 h5 h6 h7 h8 h9 h10
  refine Spec.enter gTok P79 100 Tryd.func79 rfl (by kernel_rfl) ?_
  refine .inl ⟨inR_u32 (by omega), ?_⟩
  refine .inl ⟨inR_u32 (by omega), ?_⟩
  refine ⟨[], no_rl, (pshapeLit hs).use (And.intro rfl trivial) rfl rfl ?_⟩
  refine .inl ⟨inR_u32 (by omega), ?_⟩
  refine ⟨by decide, .inl ⟨inR_u32 (by rw [r16]; omega), ?_⟩⟩
  refine .inl ⟨inR_u32 (by omega), ?_⟩
  refine ⟨by decide, .inl ⟨inR_u32 (by rw [r12]; omega), ?_⟩⟩
  refine retE ?_
  have eo : orF i (fieldsV 25) = 0 ||| B i.rn 0 4 16 ||| B i.rd 0 4 12 ||| B i.imm 0 12 0 := rfl
  rw [eo]
  refine (show bits .or .u32 (bits .or .u32 (i.rn * Ev.pow2 .u32 16) (i.rd * Ev.pow2 .u32 12)) (i.imm) = _ from ?_)
  refine ((((((isR i.rn 4 16 (by decide) (by decide) (by omega))).or (isR i.rd 4 12 (by decide) (by decide) (by omega)))).or (isR0 i.imm 12 (by decide) (by omega)))).1.trans (congrArg (fun n : Nat => (n : Int)) ?_)
  first
  | (simp only [Nat.or_zero, Nat.zero_or]; done)
  | (simp only [Nat.or_zero, Nat.zero_or]
     generalize B i.rn 0 4 16 = n0
     generalize B i.rd 0 4 12 = n1
     generalize B i.imm 0 12 0 = n2
     ac_rfl)
set_option maxHeartbeats 8000000 in
set_option maxRecDepth 100000 in
theorem wide_26 (i : IN) (hs : shapeV i.form = 26) (hr : rightR i (ruW 26)) (hg : i.regs ≤ 9223372036854775807) : PureF gT 79 [inP i] (.int .u32 ((orF i (fieldsV 26) : Nat) : Int)) := by
  obtain ⟨hf, h1, h2, h3, h4, h5, h6, h7, h8, h9, h10⟩ := hr
  have g0 := has_3 (r := i.rd) h1
  have g1 := has_2 (r := i.rn) h2
  have g2 := has_3 (r := i.rm) h3
  have g3 := has_0 (r := i.ra) h4
  have g4 : i.imm = 0 := sp_0 h7
  have g5 : i.kind = 0 := (sh_0 rfl h9).1
  have g6 : 0 ≤ i.by_ ∧ i.by_ ≤ 3 ∧ i.by_ % 1 = 0 := sp_s (s := 1) (by decide) (sh_0 rfl h9).2
  have g7 : i.set = 0 := h8.elim id fun e => absurd (show false = true from e.2) Bool.false_ne_true
  have g8 : i.cond = 0 := h6.elim id fun e => absurd (show false = true from e.1) Bool.false_ne_true
  clear h1 h2 h3 h4 h5 h6 h7 h8 h9 h10
  refine Spec.enter gTok P79 100 Tryd.func79 rfl (by kernel_rfl) ?_
  refine .inl ⟨inR_u32 (by omega), ?_⟩
  refine .inl ⟨inR_u32 (by omega), ?_⟩
  refine ⟨[], no_rl, (pshapeLit hs).use (And.intro rfl trivial) rfl rfl ?_⟩
  refine .inl ⟨inR_u32 (by omega), ?_⟩
  refine ⟨by decide, .inl ⟨inR_u32 (by rw [r16]; omega), ?_⟩⟩
  refine .inl ⟨inR_u32 (by omega), ?_⟩
  refine ⟨by decide, .inl ⟨inR_u32 (by rw [r12]; omega), ?_⟩⟩
  refine ⟨by decide, .inl ⟨inR_u32 (by rw [r4]; omega), ?_⟩⟩
  refine .inl ⟨inR_u32 (by omega), ?_⟩
  refine retE ?_
  have eo : orF i (fieldsV 26) = 0 ||| B i.rn 0 4 16 ||| B i.rd 0 4 12 ||| B i.by_ 0 2 4 ||| B i.rm 0 4 0 := rfl
  rw [eo]
  refine (show bits .or .u32 (bits .or .u32 (bits .or .u32 (i.rn * Ev.pow2 .u32 16) (i.rd * Ev.pow2 .u32 12)) (i.by_ * Ev.pow2 .u32 4)) (i.rm) = _ from ?_)
  refine ((((((((isR i.rn 4 16 (by decide) (by decide) (by omega))).or (isR i.rd 4 12 (by decide) (by decide) (by omega)))).or (isR i.by_ 2 4 (by decide) (by decide) (by omega)))).or (isR0 i.rm 4 (by decide) (by omega)))).1.trans (congrArg (fun n : Nat => (n : Int)) ?_)
  first
  | (simp only [Nat.or_zero, Nat.zero_or]; done)
  | (simp only [Nat.or_zero, Nat.zero_or]
     generalize B i.rn 0 4 16 = n0
     generalize B i.rd 0 4 12 = n1
     generalize B i.by_ 0 2 4 = n2
     generalize B i.rm 0 4 0 = n3
     ac_rfl)
set_option maxHeartbeats 8000000 in
set_option maxRecDepth 100000 in
theorem wide_27 (i : IN) (hs : shapeV i.form = 27) (hr : rightR i (ruW 27)) (hg : i.regs ≤ 9223372036854775807) : PureF gT 79 [inP i] (.int .u32 ((orF i (fieldsV 27) : Nat) : Int)) := by
  obtain ⟨hf, h1, h2, h3, h4, h5, h6, h7, h8, h9, h10⟩ := hr
  have g0 := has_3 (r := i.rd) h1
  have g1 := has_3 (r := i.rn) h2
  have g2 := has_3 (r := i.rm) h3
  have g3 := has_0 (r := i.ra) h4
  have g4 : i.imm = 0 := sp_0 h7
  have g5 : i.kind = 0 := (sh_0 rfl h9).1
  have g6 : i.by_ = 0 := sp_0 (sh_0 rfl h9).2
  have g7 : i.set = 0 ∨ i.set = 1 := h8.imp id fun e => e.1
  have g8 : i.cond = 0 := h6.elim id fun e => absurd (show false = true from e.1) Bool.false_ne_true
  clear h1 h2 h3 h4 h5 h6 h7 h8 h9 h10
  refine Spec.enter gTok P79 100 Tryd.func79 rfl (by kernel_rfl) ?_
  refine .inl ⟨inR_u32 (by omega), ?_⟩
  refine .inl ⟨inR_u32 (by omega), ?_⟩
  refine ⟨[], no_rl, (pshapeLit hs).use (And.intro rfl trivial) rfl rfl ?_⟩
  refine ⟨[], no_rl, (plain_pure i (by omega) (by omega) (by omega) (by omega) (by omega)).use (by repeat' first | exact trivial | exact rfl | exact Iff.rfl | exact Or.inl rfl | refine And.intro ?_ ?_) rfl rfl ?_⟩
  refine retE ?_
  have eo : orF i (fieldsV 27) = 0 ||| B i.set 0 1 20 ||| B i.rn 0 4 16 ||| B i.rd 0 4 8 ||| B i.rm 0 4 0 := rfl
  rw [eo]
  refine (show ((B i.set 0 1 20 ||| B i.rn 0 4 16 ||| B i.ra 0 4 12 ||| B i.rd 0 4 8 ||| B i.rm 0 4 0 : Nat) : Int) = _ from ?_)
  refine ((isPlain i)).1.trans (congrArg (fun n : Nat => (n : Int)) ?_)
  first
  | (simp only [B_0 g3, Nat.or_zero, Nat.zero_or]; done)
  | (simp only [B_0 g3, Nat.or_zero, Nat.zero_or]
     generalize B i.set 0 1 20 = n0
     generalize B i.rn 0 4 16 = n1
     generalize B i.rd 0 4 8 = n2
     generalize B i.rm 0 4 0 = n3
     ac_rfl)
set_option maxHeartbeats 8000000 in
set_option maxRecDepth 100000 in
theorem wide_28 (i : IN) (hs : shapeV i.form = 28) (hr : rightR i (ruW 28)) (hg : i.regs ≤ 9223372036854775807) : PureF gT 79 [inP i] (.int .u32 ((orF i (fieldsV 28) : Nat) : Int)) := by
  obtain ⟨hf, h1, h2, h3, h4, h5, h6, h7, h8, h9, h10⟩ := hr
  have g0 := has_3 (r := i.rd) h1
  have g1 := has_3 (r := i.rn) h2
  have g2 := has_3 (r := i.rm) h3
  have g3 := has_0 (r := i.ra) h4
  have g4 : i.imm = 0 := sp_0 h7
  have g5 : i.kind = 0 := (sh_0 rfl h9).1
  have g6 : i.by_ = 0 := sp_0 (sh_0 rfl h9).2
  have g7 : i.set = 0 := h8.elim id fun e => absurd (show false = true from e.2) Bool.false_ne_true
  have g8 : i.cond = 0 := h6.elim id fun e => absurd (show false = true from e.1) Bool.false_ne_true
  clear h1 h2 h3 h4 h5 h6 h7 h8 h9 h10
  refine Spec.enter gTok P79 100 Tryd.func79 rfl (by kernel_rfl) ?_
  refine .inl ⟨inR_u32 (by omega), ?_⟩
  refine .inl ⟨inR_u32 (by omega), ?_⟩
  refine ⟨[], no_rl, (pshapeLit hs).use (And.intro rfl trivial) rfl rfl ?_⟩
  refine ⟨[], no_rl, (plain_pure i (by omega) (by omega) (by omega) (by omega) (by omega)).use (by repeat' first | exact trivial | exact rfl | exact Iff.rfl | exact Or.inl rfl | refine And.intro ?_ ?_) rfl rfl ?_⟩
  refine retE ?_
  have eo : orF i (fieldsV 28) = 0 ||| B i.rn 0 4 16 ||| B i.rd 0 4 8 ||| B i.rm 0 4 0 := rfl
  rw [eo]
  refine (show ((B i.set 0 1 20 ||| B i.rn 0 4 16 ||| B i.ra 0 4 12 ||| B i.rd 0 4 8 ||| B i.rm 0 4 0 : Nat) : Int) = _ from ?_)
  refine ((isPlain i)).1.trans (congrArg (fun n : Nat => (n : Int)) ?_)
  first
  | (simp only [B_0 g3, B_0 g7, Nat.or_zero, Nat.zero_or]; done)
  | (simp only [B_0 g3, B_0 g7, Nat.or_zero, Nat.zero_or]
     generalize B i.rn 0 4 16 = n0
     generalize B i.rd 0 4 8 = n1
     generalize B i.rm 0 4 0 = n2
     ac_rfl)
set_option maxHeartbeats 8000000 in
set_option maxRecDepth 100000 in
theorem wide_29 (i : IN) (hs : shapeV i.form = 29) (hr : rightR i (ruW 29)) (hg : i.regs ≤ 9223372036854775807) : PureF gT 79 [inP i] (.int .u32 ((orF i (fieldsV 29) : Nat) : Int)) := by
  obtain ⟨hf, h1, h2, h3, h4, h5, h6, h7, h8, h9, h10⟩ := hr
  have g0 := has_3 (r := i.rd) h1
  have g1 := has_3 (r := i.rn) h2
  have g2 := has_3 (r := i.rm) h3
  have g3 := has_3 (r := i.ra) h4
  have g4 : i.imm = 0 := sp_0 h7
  have g5 : i.kind = 0 := (sh_0 rfl h9).1
  have g6 : i.by_ = 0 := sp_0 (sh_0 rfl h9).2
  have g7 : i.set = 0 := h8.elim id fun e => absurd (show false = true from e.2) Bool.false_ne_true
  have g8 : i.cond = 0 := h6.elim id fun e => absurd (show false = true from e.1) Bool.false_ne_true
  clear h1 h2 h3 h4 h5 h6 h7 h8 h9 h10
  refine Spec.enter gTok P79 100 Tryd.func79 rfl (by kernel_rfl) ?_
  refine .inl ⟨inR_u32 (by omega), ?_⟩
  refine .inl ⟨inR_u32 (by omega), ?_⟩
  refine ⟨[], no_rl, (pshapeLit hs).use (And.intro rfl trivial) rfl rfl ?_⟩
  refine ⟨[], no_rl, (plain_pure i (by omega) (by omega) (by omega) (by omega) (by omega)).use (by repeat' first | exact trivial | exact rfl | exact Iff.rfl | exact Or.inl rfl | refine And.intro ?_ ?_) rfl rfl ?_⟩
  refine retE ?_
  have eo : orF i (fieldsV 29) = 0 ||| B i.rn 0 4 16 ||| B i.ra 0 4 12 ||| B i.rd 0 4 8 ||| B i.rm 0 4 0 := rfl
  rw [eo]
  refine (show ((B i.set 0 1 20 ||| B i.rn 0 4 16 ||| B i.ra 0 4 12 ||| B i.rd 0 4 8 ||| B i.rm 0 4 0 : Nat) : Int) = _ from ?_)
  refine ((isPlain i)).1.trans (congrArg (fun n : Nat => (n : Int)) ?_)
  first
  | (simp only [B_0 g7, Nat.or_zero, Nat.zero_or]; done)
  | (simp only [B_0 g7, Nat.or_zero, Nat.zero_or]
     generalize B i.rn 0 4 16 = n0
     generalize B i.ra 0 4 12 = n1
     generalize B i.rd 0 4 8 = n2
     generalize B i.rm 0 4 0 = n3
     ac_rfl)
set_option maxHeartbeats 8000000 in
set_option maxRecDepth 100000 in
theorem wide_30 (i : IN) (hs : shapeV i.form = 30) (hr : rightR i (ruW 30)) (hg : i.regs ≤ 9223372036854775807) : PureF gT 79 [inP i] (.int .u32 ((orF i (fieldsV 30) : Nat) : Int)) := by
  obtain ⟨hf, h1, h2, h3, h4, h5, h6, h7, h8, h9, h10⟩ := hr
  have g0 := has_3 (r := i.rd) h1
  have g1 := has_3 (r := i.rn) h2
  have g2 := has_3 (r := i.rm) h3
  have g3 := has_3 (r := i.ra) h4
  have g4 : i.imm = 0 := sp_0 h7
  have g5 : i.kind = 0 := (sh_0 rfl h9).1
  have g6 : i.by_ = 0 := sp_0 (sh_0 rfl h9).2
  have g7 : i.set = 0 := h8.elim id fun e => absurd (show false = true from e.2) Bool.false_ne_true
  have g8 : i.cond = 0 := h6.elim id fun e => absurd (show false = true from e.1) Bool.false_ne_true
  clear h1 h2 h3 h4 h5 h6 h7 h8 h9 h10
  refine Spec.enter gTok P79 100 Tryd.func79 rfl (by kernel_rfl) ?_
  refine .inl ⟨inR_u32 (by omega), ?_⟩
  refine .inl ⟨inR_u32 (by omega), ?_⟩
  refine ⟨[], no_rl, (pshapeLit hs).use (And.intro rfl trivial) rfl rfl ?_⟩
  refine ⟨[], no_rl, (plain_pure i (by omega) (by omega) (by omega) (by omega) (by omega)).use (by repeat' first | exact trivial | exact rfl | exact Iff.rfl | exact Or.inl rfl | refine And.intro ?_ ?_) rfl rfl ?_⟩
  refine retE ?_
  have eo : orF i (fieldsV 30) = 0 ||| B i.rn 0 4 16 ||| B i.ra 0 4 12 ||| B i.rd 0 4 8 ||| B i.rm 0 4 0 := rfl
  rw [eo]
  refine (show ((B i.set 0 1 20 ||| B i.rn 0 4 16 ||| B i.ra 0 4 12 ||| B i.rd 0 4 8 ||| B i.rm 0 4 0 : Nat) : Int) = _ from ?_)
  refine ((isPlain i)).1.trans (congrArg (fun n : Nat => (n : Int)) ?_)
  first
  | (simp only [B_0 g7, Nat.or_zero, Nat.zero_or]; done)
  | (simp only [B_0 g7, Nat.or_zero, Nat.zero_or]
     generalize B i.rn 0 4 16 = n0
     generalize B i.ra 0 4 12 = n1
     generalize B i.rd 0 4 8 = n2
     generalize B i.rm 0 4 0 = n3
     ac_rfl)
set_option maxHeartbeats 8000000 in
set_option maxRecDepth 100000 in
theorem wide_31 (i : IN) (hs : shapeV i.form = 31) (hr : rightR i (ruW 31)) (hg : i.regs ≤ 9223372036854775807) : PureF gT 79 [inP i] (.int .u32 ((orF i (fieldsV 31) : Nat) : Int)) := by
  obtain ⟨hf, h1, h2, h3, h4, h5, h6, h7, h8, h9, h10⟩ := hr
  have g0 := has_3 (r := i.rd) h1
  have g1 := has_3 (r := i.rn) h2
  have g2 := has_3 (r := i.rm) h3
  have g3 := has_3 (r := i.ra) h4
  have g4 : i.imm = 0 := sp_0 h7
  have g5 : i.kind = 0 := (sh_0 rfl h9).1
  have g6 : i.by_ = 0 := sp_0 (sh_0 rfl h9).2
  have g7 : i.set = 0 := h8.elim id fun e => absurd (show false = true from e.2) Bool.false_ne_true
  have g8 : i.cond = 0 := h6.elim id fun e => absurd (show false = true from e.1) Bool.false_ne_true
  clear h1 h2 h3 h4 h5 h6 h7 h8 h9 h10
  refine Spec.enter gTok P79 100 Tryd.func79 rfl (by kernel_rfl) ?_
  refine .inl ⟨inR_u32 (by omega), ?_⟩
  refine .inl ⟨inR_u32 (by omega), ?_⟩
  refine ⟨[], no_rl, (pshapeLit hs).use (And.intro rfl trivial) rfl rfl ?_⟩
  refine .inl ⟨inR_u32 (by omega), ?_⟩
  refine ⟨by decide, .inl ⟨inR_u32 (by rw [r16]; omega), ?_⟩⟩
  refine .inl ⟨inR_u32 (by omega), ?_⟩
  refine ⟨by decide, .inl ⟨inR_u32 (by rw [r12]; omega), ?_⟩⟩
  refine .inl ⟨inR_u32 (by omega), ?_⟩
  refine ⟨by decide, .inl ⟨inR_u32 (by rw [r8]; omega), ?_⟩⟩
  refine .inl ⟨inR_u32 (by omega), ?_⟩
  refine retE ?_
  have eo : orF i (fieldsV 31) = 0 ||| B i.rn 0 4 16 ||| B i.rd 0 4 12 ||| B i.ra 0 4 8 ||| B i.rm 0 4 0 := rfl
  rw [eo]
  refine (show bits .or .u32 (bits .or .u32 (bits .or .u32 (i.rn * Ev.pow2 .u32 16) (i.rd * Ev.pow2 .u32 12)) (i.ra * Ev.pow2 .u32 8)) (i.rm) = _ from ?_)
  refine ((((((((isR i.rn 4 16 (by decide) (by decide) (by omega))).or (isR i.rd 4 12 (by decide) (by decide) (by omega)))).or (isR i.ra 4 8 (by decide) (by decide) (by omega)))).or (isR0 i.rm 4 (by decide) (by omega)))).1.trans (congrArg (fun n : Nat => (n : Int)) ?_)
  first
  | (simp only [Nat.or_zero, Nat.zero_or]; done)
  | (simp only [Nat.or_zero, Nat.zero_or]
     generalize B i.rn 0 4 16 = n0
     generalize B i.rd 0 4 12 = n1
     generalize B i.ra 0 4 8 = n2
     generalize B i.rm 0 4 0 = n3
     ac_rfl)
set_option maxHeartbeats 8000000 in
set_option maxRecDepth 100000 in
theorem wide_32 (i : IN) (hs : shapeV i.form = 32) (hr : rightR i (ruW 32)) (hg : i.regs ≤ 9223372036854775807) : PureF gT 79 [inP i] (.int .u32 ((orF i (fieldsV 32) : Nat) : Int)) := by
  obtain ⟨hf, h1, h2, h3, h4, h5, h6, h7, h8, h9, h10⟩ := hr
  have g0 := has_3 (r := i.rd) h1
  have g1 := has_0 (r := i.rn) h2
  have g2 := has_3 (r := i.rm) h3
  have g3 := has_0 (r := i.ra) h4
  have g4 : i.imm = 0 := sp_0 h7
  have g5 : i.kind = 0 := (sh_0 rfl h9).1
  have g6 : i.by_ = 0 := sp_0 (sh_0 rfl h9).2
  have g7 : i.set = 0 := h8.elim id fun e => absurd (show false = true from e.2) Bool.false_ne_true
  have g8 : i.cond = 0 := h6.elim id fun e => absurd (show false = true from e.1) Bool.false_ne_true
  clear h1 h2 h3 h4 h5 h6 h7 h8 h9 h10
  refine Spec.enter gTok P79 100 Tryd.func79 rfl (by kernel_rfl) ?_
  refine .inl ⟨inR_u32 (by omega), ?_⟩
  refine .inl ⟨inR_u32 (by omega), ?_⟩
  refine ⟨[], no_rl, (pshapeLit hs).use (And.intro rfl trivial) rfl rfl ?_⟩
  refine .inl ⟨inR_u32 (by omega), ?_⟩
  refine ⟨by decide, .inl ⟨inR_u32 (by rw [r16]; omega), ?_⟩⟩
  refine .inl ⟨inR_u32 (by omega), ?_⟩
  refine ⟨by decide, .inl ⟨inR_u32 (by rw [r8]; omega), ?_⟩⟩
  refine .inl ⟨inR_u32 (by omega), ?_⟩
  refine retE ?_
  have eo : orF i (fieldsV 32) = 0 ||| B i.rm 0 4 16 ||| B i.rd 0 4 8 ||| B i.rm 0 4 0 := rfl
  rw [eo]
  refine (show bits .or .u32 (bits .or .u32 (i.rm * Ev.pow2 .u32 16) (i.rd * Ev.pow2 .u32 8)) (i.rm) = _ from ?_)
  refine ((((((isR i.rm 4 16 (by decide) (by decide) (by omega))).or (isR i.rd 4 8 (by decide) (by decide) (by omega)))).or (isR0 i.rm 4 (by decide) (by omega)))).1.trans (congrArg (fun n : Nat => (n : Int)) ?_)
  first
  | (simp only [Nat.or_zero, Nat.zero_or]; done)
  | (simp only [Nat.or_zero, Nat.zero_or]
     generalize B i.rm 0 4 16 = n0
     generalize B i.rd 0 4 8 = n1
     generalize B i.rm 0 4 0 = n2
     ac_rfl)
set_option maxHeartbeats 8000000 in
set_option maxRecDepth 100000 in
theorem condWide_pure (v c : Int) (hv : -1099511627776 ≤ v) (hc : 0 ≤ c ∧ c < 16) : PureF gT 87 [.int .u32 (IntKind.u32.wrap v), .int .u32 c] (.int .u32 ((B v 20 1 26 ||| B c 0 4 22 ||| B v 12 6 16 ||| B v 18 1 13 ||| B v 19 1 11 ||| B v 1 11 0 : Nat) : Int)) := by
  have b0 := bitsV_bd v 20 1
  have b1 := bitsV_bd v 12 6
  have b2 := bitsV_bd v 18 1
  have b3 := bitsV_bd v 19 1
  have b4 := bitsV_bd v 1 11
  refine Spec.enter gTok P87 100 Tryd.func87 rfl (by kernel_rfl) ?_
  refine ⟨[], no_rl, (cutW v 20 1 (by omega) (by decide) (by decide) (by decide)).use (And.intro rfl (And.intro rfl (And.intro rfl trivial))) rfl rfl ?_⟩
  refine ⟨by decide, .inl ⟨inR_u32 (by rw [r26]; omega), ?_⟩⟩
  refine ⟨by decide, .inl ⟨inR_u32 (by rw [r22]; omega), ?_⟩⟩
  refine ⟨[], no_rl, (cutW v 12 6 (by omega) (by decide) (by decide) (by decide)).use (And.intro rfl (And.intro rfl (And.intro rfl trivial))) rfl rfl ?_⟩
  refine ⟨by decide, .inl ⟨inR_u32 (by rw [r16]; omega), ?_⟩⟩
  refine ⟨[], no_rl, (cutW v 18 1 (by omega) (by decide) (by decide) (by decide)).use (And.intro rfl (And.intro rfl (And.intro rfl trivial))) rfl rfl ?_⟩
  refine ⟨by decide, .inl ⟨inR_u32 (by rw [r13]; omega), ?_⟩⟩
  refine ⟨[], no_rl, (cutW v 19 1 (by omega) (by decide) (by decide) (by decide)).use (And.intro rfl (And.intro rfl (And.intro rfl trivial))) rfl rfl ?_⟩
  refine ⟨by decide, .inl ⟨inR_u32 (by rw [r11]; omega), ?_⟩⟩
  refine ⟨[], no_rl, (cutW v 1 11 (by omega) (by decide) (by decide) (by decide)).use (And.intro rfl (And.intro rfl (And.intro rfl trivial))) rfl rfl ?_⟩
  refine retE ?_
  exact (show bits .or .u32 (bits .or .u32 (bits .or .u32 (bits .or .u32 (bits .or .u32 (bitsV v 20 1 * Ev.pow2 .u32 26) (c * Ev.pow2 .u32 22)) (bitsV v 12 6 * Ev.pow2 .u32 16)) (bitsV v 18 1 * Ev.pow2 .u32 13)) (bitsV v 19 1 * Ev.pow2 .u32 11)) (bitsV v 1 11) = _ from ((((((((((((isB v 20 1 26 (by decide) (by decide))).or (isR c 4 22 (by decide) (by decide) hc))).or (isB v 12 6 16 (by decide) (by decide)))).or (isB v 18 1 13 (by decide) (by decide)))).or (isB v 19 1 11 (by decide) (by decide)))).or (isB0 v 1 11 (by decide)))).1)
set_option maxHeartbeats 8000000 in
set_option maxRecDepth 100000 in
theorem wide_33 (i : IN) (hs : shapeV i.form = 33) (hr : rightR i (ruW 33)) (hg : i.regs ≤ 9223372036854775807) : PureF gT 79 [inP i] (.int .u32 ((orF i (fieldsV 33) : Nat) : Int)) := by
  obtain ⟨hf, h1, h2, h3, h4, h5, h6, h7, h8, h9, h10⟩ := hr
  have g0 := has_0 (r := i.rd) h1
  have g1 := has_0 (r := i.rn) h2
  have g2 := has_0 (r := i.rm) h3
  have g3 := has_0 (r := i.ra) h4
  have g4 : -1048576 ≤ i.imm ∧ i.imm ≤ 1048574 ∧ i.imm % 2 = 0 := sp_s (s := 2) (by decide) h7
  have g5 : i.kind = 0 := (sh_0 rfl h9).1
  have g6 : i.by_ = 0 := sp_0 (sh_0 rfl h9).2
  have g7 : i.set = 0 := h8.elim id fun e => absurd (show false = true from e.2) Bool.false_ne_true
  have g8 : 0 ≤ i.cond ∧ i.cond ≤ 13 := by rcases h6 with h6 | h6 <;> omega
  clear h1 h2 h3 h4 h5 h6 h7 h8 h9 h10
  refine Spec.enter gTok P79 100 Tryd.func79 rfl (by kernel_rfl) ?_
  refine .inr ?_
  refine .inl ⟨inR_u32 (by omega), ?_⟩
  refine ⟨[], no_rl, (pshapeLit hs).use (And.intro rfl trivial) rfl rfl ?_⟩
  refine .inl ⟨inR_u32 (by omega), ?_⟩
  refine ⟨[], no_rl, (condWide_pure i.imm i.cond (by omega) (by omega)).use (by repeat' first | exact trivial | exact rfl | exact Iff.rfl | exact Or.inl rfl | refine And.intro ?_ ?_) rfl rfl ?_⟩
  refine retE ?_
  have eo : orF i (fieldsV 33) = 0 ||| B i.imm 20 1 26 ||| B i.cond 0 4 22 ||| B i.imm 12 6 16 ||| B i.imm 18 1 13 ||| B i.imm 19 1 11 ||| B i.imm 1 11 0 := rfl
  rw [eo]
  refine (show _ = _ from congrArg (fun n : Nat => (n : Int)) ?_)
  simp only [Nat.zero_or]
/-- how a jump's turned bits stand -/
theorem turned_bits (v : Int) (hv : -1099511627776 ≤ v) : bitsV (turnN (bitsV v 0 25) 2) 24 1 = bitsV v 24 1 ∧ bitsV (turnN (bitsV v 0 25) 2) 12 10 = bitsV v 12 10 ∧ bitsV (turnN (bitsV v 0 25) 2) 23 1 = (if bitsV v 23 1 = bitsV v 24 1 then 1 else 0) ∧ bitsV (turnN (bitsV v 0 25) 2) 22 1 = (if bitsV v 22 1 = bitsV v 24 1 then 1 else 0) ∧ bitsV (turnN (bitsV v 0 25) 2) 1 11 = bitsV v 1 11 := by
  obtain ⟨u, hu⟩ : ∃ u, u = if v < 0 then v + 1099511627776 else v := ⟨_, rfl⟩
  have u0 : 0 ≤ u := by rw [hu]; split <;> omega
  obtain ⟨n, hn⟩ : ∃ n, n = bitsV v 0 25 := ⟨_, rfl⟩
  have e : n = u % 33554432 := by
    rw [hn]; unfold bitsV; rw [← hu]; omega
  have hb : 0 ≤ n ∧ n < 33554432 := by omega
  have c := turn_bits hb
  have d := turn_bd hb
  rw [← hn]
  obtain ⟨t, ht⟩ : ∃ t, t = turnN n 2 := ⟨_, rfl⟩
  rw [← ht] at c d ⊢
  have e1 : bitsV v 24 1 = n / 16777216 := by unfold bitsV; rw [← hu]; omega
  have e2 : bitsV v 23 1 = n / 8388608 % 2 := by unfold bitsV; rw [← hu]; omega
  have e3 : bitsV v 22 1 = n / 4194304 % 2 := by unfold bitsV; rw [← hu]; omega
  have e4 : bitsV v 12 10 = n % 4194304 / 4096 := by unfold bitsV; rw [← hu]; omega
  have e5 : bitsV v 1 11 = n % 4194304 / 2 % 2048 := by unfold bitsV; rw [← hu]; omega
  have f1 : bitsV t 24 1 = t / 16777216 := by unfold bitsV; rw [if_neg (by omega)]; omega
  have f2 : bitsV t 23 1 = t / 8388608 % 2 := by unfold bitsV; rw [if_neg (by omega)]; omega
  have f3 : bitsV t 22 1 = t / 4194304 % 2 := by unfold bitsV; rw [if_neg (by omega)]; omega
  have f4 : bitsV t 12 10 = t % 4194304 / 4096 := by unfold bitsV; rw [if_neg (by omega)]; omega
  have f5 : bitsV t 1 11 = t % 4194304 / 2 % 2048 := by unfold bitsV; rw [if_neg (by omega)]; omega
  have e6 : n / 16777216 % 2 = n / 16777216 := by omega
  rw [e1, e2, e3, e4, e5, f1, f2, f3, f4, f5, c.1, c.2.1]
  rw [e6] at c
  exact ⟨rfl, rfl, c.2.2.2, c.2.2.1, rfl⟩
theorem sameIs (a b : Int) : ∃ m : Int, m = (if a = b then 1 else 0) ∧ 0 ≤ m ∧ m < 2 := ⟨_, rfl, by split <;> omega, by split <;> omega⟩
set_option maxHeartbeats 8000000 in
set_option maxRecDepth 100000 in
theorem jumpWide_pure (v : Int) (hv : -1099511627776 ≤ v) : PureF gT 88 [.int .u32 (IntKind.u32.wrap v)] (.int .u32 ((B (turnN (bitsV v 0 25) 2) 24 1 26 ||| B (turnN (bitsV v 0 25) 2) 12 10 16 ||| B (turnN (bitsV v 0 25) 2) 23 1 13 ||| B (turnN (bitsV v 0 25) 2) 22 1 11 ||| B (turnN (bitsV v 0 25) 2) 1 11 0 : Nat) : Int)) := by
  obtain ⟨t1, t2, t3, t4, t5⟩ := turned_bits v hv
  have s2 := same_pure (bitsV v 23 1) (bitsV v 24 1) (bit_bd v 23) (bit_bd v 24)
  have s3 := same_pure (bitsV v 22 1) (bitsV v 24 1) (bit_bd v 22) (bit_bd v 24)
  obtain ⟨m2, hm2, c2⟩ := sameIs (bitsV v 23 1) (bitsV v 24 1)
  obtain ⟨m3, hm3, c3⟩ := sameIs (bitsV v 22 1) (bitsV v 24 1)
  rw [← hm2] at s2 t3
  rw [← hm3] at s3 t4
  have b0 := bitsV_bd v 24 1
  have b1 := bitsV_bd v 12 10
  have b2 := bitsV_bd v 1 11
  refine Spec.enter gTok P88 100 Tryd.func88 rfl (by kernel_rfl) ?_
  refine ⟨[], no_rl, (cutW v 24 1 (by omega) (by decide) (by decide) (by decide)).use (And.intro rfl (And.intro rfl (And.intro rfl trivial))) rfl rfl ?_⟩
  refine ⟨by decide, .inl ⟨inR_u32 (by rw [r26]; omega), ?_⟩⟩
  refine ⟨[], no_rl, (cutW v 12 10 (by omega) (by decide) (by decide) (by decide)).use (And.intro rfl (And.intro rfl (And.intro rfl trivial))) rfl rfl ?_⟩
  refine ⟨by decide, .inl ⟨inR_u32 (by rw [r16]; omega), ?_⟩⟩
  refine ⟨[], no_rl, (cutW v 23 1 (by omega) (by decide) (by decide) (by decide)).use (And.intro rfl (And.intro rfl (And.intro rfl trivial))) rfl rfl ?_⟩
  refine ⟨[], no_rl, s2.use (by repeat' first | exact trivial | exact rfl | exact Iff.rfl | exact Or.inl rfl | refine And.intro ?_ ?_) rfl rfl ?_⟩
  refine ⟨by decide, .inl ⟨inR_u32 (by rw [r13]; omega), ?_⟩⟩
  refine ⟨[], no_rl, (cutW v 22 1 (by omega) (by decide) (by decide) (by decide)).use (And.intro rfl (And.intro rfl (And.intro rfl trivial))) rfl rfl ?_⟩
  refine ⟨[], no_rl, s3.use (by repeat' first | exact trivial | exact rfl | exact Iff.rfl | exact Or.inl rfl | refine And.intro ?_ ?_) rfl rfl ?_⟩
  refine ⟨by decide, .inl ⟨inR_u32 (by rw [r11]; omega), ?_⟩⟩
  refine ⟨[], no_rl, (cutW v 1 11 (by omega) (by decide) (by decide) (by decide)).use (And.intro rfl (And.intro rfl (And.intro rfl trivial))) rfl rfl ?_⟩
  refine retE ?_
  have k1 : IsN (bitsV v 24 1 * Ev.pow2 .u32 26) (B (turnN (bitsV v 0 25) 2) 24 1 26) := by have := isB (turnN (bitsV v 0 25) 2) 24 1 26 (p := Ev.pow2 .u32 26) (by decide) (by decide); rwa [t1] at this
  have k2 : IsN (bitsV v 12 10 * Ev.pow2 .u32 16) (B (turnN (bitsV v 0 25) 2) 12 10 16) := by have := isB (turnN (bitsV v 0 25) 2) 12 10 16 (p := Ev.pow2 .u32 16) (by decide) (by decide); rwa [t2] at this
  have k3 : IsN (m2 * Ev.pow2 .u32 13) (B (turnN (bitsV v 0 25) 2) 23 1 13) := by have := isB (turnN (bitsV v 0 25) 2) 23 1 13 (p := Ev.pow2 .u32 13) (by decide) (by decide); rwa [t3] at this
  have k4 : IsN (m3 * Ev.pow2 .u32 11) (B (turnN (bitsV v 0 25) 2) 22 1 11) := by have := isB (turnN (bitsV v 0 25) 2) 22 1 11 (p := Ev.pow2 .u32 11) (by decide) (by decide); rwa [t4] at this
  have k5 : IsN (bitsV v 1 11) (B (turnN (bitsV v 0 25) 2) 1 11 0) := by have := isB0 (turnN (bitsV v 0 25) 2) 1 11 (by decide); rwa [t5] at this
  exact (show bits .or .u32 (bits .or .u32 (bits .or .u32 (bits .or .u32 (bitsV v 24 1 * Ev.pow2 .u32 26) (bitsV v 12 10 * Ev.pow2 .u32 16)) (m2 * Ev.pow2 .u32 13)) (m3 * Ev.pow2 .u32 11)) (bitsV v 1 11) = _ from ((((k1.or k2).or k3).or k4).or k5).1)
set_option maxHeartbeats 8000000 in
set_option maxRecDepth 100000 in
theorem wide_34 (i : IN) (hs : shapeV i.form = 34) (hr : rightR i (ruW 34)) (hg : i.regs ≤ 9223372036854775807) : PureF gT 79 [inP i] (.int .u32 ((orF (turnI i) (fieldsV 34) : Nat) : Int)) := by
  obtain ⟨hf, h1, h2, h3, h4, h5, h6, h7, h8, h9, h10⟩ := hr
  have g0 := has_0 (r := i.rd) h1
  have g1 := has_0 (r := i.rn) h2
  have g2 := has_0 (r := i.rm) h3
  have g3 := has_0 (r := i.ra) h4
  have g4 : -16777216 ≤ i.imm ∧ i.imm ≤ 16777214 ∧ i.imm % 2 = 0 := sp_s (s := 2) (by decide) h7
  have g5 : i.kind = 0 := (sh_0 rfl h9).1
  have g6 : i.by_ = 0 := sp_0 (sh_0 rfl h9).2
  have g7 : i.set = 0 := h8.elim id fun e => absurd (show false = true from e.2) Bool.false_ne_true
  have g8 : i.cond = 0 := h6.elim id fun e => absurd (show false = true from e.1) Bool.false_ne_true
  clear h1 h2 h3 h4 h5 h6 h7 h8 h9 h10
  have et := sh34 hs
  rw [et]
  refine Spec.enter gTok P79 100 Tryd.func79 rfl (by kernel_rfl) ?_
  refine .inr ?_
  refine .inl ⟨inR_u32 (by omega), ?_⟩
  refine ⟨[], no_rl, (pshapeLit hs).use (And.intro rfl trivial) rfl rfl ?_⟩
  refine ⟨[], no_rl, (jumpWide_pure i.imm (by omega)).use (by repeat' first | exact trivial | exact rfl | exact Iff.rfl | exact Or.inl rfl | refine And.intro ?_ ?_) rfl rfl ?_⟩
  refine retE ?_
  have eo : orF {i with imm := turnN (bitsV i.imm 0 25) 2} (fieldsV 34) = 0 ||| B (turnN (bitsV i.imm 0 25) 2) 24 1 26 ||| B (turnN (bitsV i.imm 0 25) 2) 12 10 16 ||| B (turnN (bitsV i.imm 0 25) 2) 23 1 13 ||| B (turnN (bitsV i.imm 0 25) 2) 22 1 11 ||| B (turnN (bitsV i.imm 0 25) 2) 1 11 0 := rfl
  rw [eo]
  refine (show _ = _ from congrArg (fun n : Nat => (n : Int)) ?_)
  simp only [Nat.zero_or]

end Go.Proofs.YtjcacjeoddnmhaaDoor.Pw

/- Chapter 4 over values: the document's reading of narrow shapes (by gen_tv.py). -/
namespace Go.Proofs.YtjcacjeoddnmhaaDoor.Pw
open Go Go.RowKit

end Go.Proofs.YtjcacjeoddnmhaaDoor.Pw

/- Chapter 4 over values: the document's reading of wide shapes (by gen_tv.py). -/
namespace Go.Proofs.YtjcacjeoddnmhaaDoor.Pw
open Go Go.RowKit

end Go.Proofs.YtjcacjeoddnmhaaDoor.Pw

/- Chapter 4 over values: the document's reading of wide shapes (by gen_tv.py). -/
namespace Go.Proofs.YtjcacjeoddnmhaaDoor.Pw
open Go Go.RowKit

end Go.Proofs.YtjcacjeoddnmhaaDoor.Pw

/- Chapter 4 over values: the program's reading of narrow shapes (by gen_tw.py). -/
namespace Go.Proofs.YtjcacjeoddnmhaaDoor.Pw
open Go Go.RowKit

theorem leK_refl : ∀ (i : IN), leK (inP i) (inP i) := fun i => ⟨rfl, rfl, rfl, rfl, rfl, rfl, rfl, rfl, rfl, rfl, rfl, trivial⟩
theorem q2 : Ev.pow2 .i64 2 = 4 := by decide
theorem q14 : Ev.pow2 .i64 14 = 16384 := by decide
theorem q15 : Ev.pow2 .i64 15 = 32768 := by decide
set_option maxHeartbeats 8000000 in
set_option maxRecDepth 100000 in
theorem narrowOf_1 (f w : Int) (hF : 1 ≤ f ∧ f ≤ 100) (hs : shapeV f = 1) (hw : U32 w) : PureF gT 51 [.int .i64 f, .int .u32 w] (inP (rdI1 f w)) := by
  have b0 := bitsV_bd w 6 5
  have b1 := bitsV_bd w 3 3
  have b2 := bitsV_bd w 0 3
  unfold rdI1
  refine Spec.enter gTok P51 100 Tryd.func51 rfl (by kernel_rfl) ?_
  have h3 := shape_one hF hs
  have e : ∀ x : Int, x = 0 + x * 2 ^ 0 := fun x => by omega
  refine ⟨[], no_rl, (pshapeLit hs).use (And.intro rfl trivial) rfl rfl ?_⟩
  refine ⟨[], no_rl, (at_pure w 0 3 hw (by decide) (by decide)).use (And.intro rfl (And.intro rfl (And.intro rfl trivial))) rfl rfl ?_⟩
  refine ⟨[], no_rl, (at_pure w 3 3 hw (by decide) (by decide)).use (And.intro rfl (And.intro rfl (And.intro rfl trivial))) rfl rfl ?_⟩
  refine ⟨[], no_rl, (at_pure w 6 5 hw (by decide) (by decide)).use (And.intro rfl (And.intro rfl (And.intro rfl trivial))) rfl rfl ?_⟩
  refine And.intro (fun h1 => ?_) (fun h1 => ?_)
  · refine ⟨[], no_rl, (turned_pure 1 (0 + bitsV w 6 5 * 2 ^ 0)).use (And.intro rfl (And.intro (e _) trivial)) rfl rfl ?_⟩
    refine retE ?_
    (repeat' first | exact trivial | exact rfl | exact e _ | refine And.intro ?_ ?_)
    show (if 0 + bitsV w 6 5 * 2 ^ 0 = 0 ∧ ((1 : Int) = 1 ∨ (1 : Int) = 2) then (32 : Int) else _) = if 1 < f ∧ 0 + bitsV w 6 5 * 2 ^ 0 = 0 then (32 : Int) else 0 + bitsV w 6 5 * 2 ^ 0
    have h1' : ¬ f = 1 := h1
    (repeat' split) <;> omega
  · refine retE ?_
    (repeat' first | exact trivial | exact rfl | exact e _ | refine And.intro ?_ ?_)
    show bitsV w 6 5 = if 1 < f ∧ 0 + bitsV w 6 5 * 2 ^ 0 = 0 then (32 : Int) else 0 + bitsV w 6 5 * 2 ^ 0
    have h1' : ¬ ¬ f = 1 := h1
    (repeat' split) <;> omega
set_option maxHeartbeats 8000000 in
set_option maxRecDepth 100000 in
theorem narrowOf_2 (f w : Int) (hF : 1 ≤ f ∧ f ≤ 100) (hs : shapeV f = 2) (hw : U32 w) : PureF gT 51 [.int .i64 f, .int .u32 w] (inP (rdI2 f w)) := by
  have b0 := bitsV_bd w 6 3
  have b1 := bitsV_bd w 3 3
  have b2 := bitsV_bd w 0 3
  unfold rdI2
  refine Spec.enter gTok P51 100 Tryd.func51 rfl (by kernel_rfl) ?_
  refine ⟨[], no_rl, (pshapeLit hs).use (And.intro rfl trivial) rfl rfl ?_⟩
  refine ⟨[], no_rl, (three_pure ⟨f, 0, 0, 0, 0, 0, 0, 0, 0, 0, 0⟩ w hw).use (by repeat' first | exact trivial | exact rfl | exact Iff.rfl | exact Or.inl rfl | refine And.intro ?_ ?_) rfl rfl ?_⟩
  refine ⟨[], no_rl, (at_pure w 6 3 hw (by decide) (by decide)).use (And.intro rfl (And.intro rfl (And.intro rfl trivial))) rfl rfl ?_⟩
  refine retE ?_
  (repeat' first | exact trivial | exact rfl | refine And.intro ?_ ?_)
  all_goals (show (_ : Int) = _; (try dsimp only [placesI, threeI]); first | omega | (unfold numT; omega))
set_option maxHeartbeats 8000000 in
set_option maxRecDepth 100000 in
theorem narrowOf_3 (f w : Int) (hF : 1 ≤ f ∧ f ≤ 100) (hs : shapeV f = 3) (hw : U32 w) : PureF gT 51 [.int .i64 f, .int .u32 w] (inP (rdI3 f w)) := by
  have b0 := bitsV_bd w 6 3
  have b1 := bitsV_bd w 3 3
  have b2 := bitsV_bd w 0 3
  unfold rdI3
  refine Spec.enter gTok P51 100 Tryd.func51 rfl (by kernel_rfl) ?_
  refine ⟨[], no_rl, (pshapeLit hs).use (And.intro rfl trivial) rfl rfl ?_⟩
  refine ⟨[], no_rl, (three_pure ⟨f, 0, 0, 0, 0, 0, 0, 0, 0, 0, 0⟩ w hw).use (by repeat' first | exact trivial | exact rfl | exact Iff.rfl | exact Or.inl rfl | refine And.intro ?_ ?_) rfl rfl ?_⟩
  refine ⟨[], no_rl, (at_pure w 6 3 hw (by decide) (by decide)).use (And.intro rfl (And.intro rfl (And.intro rfl trivial))) rfl rfl ?_⟩
  refine retE ?_
  (repeat' first | exact trivial | exact rfl | refine And.intro ?_ ?_)
  all_goals (show (_ : Int) = _; (try dsimp only [placesI, threeI]); first | omega | (unfold numT; omega))
set_option maxHeartbeats 8000000 in
set_option maxRecDepth 100000 in
theorem narrowOf_4 (f w : Int) (hF : 1 ≤ f ∧ f ≤ 100) (hs : shapeV f = 4) (hw : U32 w) : PureF gT 51 [.int .i64 f, .int .u32 w] (inP (rdI4 f w)) := by
  have b0 := bitsV_bd w 8 3
  have b1 := bitsV_bd w 0 8
  unfold rdI4
  refine Spec.enter gTok P51 100 Tryd.func51 rfl (by kernel_rfl) ?_
  refine ⟨[], no_rl, (pshapeLit hs).use (And.intro rfl trivial) rfl rfl ?_⟩
  refine ⟨[], no_rl, (at_pure w 8 3 hw (by decide) (by decide)).use (And.intro rfl (And.intro rfl (And.intro rfl trivial))) rfl rfl ?_⟩
  refine ⟨[], no_rl, (at_pure w 0 8 hw (by decide) (by decide)).use (And.intro rfl (And.intro rfl (And.intro rfl trivial))) rfl rfl ?_⟩
  refine retE ?_
  (repeat' first | exact trivial | exact rfl | refine And.intro ?_ ?_)
  all_goals (show (_ : Int) = _; (try dsimp only [placesI, threeI]); first | omega | (unfold numT; omega))
set_option maxHeartbeats 8000000 in
set_option maxRecDepth 100000 in
theorem narrowOf_5 (f w : Int) (hF : 1 ≤ f ∧ f ≤ 100) (hs : shapeV f = 5) (hw : U32 w) : PureF gT 51 [.int .i64 f, .int .u32 w] (inP (rdI5 f w)) := by
  have b0 := bitsV_bd w 3 3
  have b1 := bitsV_bd w 0 3
  unfold rdI5
  refine Spec.enter gTok P51 100 Tryd.func51 rfl (by kernel_rfl) ?_
  refine ⟨[], no_rl, (pshapeLit hs).use (And.intro rfl trivial) rfl rfl ?_⟩
  refine ⟨[], no_rl, (at_pure w 0 3 hw (by decide) (by decide)).use (And.intro rfl (And.intro rfl (And.intro rfl trivial))) rfl rfl ?_⟩
  refine ⟨[], no_rl, (at_pure w 3 3 hw (by decide) (by decide)).use (And.intro rfl (And.intro rfl (And.intro rfl trivial))) rfl rfl ?_⟩
  refine retE ?_
  (repeat' first | exact trivial | exact rfl | refine And.intro ?_ ?_)
  all_goals (show (_ : Int) = _; (try dsimp only [placesI, threeI]); first | omega | (unfold numT; omega))
set_option maxHeartbeats 8000000 in
set_option maxRecDepth 100000 in
theorem narrowOf_6 (f w : Int) (hF : 1 ≤ f ∧ f ≤ 100) (hs : shapeV f = 6) (hw : U32 w) : PureF gT 51 [.int .i64 f, .int .u32 w] (inP (rdI6 f w)) := by
  have b0 := bitsV_bd w 7 1
  have b1 := bitsV_bd w 3 4
  have b2 := bitsV_bd w 0 3
  unfold rdI6
  refine Spec.enter gTok P51 100 Tryd.func51 rfl (by kernel_rfl) ?_
  refine ⟨[], no_rl, (pshapeLit hs).use (And.intro rfl trivial) rfl rfl ?_⟩
  refine ⟨[], no_rl, (at_pure w 7 1 hw (by decide) (by decide)).use (And.intro rfl (And.intro rfl (And.intro rfl trivial))) rfl rfl ?_⟩
  refine ⟨by decide, .inl ⟨inR_i64 (by rw [q3]; omega), ?_⟩⟩
  refine ⟨[], no_rl, (at_pure w 0 3 hw (by decide) (by decide)).use (And.intro rfl (And.intro rfl (And.intro rfl trivial))) rfl rfl ?_⟩
  refine ⟨[], no_rl, (at_pure w 3 4 hw (by decide) (by decide)).use (And.intro rfl (And.intro rfl (And.intro rfl trivial))) rfl rfl ?_⟩
  have e : bits .or .i64 (bitsV w 7 1 * Ev.pow2 .i64 3) (bitsV w 0 3) = 0 + bitsV w 7 1 * 2 ^ 3 + bitsV w 0 3 * 2 ^ 0 := by
    rw [q3, Rm.i64_join (bitsV w 7 1 * 8) (bitsV w 0 3) 3 (by omega) (by omega) (by omega) (by omega) (by omega) (by omega)]; omega
  refine retE ?_
  (repeat' first | exact trivial | exact rfl | exact e | refine And.intro ?_ ?_)
  all_goals (show (_ : Int) = _; (try dsimp only [placesI, threeI]); omega)
set_option maxHeartbeats 8000000 in
set_option maxRecDepth 100000 in
theorem narrowOf_7 (f w : Int) (hF : 1 ≤ f ∧ f ≤ 100) (hs : shapeV f = 7) (hw : U32 w) : PureF gT 51 [.int .i64 f, .int .u32 w] (inP (rdI7 f w)) := by
  have b0 := bitsV_bd w 3 4
  unfold rdI7
  refine Spec.enter gTok P51 100 Tryd.func51 rfl (by kernel_rfl) ?_
  refine ⟨[], no_rl, (pshapeLit hs).use (And.intro rfl trivial) rfl rfl ?_⟩
  refine ⟨[], no_rl, (at_pure w 3 4 hw (by decide) (by decide)).use (And.intro rfl (And.intro rfl (And.intro rfl trivial))) rfl rfl ?_⟩
  refine retE ?_
  (repeat' first | exact trivial | exact rfl | refine And.intro ?_ ?_)
  all_goals (show (_ : Int) = _; (try dsimp only [placesI, threeI]); first | omega | (unfold numT; omega))
set_option maxHeartbeats 8000000 in
set_option maxRecDepth 100000 in
theorem narrowOf_8 (f w : Int) (hF : 1 ≤ f ∧ f ≤ 100) (hs : shapeV f = 8) (hw : U32 w) : PureF gT 51 [.int .i64 f, .int .u32 w] (inP (rdI8 f w)) := by
  have b0 := bitsV_bd w 8 3
  have b1 := bitsV_bd w 0 8
  unfold rdI8
  refine Spec.enter gTok P51 100 Tryd.func51 rfl (by kernel_rfl) ?_
  refine ⟨[], no_rl, (pshapeLit hs).use (And.intro rfl trivial) rfl rfl ?_⟩
  refine ⟨[], no_rl, (at_pure w 8 3 hw (by decide) (by decide)).use (And.intro rfl (And.intro rfl (And.intro rfl trivial))) rfl rfl ?_⟩
  refine ⟨[], no_rl, (at_pure w 0 8 hw (by decide) (by decide)).use (And.intro rfl (And.intro rfl (And.intro rfl trivial))) rfl rfl ?_⟩
  refine .inl ⟨inR_i64 (by omega), ?_⟩
  refine retE ?_
  (repeat' first | exact trivial | exact rfl | refine And.intro ?_ ?_)
  all_goals (show (_ : Int) = _; (try dsimp only [placesI, threeI]); first | omega | (unfold numT; omega))
set_option maxHeartbeats 8000000 in
set_option maxRecDepth 100000 in
theorem narrowOf_9 (f w : Int) (hF : 1 ≤ f ∧ f ≤ 100) (hs : shapeV f = 9) (hw : U32 w) : PureF gT 51 [.int .i64 f, .int .u32 w] (inP (rdI9 f w)) := by
  have b0 := bitsV_bd w 6 5
  have b1 := bitsV_bd w 3 3
  have b2 := bitsV_bd w 0 3
  unfold rdI9
  refine Spec.enter gTok P51 100 Tryd.func51 rfl (by kernel_rfl) ?_
  refine ⟨[], no_rl, (pshapeLit hs).use (And.intro rfl trivial) rfl rfl ?_⟩
  refine ⟨[], no_rl, (three_pure ⟨f, 0, 0, 0, 0, 0, 0, 0, 0, 0, 0⟩ w hw).use (by repeat' first | exact trivial | exact rfl | exact Iff.rfl | exact Or.inl rfl | refine And.intro ?_ ?_) rfl rfl ?_⟩
  refine ⟨[], no_rl, (at_pure w 6 5 hw (by decide) (by decide)).use (And.intro rfl (And.intro rfl (And.intro rfl trivial))) rfl rfl ?_⟩
  refine .inl ⟨inR_i64 (by omega), ?_⟩
  refine retE ?_
  (repeat' first | exact trivial | exact rfl | refine And.intro ?_ ?_)
  all_goals (show (_ : Int) = _; (try dsimp only [placesI, threeI]); first | omega | (unfold numT; omega))
set_option maxHeartbeats 8000000 in
set_option maxRecDepth 100000 in
theorem narrowOf_10 (f w : Int) (hF : 1 ≤ f ∧ f ≤ 100) (hs : shapeV f = 10) (hw : U32 w) : PureF gT 51 [.int .i64 f, .int .u32 w] (inP (rdI10 f w)) := by
  have b0 := bitsV_bd w 0 7
  unfold rdI10
  refine Spec.enter gTok P51 100 Tryd.func51 rfl (by kernel_rfl) ?_
  refine ⟨[], no_rl, (pshapeLit hs).use (And.intro rfl trivial) rfl rfl ?_⟩
  refine ⟨[], no_rl, (at_pure w 0 7 hw (by decide) (by decide)).use (And.intro rfl (And.intro rfl (And.intro rfl trivial))) rfl rfl ?_⟩
  refine .inl ⟨inR_i64 (by omega), ?_⟩
  refine retE ?_
  (repeat' first | exact trivial | exact rfl | refine And.intro ?_ ?_)
  all_goals (show (_ : Int) = _; (try dsimp only [placesI, threeI]); first | omega | (unfold numT; omega))
set_option maxHeartbeats 8000000 in
set_option maxRecDepth 100000 in
theorem narrowOf_11 (f w : Int) (hF : 1 ≤ f ∧ f ≤ 100) (hs : shapeV f = 11) (hw : U32 w) : PureF gT 51 [.int .i64 f, .int .u32 w] (inP (rdI11 f w)) := by
  have b0 := bitsV_bd w 8 1
  have b1 := bitsV_bd w 0 8
  unfold rdI11
  refine Spec.enter gTok P51 100 Tryd.func51 rfl (by kernel_rfl) ?_
  refine ⟨[], no_rl, (pshapeLit hs).use (And.intro rfl trivial) rfl rfl ?_⟩
  refine ⟨[], no_rl, (at_pure w 8 1 hw (by decide) (by decide)).use (And.intro rfl (And.intro rfl (And.intro rfl trivial))) rfl rfl ?_⟩
  refine ⟨by decide, .inl ⟨inR_i64 (by rw [q14]; omega), ?_⟩⟩
  refine ⟨[], no_rl, (at_pure w 0 8 hw (by decide) (by decide)).use (And.intro rfl (And.intro rfl (And.intro rfl trivial))) rfl rfl ?_⟩
  have e : bits .or .i64 (bitsV w 8 1 * Ev.pow2 .i64 14) (bitsV w 0 8) = 0 + bitsV w 8 1 * 2 ^ 14 + bitsV w 0 8 * 2 ^ 0 := by
    rw [q14, Rm.i64_join (bitsV w 8 1 * 16384) (bitsV w 0 8) 14 (by omega) (by omega) (by omega) (by omega) (by omega) (by omega)]; omega
  refine retE ?_
  (repeat' first | exact trivial | exact rfl | exact e | refine And.intro ?_ ?_)
  all_goals (show (_ : Int) = _; (try dsimp only [placesI, threeI]); omega)
set_option maxHeartbeats 8000000 in
set_option maxRecDepth 100000 in
theorem narrowOf_12 (f w : Int) (hF : 1 ≤ f ∧ f ≤ 100) (hs : shapeV f = 12) (hw : U32 w) : PureF gT 51 [.int .i64 f, .int .u32 w] (inP (rdI12 f w)) := by
  have b0 := bitsV_bd w 8 1
  have b1 := bitsV_bd w 0 8
  unfold rdI12
  refine Spec.enter gTok P51 100 Tryd.func51 rfl (by kernel_rfl) ?_
  refine ⟨[], no_rl, (pshapeLit hs).use (And.intro rfl trivial) rfl rfl ?_⟩
  refine ⟨[], no_rl, (at_pure w 8 1 hw (by decide) (by decide)).use (And.intro rfl (And.intro rfl (And.intro rfl trivial))) rfl rfl ?_⟩
  refine ⟨by decide, .inl ⟨inR_i64 (by rw [q15]; omega), ?_⟩⟩
  refine ⟨[], no_rl, (at_pure w 0 8 hw (by decide) (by decide)).use (And.intro rfl (And.intro rfl (And.intro rfl trivial))) rfl rfl ?_⟩
  have e : bits .or .i64 (bitsV w 8 1 * Ev.pow2 .i64 15) (bitsV w 0 8) = 0 + bitsV w 8 1 * 2 ^ 15 + bitsV w 0 8 * 2 ^ 0 := by
    rw [q15, Rm.i64_join (bitsV w 8 1 * 32768) (bitsV w 0 8) 15 (by omega) (by omega) (by omega) (by omega) (by omega) (by omega)]; omega
  refine retE ?_
  (repeat' first | exact trivial | exact rfl | exact e | refine And.intro ?_ ?_)
  all_goals (show (_ : Int) = _; (try dsimp only [placesI, threeI]); omega)
set_option maxHeartbeats 8000000 in
set_option maxRecDepth 100000 in
theorem narrowOf_13 (f w : Int) (hF : 1 ≤ f ∧ f ≤ 100) (hs : shapeV f = 13) (hw : U32 w) : PureF gT 51 [.int .i64 f, .int .u32 w] (inP (rdI13 f w)) := by
  unfold rdI13
  refine Spec.enter gTok P51 100 Tryd.func51 rfl (by kernel_rfl) ?_
  refine ⟨[], no_rl, (pshapeLit hs).use (And.intro rfl trivial) rfl rfl ?_⟩
  (refine retE ?_; repeat' first | exact trivial | exact rfl | exact Iff.rfl | exact Or.inl rfl | refine And.intro ?_ ?_)
set_option maxHeartbeats 8000000 in
set_option maxRecDepth 100000 in
theorem narrowOf_14 (f w : Int) (hF : 1 ≤ f ∧ f ≤ 100) (hs : shapeV f = 14) (hw : U32 w) : PureF gT 51 [.int .i64 f, .int .u32 w] (inP (rdI14 f w)) := by
  have b0 := bitsV_bd w 0 8
  unfold rdI14
  refine Spec.enter gTok P51 100 Tryd.func51 rfl (by kernel_rfl) ?_
  refine ⟨[], no_rl, (pshapeLit hs).use (And.intro rfl trivial) rfl rfl ?_⟩
  refine ⟨[], no_rl, (at_pure w 0 8 hw (by decide) (by decide)).use (And.intro rfl (And.intro rfl (And.intro rfl trivial))) rfl rfl ?_⟩
  refine retE ?_
  (repeat' first | exact trivial | exact rfl | refine And.intro ?_ ?_)
  all_goals (show (_ : Int) = _; (try dsimp only [placesI, threeI]); first | omega | (unfold numT; omega))
set_option maxHeartbeats 8000000 in
set_option maxRecDepth 100000 in
theorem narrowOf_15 (f w : Int) (hF : 1 ≤ f ∧ f ≤ 100) (hs : shapeV f = 15) (hw : U32 w) : PureF gT 51 [.int .i64 f, .int .u32 w] (inP (rdI15 f w)) := by
  have b0 := bitsV_bd w 8 4
  have b1 := bitsV_bd w 0 8
  unfold rdI15
  refine Spec.enter gTok P51 100 Tryd.func51 rfl (by kernel_rfl) ?_
  refine ⟨[], no_rl, (pshapeLit hs).use (And.intro rfl trivial) rfl rfl ?_⟩
  refine ⟨[], no_rl, (at_pure w 8 4 hw (by decide) (by decide)).use (And.intro rfl (And.intro rfl (And.intro rfl trivial))) rfl rfl ?_⟩
  refine ⟨[], no_rl, (at_pure w 0 8 hw (by decide) (by decide)).use (And.intro rfl (And.intro rfl (And.intro rfl trivial))) rfl rfl ?_⟩
  refine ⟨by decide, .inl ⟨inR_i64 (by rw [q1]; omega), ?_⟩⟩
  refine ⟨[], no_rl, (signed_pure (0 + bitsV w 0 8 * 2 ^ 1) 8 (by decide) ⟨by omega, by omega⟩).use (And.intro (show bitsV w 0 8 * Ev.pow2 .i64 1 = _ by rw [q1]; omega) (And.intro rfl trivial)) rfl rfl ?_⟩
  refine retE ?_
  (repeat' first | exact trivial | exact rfl | refine And.intro ?_ ?_)
  all_goals (show (_ : Int) = _; (try dsimp only [placesI, threeI]); first | omega | (unfold numT; omega))
set_option maxHeartbeats 8000000 in
set_option maxRecDepth 100000 in
theorem narrowOf_16 (f w : Int) (hF : 1 ≤ f ∧ f ≤ 100) (hs : shapeV f = 16) (hw : U32 w) : PureF gT 51 [.int .i64 f, .int .u32 w] (inP (rdI16 f w)) := by
  have b0 := bitsV_bd w 0 11
  unfold rdI16
  refine Spec.enter gTok P51 100 Tryd.func51 rfl (by kernel_rfl) ?_
  refine ⟨[], no_rl, (pshapeLit hs).use (And.intro rfl trivial) rfl rfl ?_⟩
  refine ⟨[], no_rl, (at_pure w 0 11 hw (by decide) (by decide)).use (And.intro rfl (And.intro rfl (And.intro rfl trivial))) rfl rfl ?_⟩
  refine ⟨by decide, .inl ⟨inR_i64 (by rw [q1]; omega), ?_⟩⟩
  refine ⟨[], no_rl, (signed_pure (0 + bitsV w 0 11 * 2 ^ 1) 11 (by decide) ⟨by omega, by omega⟩).use (And.intro (show bitsV w 0 11 * Ev.pow2 .i64 1 = _ by rw [q1]; omega) (And.intro rfl trivial)) rfl rfl ?_⟩
  refine retE ?_
  (repeat' first | exact trivial | exact rfl | refine And.intro ?_ ?_)
  all_goals (show (_ : Int) = _; (try dsimp only [placesI, threeI]); first | omega | (unfold numT; omega))
set_option maxHeartbeats 8000000 in
set_option maxRecDepth 100000 in
theorem narrowOf_wide (f w : Int) (hs : 17 ≤ shapeV f) (hw : U32 w) : PureF gT 51 [.int .i64 f, .int .u32 w] (inP ⟨f, 0, 0, 0, 0, 0, 0, 0, 0, 0, 0⟩) := by
  refine Spec.enter gTok P51 100 Tryd.func51 rfl (by kernel_rfl) ?_
  refine ⟨[], no_rl, (shape_pure f).use (And.intro rfl trivial) rfl rfl ?_⟩
  iterate 15 (refine And.intro (fun h => absurd (show shapeV f = _ from h) (by omega)) (fun _ => ?_))
  (refine retE ?_; repeat' first | exact trivial | exact rfl | exact Iff.rfl | exact Or.inl rfl | refine And.intro ?_ ?_)

end Go.Proofs.YtjcacjeoddnmhaaDoor.Pw

/- Chapter 4 over values: the program's reading of wide shapes (by gen_tw.py). -/
namespace Go.Proofs.YtjcacjeoddnmhaaDoor.Pw
open Go Go.RowKit

set_option maxHeartbeats 8000000 in
set_option maxRecDepth 100000 in
theorem wideOf_17 (f w : Int) (hF : 1 ≤ f ∧ f ≤ 100) (hs : shapeV f = 17) (hw : U32 w) : PureF gT 52 [.int .i64 f, .int .u32 w] (inP (rdI17 f w)) := by
  have b0 := bitsV_bd w 26 1
  have b1 := bitsV_bd w 16 4
  have b2 := bitsV_bd w 12 3
  have b3 := bitsV_bd w 0 8
  have b4 := bitsV_bd w 8 4
  unfold rdI17
  refine Spec.enter gTok P52 100 Tryd.func52 rfl (by kernel_rfl) ?_
  refine ⟨[], no_rl, (places_pure ⟨f, 0, 0, 0, 0, 0, 0, 0, 0, 0, 0⟩ w hw).use (by repeat' first | exact trivial | exact rfl | exact Iff.rfl | exact Or.inl rfl | refine And.intro ?_ ?_) rfl rfl ?_⟩
  refine ⟨[], no_rl, (pshapeLit hs).use (And.intro rfl trivial) rfl rfl ?_⟩
  refine ⟨[], no_rl, (number_t w hw).use (by repeat' first | exact trivial | exact rfl | exact Iff.rfl | exact Or.inl rfl | refine And.intro ?_ ?_) rfl rfl ?_⟩
  refine retE ?_
  (repeat' first | exact trivial | exact rfl | refine And.intro ?_ ?_)
  all_goals (show (_ : Int) = _; (try dsimp only [placesI, threeI]); first | omega | (unfold numT; omega))
set_option maxHeartbeats 8000000 in
set_option maxRecDepth 100000 in
theorem immediate_18 (f w : Int) (hF : 1 ≤ f ∧ f ≤ 100) (hs : shapeV f = 18) (hw : U32 w) : PureF gT 75 [.int .i64 f, .int .u32 w] (inP (rdI18 f w)) := by
  have b0 := bitsV_bd w 26 1
  have b1 := bitsV_bd w 12 3
  have b2 := bitsV_bd w 0 8
  have b3 := bitsV_bd w 20 1
  have b4 := bitsV_bd w 16 4
  have b5 := bitsV_bd w 8 4
  unfold rdI18
  refine Spec.enter gTok P75 100 Tryd.func75 rfl (by kernel_rfl) ?_
  refine ⟨[], no_rl, (places_pure ⟨f, 0, 0, 0, 0, 0, 0, 0, 0, 0, 0⟩ w hw).use (by repeat' first | exact trivial | exact rfl | exact Iff.rfl | exact Or.inl rfl | refine And.intro ?_ ?_) rfl rfl ?_⟩
  refine ⟨[], no_rl, (number_f w hw).use (by repeat' first | exact trivial | exact rfl | exact Iff.rfl | exact Or.inl rfl | refine And.intro ?_ ?_) rfl rfl ?_⟩
  refine ⟨[], no_rl, (pshapeLit hs).use (And.intro rfl trivial) rfl rfl ?_⟩
  refine retE ?_
  (repeat' first | exact trivial | exact rfl | refine And.intro ?_ ?_)
  all_goals (show (_ : Int) = _; (try dsimp only [placesI, threeI]); first | omega | (unfold numT; omega))
set_option maxHeartbeats 8000000 in
set_option maxRecDepth 100000 in
theorem wideOf_18 (f w : Int) (hF : 1 ≤ f ∧ f ≤ 100) (hs : shapeV f = 18) (hw : U32 w) : PureF gT 52 [.int .i64 f, .int .u32 w] (inP (rdI18 f w)) := by
  have b0 := bitsV_bd w 26 1
  have b1 := bitsV_bd w 12 3
  have b2 := bitsV_bd w 0 8
  have b3 := bitsV_bd w 20 1
  have b4 := bitsV_bd w 16 4
  have b5 := bitsV_bd w 8 4
  refine Spec.enter gTok P52 100 Tryd.func52 rfl (by kernel_rfl) ?_
  refine ⟨[], no_rl, (places_pure ⟨f, 0, 0, 0, 0, 0, 0, 0, 0, 0, 0⟩ w hw).use (by repeat' first | exact trivial | exact rfl | exact Iff.rfl | exact Or.inl rfl | refine And.intro ?_ ?_) rfl rfl ?_⟩
  refine ⟨[], no_rl, (pshapeLit hs).use (And.intro rfl trivial) rfl rfl ?_⟩
  refine ⟨[], no_rl, (immediate_18 f w hF hs hw).use (by repeat' first | exact trivial | exact rfl | exact Iff.rfl | exact Or.inl rfl | refine And.intro ?_ ?_) rfl rfl ?_⟩
  exact retE (leK_refl _)
set_option maxHeartbeats 8000000 in
set_option maxRecDepth 100000 in
theorem immediate_19 (f w : Int) (hF : 1 ≤ f ∧ f ≤ 100) (hs : shapeV f = 19) (hw : U32 w) : PureF gT 75 [.int .i64 f, .int .u32 w] (inP (rdI19 f w)) := by
  have b0 := bitsV_bd w 26 1
  have b1 := bitsV_bd w 12 3
  have b2 := bitsV_bd w 0 8
  have b3 := bitsV_bd w 20 1
  have b4 := bitsV_bd w 8 4
  unfold rdI19
  refine Spec.enter gTok P75 100 Tryd.func75 rfl (by kernel_rfl) ?_
  refine ⟨[], no_rl, (places_pure ⟨f, 0, 0, 0, 0, 0, 0, 0, 0, 0, 0⟩ w hw).use (by repeat' first | exact trivial | exact rfl | exact Iff.rfl | exact Or.inl rfl | refine And.intro ?_ ?_) rfl rfl ?_⟩
  refine ⟨[], no_rl, (number_f w hw).use (by repeat' first | exact trivial | exact rfl | exact Iff.rfl | exact Or.inl rfl | refine And.intro ?_ ?_) rfl rfl ?_⟩
  refine ⟨[], no_rl, (pshapeLit hs).use (And.intro rfl trivial) rfl rfl ?_⟩
  refine retE ?_
  (repeat' first | exact trivial | exact rfl | refine And.intro ?_ ?_)
  all_goals (show (_ : Int) = _; (try dsimp only [placesI, threeI]); first | omega | (unfold numT; omega))
set_option maxHeartbeats 8000000 in
set_option maxRecDepth 100000 in
theorem wideOf_19 (f w : Int) (hF : 1 ≤ f ∧ f ≤ 100) (hs : shapeV f = 19) (hw : U32 w) : PureF gT 52 [.int .i64 f, .int .u32 w] (inP (rdI19 f w)) := by
  have b0 := bitsV_bd w 26 1
  have b1 := bitsV_bd w 12 3
  have b2 := bitsV_bd w 0 8
  have b3 := bitsV_bd w 20 1
  have b4 := bitsV_bd w 8 4
  refine Spec.enter gTok P52 100 Tryd.func52 rfl (by kernel_rfl) ?_
  refine ⟨[], no_rl, (places_pure ⟨f, 0, 0, 0, 0, 0, 0, 0, 0, 0, 0⟩ w hw).use (by repeat' first | exact trivial | exact rfl | exact Iff.rfl | exact Or.inl rfl | refine And.intro ?_ ?_) rfl rfl ?_⟩
  refine ⟨[], no_rl, (pshapeLit hs).use (And.intro rfl trivial) rfl rfl ?_⟩
  refine ⟨[], no_rl, (immediate_19 f w hF hs hw).use (by repeat' first | exact trivial | exact rfl | exact Iff.rfl | exact Or.inl rfl | refine And.intro ?_ ?_) rfl rfl ?_⟩
  exact retE (leK_refl _)
set_option maxHeartbeats 8000000 in
set_option maxRecDepth 100000 in
theorem immediate_20 (f w : Int) (hF : 1 ≤ f ∧ f ≤ 100) (hs : shapeV f = 20) (hw : U32 w) : PureF gT 75 [.int .i64 f, .int .u32 w] (inP (rdI20 f w)) := by
  have b0 := bitsV_bd w 26 1
  have b1 := bitsV_bd w 12 3
  have b2 := bitsV_bd w 0 8
  have b3 := bitsV_bd w 16 4
  unfold rdI20
  refine Spec.enter gTok P75 100 Tryd.func75 rfl (by kernel_rfl) ?_
  refine ⟨[], no_rl, (places_pure ⟨f, 0, 0, 0, 0, 0, 0, 0, 0, 0, 0⟩ w hw).use (by repeat' first | exact trivial | exact rfl | exact Iff.rfl | exact Or.inl rfl | refine And.intro ?_ ?_) rfl rfl ?_⟩
  refine ⟨[], no_rl, (number_f w hw).use (by repeat' first | exact trivial | exact rfl | exact Iff.rfl | exact Or.inl rfl | refine And.intro ?_ ?_) rfl rfl ?_⟩
  refine ⟨[], no_rl, (pshapeLit hs).use (And.intro rfl trivial) rfl rfl ?_⟩
  refine retE ?_
  (repeat' first | exact trivial | exact rfl | refine And.intro ?_ ?_)
  all_goals (show (_ : Int) = _; (try dsimp only [placesI, threeI]); first | omega | (unfold numT; omega))
set_option maxHeartbeats 8000000 in
set_option maxRecDepth 100000 in
theorem wideOf_20 (f w : Int) (hF : 1 ≤ f ∧ f ≤ 100) (hs : shapeV f = 20) (hw : U32 w) : PureF gT 52 [.int .i64 f, .int .u32 w] (inP (rdI20 f w)) := by
  have b0 := bitsV_bd w 26 1
  have b1 := bitsV_bd w 12 3
  have b2 := bitsV_bd w 0 8
  have b3 := bitsV_bd w 16 4
  refine Spec.enter gTok P52 100 Tryd.func52 rfl (by kernel_rfl) ?_
  refine ⟨[], no_rl, (places_pure ⟨f, 0, 0, 0, 0, 0, 0, 0, 0, 0, 0⟩ w hw).use (by repeat' first | exact trivial | exact rfl | exact Iff.rfl | exact Or.inl rfl | refine And.intro ?_ ?_) rfl rfl ?_⟩
  refine ⟨[], no_rl, (pshapeLit hs).use (And.intro rfl trivial) rfl rfl ?_⟩
  refine ⟨[], no_rl, (immediate_20 f w hF hs hw).use (by repeat' first | exact trivial | exact rfl | exact Iff.rfl | exact Or.inl rfl | refine And.intro ?_ ?_) rfl rfl ?_⟩
  exact retE (leK_refl _)
set_option maxHeartbeats 8000000 in
set_option maxRecDepth 100000 in
theorem barrel_21 (f w : Int) (hF : 1 ≤ f ∧ f ≤ 100) (hs : shapeV f = 21) (hw : U32 w) : PureF gT 76 [.int .i64 f, .int .u32 w] (inP (rdI21 f w)) := by
  have b0 := bitsV_bd w 12 3
  have b1 := bitsV_bd w 6 2
  have b2 := bitsV_bd w 4 2
  have b3 := bitsV_bd w 20 1
  have b4 := bitsV_bd w 16 4
  have b5 := bitsV_bd w 8 4
  have b6 := bitsV_bd w 0 4
  unfold rdI21
  refine Spec.enter gTok P76 100 Tryd.func76 rfl (by kernel_rfl) ?_
  refine ⟨[], no_rl, (places_pure ⟨f, 0, 0, 0, 0, 0, 0, 0, 0, 0, 0⟩ w hw).use (by repeat' first | exact trivial | exact rfl | exact Iff.rfl | exact Or.inl rfl | refine And.intro ?_ ?_) rfl rfl ?_⟩
  refine ⟨[], no_rl, (at_pure w 4 2 hw (by decide) (by decide)).use (And.intro rfl (And.intro rfl (And.intro rfl trivial))) rfl rfl ?_⟩
  refine ⟨[], no_rl, (at_pure w 12 3 hw (by decide) (by decide)).use (And.intro rfl (And.intro rfl (And.intro rfl trivial))) rfl rfl ?_⟩
  refine ⟨by decide, .inl ⟨inR_i64 (by rw [q2]; omega), ?_⟩⟩
  refine ⟨[], no_rl, (at_pure w 6 2 hw (by decide) (by decide)).use (And.intro rfl (And.intro rfl (And.intro rfl trivial))) rfl rfl ?_⟩
  have ek : bitsV w 4 2 = 0 + bitsV w 4 2 * 2 ^ 0 := by omega
  have e : bits .or .i64 (bitsV w 12 3 * Ev.pow2 .i64 2) (bitsV w 6 2) = 0 + bitsV w 12 3 * 2 ^ 2 + bitsV w 6 2 * 2 ^ 0 := by
    rw [q2, Rm.i64_join (bitsV w 12 3 * 4) (bitsV w 6 2) 2 (by omega) (by omega) (by omega) (by omega) (by omega) (by omega)]; omega
  refine ⟨[], no_rl, (turned_pure (0 + bitsV w 4 2 * 2 ^ 0) (0 + bitsV w 12 3 * 2 ^ 2 + bitsV w 6 2 * 2 ^ 0)).use (And.intro ek (And.intro e trivial)) rfl rfl ?_⟩
  repeat (refine And.intro ?_ ?_; rotate_left; focus (
    repeat' (first
      | refine Exists.intro [] (And.intro no_rl ((at_pure w 4 2 hw (by decide) (by decide)).use (And.intro rfl (And.intro rfl (And.intro rfl trivial))) rfl rfl ?_))
      | refine Exists.intro [] (And.intro no_rl ((at_pure w 12 3 hw (by decide) (by decide)).use (And.intro rfl (And.intro rfl (And.intro rfl trivial))) rfl rfl ?_))
      | refine Exists.intro [] (And.intro no_rl ((at_pure w 6 2 hw (by decide) (by decide)).use (And.intro rfl (And.intro rfl (And.intro rfl trivial))) rfl rfl ?_))
      | refine Exists.intro [] (And.intro no_rl ((turned_pure (0 + bitsV w 4 2 * 2 ^ 0) (0 + bitsV w 12 3 * 2 ^ 2 + bitsV w 6 2 * 2 ^ 0)).use (And.intro ek (And.intro e trivial)) rfl rfl ?_))
      | refine And.intro (show (0 : Int) ≤ 2 by decide) (Or.inl (And.intro (inR_i64 (by rw [q2]; omega)) ?_))
      | exact rfl
      | exact trivial
      | refine And.intro ?_ ?_)))
  refine ⟨[], no_rl, (pshapeLit hs).use (And.intro rfl trivial) rfl rfl ?_⟩
  refine ⟨[], no_rl, (pshapeLit hs).use (And.intro rfl trivial) rfl rfl ?_⟩
  refine retE ?_
  (repeat' first | exact trivial | exact rfl | refine And.intro ?_ ?_)
  all_goals (show (_ : Int) = _; (try dsimp only [placesI, threeI]); first | omega | (unfold numT; omega))
set_option maxHeartbeats 8000000 in
set_option maxRecDepth 100000 in
theorem wideOf_21 (f w : Int) (hF : 1 ≤ f ∧ f ≤ 100) (hs : shapeV f = 21) (hw : U32 w) : PureF gT 52 [.int .i64 f, .int .u32 w] (inP (rdI21 f w)) := by
  have b0 := bitsV_bd w 12 3
  have b1 := bitsV_bd w 6 2
  have b2 := bitsV_bd w 4 2
  have b3 := bitsV_bd w 20 1
  have b4 := bitsV_bd w 16 4
  have b5 := bitsV_bd w 8 4
  have b6 := bitsV_bd w 0 4
  refine Spec.enter gTok P52 100 Tryd.func52 rfl (by kernel_rfl) ?_
  refine ⟨[], no_rl, (places_pure ⟨f, 0, 0, 0, 0, 0, 0, 0, 0, 0, 0⟩ w hw).use (by repeat' first | exact trivial | exact rfl | exact Iff.rfl | exact Or.inl rfl | refine And.intro ?_ ?_) rfl rfl ?_⟩
  refine ⟨[], no_rl, (pshapeLit hs).use (And.intro rfl trivial) rfl rfl ?_⟩
  refine ⟨[], no_rl, (barrel_21 f w hF hs hw).use (by repeat' first | exact trivial | exact rfl | exact Iff.rfl | exact Or.inl rfl | refine And.intro ?_ ?_) rfl rfl ?_⟩
  exact retE (leK_refl _)
set_option maxHeartbeats 8000000 in
set_option maxRecDepth 100000 in
theorem barrel_22 (f w : Int) (hF : 1 ≤ f ∧ f ≤ 100) (hs : shapeV f = 22) (hw : U32 w) : PureF gT 76 [.int .i64 f, .int .u32 w] (inP (rdI22 f w)) := by
  have b0 := bitsV_bd w 12 3
  have b1 := bitsV_bd w 6 2
  have b2 := bitsV_bd w 4 2
  have b3 := bitsV_bd w 20 1
  have b4 := bitsV_bd w 8 4
  have b5 := bitsV_bd w 0 4
  unfold rdI22
  refine Spec.enter gTok P76 100 Tryd.func76 rfl (by kernel_rfl) ?_
  refine ⟨[], no_rl, (places_pure ⟨f, 0, 0, 0, 0, 0, 0, 0, 0, 0, 0⟩ w hw).use (by repeat' first | exact trivial | exact rfl | exact Iff.rfl | exact Or.inl rfl | refine And.intro ?_ ?_) rfl rfl ?_⟩
  refine ⟨[], no_rl, (at_pure w 4 2 hw (by decide) (by decide)).use (And.intro rfl (And.intro rfl (And.intro rfl trivial))) rfl rfl ?_⟩
  refine ⟨[], no_rl, (at_pure w 12 3 hw (by decide) (by decide)).use (And.intro rfl (And.intro rfl (And.intro rfl trivial))) rfl rfl ?_⟩
  refine ⟨by decide, .inl ⟨inR_i64 (by rw [q2]; omega), ?_⟩⟩
  refine ⟨[], no_rl, (at_pure w 6 2 hw (by decide) (by decide)).use (And.intro rfl (And.intro rfl (And.intro rfl trivial))) rfl rfl ?_⟩
  have ek : bitsV w 4 2 = 0 + bitsV w 4 2 * 2 ^ 0 := by omega
  have e : bits .or .i64 (bitsV w 12 3 * Ev.pow2 .i64 2) (bitsV w 6 2) = 0 + bitsV w 12 3 * 2 ^ 2 + bitsV w 6 2 * 2 ^ 0 := by
    rw [q2, Rm.i64_join (bitsV w 12 3 * 4) (bitsV w 6 2) 2 (by omega) (by omega) (by omega) (by omega) (by omega) (by omega)]; omega
  refine ⟨[], no_rl, (turned_pure (0 + bitsV w 4 2 * 2 ^ 0) (0 + bitsV w 12 3 * 2 ^ 2 + bitsV w 6 2 * 2 ^ 0)).use (And.intro ek (And.intro e trivial)) rfl rfl ?_⟩
  repeat (refine And.intro ?_ ?_; rotate_left; focus (
    repeat' (first
      | refine Exists.intro [] (And.intro no_rl ((at_pure w 4 2 hw (by decide) (by decide)).use (And.intro rfl (And.intro rfl (And.intro rfl trivial))) rfl rfl ?_))
      | refine Exists.intro [] (And.intro no_rl ((at_pure w 12 3 hw (by decide) (by decide)).use (And.intro rfl (And.intro rfl (And.intro rfl trivial))) rfl rfl ?_))
      | refine Exists.intro [] (And.intro no_rl ((at_pure w 6 2 hw (by decide) (by decide)).use (And.intro rfl (And.intro rfl (And.intro rfl trivial))) rfl rfl ?_))
      | refine Exists.intro [] (And.intro no_rl ((turned_pure (0 + bitsV w 4 2 * 2 ^ 0) (0 + bitsV w 12 3 * 2 ^ 2 + bitsV w 6 2 * 2 ^ 0)).use (And.intro ek (And.intro e trivial)) rfl rfl ?_))
      | refine And.intro (show (0 : Int) ≤ 2 by decide) (Or.inl (And.intro (inR_i64 (by rw [q2]; omega)) ?_))
      | exact rfl
      | exact trivial
      | refine And.intro ?_ ?_)))
  refine ⟨[], no_rl, (pshapeLit hs).use (And.intro rfl trivial) rfl rfl ?_⟩
  refine ⟨[], no_rl, (pshapeLit hs).use (And.intro rfl trivial) rfl rfl ?_⟩
  refine retE ?_
  (repeat' first | exact trivial | exact rfl | refine And.intro ?_ ?_)
  all_goals (show (_ : Int) = _; (try dsimp only [placesI, threeI]); first | omega | (unfold numT; omega))
set_option maxHeartbeats 8000000 in
set_option maxRecDepth 100000 in
theorem wideOf_22 (f w : Int) (hF : 1 ≤ f ∧ f ≤ 100) (hs : shapeV f = 22) (hw : U32 w) : PureF gT 52 [.int .i64 f, .int .u32 w] (inP (rdI22 f w)) := by
  have b0 := bitsV_bd w 12 3
  have b1 := bitsV_bd w 6 2
  have b2 := bitsV_bd w 4 2
  have b3 := bitsV_bd w 20 1
  have b4 := bitsV_bd w 8 4
  have b5 := bitsV_bd w 0 4
  refine Spec.enter gTok P52 100 Tryd.func52 rfl (by kernel_rfl) ?_
  refine ⟨[], no_rl, (places_pure ⟨f, 0, 0, 0, 0, 0, 0, 0, 0, 0, 0⟩ w hw).use (by repeat' first | exact trivial | exact rfl | exact Iff.rfl | exact Or.inl rfl | refine And.intro ?_ ?_) rfl rfl ?_⟩
  refine ⟨[], no_rl, (pshapeLit hs).use (And.intro rfl trivial) rfl rfl ?_⟩
  refine ⟨[], no_rl, (barrel_22 f w hF hs hw).use (by repeat' first | exact trivial | exact rfl | exact Iff.rfl | exact Or.inl rfl | refine And.intro ?_ ?_) rfl rfl ?_⟩
  exact retE (leK_refl _)
set_option maxHeartbeats 8000000 in
set_option maxRecDepth 100000 in
theorem barrel_23 (f w : Int) (hF : 1 ≤ f ∧ f ≤ 100) (hs : shapeV f = 23) (hw : U32 w) : PureF gT 76 [.int .i64 f, .int .u32 w] (inP (rdI23 f w)) := by
  have b0 := bitsV_bd w 12 3
  have b1 := bitsV_bd w 6 2
  have b2 := bitsV_bd w 4 2
  have b3 := bitsV_bd w 16 4
  have b4 := bitsV_bd w 0 4
  unfold rdI23
  refine Spec.enter gTok P76 100 Tryd.func76 rfl (by kernel_rfl) ?_
  refine ⟨[], no_rl, (places_pure ⟨f, 0, 0, 0, 0, 0, 0, 0, 0, 0, 0⟩ w hw).use (by repeat' first | exact trivial | exact rfl | exact Iff.rfl | exact Or.inl rfl | refine And.intro ?_ ?_) rfl rfl ?_⟩
  refine ⟨[], no_rl, (at_pure w 4 2 hw (by decide) (by decide)).use (And.intro rfl (And.intro rfl (And.intro rfl trivial))) rfl rfl ?_⟩
  refine ⟨[], no_rl, (at_pure w 12 3 hw (by decide) (by decide)).use (And.intro rfl (And.intro rfl (And.intro rfl trivial))) rfl rfl ?_⟩
  refine ⟨by decide, .inl ⟨inR_i64 (by rw [q2]; omega), ?_⟩⟩
  refine ⟨[], no_rl, (at_pure w 6 2 hw (by decide) (by decide)).use (And.intro rfl (And.intro rfl (And.intro rfl trivial))) rfl rfl ?_⟩
  have ek : bitsV w 4 2 = 0 + bitsV w 4 2 * 2 ^ 0 := by omega
  have e : bits .or .i64 (bitsV w 12 3 * Ev.pow2 .i64 2) (bitsV w 6 2) = 0 + bitsV w 12 3 * 2 ^ 2 + bitsV w 6 2 * 2 ^ 0 := by
    rw [q2, Rm.i64_join (bitsV w 12 3 * 4) (bitsV w 6 2) 2 (by omega) (by omega) (by omega) (by omega) (by omega) (by omega)]; omega
  refine ⟨[], no_rl, (turned_pure (0 + bitsV w 4 2 * 2 ^ 0) (0 + bitsV w 12 3 * 2 ^ 2 + bitsV w 6 2 * 2 ^ 0)).use (And.intro ek (And.intro e trivial)) rfl rfl ?_⟩
  repeat (refine And.intro ?_ ?_; rotate_left; focus (
    repeat' (first
      | refine Exists.intro [] (And.intro no_rl ((at_pure w 4 2 hw (by decide) (by decide)).use (And.intro rfl (And.intro rfl (And.intro rfl trivial))) rfl rfl ?_))
      | refine Exists.intro [] (And.intro no_rl ((at_pure w 12 3 hw (by decide) (by decide)).use (And.intro rfl (And.intro rfl (And.intro rfl trivial))) rfl rfl ?_))
      | refine Exists.intro [] (And.intro no_rl ((at_pure w 6 2 hw (by decide) (by decide)).use (And.intro rfl (And.intro rfl (And.intro rfl trivial))) rfl rfl ?_))
      | refine Exists.intro [] (And.intro no_rl ((turned_pure (0 + bitsV w 4 2 * 2 ^ 0) (0 + bitsV w 12 3 * 2 ^ 2 + bitsV w 6 2 * 2 ^ 0)).use (And.intro ek (And.intro e trivial)) rfl rfl ?_))
      | refine And.intro (show (0 : Int) ≤ 2 by decide) (Or.inl (And.intro (inR_i64 (by rw [q2]; omega)) ?_))
      | exact rfl
      | exact trivial
      | refine And.intro ?_ ?_)))
  refine ⟨[], no_rl, (pshapeLit hs).use (And.intro rfl trivial) rfl rfl ?_⟩
  refine ⟨[], no_rl, (pshapeLit hs).use (And.intro rfl trivial) rfl rfl ?_⟩
  refine retE ?_
  (repeat' first | exact trivial | exact rfl | refine And.intro ?_ ?_)
  all_goals (show (_ : Int) = _; (try dsimp only [placesI, threeI]); first | omega | (unfold numT; omega))
set_option maxHeartbeats 8000000 in
set_option maxRecDepth 100000 in
theorem wideOf_23 (f w : Int) (hF : 1 ≤ f ∧ f ≤ 100) (hs : shapeV f = 23) (hw : U32 w) : PureF gT 52 [.int .i64 f, .int .u32 w] (inP (rdI23 f w)) := by
  have b0 := bitsV_bd w 12 3
  have b1 := bitsV_bd w 6 2
  have b2 := bitsV_bd w 4 2
  have b3 := bitsV_bd w 16 4
  have b4 := bitsV_bd w 0 4
  refine Spec.enter gTok P52 100 Tryd.func52 rfl (by kernel_rfl) ?_
  refine ⟨[], no_rl, (places_pure ⟨f, 0, 0, 0, 0, 0, 0, 0, 0, 0, 0⟩ w hw).use (by repeat' first | exact trivial | exact rfl | exact Iff.rfl | exact Or.inl rfl | refine And.intro ?_ ?_) rfl rfl ?_⟩
  refine ⟨[], no_rl, (pshapeLit hs).use (And.intro rfl trivial) rfl rfl ?_⟩
  refine ⟨[], no_rl, (barrel_23 f w hF hs hw).use (by repeat' first | exact trivial | exact rfl | exact Iff.rfl | exact Or.inl rfl | refine And.intro ?_ ?_) rfl rfl ?_⟩
  exact retE (leK_refl _)
set_option maxHeartbeats 8000000 in
set_option maxRecDepth 100000 in
theorem immediate_24 (f w : Int) (hF : 1 ≤ f ∧ f ≤ 100) (hs : shapeV f = 24) (hw : U32 w) : PureF gT 75 [.int .i64 f, .int .u32 w] (inP (rdI24 f w)) := by
  have b0 := bitsV_bd w 26 1
  have b1 := bitsV_bd w 12 3
  have b2 := bitsV_bd w 0 8
  have b3 := bitsV_bd w 16 4
  have b4 := bitsV_bd w 8 4
  unfold rdI24
  refine Spec.enter gTok P75 100 Tryd.func75 rfl (by kernel_rfl) ?_
  refine ⟨[], no_rl, (places_pure ⟨f, 0, 0, 0, 0, 0, 0, 0, 0, 0, 0⟩ w hw).use (by repeat' first | exact trivial | exact rfl | exact Iff.rfl | exact Or.inl rfl | refine And.intro ?_ ?_) rfl rfl ?_⟩
  refine ⟨[], no_rl, (number_f w hw).use (by repeat' first | exact trivial | exact rfl | exact Iff.rfl | exact Or.inl rfl | refine And.intro ?_ ?_) rfl rfl ?_⟩
  refine ⟨[], no_rl, (pshapeLit hs).use (And.intro rfl trivial) rfl rfl ?_⟩
  refine retE ?_
  (repeat' first | exact trivial | exact rfl | refine And.intro ?_ ?_)
  all_goals (show (_ : Int) = _; (try dsimp only [placesI, threeI]); first | omega | (unfold numT; omega))
set_option maxHeartbeats 8000000 in
set_option maxRecDepth 100000 in
theorem wideOf_24 (f w : Int) (hF : 1 ≤ f ∧ f ≤ 100) (hs : shapeV f = 24) (hw : U32 w) : PureF gT 52 [.int .i64 f, .int .u32 w] (inP (rdI24 f w)) := by
  have b0 := bitsV_bd w 26 1
  have b1 := bitsV_bd w 12 3
  have b2 := bitsV_bd w 0 8
  have b3 := bitsV_bd w 16 4
  have b4 := bitsV_bd w 8 4
  refine Spec.enter gTok P52 100 Tryd.func52 rfl (by kernel_rfl) ?_
  refine ⟨[], no_rl, (places_pure ⟨f, 0, 0, 0, 0, 0, 0, 0, 0, 0, 0⟩ w hw).use (by repeat' first | exact trivial | exact rfl | exact Iff.rfl | exact Or.inl rfl | refine And.intro ?_ ?_) rfl rfl ?_⟩
  refine ⟨[], no_rl, (pshapeLit hs).use (And.intro rfl trivial) rfl rfl ?_⟩
  refine ⟨[], no_rl, (immediate_24 f w hF hs hw).use (by repeat' first | exact trivial | exact rfl | exact Iff.rfl | exact Or.inl rfl | refine And.intro ?_ ?_) rfl rfl ?_⟩
  exact retE (leK_refl _)
set_option maxHeartbeats 8000000 in
set_option maxRecDepth 100000 in
theorem wideOf_25 (f w : Int) (hF : 1 ≤ f ∧ f ≤ 100) (hs : shapeV f = 25) (hw : U32 w) : PureF gT 52 [.int .i64 f, .int .u32 w] (inP (rdI25 f w)) := by
  have b0 := bitsV_bd w 16 4
  have b1 := bitsV_bd w 12 4
  have b2 := bitsV_bd w 0 12
  unfold rdI25
  refine Spec.enter gTok P52 100 Tryd.func52 rfl (by kernel_rfl) ?_
  refine ⟨[], no_rl, (places_pure ⟨f, 0, 0, 0, 0, 0, 0, 0, 0, 0, 0⟩ w hw).use (by repeat' first | exact trivial | exact rfl | exact Iff.rfl | exact Or.inl rfl | refine And.intro ?_ ?_) rfl rfl ?_⟩
  refine ⟨[], no_rl, (pshapeLit hs).use (And.intro rfl trivial) rfl rfl ?_⟩
  refine ⟨[], no_rl, (at_pure w 12 4 hw (by decide) (by decide)).use (And.intro rfl (And.intro rfl (And.intro rfl trivial))) rfl rfl ?_⟩
  refine ⟨[], no_rl, (at_pure w 0 12 hw (by decide) (by decide)).use (And.intro rfl (And.intro rfl (And.intro rfl trivial))) rfl rfl ?_⟩
  refine retE ?_
  (repeat' first | exact trivial | exact rfl | refine And.intro ?_ ?_)
  all_goals (show (_ : Int) = _; (try dsimp only [placesI, threeI]); first | omega | (unfold numT; omega))
set_option maxHeartbeats 8000000 in
set_option maxRecDepth 100000 in
theorem wideOf_26 (f w : Int) (hF : 1 ≤ f ∧ f ≤ 100) (hs : shapeV f = 26) (hw : U32 w) : PureF gT 52 [.int .i64 f, .int .u32 w] (inP (rdI26 f w)) := by
  have b0 := bitsV_bd w 16 4
  have b1 := bitsV_bd w 12 4
  have b2 := bitsV_bd w 4 2
  have b3 := bitsV_bd w 0 4
  unfold rdI26
  refine Spec.enter gTok P52 100 Tryd.func52 rfl (by kernel_rfl) ?_
  refine ⟨[], no_rl, (places_pure ⟨f, 0, 0, 0, 0, 0, 0, 0, 0, 0, 0⟩ w hw).use (by repeat' first | exact trivial | exact rfl | exact Iff.rfl | exact Or.inl rfl | refine And.intro ?_ ?_) rfl rfl ?_⟩
  refine ⟨[], no_rl, (pshapeLit hs).use (And.intro rfl trivial) rfl rfl ?_⟩
  refine ⟨[], no_rl, (at_pure w 12 4 hw (by decide) (by decide)).use (And.intro rfl (And.intro rfl (And.intro rfl trivial))) rfl rfl ?_⟩
  refine ⟨[], no_rl, (at_pure w 4 2 hw (by decide) (by decide)).use (And.intro rfl (And.intro rfl (And.intro rfl trivial))) rfl rfl ?_⟩
  refine retE ?_
  (repeat' first | exact trivial | exact rfl | refine And.intro ?_ ?_)
  all_goals (show (_ : Int) = _; (try dsimp only [placesI, threeI]); first | omega | (unfold numT; omega))
set_option maxHeartbeats 8000000 in
set_option maxRecDepth 100000 in
theorem wideOf_27 (f w : Int) (hF : 1 ≤ f ∧ f ≤ 100) (hs : shapeV f = 27) (hw : U32 w) : PureF gT 52 [.int .i64 f, .int .u32 w] (inP (rdI27 f w)) := by
  have b0 := bitsV_bd w 20 1
  have b1 := bitsV_bd w 16 4
  have b2 := bitsV_bd w 8 4
  have b3 := bitsV_bd w 0 4
  unfold rdI27
  refine Spec.enter gTok P52 100 Tryd.func52 rfl (by kernel_rfl) ?_
  refine ⟨[], no_rl, (places_pure ⟨f, 0, 0, 0, 0, 0, 0, 0, 0, 0, 0⟩ w hw).use (by repeat' first | exact trivial | exact rfl | exact Iff.rfl | exact Or.inl rfl | refine And.intro ?_ ?_) rfl rfl ?_⟩
  refine ⟨[], no_rl, (pshapeLit hs).use (And.intro rfl trivial) rfl rfl ?_⟩
  refine retE ?_
  (repeat' first | exact trivial | exact rfl | refine And.intro ?_ ?_)
  all_goals (show (_ : Int) = _; (try dsimp only [placesI, threeI]); first | omega | (unfold numT; omega))
set_option maxHeartbeats 8000000 in
set_option maxRecDepth 100000 in
theorem wideOf_28 (f w : Int) (hF : 1 ≤ f ∧ f ≤ 100) (hs : shapeV f = 28) (hw : U32 w) : PureF gT 52 [.int .i64 f, .int .u32 w] (inP (rdI28 f w)) := by
  have b0 := bitsV_bd w 16 4
  have b1 := bitsV_bd w 8 4
  have b2 := bitsV_bd w 0 4
  unfold rdI28
  refine Spec.enter gTok P52 100 Tryd.func52 rfl (by kernel_rfl) ?_
  refine ⟨[], no_rl, (places_pure ⟨f, 0, 0, 0, 0, 0, 0, 0, 0, 0, 0⟩ w hw).use (by repeat' first | exact trivial | exact rfl | exact Iff.rfl | exact Or.inl rfl | refine And.intro ?_ ?_) rfl rfl ?_⟩
  refine ⟨[], no_rl, (pshapeLit hs).use (And.intro rfl trivial) rfl rfl ?_⟩
  refine retE ?_
  (repeat' first | exact trivial | exact rfl | refine And.intro ?_ ?_)
  all_goals (show (_ : Int) = _; (try dsimp only [placesI, threeI]); first | omega | (unfold numT; omega))
set_option maxHeartbeats 8000000 in
set_option maxRecDepth 100000 in
theorem wideOf_29 (f w : Int) (hF : 1 ≤ f ∧ f ≤ 100) (hs : shapeV f = 29) (hw : U32 w) : PureF gT 52 [.int .i64 f, .int .u32 w] (inP (rdI29 f w)) := by
  have b0 := bitsV_bd w 16 4
  have b1 := bitsV_bd w 12 4
  have b2 := bitsV_bd w 8 4
  have b3 := bitsV_bd w 0 4
  unfold rdI29
  refine Spec.enter gTok P52 100 Tryd.func52 rfl (by kernel_rfl) ?_
  refine ⟨[], no_rl, (places_pure ⟨f, 0, 0, 0, 0, 0, 0, 0, 0, 0, 0⟩ w hw).use (by repeat' first | exact trivial | exact rfl | exact Iff.rfl | exact Or.inl rfl | refine And.intro ?_ ?_) rfl rfl ?_⟩
  refine ⟨[], no_rl, (pshapeLit hs).use (And.intro rfl trivial) rfl rfl ?_⟩
  refine ⟨[], no_rl, (at_pure w 12 4 hw (by decide) (by decide)).use (And.intro rfl (And.intro rfl (And.intro rfl trivial))) rfl rfl ?_⟩
  refine retE ?_
  (repeat' first | exact trivial | exact rfl | refine And.intro ?_ ?_)
  all_goals (show (_ : Int) = _; (try dsimp only [placesI, threeI]); first | omega | (unfold numT; omega))
set_option maxHeartbeats 8000000 in
set_option maxRecDepth 100000 in
theorem wideOf_30 (f w : Int) (hF : 1 ≤ f ∧ f ≤ 100) (hs : shapeV f = 30) (hw : U32 w) : PureF gT 52 [.int .i64 f, .int .u32 w] (inP (rdI30 f w)) := by
  have b0 := bitsV_bd w 16 4
  have b1 := bitsV_bd w 12 4
  have b2 := bitsV_bd w 8 4
  have b3 := bitsV_bd w 0 4
  unfold rdI30
  refine Spec.enter gTok P52 100 Tryd.func52 rfl (by kernel_rfl) ?_
  refine ⟨[], no_rl, (places_pure ⟨f, 0, 0, 0, 0, 0, 0, 0, 0, 0, 0⟩ w hw).use (by repeat' first | exact trivial | exact rfl | exact Iff.rfl | exact Or.inl rfl | refine And.intro ?_ ?_) rfl rfl ?_⟩
  refine ⟨[], no_rl, (pshapeLit hs).use (And.intro rfl trivial) rfl rfl ?_⟩
  refine ⟨[], no_rl, (at_pure w 12 4 hw (by decide) (by decide)).use (And.intro rfl (And.intro rfl (And.intro rfl trivial))) rfl rfl ?_⟩
  refine retE ?_
  (repeat' first | exact trivial | exact rfl | refine And.intro ?_ ?_)
  all_goals (show (_ : Int) = _; (try dsimp only [placesI, threeI]); first | omega | (unfold numT; omega))
set_option maxHeartbeats 8000000 in
set_option maxRecDepth 100000 in
theorem wideOf_31 (f w : Int) (hF : 1 ≤ f ∧ f ≤ 100) (hs : shapeV f = 31) (hw : U32 w) : PureF gT 52 [.int .i64 f, .int .u32 w] (inP (rdI31 f w)) := by
  have b0 := bitsV_bd w 16 4
  have b1 := bitsV_bd w 12 4
  have b2 := bitsV_bd w 8 4
  have b3 := bitsV_bd w 0 4
  unfold rdI31
  refine Spec.enter gTok P52 100 Tryd.func52 rfl (by kernel_rfl) ?_
  refine ⟨[], no_rl, (places_pure ⟨f, 0, 0, 0, 0, 0, 0, 0, 0, 0, 0⟩ w hw).use (by repeat' first | exact trivial | exact rfl | exact Iff.rfl | exact Or.inl rfl | refine And.intro ?_ ?_) rfl rfl ?_⟩
  refine ⟨[], no_rl, (pshapeLit hs).use (And.intro rfl trivial) rfl rfl ?_⟩
  refine ⟨[], no_rl, (at_pure w 12 4 hw (by decide) (by decide)).use (And.intro rfl (And.intro rfl (And.intro rfl trivial))) rfl rfl ?_⟩
  refine retE ?_
  (repeat' first | exact trivial | exact rfl | refine And.intro ?_ ?_)
  all_goals (show (_ : Int) = _; (try dsimp only [placesI, threeI]); first | omega | (unfold numT; omega))
set_option maxHeartbeats 8000000 in
set_option maxRecDepth 100000 in
theorem wideOf_32 (f w : Int) (hF : 1 ≤ f ∧ f ≤ 100) (hs : shapeV f = 32) (hw : U32 w) : PureF gT 52 [.int .i64 f, .int .u32 w] (inP (rdI32 f w)) := by
  have b0 := bitsV_bd w 16 4
  have b1 := bitsV_bd w 8 4
  have b2 := bitsV_bd w 0 4
  unfold rdI32
  refine Spec.enter gTok P52 100 Tryd.func52 rfl (by kernel_rfl) ?_
  refine ⟨[], no_rl, (places_pure ⟨f, 0, 0, 0, 0, 0, 0, 0, 0, 0, 0⟩ w hw).use (by repeat' first | exact trivial | exact rfl | exact Iff.rfl | exact Or.inl rfl | refine And.intro ?_ ?_) rfl rfl ?_⟩
  refine ⟨[], no_rl, (pshapeLit hs).use (And.intro rfl trivial) rfl rfl ?_⟩
  refine retE ?_
  (repeat' first | exact trivial | exact rfl | refine And.intro ?_ ?_)
  all_goals (show (_ : Int) = _; (try dsimp only [placesI, threeI]); first | omega | (unfold numT; omega))
set_option maxHeartbeats 8000000 in
set_option maxRecDepth 100000 in
theorem wideOf_33 (f w : Int) (hF : 1 ≤ f ∧ f ≤ 100) (hs : shapeV f = 33) (hw : U32 w) : PureF gT 52 [.int .i64 f, .int .u32 w] (inP (rdI33 f w)) := by
  have b0 := bitsV_bd w 26 1
  have b1 := bitsV_bd w 22 4
  have b2 := bitsV_bd w 16 6
  have b3 := bitsV_bd w 13 1
  have b4 := bitsV_bd w 11 1
  have b5 := bitsV_bd w 0 11
  unfold rdI33
  refine Spec.enter gTok P52 100 Tryd.func52 rfl (by kernel_rfl) ?_
  refine ⟨[], no_rl, (places_pure ⟨f, 0, 0, 0, 0, 0, 0, 0, 0, 0, 0⟩ w hw).use (by repeat' first | exact trivial | exact rfl | exact Iff.rfl | exact Or.inl rfl | refine And.intro ?_ ?_) rfl rfl ?_⟩
  refine ⟨[], no_rl, (pshapeLit hs).use (And.intro rfl trivial) rfl rfl ?_⟩
  refine ⟨[], no_rl, (at_pure w 22 4 hw (by decide) (by decide)).use (And.intro rfl (And.intro rfl (And.intro rfl trivial))) rfl rfl ?_⟩
  refine ⟨[], no_rl, (condOf_pure w hw).use (And.intro rfl trivial) rfl rfl ?_⟩
  refine retE ?_
  (repeat' first | exact trivial | exact rfl | refine And.intro ?_ ?_)
  all_goals (show (_ : Int) = _; (try dsimp only [placesI, threeI]); first | omega | (unfold numT; omega))
set_option maxHeartbeats 8000000 in
set_option maxRecDepth 100000 in
theorem wideOf_34 (f w : Int) (hF : 1 ≤ f ∧ f ≤ 100) (hs : shapeV f = 34) (hw : U32 w) : PureF gT 52 [.int .i64 f, .int .u32 w] (inP (rdI34 f w)) := by
  have b0 := bitsV_bd w 26 1
  have b1 := bitsV_bd w 16 10
  have b2 := bitsV_bd w 13 1
  have b3 := bitsV_bd w 11 1
  have b4 := bitsV_bd w 0 11
  unfold rdI34
  refine Spec.enter gTok P52 100 Tryd.func52 rfl (by kernel_rfl) ?_
  refine ⟨[], no_rl, (places_pure ⟨f, 0, 0, 0, 0, 0, 0, 0, 0, 0, 0⟩ w hw).use (by repeat' first | exact trivial | exact rfl | exact Iff.rfl | exact Or.inl rfl | refine And.intro ?_ ?_) rfl rfl ?_⟩
  refine ⟨[], no_rl, (pshapeLit hs).use (And.intro rfl trivial) rfl rfl ?_⟩
  refine ⟨[], no_rl, (jumpOf_pure w hw).use (And.intro rfl trivial) rfl rfl ?_⟩
  refine retE ?_
  (repeat' first | exact trivial | exact rfl | refine And.intro ?_ ?_)
  all_goals (show (_ : Int) = _; (try dsimp only [placesI, threeI]); first | omega | (unfold numT; omega))

end Go.Proofs.YtjcacjeoddnmhaaDoor.Pw

/- Chapter 4 over values: packing and reading, of all shapes; an instruction's bits; the instruction of bits. -/
namespace Go.Proofs.YtjcacjeoddnmhaaDoor.Pw
open Go Go.RowKit

theorem shape_wide {f : Int} (h : 1 ≤ f ∧ f ≤ 100) : 17 ≤ shapeV f ↔ 48 ≤ f := by
  have h1 : ((List.range 100).all fun k => decide (17 ≤ shapeV ((k + 1 : Nat) : Int) ↔ 48 ≤ k + 1)) = true := by decide +kernel
  have h2 := of_decide_eq_true (List.all_eq_true.1 h1 (f.toNat - 1) (List.mem_range.2 (by omega)))
  rw [show (((f.toNat - 1 + 1 : Nat)) : Int) = f by omega] at h2
  omega
theorem cases16 {s : Int} (h : 1 ≤ s ∧ s ≤ 16) : s = 1 ∨ s = 2 ∨ s = 3 ∨ s = 4 ∨ s = 5 ∨ s = 6 ∨ s = 7 ∨ s = 8 ∨ s = 9 ∨ s = 10 ∨ s = 11 ∨ s = 12 ∨ s = 13 ∨ s = 14 ∨ s = 15 ∨ s = 16 := by omega
theorem cases18 {s : Int} (h : 17 ≤ s ∧ s ≤ 34) : s = 17 ∨ s = 18 ∨ s = 19 ∨ s = 20 ∨ s = 21 ∨ s = 22 ∨ s = 23 ∨ s = 24 ∨ s = 25 ∨ s = 26 ∨ s = 27 ∨ s = 28 ∨ s = 29 ∨ s = 30 ∨ s = 31 ∨ s = 32 ∨ s = 33 ∨ s = 34 := by omega
theorem narrowOf_all (f w : Int) (hF : 1 ≤ f ∧ f ≤ 100) (hn : ¬ 48 ≤ f) (hw : U32 w) : PureF gT 51 [.int .i64 f, .int .u32 w] (inP (readV f w)) := by
  have h17 := shape_wide hF
  have hb := shape_bd hF
  rcases cases16 (s := shapeV f) (by omega) with hs | hs | hs | hs | hs | hs | hs | hs | hs | hs | hs | hs | hs | hs | hs | hs
  · rw [rd_1 hs]; exact narrowOf_1 f w hF hs hw
  · rw [rd_2 hs]; exact narrowOf_2 f w hF hs hw
  · rw [rd_3 hs]; exact narrowOf_3 f w hF hs hw
  · rw [rd_4 hs]; exact narrowOf_4 f w hF hs hw
  · rw [rd_5 hs]; exact narrowOf_5 f w hF hs hw
  · rw [rd_6 hs]; exact narrowOf_6 f w hF hs hw
  · rw [rd_7 hs]; exact narrowOf_7 f w hF hs hw
  · rw [rd_8 hs]; exact narrowOf_8 f w hF hs hw
  · rw [rd_9 hs]; exact narrowOf_9 f w hF hs hw
  · rw [rd_10 hs]; exact narrowOf_10 f w hF hs hw
  · rw [rd_11 hs]; exact narrowOf_11 f w hF hs hw
  · rw [rd_12 hs]; exact narrowOf_12 f w hF hs hw
  · rw [rd_13 hs]; exact narrowOf_13 f w hF hs hw
  · rw [rd_14 hs]; exact narrowOf_14 f w hF hs hw
  · rw [rd_15 hs]; exact narrowOf_15 f w hF hs hw
  · rw [rd_16 hs]; exact narrowOf_16 f w hF hs hw
  
theorem wideOf_all (f w : Int) (hF : 1 ≤ f ∧ f ≤ 100) (hn : 48 ≤ f) (hw : U32 w) : PureF gT 52 [.int .i64 f, .int .u32 w] (inP (readV f w)) := by
  have h17 := shape_wide hF
  have hb := shape_bd hF
  rcases cases18 (s := shapeV f) (by omega) with hs | hs | hs | hs | hs | hs | hs | hs | hs | hs | hs | hs | hs | hs | hs | hs | hs | hs
  · rw [rd_17 hs]; exact wideOf_17 f w hF hs hw
  · rw [rd_18 hs]; exact wideOf_18 f w hF hs hw
  · rw [rd_19 hs]; exact wideOf_19 f w hF hs hw
  · rw [rd_20 hs]; exact wideOf_20 f w hF hs hw
  · rw [rd_21 hs]; exact wideOf_21 f w hF hs hw
  · rw [rd_22 hs]; exact wideOf_22 f w hF hs hw
  · rw [rd_23 hs]; exact wideOf_23 f w hF hs hw
  · rw [rd_24 hs]; exact wideOf_24 f w hF hs hw
  · rw [rd_25 hs]; exact wideOf_25 f w hF hs hw
  · rw [rd_26 hs]; exact wideOf_26 f w hF hs hw
  · rw [rd_27 hs]; exact wideOf_27 f w hF hs hw
  · rw [rd_28 hs]; exact wideOf_28 f w hF hs hw
  · rw [rd_29 hs]; exact wideOf_29 f w hF hs hw
  · rw [rd_30 hs]; exact wideOf_30 f w hF hs hw
  · rw [rd_31 hs]; exact wideOf_31 f w hF hs hw
  · rw [rd_32 hs]; exact wideOf_32 f w hF hs hw
  · rw [rd_33 hs]; exact wideOf_33 f w hF hs hw
  · rw [rd_34 hs]; exact wideOf_34 f w hF hs hw
  
def orV (i : IN) : Int := ((orF (turnI i) (fieldsV (shapeV i.form)) : Nat) : Int)
theorem narrow_all (i : IN) (hr : rightV i) (hn : ¬ 48 ≤ i.form) (hg : i.regs ≤ 9223372036854775807) : PureF gT 80 [inP i] (.int .u32 (orV i)) := by
  have h17 := shape_wide hr.1
  have hb := shape_bd hr.1
  unfold orV
  unfold rightV at hr
  rw [turnI_not (by omega)]
  rcases cases16 (s := shapeV i.form) (by omega) with hs | hs | hs | hs | hs | hs | hs | hs | hs | hs | hs | hs | hs | hs | hs | hs
  · rw [hs] at hr ⊢; exact narrow_1 i hs hr hg
  · rw [hs] at hr ⊢; exact narrow_2 i hs hr hg
  · rw [hs] at hr ⊢; exact narrow_3 i hs hr hg
  · rw [hs] at hr ⊢; exact narrow_4 i hs hr hg
  · rw [hs] at hr ⊢; exact narrow_5 i hs hr hg
  · rw [hs] at hr ⊢; exact narrow_6 i hs hr hg
  · rw [hs] at hr ⊢; exact narrow_7 i hs hr hg
  · rw [hs] at hr ⊢; exact narrow_8 i hs hr hg
  · rw [hs] at hr ⊢; exact narrow_9 i hs hr hg
  · rw [hs] at hr ⊢; exact narrow_10 i hs hr hg
  · rw [hs] at hr ⊢; exact narrow_11 i hs hr hg
  · rw [hs] at hr ⊢; exact narrow_12 i hs hr hg
  · rw [hs] at hr ⊢; exact narrow_13 i hs hr hg
  · rw [hs] at hr ⊢; exact narrow_14 i hs hr hg
  · rw [hs] at hr ⊢; exact narrow_15 i hs hr hg
  · rw [hs] at hr ⊢; exact narrow_16 i hs hr hg
  
theorem wide_all (i : IN) (hr : rightV i) (hn : 48 ≤ i.form) (hg : i.regs ≤ 9223372036854775807) : PureF gT 79 [inP i] (.int .u32 (orV i)) := by
  have h17 := shape_wide hr.1
  have hb := shape_bd hr.1
  unfold orV
  unfold rightV at hr
  rcases cases18 (s := shapeV i.form) (by omega) with hs | hs | hs | hs | hs | hs | hs | hs | hs | hs | hs | hs | hs | hs | hs | hs | hs | hs
  · rw [turnI_not (by omega)]; rw [hs] at hr ⊢; exact wide_17 i hs hr hg
  · rw [turnI_not (by omega)]; rw [hs] at hr ⊢; exact wide_18 i hs hr hg
  · rw [turnI_not (by omega)]; rw [hs] at hr ⊢; exact wide_19 i hs hr hg
  · rw [turnI_not (by omega)]; rw [hs] at hr ⊢; exact wide_20 i hs hr hg
  · rw [turnI_not (by omega)]; rw [hs] at hr ⊢; exact wide_21 i hs hr hg
  · rw [turnI_not (by omega)]; rw [hs] at hr ⊢; exact wide_22 i hs hr hg
  · rw [turnI_not (by omega)]; rw [hs] at hr ⊢; exact wide_23 i hs hr hg
  · rw [turnI_not (by omega)]; rw [hs] at hr ⊢; exact wide_24 i hs hr hg
  · rw [turnI_not (by omega)]; rw [hs] at hr ⊢; exact wide_25 i hs hr hg
  · rw [turnI_not (by omega)]; rw [hs] at hr ⊢; exact wide_26 i hs hr hg
  · rw [turnI_not (by omega)]; rw [hs] at hr ⊢; exact wide_27 i hs hr hg
  · rw [turnI_not (by omega)]; rw [hs] at hr ⊢; exact wide_28 i hs hr hg
  · rw [turnI_not (by omega)]; rw [hs] at hr ⊢; exact wide_29 i hs hr hg
  · rw [turnI_not (by omega)]; rw [hs] at hr ⊢; exact wide_30 i hs hr hg
  · rw [turnI_not (by omega)]; rw [hs] at hr ⊢; exact wide_31 i hs hr hg
  · rw [turnI_not (by omega)]; rw [hs] at hr ⊢; exact wide_32 i hs hr hg
  · rw [turnI_not (by omega)]; rw [hs] at hr ⊢; exact wide_33 i hs hr hg
  · rw [hs] at hr ⊢; exact wide_34 i hs hr hg
theorem orV_lt (i : IN) : orF (turnI i) (fieldsV (shapeV i.form)) < 4294967296 := by
  have h := wordF_lt (turnI i) (fieldsV (shapeV i.form)) (fields_ok _)
  rw [wordF_or] at h
  exact Nat.lt_of_le_of_lt Nat.right_le_or h
theorem pack_or (i : IN) : bits .or .u32 (fbV i.form) (orV i) = wordV i := by
  have b := fb_bd i.form
  have l := orV_lt i
  rw [word_or]
  unfold orV
  rw [u32_or _ _ b.1 b.2 (by omega) (by omega), Int.toNat_natCast]
set_option maxRecDepth 100000 in
theorem pack_pure (i : IN) (hr : rightV i) (hg : i.regs ≤ 9223372036854775807) : PureF gT 53 [inP i] (.int .u32 (wordV i)) := by
  refine Spec.enter gTok P53 100 Tryd.func53 rfl (by kernel_rfl) ?_
  refine ⟨[], no_rl, (form_wide i.form).use (by repeat' first | exact trivial | exact rfl | exact Iff.rfl | exact Or.inl rfl | refine And.intro ?_ ?_) rfl rfl ?_⟩
  refine And.intro (fun h => ?_) (fun h => ?_)
  · refine ⟨[], no_rl, (formBits_pure i.form).use (by repeat' first | exact trivial | exact rfl | exact Iff.rfl | exact Or.inl rfl | refine And.intro ?_ ?_) rfl rfl ?_⟩
    refine ⟨[], no_rl, (wide_all i hr h.1 hg).use (by repeat' first | exact trivial | exact rfl | exact Iff.rfl | exact Or.inl rfl | refine And.intro ?_ ?_) rfl rfl ?_⟩
    refine retE ?_
    exact pack_or i
  · refine ⟨[], no_rl, (formBits_pure i.form).use (by repeat' first | exact trivial | exact rfl | exact Iff.rfl | exact Or.inl rfl | refine And.intro ?_ ?_) rfl rfl ?_⟩
    refine ⟨[], no_rl, (narrow_all i hr (fun e => h ⟨e, hr.1.2⟩) hg).use (by repeat' first | exact trivial | exact rfl | exact Iff.rfl | exact Or.inl rfl | refine And.intro ?_ ?_) rfl rfl ?_⟩
    refine retE ?_
    exact pack_or i
end Go.Proofs.YtjcacjeoddnmhaaDoor.Pw

/- Chapter 4, plain: which instruction bits are. -/
namespace Go.Proofs.YtjcacjeoddnmhaaDoor.Pw
open Go Go.RowKit

/-! ### readings stay within bounds -/
theorem span_tab : ∀ k : Fin 35, (fieldsV ((k.1 : Nat) : Int)).all (fun x => decide (x.2.1 + x.2.2.2 ≤ 25)) = true := by decide
theorem fields_span (s : Int) : ∀ x ∈ fieldsV s, x.2.1 + x.2.2.2 ≤ 25 := by
  have h : (fieldsV s).all (fun x => decide (x.2.1 + x.2.2.2 ≤ 25)) = true := by
    by_cases h : s < 1 ∨ 34 < s
    · rw [fields_none s h]; rfl
    · have h1 := span_tab ⟨s.toNat, by omega⟩
      rwa [show (((⟨s.toNat, by omega⟩ : Fin 35).1 : Nat) : Int) = s by simp only []; omega] at h1
  exact fun x hx => of_decide_eq_true (List.all_eq_true.1 h x hx)
theorem term_bd (w : Int) (a n l : Nat) (h : l + n ≤ 25) : 0 ≤ bitsV w a n * 2 ^ l ∧ bitsV w a n * 2 ^ l ≤ 33554432 := by
  have b := bitsV_bd w a n
  have p1 := pow_cast l
  have p2 := pow_cast n
  have q1 := Nat.two_pow_pos l
  have e : ((bitsV w a n).toNat : Int) = bitsV w a n := Int.toNat_of_nonneg b.1
  have h1 : (bitsV w a n).toNat < 2 ^ n := by omega
  have h2 : (bitsV w a n).toNat * 2 ^ l ≤ 2 ^ n * 2 ^ l := Nat.mul_le_mul_right _ (Nat.le_of_lt h1)
  have h3 : 2 ^ n * 2 ^ l ≤ 2 ^ 25 := by rw [← Nat.pow_add]; exact Nat.pow_le_pow_right (by omega) (by omega)
  have e2 : bitsV w a n * 2 ^ l = (((bitsV w a n).toNat * 2 ^ l : Nat) : Int) := by rw [Int.natCast_mul, e, p1]
  rw [e2]
  have h4 : (2 : Nat) ^ 25 = 33554432 := by decide
  omega
theorem sum_bd (w : Int) : ∀ (l : List (Nat × Nat × Nat × Nat)) (a : Int), (∀ x ∈ l, x.2.1 + x.2.2.2 ≤ 25) → a ≤ l.foldl (fun a x => a + bitsV w x.2.2.1 x.2.2.2 * 2 ^ x.2.1) a ∧ l.foldl (fun a x => a + bitsV w x.2.2.1 x.2.2.2 * 2 ^ x.2.1) a ≤ a + l.length * 33554432
  | [], a, _ => by simp
  | x :: l, a, h => by
    have ih := sum_bd w l (a + bitsV w x.2.2.1 x.2.2.2 * 2 ^ x.2.1) fun y hy => h y (List.mem_cons_of_mem _ hy)
    have t := term_bd w x.2.2.1 x.2.2.2 x.2.1 (h x (List.mem_cons_self ..))
    rw [List.foldl_cons, List.length_cons]
    omega
theorem xV_bd (s w : Int) (f : Nat) : 0 ≤ xV s w f ∧ xV s w f ≤ 234881024 := by
  have h := sum_bd w ((fieldsV s).filter fun x => decide (x.1 = f)) 0 fun x hx => fields_span s x (List.mem_filter.1 hx).1
  have l1 : ((fieldsV s).filter fun x => decide (x.1 = f)).length ≤ 7 := Nat.le_trans (List.length_filter_le ..) (fields_len s)
  unfold xV
  omega
theorem least_bd (x : Int) (w : Nat) (hw : w ≤ 25) : x - 33554432 ≤ leastV x w ∧ leastV x w ≤ x := by
  have p : (2 : Int) ^ w ≤ 33554432 ∧ 0 < (2 : Int) ^ w := by
    have h1 : (2 ^ w : Nat) ≤ 2 ^ 25 := Nat.pow_le_pow_right (by omega) hw
    have h3 := pow_cast w
    have := Nat.two_pow_pos w
    have h4 : (2 : Nat) ^ 25 = 33554432 := by decide
    omega
  unfold leastV; split <;> omega
theorem immA_bd (s f x : Int) (hx : 0 ≤ x ∧ x ≤ 234881024) : -1099511627776 ≤ immA s f x ∧ immA s f x ≤ 1099511627776 := by
  have a := least_bd x 9 (by decide)
  have b := least_bd x 12 (by decide)
  have c := least_bd x 21 (by decide)
  have t := turnN_bd x 2 (by decide)
  have d := least_bd (turnN x 2) 25 (by decide)
  unfold immA
  (repeat' split) <;> omega
theorem read_bd (f w : Int) : ∀ k, k < 10 → -1099511627776 ≤ getV (readV f w) k ∧ getV (readV f w) k ≤ 1099511627776 := by
  intro k hk
  have x := fun n => xV_bd (shapeV f) w n
  match k, hk with
  | 0, _ => have := x 0; exact ⟨by show _ ≤ xV (shapeV f) w 0; omega, by show xV (shapeV f) w 0 ≤ _; omega⟩
  | 1, _ => have := x 1; exact ⟨by show _ ≤ xV (shapeV f) w 1; omega, by show xV (shapeV f) w 1 ≤ _; omega⟩
  | 2, _ =>
    have := x 2
    have b := bitsV_bd w 0 4
    have e : -1099511627776 ≤ rmA (shapeV f) w (xV (shapeV f) w 2) ∧ rmA (shapeV f) w (xV (shapeV f) w 2) ≤ 1099511627776 := by unfold rmA; split <;> omega
    exact e
  | 3, _ => have := x 3; exact ⟨by show _ ≤ xV (shapeV f) w 3; omega, by show xV (shapeV f) w 3 ≤ _; omega⟩
  | 4, _ => exact immA_bd (shapeV f) f (xV (shapeV f) w 4) (x 4)
  | 5, _ => have := x 5; exact ⟨by show _ ≤ xV (shapeV f) w 5; omega, by show xV (shapeV f) w 5 ≤ _; omega⟩
  | 6, _ =>
    have := x 6
    have e : -1099511627776 ≤ byA (shapeV f) (xV (shapeV f) w 5) (xV (shapeV f) w 6) ∧ byA (shapeV f) (xV (shapeV f) w 5) (xV (shapeV f) w 6) ≤ 1099511627776 := by unfold byA; split <;> omega
    exact e
  | 7, _ => have := x 7; exact ⟨by show _ ≤ xV (shapeV f) w 7; omega, by show xV (shapeV f) w 7 ≤ _; omega⟩
  | 8, _ => have := x 8; exact ⟨by show _ ≤ xV (shapeV f) w 8; omega, by show xV (shapeV f) w 8 ≤ _; omega⟩
  | 9, _ => have := x 9; exact ⟨by show _ ≤ xV (shapeV f) w 9; omega, by show xV (shapeV f) w 9 ≤ _; omega⟩
/-! ### right instructions' numbers -/
/-! ### the instruction of bits -/
/-- is a form's reading of a word right, and its bits the word's? -/
def hitV (w f : Int) : Prop := rightV (readV f w) ∧ wordV (readV f w) = w
theorem hit_mask {w f : Int} (h : hitV w f) : bits .and .u32 w (fbV f) = fbV f := by
  have b := fb_bd f
  have e := h.2
  rw [word_or] at e
  have l : (fbV (readV f w).form).toNat = (fbV f).toNat := rfl
  rw [l] at e
  have lt := or4_lt (show (fbV f).toNat < 4294967296 by omega) (orV_lt (readV f w))
  obtain ⟨a, ha⟩ : ∃ a, a = (fbV f).toNat := ⟨_, rfl⟩
  obtain ⟨o, ho⟩ : ∃ o, o = orF (turnI (readV f w)) (fieldsV (shapeV (readV f w).form)) := ⟨_, rfl⟩
  rw [← ha, ← ho] at e lt
  have ea : fbV f = (a : Int) := by omega
  rw [ea, ← e, u32_and _ _ (by omega) (by omega) (by omega) (by omega), Int.toNat_natCast, Int.toNat_natCast]
  congr 1
  apply Nat.eq_of_testBit_eq
  intro p
  rw [Nat.testBit_and, Nat.testBit_or]
  cases a.testBit p <;> simp
/-- the forms that are asked, of a length -/
def formIn (wide : Prop) (f : Int) : Prop := (wide ∧ 48 ≤ f ∧ f ≤ 100) ∨ (¬ wide ∧ 1 ≤ f ∧ f ≤ 47)
/-- the first form that hits -/
def firstF (w : Int) (wide : Prop) (f : Int) : Prop := formIn wide f ∧ hitV w f ∧ ∀ g, formIn wide g → g < f → ¬ hitV w g
theorem first_one {w : Int} {wide : Prop} {f g : Int} (hf : firstF w wide f) (hg : firstF w wide g) : f = g := by
  by_cases h : f < g
  · exact absurd hf.2.1 (hg.2.2 f hf.1 h)
  by_cases h2 : g < f
  · exact absurd hg.2.1 (hf.2.2 g hg.1 h2)
  omega
noncomputable def ofI (w : Int) (wide : Prop) : IN := open Classical in if h : ∃ f, firstF w wide f then readV h.choose w else iZ
noncomputable def ofE (w : Int) (wide : Prop) : Int := open Classical in if ∃ f, firstF w wide f then 0 else 40
theorem ofI_is {w : Int} {wide : Prop} {f : Int} (h : firstF w wide f) : ofI w wide = readV f w := by
  have e : ∃ f, firstF w wide f := ⟨f, h⟩
  unfold ofI
  rw [dif_pos e, first_one e.choose_spec h]
theorem ofE_is {w : Int} {wide : Prop} {f : Int} (h : firstF w wide f) : ofE w wide = 0 := if_pos ⟨f, h⟩
theorem ofI_no {w : Int} {wide : Prop} (h : ∀ f, formIn wide f → ¬ hitV w f) : ofI w wide = iZ := dif_neg fun ⟨f, hf⟩ => h f hf.1 hf.2.1
theorem ofE_no {w : Int} {wide : Prop} (h : ∀ f, formIn wide f → ¬ hitV w f) : ofE w wide = 40 := if_neg fun ⟨f, hf⟩ => h f hf.1 hf.2.1
/-- a right instruction's bits are read as it -/
theorem of_word (i : IN) (h : rightV i) (hg : i.regs ≤ 9223372036854775807) : firstF (wordV i) (48 ≤ i.form) i.form := by
  have hb := back i h hg
  have hit : hitV (wordV i) i.form := by unfold hitV; rw [hb]; exact ⟨h, rfl⟩
  have f1 := h.1
  refine ⟨by unfold formIn; omega, hit, fun g hgf hlt hh => ?_⟩
  have e := once_form (a := readV g (wordV i)) (b := i) hh.1 h (by show 48 ≤ g ↔ 48 ≤ i.form; unfold formIn at hgf; omega) hh.2
  have : g = i.form := e
  omega

end Go.Proofs.YtjcacjeoddnmhaaDoor.Pw

/- Chapter 4 over values: an instruction's bits, and the instruction of bits, as the program and the document say. -/
namespace Go.Proofs.YtjcacjeoddnmhaaDoor.Pw
open Go Go.RowKit

theorem word_yes (i : IN) (h : rightV i) (hI : IOk i) : PureF gT 67 [inP i] (.tup [.int .u32 (wordV i), .int .i64 0]) := by
  refine Spec.enter gTok P67 100 Tryd.func67 rfl (by kernel_rfl) ?_
  refine ⟨[], no_rl, (right_pure i (hI i.imm (by simp [inLs]))).use (by repeat' first | exact trivial | exact rfl | exact Iff.rfl | exact Or.inl rfl | refine And.intro ?_ ?_) rfl rfl ?_⟩
  refine And.intro (fun h' => absurd h h') (fun _ => ?_)
  refine ⟨[], no_rl, (pack_pure i h (hI i.regs (by simp [inLs])).2).use (by repeat' first | exact trivial | exact rfl | exact Iff.rfl | exact Or.inl rfl | refine And.intro ?_ ?_) rfl rfl ?_⟩
  (refine retE ?_; repeat' first | exact trivial | exact rfl | exact Iff.rfl | exact Or.inl rfl | refine And.intro ?_ ?_)
theorem read_ok {f w : Int} (hf : I64 f) : IOk (readV f w) := by
  intro x hx
  have b := read_bd f w
  simp only [inLs, List.mem_cons, List.not_mem_nil, or_false] at hx
  have key : ∀ k, k < 10 → I64 (getV (readV f w) k) := fun k hk => by have := b k hk; unfold I64; omega
  rcases hx with rfl | rfl | rfl | rfl | rfl | rfl | rfl | rfl | rfl | rfl | rfl
  · exact hf
  · exact key 0 (by decide)
  · exact key 1 (by decide)
  · exact key 2 (by decide)
  · exact key 3 (by decide)
  · exact key 4 (by decide)
  · exact key 5 (by decide)
  · exact key 6 (by decide)
  · exact key 7 (by decide)
  · exact key 8 (by decide)
  · exact key 9 (by decide)
set_option maxHeartbeats 8000000 in
set_option maxRecDepth 100000 in
theorem of_pure (w : Int) (wide : Prop) (hw : U32 w) : PureF gT 31 [.int .u32 w, .bool wide] (.tup [inP (ofI w wide), .int .i64 (ofE w wide)]) := by
  refine Spec.enter gTok P31 100 Tryd.func31 rfl (by kernel_rfl) ?_
  refine SW.loopS gTok P31 (by kernel_rfl) (α := {k : Nat // k ≤ 100 ∧ ∀ g : Int, formIn wide g → g < k + 1 → ¬ hitV w g}) (fun k => [(6, .int .i64 (k.1 + 1 : Nat))]) (fun k => 100 - k.1) ⟨0, by omega, fun g hg hlt => by unfold formIn at hg; omega⟩ 100 ?_ ?_
  · repeat' first | exact Iff.rfl | exact trivial | exact rfl | refine And.intro ?_ ?_
  rintro ⟨k, hk, hno⟩
  refine And.intro (fun h => ?_) (fun h => ?_)
  · have hk100 : ((k + 1 : Nat) : Int) ≤ 100 := h
    have hF : 1 ≤ ((k + 1 : Nat) : Int) ∧ ((k + 1 : Nat) : Int) ≤ 100 := ⟨by omega, hk100⟩
    have hf : I64 ((k + 1 : Nat) : Int) := by unfold I64; omega
    have next : ¬ (formIn wide ((k + 1 : Nat) : Int) ∧ hitV w ((k + 1 : Nat) : Int)) → ∀ g : Int, formIn wide g → g < ((k + 1 : Nat) : Int) + 1 → ¬ hitV w g := fun hn g hg hlt hh => by
      by_cases e : g = ((k + 1 : Nat) : Int)
      · subst e; exact hn ⟨hg, hh⟩
      · exact hno g hg (by omega) hh
    refine ⟨[], no_rl, (form_wide ((k + 1 : Nat) : Int)).use (by repeat' first | exact trivial | exact rfl | exact Iff.rfl | exact Or.inl rfl | refine And.intro ?_ ?_) rfl rfl ?_⟩
    refine And.intro (fun hne => ?_) (fun heq => ?_)
    · refine .inl ⟨inR_i64 (show _ ≤ ((k + 1 : Nat) : Int) + 1 ∧ ((k + 1 : Nat) : Int) + 1 ≤ _ by omega), ⟨⟨k + 1, by omega, next fun hh => hne ?_⟩, show 100 - (k + 1) < 100 - k by omega, ?_⟩⟩
      · unfold formIn at hh; exact ⟨fun h2 => hh.1.elim (fun e => e.1) (fun e => absurd h2.1 (by omega)), fun h2 => hh.1.elim (fun e => e.2) (fun e => absurd h2 e.1)⟩
      repeat' first | exact Iff.rfl | exact trivial | exact rfl | refine And.intro ?_ ?_
    have heq := Classical.not_not.1 heq
    refine ⟨[], no_rl, (formBits_pure ((k + 1 : Nat) : Int)).use (by repeat' first | exact trivial | exact rfl | exact Iff.rfl | exact Or.inl rfl | refine And.intro ?_ ?_) rfl rfl ?_⟩
    refine ⟨[], no_rl, (formBits_pure ((k + 1 : Nat) : Int)).use (by repeat' first | exact trivial | exact rfl | exact Iff.rfl | exact Or.inl rfl | refine And.intro ?_ ?_) rfl rfl ?_⟩
    refine And.intro (fun hm => ?_) (fun hm => ?_)
    · refine .inl ⟨inR_i64 (show _ ≤ ((k + 1 : Nat) : Int) + 1 ∧ ((k + 1 : Nat) : Int) + 1 ≤ _ by omega), ⟨⟨k + 1, by omega, next fun hh => hm (hit_mask hh.2)⟩, show 100 - (k + 1) < 100 - k by omega, ?_⟩⟩
      repeat' first | exact Iff.rfl | exact trivial | exact rfl | refine And.intro ?_ ?_
    have hin : formIn wide ((k + 1 : Nat) : Int) := by
      unfold formIn
      by_cases hW : wide
      · exact .inl ⟨hW, heq.2 hW⟩
      · refine .inr ⟨hW, by omega, ?_⟩
        by_cases h48 : 48 ≤ ((k + 1 : Nat) : Int)
        · exact absurd (heq.1 ⟨h48, hk100⟩) hW
        · omega
    have hI := read_ok (w := w) hf
    have hR := right_pure (readV ((k + 1 : Nat) : Int) w) (hI (readV ((k + 1 : Nat) : Int) w).imm (by simp [inLs]))
    by_cases hW : wide
    · have h48 := (heq.2 hW).1
      refine ⟨[], no_rl, (narrowOf_wide ((k + 1 : Nat) : Int) w ((shape_wide hF).2 h48) hw).use (by repeat' first | exact trivial | exact rfl | exact Iff.rfl | exact Or.inl rfl | refine And.intro ?_ ?_) rfl rfl ?_⟩
      refine And.intro (fun _ => ?_) (fun hn => absurd hW hn)
      refine ⟨[], no_rl, (wideOf_all ((k + 1 : Nat) : Int) w hF h48 hw).use (by repeat' first | exact trivial | exact rfl | exact Iff.rfl | exact Or.inl rfl | refine And.intro ?_ ?_) rfl rfl ?_⟩
      refine ⟨[], no_rl, hR.use (by repeat' first | exact trivial | exact rfl | exact Iff.rfl | exact Or.inl rfl | refine And.intro ?_ ?_) rfl rfl ?_⟩
      refine And.intro (fun hr => ?_) (fun hr => ?_)
      · refine ⟨[], no_rl, (pack_pure (readV ((k + 1 : Nat) : Int) w) hr (hI (readV ((k + 1 : Nat) : Int) w).regs (by simp [inLs])).2).use (by repeat' first | exact trivial | exact rfl | exact Iff.rfl | exact Or.inl rfl | refine And.intro ?_ ?_) rfl rfl ?_⟩
        refine And.intro (fun hp => ?_) (fun hp => ?_)
        · have hfst : firstF w wide ((k + 1 : Nat) : Int) := ⟨hin, ⟨hr, hp⟩, fun g hg hlt => hno g hg (by omega)⟩
          rw [ofI_is hfst, ofE_is hfst]
          (refine retE ?_; repeat' first | exact trivial | exact rfl | exact Iff.rfl | exact Or.inl rfl | refine And.intro ?_ ?_)
        · refine .inl ⟨inR_i64 (show _ ≤ ((k + 1 : Nat) : Int) + 1 ∧ ((k + 1 : Nat) : Int) + 1 ≤ _ by omega), ⟨⟨k + 1, by omega, next fun hh => hp hh.2.2⟩, show 100 - (k + 1) < 100 - k by omega, ?_⟩⟩
          repeat' first | exact Iff.rfl | exact trivial | exact rfl | refine And.intro ?_ ?_
      · refine .inl ⟨inR_i64 (show _ ≤ ((k + 1 : Nat) : Int) + 1 ∧ ((k + 1 : Nat) : Int) + 1 ≤ _ by omega), ⟨⟨k + 1, by omega, next fun hh => hr hh.2.1⟩, show 100 - (k + 1) < 100 - k by omega, ?_⟩⟩
        repeat' first | exact Iff.rfl | exact trivial | exact rfl | refine And.intro ?_ ?_
    · have h48 : ¬ 48 ≤ ((k + 1 : Nat) : Int) := fun e => hW (heq.1 ⟨e, hk100⟩)
      refine ⟨[], no_rl, (narrowOf_all ((k + 1 : Nat) : Int) w hF h48 hw).use (by repeat' first | exact trivial | exact rfl | exact Iff.rfl | exact Or.inl rfl | refine And.intro ?_ ?_) rfl rfl ?_⟩
      refine And.intro (fun h => absurd h hW) (fun _ => ?_)
      refine ⟨[], no_rl, hR.use (by repeat' first | exact trivial | exact rfl | exact Iff.rfl | exact Or.inl rfl | refine And.intro ?_ ?_) rfl rfl ?_⟩
      refine And.intro (fun hr => ?_) (fun hr => ?_)
      · refine ⟨[], no_rl, (pack_pure (readV ((k + 1 : Nat) : Int) w) hr (hI (readV ((k + 1 : Nat) : Int) w).regs (by simp [inLs])).2).use (by repeat' first | exact trivial | exact rfl | exact Iff.rfl | exact Or.inl rfl | refine And.intro ?_ ?_) rfl rfl ?_⟩
        refine And.intro (fun hp => ?_) (fun hp => ?_)
        · have hfst : firstF w wide ((k + 1 : Nat) : Int) := ⟨hin, ⟨hr, hp⟩, fun g hg hlt => hno g hg (by omega)⟩
          rw [ofI_is hfst, ofE_is hfst]
          (refine retE ?_; repeat' first | exact trivial | exact rfl | exact Iff.rfl | exact Or.inl rfl | refine And.intro ?_ ?_)
        · refine .inl ⟨inR_i64 (show _ ≤ ((k + 1 : Nat) : Int) + 1 ∧ ((k + 1 : Nat) : Int) + 1 ≤ _ by omega), ⟨⟨k + 1, by omega, next fun hh => hp hh.2.2⟩, show 100 - (k + 1) < 100 - k by omega, ?_⟩⟩
          repeat' first | exact Iff.rfl | exact trivial | exact rfl | refine And.intro ?_ ?_
      · refine .inl ⟨inR_i64 (show _ ≤ ((k + 1 : Nat) : Int) + 1 ∧ ((k + 1 : Nat) : Int) + 1 ≤ _ by omega), ⟨⟨k + 1, by omega, next fun hh => hr hh.2.1⟩, show 100 - (k + 1) < 100 - k by omega, ?_⟩⟩
        repeat' first | exact Iff.rfl | exact trivial | exact rfl | refine And.intro ?_ ?_
  · have hk100 : ¬ ((k + 1 : Nat) : Int) ≤ 100 := h
    have hall : ∀ f, formIn wide f → ¬ hitV w f := fun f hf => hno f hf (by unfold formIn at hf; omega)
    rw [ofI_no hall, ofE_no hall]
    (refine retE ?_; repeat' first | exact trivial | exact rfl | exact Iff.rfl | exact Or.inl rfl | refine And.intro ?_ ?_)

end Go.Proofs.YtjcacjeoddnmhaaDoor.Pw

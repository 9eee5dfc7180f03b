/- The forms of instructions as numbers: their shapes, their bits. No program in sight. -/
import Derived.Test.YthpkejlmelednaaDoorKiNums
namespace Go.Proofs.YthpkejlmelednaaDoor.Rm

/-- the forms' shapes; place 0 is none -/
def shapesL : List Int := [0, 1, 1, 1, 2, 2, 3, 3, 4, 4, 4, 4, 5, 5, 5, 5, 5, 5, 5, 5, 5, 5, 5, 5, 5, 5, 5, 5, 6, 6, 6, 7, 8, 2, 2, 9, 9, 8, 8, 8, 10, 10, 11, 12, 13, 14, 15, 16, 17, 17, 18, 18, 18, 18, 18, 18, 18, 18, 18, 18, 19, 19, 20, 20, 20, 20, 21, 21, 21, 21, 21, 21, 21, 21, 21, 21, 22, 22, 23, 23, 23, 23, 24, 24, 25, 25, 26, 26, 27, 27, 27, 27, 28, 29, 30, 31, 31, 28, 32, 33, 34]
/-- the forms' bits; place 0 is none -/
def bitsL : List Int := [0, 0, 2048, 4096, 6144, 6656, 7168, 7680, 8192, 10240, 12288, 14336, 16384, 16448, 16512, 16576, 16640, 16704, 16768, 16832, 16896, 16960, 17024, 17088, 17152, 17216, 17280, 17344, 17408, 17664, 17920, 18176, 18432, 20480, 22528, 24576, 26624, 36864, 38912, 43008, 45056, 45184, 46080, 48128, 48896, 48640, 53248, 57344, 4064280576, 4072669184, 4026531840, 4028628992, 4030726144, 4032823296, 4034920448, 4043309056, 4047503360, 4049600512, 4053794816, 4055891968, 4031709184, 4033806336, 4027584256, 4035972864, 4044361472, 4054847232, 3925868544, 3927965696, 3930062848, 3932160000, 3934257152, 3942645760, 3946840064, 3948937216, 3953131520, 3955228672, 3931045888, 3933143040, 3926920960, 3935309568, 3943698176, 3954183936, 4060086272, 4070572032, 4173332480, 4174381056, 4164943872, 4165992448, 4194365440, 4196462592, 4198559744, 4200656896, 4211142656, 4211081216, 4211081232, 4221566976, 4225761280, 4222677232, 4205899904, 4026564608, 4026568704]
def isForm (f : Int) : Bool := decide (1 ≤ f) && decide (f ≤ 100)
def shapeN (f : Int) : Int := if isForm f then shapesL.getD f.toNat 0 else 0
def bitsN (f : Int) : Int := if isForm f then bitsL.getD f.toNat 0 else 0
def sizeN (f : Int) : Int := if isForm f then (if 48 ≤ f then 4 else 2) else 0
theorem isForm_yes {f : Int} (h0 : 1 ≤ f) (h1 : f ≤ 100) : isForm f = true := by simp [isForm, h0, h1]
theorem isForm_no {f : Int} (h : f < 1 ∨ 100 < f) : isForm f = false := by
  unfold isForm
  rcases h with h | h
  · rw [decide_eq_false (by omega)]; rfl
  · rw [decide_eq_false (p := f ≤ 100) (by omega), Bool.and_false]
theorem shapesL_len : shapesL.length = 101 := rfl
theorem bitsL_len : bitsL.length = 101 := rfl
/-- the document's tables: without place 0 -/
def shapesT : List Int := shapesL.drop 1
def bitsT : List Int := bitsL.drop 1
theorem shapesT_len : shapesT.length = 100 := rfl
theorem bitsT_len : bitsT.length = 100 := rfl
theorem shapes_all : shapesL.all (fun s => decide (0 ≤ s) && decide (s ≤ 34)) = true := by decide
theorem shapes_pos : (shapesL.drop 1).all (fun s => decide (1 ≤ s)) = true := by decide
theorem bits_all : bitsL.all (fun s => decide (0 ≤ s) && decide (s ≤ 4294967295)) = true := by decide
theorem getD_mem (l : List Int) (i : Nat) (h : i < l.length) : l.getD i 0 ∈ l := by
  rw [List.getD_eq_getElem?_getD, List.getElem?_eq_getElem h]; exact List.getElem_mem h
theorem shapeN_bd (f : Int) : 0 ≤ shapeN f ∧ shapeN f ≤ 34 := by
  unfold shapeN
  split
  · rename_i h
    simp only [isForm, Bool.and_eq_true, decide_eq_true_eq] at h
    have h1 := List.all_eq_true.1 shapes_all _ (getD_mem shapesL f.toNat (by rw [shapesL_len]; omega))
    simp only [Bool.and_eq_true, decide_eq_true_eq] at h1
    exact h1
  · omega
theorem bitsN_bd (f : Int) : 0 ≤ bitsN f ∧ bitsN f ≤ 4294967295 := by
  unfold bitsN
  split
  · rename_i h
    simp only [isForm, Bool.and_eq_true, decide_eq_true_eq] at h
    have h1 := List.all_eq_true.1 bits_all _ (getD_mem bitsL f.toNat (by rw [bitsL_len]; omega))
    simp only [Bool.and_eq_true, decide_eq_true_eq] at h1
    exact h1
  · omega

end Go.Proofs.YthpkejlmelednaaDoor.Rm

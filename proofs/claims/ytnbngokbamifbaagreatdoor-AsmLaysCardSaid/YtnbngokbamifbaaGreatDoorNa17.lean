/- What a law is proved with. -/
import Derived.Test.YtnbngokbamifbaaGreatDoorNa16
import Derived.Laws.BitsLemmas
set_option linter.unusedVariables false
set_option linter.unusedSimpArgs false
namespace Go.Proofs.YtnbngokbamifbaaGreatDoor.Pw
open Go Go.RowKit
theorem has_bd {c r : Int} (h : hasV c r) : 0 <= r /\ r < 15:=by unfold hasV at h; omega
theorem right_regs {i : IN} (h : rightV i) : (0 <= i.rd /\ i.rd < 15) /\ (0 <= i.rn /\ i.rn < 15) /\ (0 <= i.rm /\ i.rm < 15) /\ (0 <= i.ra /\ i.ra < 15):=by
 obtain ⟨_,h1,h2,h3,h4,_⟩:=h
 exact ⟨has_bd h1,has_bd h2,has_bd h3,has_bd h4⟩
theorem turnI_form (i : IN) : (turnI i).form = i.form:=by unfold turnI; split <;> rfl
theorem turnI_reg (i : IN) (f : Nat) (hf : f < 4) : getV (turnI i) f = getV i f:=by
 unfold turnI
 split
 ·match f,hf with
  | 0,_ | 1,_ | 2,_ | 3,_=>rfl
 ·rfl
theorem word_fixed (i : IN) {p : Nat} (h : fxd (fieldsV (shapeV i.form)) p = true) : (wordV i).toNat.testBit p = (fbV i.form).toNat.testBit p:=by
 unfold wordV wordF
 rw [Int.toNat_natCast,fold_fixed _ h,turnI_form]
theorem word_field (i : IN) {x : Nat × Nat × Nat × Nat} (hx : x ∈ fieldsV (shapeV i.form)) : (wordV i).toNat / 2 ^ x.2.2.1 % 2 ^ x.2.2.2 = vF (turnI i) x:=by
 unfold wordV wordF
 rw [Int.toNat_natCast]
 have h:=fields_free i.form
 rw [← turnI_form i] at h
 refine fold_field (turnI i) (fields_apart _) ?_ hx
 rw [turnI_form] at h ⊢
 exact h
theorem ones4 : ∀ v : Fin 16,(v.1.testBit 0 = true /\ v.1.testBit 1 = true /\ v.1.testBit 2 = true /\ v.1.testBit 3 = true) -> v.1 = 15:=by decide
theorem side_no {a b : IN} (ha : rightV a) (fa : a.form = ((a.form.toNat : Nat) : Int)) (fb : b.form = ((b.form.toNat : Nat) : Int)) (h : sideB a.form.toNat b.form.toNat = true) : wordV a ≠ wordV b:=fun e=>by
 obtain ⟨x,hx,h⟩:=List.any_eq_true.1 h
 simp only [Bool.and_eq_true,decide_eq_true_eq] at h
 obtain ⟨⟨⟨h1,h2⟩,h3⟩,h4⟩:=h
 have hx' : x ∈ fieldsV (shapeV a.form):=by rw [fa]; exact hx
 have hf:=word_field a hx'
 have hr : vF (turnI a) x < 15:=by
  unfold vF
  rw [turnI_reg a x.1 h1,h2,h3]
  obtain ⟨r0,r1,r2,r3⟩:=right_regs ha
  have key : ∀ r : Int,0 <= r /\ r < 15 -> (bitsV r 0 4).toNat < 15:=fun r hr=>by
   unfold bitsV; rw [if_neg (by omega)]
   have e0 : (2 : Int) ^ 0 = 1:=rfl
   have e4 : (2 : Int) ^ 4 = 16:=rfl
   rw [e0,e4]; omega
  match x.1,h1 with
  | 0,_=>exact key _ r0
  | 1,_=>exact key _ r1
  | 2,_=>exact key _ r2
  | 3,_=>exact key _ r3
 have hv : ∀ k,k ∈ [0,1,2,3] -> (vF (turnI a) x).testBit k = true:=fun k hk=>by
  have h5:=List.all_eq_true.1 h4 k hk
  simp only [Bool.and_eq_true] at h5
  have hk4 : k < 4:=by simp at hk; omega
  rw [← hf,h3,Nat.testBit_mod_two_pow,Nat.testBit_div_two_pow,decide_eq_true hk4,Bool.true_and,e]
  have h6 : fxd (fieldsV (shapeV b.form)) (x.2.2.1 + k) = true:=by rw [fb]; exact h5.1
  rw [Nat.add_comm,word_fixed b h6]
  have h7:=h5.2
  unfold fbN at h7
  rw [← fb] at h7
  exact h7
 have:=ones4 ⟨vF (turnI a) x,by omega⟩ ⟨hv 0 (by simp),hv 1 (by simp),hv 2 (by simp),hv 3 (by simp)⟩
 simp only [] at this
 omega
theorem pair_no {a b : IN} (ha : rightV a) (hb : rightV b) (h : pairB a.form.toNat b.form.toNat = true) (e : wordV a = wordV b) : a.form = b.form:=by
 have f1:=ha.1
 have f2:=hb.1
 have fa : a.form = ((a.form.toNat : Nat) : Int):=by omega
 have fb : b.form = ((b.form.toNat : Nat) : Int):=by omega
 unfold pairB at h
 simp only [Bool.or_eq_true,decide_eq_true_eq] at h
 rcases h with ((h | h) | h) | h
 ·omega
 ·obtain ⟨p,_,h⟩:=List.any_eq_true.1 h
  simp only [Bool.and_eq_true] at h
  obtain ⟨⟨h1,h2⟩,h3⟩:=h
  have k1:=word_fixed a (p:=p) (by rw [fa]; exact h1)
  have k2:=word_fixed b (p:=p) (by rw [fb]; exact h2)
  unfold fbN at h3
  rw [← fa,← fb,← k1,← k2,e] at h3
  simp at h3
 ·exact absurd e (side_no ha fa fb h)
 ·exact absurd e.symm (side_no hb fb fa h)
theorem once_form {a b : IN} (ha : rightV a) (hb : rightV b) (hw : 48 <= a.form ↔ 48 <= b.form) (e : wordV a = wordV b) : a.form = b.form:=by
 have f1:=ha.1
 have f2:=hb.1
 by_cases h : 48 <= a.form
 ·have h1:=List.all_eq_true.1 (List.all_eq_true.1 pairs_wide (a.form.toNat - 48) (List.mem_range.2 (by omega))) (b.form.toNat - 48) (List.mem_range.2 (by have:=hw.1 h; omega))
  rw [show a.form.toNat - 48 + 48 = a.form.toNat by omega,show b.form.toNat - 48 + 48 = b.form.toNat by have:=hw.1 h; omega] at h1
  exact pair_no ha hb h1 e
 ·have h1:=List.all_eq_true.1 (List.all_eq_true.1 pairs_narrow (a.form.toNat - 1) (List.mem_range.2 (by omega))) (b.form.toNat - 1) (List.mem_range.2 (by omega))
  rw [show a.form.toNat - 1 + 1 = a.form.toNat by omega,show b.form.toNat - 1 + 1 = b.form.toNat by omega] at h1
  exact pair_no ha hb h1 e
end Go.Proofs.YtnbngokbamifbaaGreatDoor.Pw
namespace Go.Proofs.YtnbngokbamifbaaGreatDoor.Pw
open Go Go.RowKit
def xV (s w : Int) (f : Nat) : Int:=((fieldsV s).filter fun x=>decide (x.1 = f)).foldl (fun a x=>a + bitsV w x.2.2.1 x.2.2.2 * 2 ^ x.2.1) 0
def immA (s f x : Int) : Int:=if s = 15 then leastV x 9 else if s = 16 then leastV x 12 else if s = 33 then leastV x 21 else if s = 34 then leastV (turnN x 2) 25 else if s = 1 /\ 1 < f /\ x = 0 then 32 else x
def byA (s k x : Int) : Int:=if 21 <= s /\ s <= 23 /\ x = 0 /\ (k = 1 \/ k = 2) then 32 else x
def rmA (s w x : Int) : Int:=if s = 32 then bitsV w 0 4 else x
def readV (f w : Int) : IN:=⟨f,xV (shapeV f) w 0,xV (shapeV f) w 1,rmA (shapeV f) w (xV (shapeV f) w 2),xV (shapeV f) w 3,immA (shapeV f) f (xV (shapeV f) w 4),xV (shapeV f) w 5,byA (shapeV f) (xV (shapeV f) w 5) (xV (shapeV f) w 6),xV (shapeV f) w 7,xV (shapeV f) w 8,xV (shapeV f) w 9⟩
def xR (s : Int) (i : IN) (f : Nat) : Int:=((fieldsV s).filter fun x=>decide (x.1 = f)).foldl (fun a x=>a + bitsV (getV i x.1) x.2.1 x.2.2.2 * 2 ^ x.2.1) 0
theorem foldl_cong {α β : Type} {f g : β -> α -> β} : ∀ {l : List α} {b : β},(∀ b x,x ∈ l -> f b x = g b x) -> l.foldl f b = l.foldl g b
 | [],_,_=>rfl
 | x :: l,b,h=>by rw [List.foldl_cons,List.foldl_cons,h b x (List.mem_cons_self ..)]; exact foldl_cong fun b y hy=>h b y (List.mem_cons_of_mem _ hy)
theorem vF_int (i : IN) (x : Nat × Nat × Nat × Nat) : ((vF i x : Nat) : Int) = bitsV (getV i x.1) x.2.1 x.2.2.2:=Int.toNat_of_nonneg (bitsV_bd ..).1
theorem word_bits (i : IN) {x : Nat × Nat × Nat × Nat} (hx : x ∈ fieldsV (shapeV i.form)) : bitsV (wordV i) x.2.2.1 x.2.2.2 = bitsV (getV (turnI i) x.1) x.2.1 x.2.2.2:=by
 have h:=word_field i hx
 have e : wordV i = (((wordV i).toNat : Nat) : Int):=by unfold wordV; rw [Int.toNat_natCast]
 rw [e,bitsV_nat,h,vF_int]
theorem xV_word (i : IN) (f : Nat) : xV (shapeV i.form) (wordV i) f = xR (shapeV i.form) (turnI i) f:=by
 unfold xV xR
 refine foldl_cong fun b x hx=>?_
 rw [word_bits i (List.mem_filter.1 hx).1]
theorem shape_bd {f : Int} (h : 1 <= f /\ f <= 100) : 1 <= shapeV f /\ shapeV f <= 34:=by
 have h1 : ((List.range 100).all fun k=>decide (1 <= shapeV ((k + 1 : Nat) : Int) /\ shapeV ((k + 1 : Nat) : Int) <= 34)) = true:=by decide +kernel
 have h2:=of_decide_eq_true (List.all_eq_true.1 h1 (f.toNat - 1) (List.mem_range.2 (by omega)))
 rwa [show (((f.toNat - 1 + 1 : Nat)) : Int) = f by omega] at h2
theorem shape_one {f : Int} (h : 1 <= f /\ f <= 100) : shapeV f = 1 -> f = 1 \/ f = 2 \/ f = 3:=by
 have h1 : ((List.range 100).all fun k=>decide (shapeV ((k + 1 : Nat) : Int) = 1 -> k < 3)) = true:=by decide +kernel
 have h2:=of_decide_eq_true (List.all_eq_true.1 h1 (f.toNat - 1) (List.mem_range.2 (by omega)))
 rw [show (((f.toNat - 1 + 1 : Nat)) : Int) = f by omega] at h2
 intro h3; have:=h2 h3; omega
theorem tm0 {n s : Int} (h : n.tmod s = 0) : n % s = 0:=Int.emod_eq_zero_of_dvd (Int.dvd_of_tmod_eq_zero h)
theorem span_lit {f t s n : Int} (h : spanV f t s n) : (s = 0 /\ n = 0) \/ (s ≠ 0 /\ f <= n /\ n <= t /\ n % s = 0):=h.imp id fun ⟨a,b,c,d⟩=>⟨a,b,c,tm0 d⟩
theorem and_pow' (x k : Nat) : x &&& 2 ^ k = (x / 2 ^ k % 2) * 2 ^ k:=by
 apply Nat.eq_of_testBit_eq
 intro i
 rw [Nat.testBit_and,Nat.testBit_two_pow]
 rcases Nat.mod_two_eq_zero_or_one (x / 2 ^ k) with h | h
 ·rw [h,Nat.zero_mul,Nat.zero_testBit]
  by_cases hi : k = i
  ·subst hi; rw [Nat.testBit_eq_decide_div_mod_eq]; simp [h]
  ·simp [hi]
 ·rw [h,Nat.one_mul,Nat.testBit_two_pow]
  by_cases hi : k = i
  ·subst hi; rw [Nat.testBit_eq_decide_div_mod_eq]; simp [h]
  ·simp [hi]
theorem mask_nat' (k x : Nat) (hk : 8 <= k) : x &&& (2 ^ k ||| (2 ^ 8 - 1)) = (x / 2 ^ k % 2) * 2 ^ k + x % 256:=by
 rw [Nat.and_or_distrib_left,Nat.and_two_pow_sub_one_eq_mod,and_pow']
 have hlt : x % 2 ^ 8 < 2 ^ k:=Nat.lt_of_lt_of_le (Nat.mod_lt _ (by decide)) (Nat.pow_le_pow_right (by decide) hk)
 have:=Nat.two_pow_add_eq_or_of_lt hlt (x / 2 ^ k % 2)
 rw [Nat.mul_comm,← this]
theorem andNot_zero (a m : Nat) (ha : a < 9223372036854775808) (hm : m < 9223372036854775808) (h : bits .andNot .i64 (a : Int) (m : Int) = 0) : a &&& m = a:=by
 have e : ∀ c : Nat,c < 9223372036854775808 -> (BitVec.ofInt 64 (c : Int)).toNat = c:=fun c hc=>by
  rw [BitVec.ofInt_natCast,BitVec.toNat_ofNat]; exact Nat.mod_eq_of_lt (by omega)
 have h1 : IntKind.i64.wrap ((BitVec.ofInt 64 (a : Int) &&& ~~~ BitVec.ofInt 64 (m : Int)).toNat : Int) = 0:=h
 have hlt : (BitVec.ofInt 64 (a : Int) &&& ~~~ BitVec.ofInt 64 (m : Int)).toNat < 9223372036854775808:=by
  rw [BitVec.toNat_and,e a ha]
  exact Nat.lt_of_le_of_lt Nat.and_le_left ha
 rw [IntKind.wrap_i64] at h1
 have h2 : (BitVec.ofInt 64 (a : Int) &&& ~~~ BitVec.ofInt 64 (m : Int)) = 0#64:=BitVec.eq_of_toNat_eq (by rw [BitVec.toNat_ofNat]; omega)
 have h3 : BitVec.ofInt 64 (a : Int) &&& BitVec.ofInt 64 (m : Int) = BitVec.ofInt 64 (a : Int):=by
  apply BitVec.eq_of_getLsbD_eq
  intro i hi
  have h4:=congrArg (fun v=>v.getLsbD i) h2
  simp only [BitVec.getLsbD_and,BitVec.getLsbD_not,BitVec.getLsbD_zero,hi,decide_true,Bool.true_and] at h4
  rw [BitVec.getLsbD_and]
  cases ha : (BitVec.ofInt 64 (a : Int)).getLsbD i <;> cases hb : (BitVec.ofInt 64 (m : Int)).getLsbD i <;> simp_all
 have h5:=congrArg BitVec.toNat h3
 rwa [BitVec.toNat_and,e a ha,e m hm] at h5
set_option maxRecDepth 100000 in
theorem regs_of (k : Nat) (hk : 8 <= k) (hk2 : k <= 15) (r m : Int) (hm : m = 2 ^ k + 255) (h0 : 0 < r) (h1 : r <= 9223372036854775807) (h : bits .andNot .i64 r m = 0) : r / 2 ^ k % 2 * 2 ^ k + r % 256 = r:=by
 have e:=andNot_zero r.toNat (2 ^ k + 255) (by omega) (by have:=Nat.pow_le_pow_right (n:=2) (by omega) hk2; omega) (by
  rw [show ((r.toNat : Nat) : Int) = r by omega,show (((2 ^ k + 255 : Nat)) : Int) = m by rw [hm]; push_cast; rfl]; exact h)
 have e2 : 2 ^ k + 255 = 2 ^ k ||| (2 ^ 8 - 1):=by
  have hlt : 255 < 2 ^ k:=Nat.lt_of_lt_of_le (show 255 < 2 ^ 8 by decide) (Nat.pow_le_pow_right (by decide) hk)
  have:=Nat.two_pow_add_eq_or_of_lt hlt 1
  rwa [Nat.mul_one] at this
 rw [e2,mask_nat' k _ hk] at e
 have e3 : ((r.toNat / 2 ^ k % 2 * 2 ^ k + r.toNat % 256 : Nat) : Int) = ((r.toNat : Nat) : Int):=congrArg _ e
 push_cast at e3
 rw [show ((r.toNat : Nat) : Int) = r by omega] at e3
 exact e3
theorem eights {n : Int} (h : 0 <= n /\ n < 33554432) : ∃ a,0 <= a /\ a < 4194304 /\ (n = a \/ n = 4194304 + a \/ n = 8388608 + a \/ n = 12582912 + a \/ n = 16777216 + a \/ n = 20971520 + a \/ n = 25165824 + a \/ n = 29360128 + a):=⟨n % 4194304,by omega⟩
theorem turn_all (n : Int) (h : 0 <= n /\ n < 33554432) : turnN n 2 = n + ((if n / 4194304 % 2 = n / 16777216 % 2 then 1 else 0) - n / 4194304 % 2) * 4194304 + ((if n / 8388608 % 2 = n / 16777216 % 2 then 1 else 0) - n / 8388608 % 2) * 8388608:=by
 have p22 : (2 : Int) ^ 22 = 4194304:=by decide
 have p23 : (2 : Int) ^ 23 = 8388608:=by decide
 have p24 : (2 : Int) ^ 24 = 16777216:=by decide
 have p1 : (2 : Int) ^ 1 = 2:=by decide
 have b : ∀ m : Int,0 <= m -> ∀ k,bitsV m k 1 = m / 2 ^ k % 2:=fun m hm k=>by unfold bitsV; rw [if_neg (by omega),p1]
 obtain ⟨t,ht⟩ : ∃ t,t = turn1 (bitsV n 24 1) n 22:=⟨_,rfl⟩
 have e : turnN n 2 = turn1 (bitsV n 24 1) t 23:=by rw [ht]; rfl
 unfold turn1 at ht
 rw [b n h.1,b n h.1,p24,p22] at ht
 have ht0 : 0 <= t /\ t < 33554432 /\ t / 8388608 % 2 = n / 8388608 % 2:=by
  obtain ⟨a,a0,a1,h8⟩:=eights h
  rcases h8 with h8 | h8 | h8 | h8 | h8 | h8 | h8 | h8 <;> split at ht <;> omega
 rw [e]
 unfold turn1
 rw [b n h.1,b t ht0.1,p24,p23,ht0.2.2,ht]
theorem turn_bd {n : Int} (h : 0 <= n /\ n < 33554432) : 0 <= turnN n 2 /\ turnN n 2 < 33554432:=by
 rw [turn_all n h]
 obtain ⟨a,a0,a1,h8⟩:=eights h
 rcases h8 with h8 | h8 | h8 | h8 | h8 | h8 | h8 | h8 <;> split <;> split <;> omega
theorem turn_bits {n : Int} (h : 0 <= n /\ n < 33554432) : turnN n 2 / 16777216 = n / 16777216 /\ turnN n 2 % 4194304 = n % 4194304 /\ turnN n 2 / 4194304 % 2 = (if n / 4194304 % 2 = n / 16777216 % 2 then 1 else 0) /\ turnN n 2 / 8388608 % 2 = (if n / 8388608 % 2 = n / 16777216 % 2 then 1 else 0):=by
 rw [turn_all n h]
 obtain ⟨a,a0,a1,h8⟩:=eights h
 rcases h8 with h8 | h8 | h8 | h8 | h8 | h8 | h8 | h8 <;> split <;> split <;> omega
theorem turn_turn {n : Int} (h : 0 <= n /\ n < 33554432) : turnN (turnN n 2) 2 = n:=by
 have c:=turn_bits h
 rw [turn_all _ (turn_bd h),c.1,c.2.2.1,c.2.2.2,turn_all n h]
 clear c
 obtain ⟨a,a0,a1,h8⟩:=eights h
 have e24 : n / 16777216 % 2 = n / 16777216:=by omega
 rw [e24]
 rcases h8 with h8 | h8 | h8 | h8 | h8 | h8 | h8 | h8
 ·have x : n / 4194304 % 2 = 0:=by omega
  have y : n / 8388608 % 2 = 0:=by omega
  have z : n / 16777216 = 0:=by omega
  rw [x,y,z]; simp <;> omega
 ·have x : n / 4194304 % 2 = 1:=by omega
  have y : n / 8388608 % 2 = 0:=by omega
  have z : n / 16777216 = 0:=by omega
  rw [x,y,z]; simp <;> omega
 ·have x : n / 4194304 % 2 = 0:=by omega
  have y : n / 8388608 % 2 = 1:=by omega
  have z : n / 16777216 = 0:=by omega
  rw [x,y,z]; simp <;> omega
 ·have x : n / 4194304 % 2 = 1:=by omega
  have y : n / 8388608 % 2 = 1:=by omega
  have z : n / 16777216 = 0:=by omega
  rw [x,y,z]; simp <;> omega
 ·have x : n / 4194304 % 2 = 0:=by omega
  have y : n / 8388608 % 2 = 0:=by omega
  have z : n / 16777216 = 1:=by omega
  rw [x,y,z]; simp <;> omega
 ·have x : n / 4194304 % 2 = 1:=by omega
  have y : n / 8388608 % 2 = 0:=by omega
  have z : n / 16777216 = 1:=by omega
  rw [x,y,z]; simp <;> omega
 ·have x : n / 4194304 % 2 = 0:=by omega
  have y : n / 8388608 % 2 = 1:=by omega
  have z : n / 16777216 = 1:=by omega
  rw [x,y,z]; simp <;> omega
 ·have x : n / 4194304 % 2 = 1:=by omega
  have y : n / 8388608 % 2 = 1:=by omega
  have z : n / 16777216 = 1:=by omega
  rw [x,y,z]; simp <;> omega
end Go.Proofs.YtnbngokbamifbaaGreatDoor.Pw
namespace Go.Proofs.YtnbngokbamifbaaGreatDoor.Pw
open Go Go.RowKit
theorem turnI_not {i : IN} (h : shapeV i.form ≠ 34) : turnI i = i:=if_neg h
theorem sh34 {i : IN} (h : shapeV i.form = 34) : turnI i = {i with imm:=turnN (bitsV i.imm 0 25) 2}:=if_pos h
theorem in_ext {a b : IN} (h0 : a.form = b.form) (h1 : a.rd = b.rd) (h2 : a.rn = b.rn) (h3 : a.rm = b.rm) (h4 : a.ra = b.ra) (h5 : a.imm = b.imm) (h6 : a.kind = b.kind) (h7 : a.by_ = b.by_) (h8 : a.set = b.set) (h9 : a.cond = b.cond) (h10 : a.regs = b.regs) : a = b:=by
 cases a; cases b; simp_all
def readX (s : Int) (i : IN) : IN:=⟨i.form,xR s i 0,xR s i 1,if s = 32 then bitsV i.rm 0 4 else xR s i 2,xR s i 3,immA s i.form (xR s i 4),xR s i 5,byA s (xR s i 5) (xR s i 6),xR s i 7,xR s i 8,xR s i 9⟩
theorem read_word (i : IN) (h32 : shapeV i.form = 32 -> bitsV (wordV i) 0 4 = bitsV (turnI i).rm 0 4) : readV i.form (wordV i) = {readX (shapeV i.form) (turnI i) with form:=i.form}:=by
 unfold readV readX
 rw [xV_word,xV_word,xV_word,xV_word,xV_word,xV_word,xV_word,xV_word,xV_word,xV_word,turnI_form]
 unfold rmA
 by_cases h : shapeV i.form = 32
 ·rw [if_pos h,if_pos h,h32 h]
 ·rw [if_neg h,if_neg h]
end Go.Proofs.YtnbngokbamifbaaGreatDoor.Pw
namespace Go.Proofs.YtnbngokbamifbaaGreatDoor.Pw
open Go Go.RowKit
theorem s_by (k v : Int) (h : barrelV k v) : (if 0 + bitsV v 2 3 * 2 ^ 2 + bitsV v 0 2 * 2 ^ 0 = 0 /\ (k = 1 \/ k = 2) then 32 else 0 + bitsV v 2 3 * 2 ^ 2 + bitsV v 0 2 * 2 ^ 0) = v:=by
 unfold barrelV at h; unfold bitsV; (repeat' split) <;> omega
theorem kind_bd {k v : Int} (h : barrelV k v) : 0 <= k /\ k < 4:=by unfold barrelV at h; omega
theorem s_1_0 (v : Int) (h : 0 <= v /\ v < 8) : 0 + bitsV v 0 3 * 2 ^ 0 = v:=by
 unfold bitsV; (repeat' split) <;> omega
theorem s_1_1 (v : Int) (h : v = 0) : 0 = v:=by
 omega
theorem s_1_2 (v : Int) (h : 0 <= v /\ v < 8) : 0 + bitsV v 0 3 * 2 ^ 0 = v:=by
 unfold bitsV; (repeat' split) <;> omega
theorem s_1_3 (v : Int) (h : v = 0) : 0 = v:=by
 omega
theorem s_1_5 (v : Int) (h : v = 0) : 0 = v:=by
 omega
theorem s_1_6 (v : Int) (h : v = 0) : 0 = v:=by
 omega
theorem s_1_7 (v : Int) (h : v = 0) : 0 = v:=by
 omega
theorem s_1_8 (v : Int) (h : v = 0) : 0 = v:=by
 omega
theorem s_1_9 (v : Int) (h : v = 0) : 0 = v:=by
 omega
theorem s_1_4 (f v : Int) (h : 0 <= v /\ v <= 32) (h1 : f = 1 -> v < 32) (h2 : f = 2 \/ f = 3 -> 0 < v) (h3 : f = 1 \/ f = 2 \/ f = 3) : (if 1 < f /\ 0 + bitsV v 0 5 * 2 ^ 0 = 0 then 32 else 0 + bitsV v 0 5 * 2 ^ 0) = v:=by
 unfold bitsV; (repeat' split) <;> omega
theorem s_2_0 (v : Int) (h : 0 <= v /\ v < 8) : 0 + bitsV v 0 3 * 2 ^ 0 = v:=by
 unfold bitsV; (repeat' split) <;> omega
theorem s_2_1 (v : Int) (h : 0 <= v /\ v < 8) : 0 + bitsV v 0 3 * 2 ^ 0 = v:=by
 unfold bitsV; (repeat' split) <;> omega
theorem s_2_2 (v : Int) (h : 0 <= v /\ v < 8) : 0 + bitsV v 0 3 * 2 ^ 0 = v:=by
 unfold bitsV; (repeat' split) <;> omega
theorem s_2_3 (v : Int) (h : v = 0) : 0 = v:=by
 omega
theorem s_2_4 (v : Int) (h : v = 0) : 0 = v:=by
 omega
theorem s_2_5 (v : Int) (h : v = 0) : 0 = v:=by
 omega
theorem s_2_6 (v : Int) (h : v = 0) : 0 = v:=by
 omega
theorem s_2_7 (v : Int) (h : v = 0) : 0 = v:=by
 omega
theorem s_2_8 (v : Int) (h : v = 0) : 0 = v:=by
 omega
theorem s_2_9 (v : Int) (h : v = 0) : 0 = v:=by
 omega
theorem s_3_0 (v : Int) (h : 0 <= v /\ v < 8) : 0 + bitsV v 0 3 * 2 ^ 0 = v:=by
 unfold bitsV; (repeat' split) <;> omega
theorem s_3_1 (v : Int) (h : 0 <= v /\ v < 8) : 0 + bitsV v 0 3 * 2 ^ 0 = v:=by
 unfold bitsV; (repeat' split) <;> omega
theorem s_3_2 (v : Int) (h : v = 0) : 0 = v:=by
 omega
theorem s_3_3 (v : Int) (h : v = 0) : 0 = v:=by
 omega
theorem s_3_4 (v : Int) (h : 0 <= v /\ v <= 7 /\ v % 1 = 0) : 0 + bitsV v 0 3 * 2 ^ 0 = v:=by
 unfold bitsV; (repeat' split) <;> omega
theorem s_3_5 (v : Int) (h : v = 0) : 0 = v:=by
 omega
theorem s_3_6 (v : Int) (h : v = 0) : 0 = v:=by
 omega
theorem s_3_7 (v : Int) (h : v = 0) : 0 = v:=by
 omega
theorem s_3_8 (v : Int) (h : v = 0) : 0 = v:=by
 omega
theorem s_3_9 (v : Int) (h : v = 0) : 0 = v:=by
 omega
theorem s_4_0 (v : Int) (h : 0 <= v /\ v < 8) : 0 + bitsV v 0 3 * 2 ^ 0 = v:=by
 unfold bitsV; (repeat' split) <;> omega
theorem s_4_1 (v : Int) (h : v = 0) : 0 = v:=by
 omega
theorem s_4_2 (v : Int) (h : v = 0) : 0 = v:=by
 omega
theorem s_4_3 (v : Int) (h : v = 0) : 0 = v:=by
 omega
theorem s_4_4 (v : Int) (h : 0 <= v /\ v <= 255 /\ v % 1 = 0) : 0 + bitsV v 0 8 * 2 ^ 0 = v:=by
 unfold bitsV; (repeat' split) <;> omega
theorem s_4_5 (v : Int) (h : v = 0) : 0 = v:=by
 omega
theorem s_4_6 (v : Int) (h : v = 0) : 0 = v:=by
 omega
theorem s_4_7 (v : Int) (h : v = 0) : 0 = v:=by
 omega
theorem s_4_8 (v : Int) (h : v = 0) : 0 = v:=by
 omega
theorem s_4_9 (v : Int) (h : v = 0) : 0 = v:=by
 omega
theorem s_5_0 (v : Int) (h : 0 <= v /\ v < 8) : 0 + bitsV v 0 3 * 2 ^ 0 = v:=by
 unfold bitsV; (repeat' split) <;> omega
theorem s_5_1 (v : Int) (h : v = 0) : 0 = v:=by
 omega
theorem s_5_2 (v : Int) (h : 0 <= v /\ v < 8) : 0 + bitsV v 0 3 * 2 ^ 0 = v:=by
 unfold bitsV; (repeat' split) <;> omega
theorem s_5_3 (v : Int) (h : v = 0) : 0 = v:=by
 omega
theorem s_5_4 (v : Int) (h : v = 0) : 0 = v:=by
 omega
theorem s_5_5 (v : Int) (h : v = 0) : 0 = v:=by
 omega
theorem s_5_6 (v : Int) (h : v = 0) : 0 = v:=by
 omega
theorem s_5_7 (v : Int) (h : v = 0) : 0 = v:=by
 omega
theorem s_5_8 (v : Int) (h : v = 0) : 0 = v:=by
 omega
theorem s_5_9 (v : Int) (h : v = 0) : 0 = v:=by
 omega
theorem s_6_0 (v : Int) (h : 0 <= v /\ v < 15) : 0 + bitsV v 3 1 * 2 ^ 3 + bitsV v 0 3 * 2 ^ 0 = v:=by
 unfold bitsV; (repeat' split) <;> omega
theorem s_6_1 (v : Int) (h : v = 0) : 0 = v:=by
 omega
theorem s_6_2 (v : Int) (h : 0 <= v /\ v < 15) : 0 + bitsV v 0 4 * 2 ^ 0 = v:=by
 unfold bitsV; (repeat' split) <;> omega
theorem s_6_3 (v : Int) (h : v = 0) : 0 = v:=by
 omega
theorem s_6_4 (v : Int) (h : v = 0) : 0 = v:=by
 omega
theorem s_6_5 (v : Int) (h : v = 0) : 0 = v:=by
 omega
theorem s_6_6 (v : Int) (h : v = 0) : 0 = v:=by
 omega
theorem s_6_7 (v : Int) (h : v = 0) : 0 = v:=by
 omega
theorem s_6_8 (v : Int) (h : v = 0) : 0 = v:=by
 omega
theorem s_6_9 (v : Int) (h : v = 0) : 0 = v:=by
 omega
theorem s_7_0 (v : Int) (h : v = 0) : 0 = v:=by
 omega
theorem s_7_1 (v : Int) (h : v = 0) : 0 = v:=by
 omega
theorem s_7_2 (v : Int) (h : 0 <= v /\ v < 15) : 0 + bitsV v 0 4 * 2 ^ 0 = v:=by
 unfold bitsV; (repeat' split) <;> omega
theorem s_7_3 (v : Int) (h : v = 0) : 0 = v:=by
 omega
theorem s_7_4 (v : Int) (h : v = 0) : 0 = v:=by
 omega
theorem s_7_5 (v : Int) (h : v = 0) : 0 = v:=by
 omega
theorem s_7_6 (v : Int) (h : v = 0) : 0 = v:=by
 omega
theorem s_7_7 (v : Int) (h : v = 0) : 0 = v:=by
 omega
theorem s_7_8 (v : Int) (h : v = 0) : 0 = v:=by
 omega
theorem s_7_9 (v : Int) (h : v = 0) : 0 = v:=by
 omega
theorem s_8_0 (v : Int) (h : 0 <= v /\ v < 8) : 0 + bitsV v 0 3 * 2 ^ 0 = v:=by
 unfold bitsV; (repeat' split) <;> omega
theorem s_8_1 (v : Int) (h : v = 0) : 0 = v:=by
 omega
theorem s_8_2 (v : Int) (h : v = 0) : 0 = v:=by
 omega
theorem s_8_3 (v : Int) (h : v = 0) : 0 = v:=by
 omega
theorem s_8_4 (v : Int) (h : 0 <= v /\ v <= 1020 /\ v % 4 = 0) : 0 + bitsV v 2 8 * 2 ^ 2 = v:=by
 unfold bitsV; (repeat' split) <;> omega
theorem s_8_5 (v : Int) (h : v = 0) : 0 = v:=by
 omega
theorem s_8_6 (v : Int) (h : v = 0) : 0 = v:=by
 omega
theorem s_8_7 (v : Int) (h : v = 0) : 0 = v:=by
 omega
theorem s_8_8 (v : Int) (h : v = 0) : 0 = v:=by
 omega
theorem s_8_9 (v : Int) (h : v = 0) : 0 = v:=by
 omega
theorem s_9_0 (v : Int) (h : 0 <= v /\ v < 8) : 0 + bitsV v 0 3 * 2 ^ 0 = v:=by
 unfold bitsV; (repeat' split) <;> omega
theorem s_9_1 (v : Int) (h : 0 <= v /\ v < 8) : 0 + bitsV v 0 3 * 2 ^ 0 = v:=by
 unfold bitsV; (repeat' split) <;> omega
theorem s_9_2 (v : Int) (h : v = 0) : 0 = v:=by
 omega
theorem s_9_3 (v : Int) (h : v = 0) : 0 = v:=by
 omega
theorem s_9_4 (v : Int) (h : 0 <= v /\ v <= 124 /\ v % 4 = 0) : 0 + bitsV v 2 5 * 2 ^ 2 = v:=by
 unfold bitsV; (repeat' split) <;> omega
theorem s_9_5 (v : Int) (h : v = 0) : 0 = v:=by
 omega
theorem s_9_6 (v : Int) (h : v = 0) : 0 = v:=by
 omega
theorem s_9_7 (v : Int) (h : v = 0) : 0 = v:=by
 omega
theorem s_9_8 (v : Int) (h : v = 0) : 0 = v:=by
 omega
theorem s_9_9 (v : Int) (h : v = 0) : 0 = v:=by
 omega
theorem s_10_0 (v : Int) (h : v = 0) : 0 = v:=by
 omega
theorem s_10_1 (v : Int) (h : v = 0) : 0 = v:=by
 omega
theorem s_10_2 (v : Int) (h : v = 0) : 0 = v:=by
 omega
theorem s_10_3 (v : Int) (h : v = 0) : 0 = v:=by
 omega
theorem s_10_4 (v : Int) (h : 0 <= v /\ v <= 508 /\ v % 4 = 0) : 0 + bitsV v 2 7 * 2 ^ 2 = v:=by
 unfold bitsV; (repeat' split) <;> omega
theorem s_10_5 (v : Int) (h : v = 0) : 0 = v:=by
 omega
theorem s_10_6 (v : Int) (h : v = 0) : 0 = v:=by
 omega
theorem s_10_7 (v : Int) (h : v = 0) : 0 = v:=by
 omega
theorem s_10_8 (v : Int) (h : v = 0) : 0 = v:=by
 omega
theorem s_10_9 (v : Int) (h : v = 0) : 0 = v:=by
 omega
theorem s_11_0 (v : Int) (h : v = 0) : 0 = v:=by
 omega
theorem s_11_1 (v : Int) (h : v = 0) : 0 = v:=by
 omega
theorem s_11_2 (v : Int) (h : v = 0) : 0 = v:=by
 omega
theorem s_11_3 (v : Int) (h : v = 0) : 0 = v:=by
 omega
theorem s_11_4 (v : Int) (h : v = 0) : 0 = v:=by
 omega
theorem s_11_5 (v : Int) (h : v = 0) : 0 = v:=by
 omega
theorem s_11_6 (v : Int) (h : v = 0) : 0 = v:=by
 omega
theorem s_11_7 (v : Int) (h : v = 0) : 0 = v:=by
 omega
theorem s_11_8 (v : Int) (h : v = 0) : 0 = v:=by
 omega
theorem s_11_9 (v : Int) (h : 0 < v /\ v / 16384 % 2 * 16384 + v % 256 = v) : 0 + bitsV v 14 1 * 2 ^ 14 + bitsV v 0 8 * 2 ^ 0 = v:=by
 unfold bitsV; (repeat' split) <;> omega
theorem s_12_0 (v : Int) (h : v = 0) : 0 = v:=by
 omega
theorem s_12_1 (v : Int) (h : v = 0) : 0 = v:=by
 omega
theorem s_12_2 (v : Int) (h : v = 0) : 0 = v:=by
 omega
theorem s_12_3 (v : Int) (h : v = 0) : 0 = v:=by
 omega
theorem s_12_4 (v : Int) (h : v = 0) : 0 = v:=by
 omega
theorem s_12_5 (v : Int) (h : v = 0) : 0 = v:=by
 omega
theorem s_12_6 (v : Int) (h : v = 0) : 0 = v:=by
 omega
theorem s_12_7 (v : Int) (h : v = 0) : 0 = v:=by
 omega
theorem s_12_8 (v : Int) (h : v = 0) : 0 = v:=by
 omega
theorem s_12_9 (v : Int) (h : 0 < v /\ v / 32768 % 2 * 32768 + v % 256 = v) : 0 + bitsV v 15 1 * 2 ^ 15 + bitsV v 0 8 * 2 ^ 0 = v:=by
 unfold bitsV; (repeat' split) <;> omega
theorem s_13_0 (v : Int) (h : v = 0) : 0 = v:=by
 omega
theorem s_13_1 (v : Int) (h : v = 0) : 0 = v:=by
 omega
theorem s_13_2 (v : Int) (h : v = 0) : 0 = v:=by
 omega
theorem s_13_3 (v : Int) (h : v = 0) : 0 = v:=by
 omega
theorem s_13_4 (v : Int) (h : v = 0) : 0 = v:=by
 omega
theorem s_13_5 (v : Int) (h : v = 0) : 0 = v:=by
 omega
theorem s_13_6 (v : Int) (h : v = 0) : 0 = v:=by
 omega
theorem s_13_7 (v : Int) (h : v = 0) : 0 = v:=by
 omega
theorem s_13_8 (v : Int) (h : v = 0) : 0 = v:=by
 omega
theorem s_13_9 (v : Int) (h : v = 0) : 0 = v:=by
 omega
theorem s_14_0 (v : Int) (h : v = 0) : 0 = v:=by
 omega
theorem s_14_1 (v : Int) (h : v = 0) : 0 = v:=by
 omega
theorem s_14_2 (v : Int) (h : v = 0) : 0 = v:=by
 omega
theorem s_14_3 (v : Int) (h : v = 0) : 0 = v:=by
 omega
theorem s_14_4 (v : Int) (h : 0 <= v /\ v <= 255 /\ v % 1 = 0) : 0 + bitsV v 0 8 * 2 ^ 0 = v:=by
 unfold bitsV; (repeat' split) <;> omega
theorem s_14_5 (v : Int) (h : v = 0) : 0 = v:=by
 omega
theorem s_14_6 (v : Int) (h : v = 0) : 0 = v:=by
 omega
theorem s_14_7 (v : Int) (h : v = 0) : 0 = v:=by
 omega
theorem s_14_8 (v : Int) (h : v = 0) : 0 = v:=by
 omega
theorem s_14_9 (v : Int) (h : v = 0) : 0 = v:=by
 omega
theorem s_15_0 (v : Int) (h : v = 0) : 0 = v:=by
 omega
theorem s_15_1 (v : Int) (h : v = 0) : 0 = v:=by
 omega
theorem s_15_2 (v : Int) (h : v = 0) : 0 = v:=by
 omega
theorem s_15_3 (v : Int) (h : v = 0) : 0 = v:=by
 omega
theorem s_15_4 (v : Int) (h : -256 <= v /\ v <= 254 /\ v % 2 = 0) : leastV (0 + bitsV v 1 8 * 2 ^ 1) 9 = v:=by
 unfold leastV bitsV; (repeat' split) <;> omega
theorem s_15_5 (v : Int) (h : v = 0) : 0 = v:=by
 omega
theorem s_15_6 (v : Int) (h : v = 0) : 0 = v:=by
 omega
theorem s_15_7 (v : Int) (h : v = 0) : 0 = v:=by
 omega
theorem s_15_8 (v : Int) (h : 0 <= v /\ v <= 13) : 0 + bitsV v 0 4 * 2 ^ 0 = v:=by
 unfold bitsV; (repeat' split) <;> omega
theorem s_15_9 (v : Int) (h : v = 0) : 0 = v:=by
 omega
theorem s_16_0 (v : Int) (h : v = 0) : 0 = v:=by
 omega
theorem s_16_1 (v : Int) (h : v = 0) : 0 = v:=by
 omega
theorem s_16_2 (v : Int) (h : v = 0) : 0 = v:=by
 omega
theorem s_16_3 (v : Int) (h : v = 0) : 0 = v:=by
 omega
theorem s_16_4 (v : Int) (h : -2048 <= v /\ v <= 2046 /\ v % 2 = 0) : leastV (0 + bitsV v 1 11 * 2 ^ 1) 12 = v:=by
 unfold leastV bitsV; (repeat' split) <;> omega
theorem s_16_5 (v : Int) (h : v = 0) : 0 = v:=by
 omega
theorem s_16_6 (v : Int) (h : v = 0) : 0 = v:=by
 omega
theorem s_16_7 (v : Int) (h : v = 0) : 0 = v:=by
 omega
theorem s_16_8 (v : Int) (h : v = 0) : 0 = v:=by
 omega
theorem s_16_9 (v : Int) (h : v = 0) : 0 = v:=by
 omega
theorem s_17_0 (v : Int) (h : 0 <= v /\ v < 15) : 0 + bitsV v 0 4 * 2 ^ 0 = v:=by
 unfold bitsV; (repeat' split) <;> omega
theorem s_17_1 (v : Int) (h : v = 0) : 0 = v:=by
 omega
theorem s_17_2 (v : Int) (h : v = 0) : 0 = v:=by
 omega
theorem s_17_3 (v : Int) (h : v = 0) : 0 = v:=by
 omega
theorem s_17_4 (v : Int) (h : 0 <= v /\ v <= 65535 /\ v % 1 = 0) : 0 + bitsV v 11 1 * 2 ^ 11 + bitsV v 12 4 * 2 ^ 12 + bitsV v 8 3 * 2 ^ 8 + bitsV v 0 8 * 2 ^ 0 = v:=by
 unfold bitsV; (repeat' split) <;> omega
theorem s_17_5 (v : Int) (h : v = 0) : 0 = v:=by
 omega
theorem s_17_6 (v : Int) (h : v = 0) : 0 = v:=by
 omega
theorem s_17_7 (v : Int) (h : v = 0) : 0 = v:=by
 omega
theorem s_17_8 (v : Int) (h : v = 0) : 0 = v:=by
 omega
theorem s_17_9 (v : Int) (h : v = 0) : 0 = v:=by
 omega
theorem s_18_0 (v : Int) (h : 0 <= v /\ v < 15) : 0 + bitsV v 0 4 * 2 ^ 0 = v:=by
 unfold bitsV; (repeat' split) <;> omega
theorem s_18_1 (v : Int) (h : 0 <= v /\ v < 15) : 0 + bitsV v 0 4 * 2 ^ 0 = v:=by
 unfold bitsV; (repeat' split) <;> omega
theorem s_18_2 (v : Int) (h : v = 0) : 0 = v:=by
 omega
theorem s_18_3 (v : Int) (h : v = 0) : 0 = v:=by
 omega
theorem s_18_4 (v : Int) (h : 0 <= v /\ v <= 4095 /\ v % 1 = 0) : 0 + bitsV v 11 1 * 2 ^ 11 + bitsV v 8 3 * 2 ^ 8 + bitsV v 0 8 * 2 ^ 0 = v:=by
 unfold bitsV; (repeat' split) <;> omega
theorem s_18_5 (v : Int) (h : v = 0) : 0 = v:=by
 omega
theorem s_18_6 (v : Int) (h : v = 0) : 0 = v:=by
 omega
theorem s_18_7 (v : Int) (h : v = 0 \/ v = 1) : 0 + bitsV v 0 1 * 2 ^ 0 = v:=by
 unfold bitsV; (repeat' split) <;> omega
theorem s_18_8 (v : Int) (h : v = 0) : 0 = v:=by
 omega
theorem s_18_9 (v : Int) (h : v = 0) : 0 = v:=by
 omega
theorem s_19_0 (v : Int) (h : 0 <= v /\ v < 15) : 0 + bitsV v 0 4 * 2 ^ 0 = v:=by
 unfold bitsV; (repeat' split) <;> omega
theorem s_19_1 (v : Int) (h : v = 0) : 0 = v:=by
 omega
theorem s_19_2 (v : Int) (h : v = 0) : 0 = v:=by
 omega
theorem s_19_3 (v : Int) (h : v = 0) : 0 = v:=by
 omega
theorem s_19_4 (v : Int) (h : 0 <= v /\ v <= 4095 /\ v % 1 = 0) : 0 + bitsV v 11 1 * 2 ^ 11 + bitsV v 8 3 * 2 ^ 8 + bitsV v 0 8 * 2 ^ 0 = v:=by
 unfold bitsV; (repeat' split) <;> omega
theorem s_19_5 (v : Int) (h : v = 0) : 0 = v:=by
 omega
theorem s_19_6 (v : Int) (h : v = 0) : 0 = v:=by
 omega
theorem s_19_7 (v : Int) (h : v = 0 \/ v = 1) : 0 + bitsV v 0 1 * 2 ^ 0 = v:=by
 unfold bitsV; (repeat' split) <;> omega
theorem s_19_8 (v : Int) (h : v = 0) : 0 = v:=by
 omega
theorem s_19_9 (v : Int) (h : v = 0) : 0 = v:=by
 omega
theorem s_20_0 (v : Int) (h : v = 0) : 0 = v:=by
 omega
theorem s_20_1 (v : Int) (h : 0 <= v /\ v < 15) : 0 + bitsV v 0 4 * 2 ^ 0 = v:=by
 unfold bitsV; (repeat' split) <;> omega
theorem s_20_2 (v : Int) (h : v = 0) : 0 = v:=by
 omega
theorem s_20_3 (v : Int) (h : v = 0) : 0 = v:=by
 omega
theorem s_20_4 (v : Int) (h : 0 <= v /\ v <= 4095 /\ v % 1 = 0) : 0 + bitsV v 11 1 * 2 ^ 11 + bitsV v 8 3 * 2 ^ 8 + bitsV v 0 8 * 2 ^ 0 = v:=by
 unfold bitsV; (repeat' split) <;> omega
theorem s_20_5 (v : Int) (h : v = 0) : 0 = v:=by
 omega
theorem s_20_6 (v : Int) (h : v = 0) : 0 = v:=by
 omega
theorem s_20_7 (v : Int) (h : v = 0) : 0 = v:=by
 omega
theorem s_20_8 (v : Int) (h : v = 0) : 0 = v:=by
 omega
theorem s_20_9 (v : Int) (h : v = 0) : 0 = v:=by
 omega
theorem s_21_0 (v : Int) (h : 0 <= v /\ v < 15) : 0 + bitsV v 0 4 * 2 ^ 0 = v:=by
 unfold bitsV; (repeat' split) <;> omega
theorem s_21_1 (v : Int) (h : 0 <= v /\ v < 15) : 0 + bitsV v 0 4 * 2 ^ 0 = v:=by
 unfold bitsV; (repeat' split) <;> omega
theorem s_21_2 (v : Int) (h : 0 <= v /\ v < 15) : 0 + bitsV v 0 4 * 2 ^ 0 = v:=by
 unfold bitsV; (repeat' split) <;> omega
theorem s_21_3 (v : Int) (h : v = 0) : 0 = v:=by
 omega
theorem s_21_4 (v : Int) (h : v = 0) : 0 = v:=by
 omega
theorem s_21_5 (v : Int) (h : 0 <= v /\ v < 4) : 0 + bitsV v 0 2 * 2 ^ 0 = v:=by
 unfold bitsV; (repeat' split) <;> omega
theorem s_21_7 (v : Int) (h : v = 0 \/ v = 1) : 0 + bitsV v 0 1 * 2 ^ 0 = v:=by
 unfold bitsV; (repeat' split) <;> omega
theorem s_21_8 (v : Int) (h : v = 0) : 0 = v:=by
 omega
theorem s_21_9 (v : Int) (h : v = 0) : 0 = v:=by
 omega
theorem s_22_0 (v : Int) (h : 0 <= v /\ v < 15) : 0 + bitsV v 0 4 * 2 ^ 0 = v:=by
 unfold bitsV; (repeat' split) <;> omega
theorem s_22_1 (v : Int) (h : v = 0) : 0 = v:=by
 omega
theorem s_22_2 (v : Int) (h : 0 <= v /\ v < 15) : 0 + bitsV v 0 4 * 2 ^ 0 = v:=by
 unfold bitsV; (repeat' split) <;> omega
theorem s_22_3 (v : Int) (h : v = 0) : 0 = v:=by
 omega
theorem s_22_4 (v : Int) (h : v = 0) : 0 = v:=by
 omega
theorem s_22_5 (v : Int) (h : 0 <= v /\ v < 4) : 0 + bitsV v 0 2 * 2 ^ 0 = v:=by
 unfold bitsV; (repeat' split) <;> omega
theorem s_22_7 (v : Int) (h : v = 0 \/ v = 1) : 0 + bitsV v 0 1 * 2 ^ 0 = v:=by
 unfold bitsV; (repeat' split) <;> omega
theorem s_22_8 (v : Int) (h : v = 0) : 0 = v:=by
 omega
theorem s_22_9 (v : Int) (h : v = 0) : 0 = v:=by
 omega
theorem s_23_0 (v : Int) (h : v = 0) : 0 = v:=by
 omega
theorem s_23_1 (v : Int) (h : 0 <= v /\ v < 15) : 0 + bitsV v 0 4 * 2 ^ 0 = v:=by
 unfold bitsV; (repeat' split) <;> omega
theorem s_23_2 (v : Int) (h : 0 <= v /\ v < 15) : 0 + bitsV v 0 4 * 2 ^ 0 = v:=by
 unfold bitsV; (repeat' split) <;> omega
theorem s_23_3 (v : Int) (h : v = 0) : 0 = v:=by
 omega
theorem s_23_4 (v : Int) (h : v = 0) : 0 = v:=by
 omega
theorem s_23_5 (v : Int) (h : 0 <= v /\ v < 4) : 0 + bitsV v 0 2 * 2 ^ 0 = v:=by
 unfold bitsV; (repeat' split) <;> omega
theorem s_23_7 (v : Int) (h : v = 0) : 0 = v:=by
 omega
theorem s_23_8 (v : Int) (h : v = 0) : 0 = v:=by
 omega
theorem s_23_9 (v : Int) (h : v = 0) : 0 = v:=by
 omega
theorem s_24_0 (v : Int) (h : 0 <= v /\ v < 15) : 0 + bitsV v 0 4 * 2 ^ 0 = v:=by
 unfold bitsV; (repeat' split) <;> omega
theorem s_24_1 (v : Int) (h : 0 <= v /\ v < 15) : 0 + bitsV v 0 4 * 2 ^ 0 = v:=by
 unfold bitsV; (repeat' split) <;> omega
theorem s_24_2 (v : Int) (h : v = 0) : 0 = v:=by
 omega
theorem s_24_3 (v : Int) (h : v = 0) : 0 = v:=by
 omega
theorem s_24_4 (v : Int) (h : 0 <= v /\ v <= 4095 /\ v % 1 = 0) : 0 + bitsV v 11 1 * 2 ^ 11 + bitsV v 8 3 * 2 ^ 8 + bitsV v 0 8 * 2 ^ 0 = v:=by
 unfold bitsV; (repeat' split) <;> omega
theorem s_24_5 (v : Int) (h : v = 0) : 0 = v:=by
 omega
theorem s_24_6 (v : Int) (h : v = 0) : 0 = v:=by
 omega
theorem s_24_7 (v : Int) (h : v = 0) : 0 = v:=by
 omega
theorem s_24_8 (v : Int) (h : v = 0) : 0 = v:=by
 omega
theorem s_24_9 (v : Int) (h : v = 0) : 0 = v:=by
 omega
theorem s_25_0 (v : Int) (h : 0 <= v /\ v < 15) : 0 + bitsV v 0 4 * 2 ^ 0 = v:=by
 unfold bitsV; (repeat' split) <;> omega
theorem s_25_1 (v : Int) (h : 0 <= v /\ v < 15) : 0 + bitsV v 0 4 * 2 ^ 0 = v:=by
 unfold bitsV; (repeat' split) <;> omega
theorem s_25_2 (v : Int) (h : v = 0) : 0 = v:=by
 omega
theorem s_25_3 (v : Int) (h : v = 0) : 0 = v:=by
 omega
theorem s_25_4 (v : Int) (h : 0 <= v /\ v <= 4095 /\ v % 1 = 0) : 0 + bitsV v 0 12 * 2 ^ 0 = v:=by
 unfold bitsV; (repeat' split) <;> omega
theorem s_25_5 (v : Int) (h : v = 0) : 0 = v:=by
 omega
theorem s_25_6 (v : Int) (h : v = 0) : 0 = v:=by
 omega
theorem s_25_7 (v : Int) (h : v = 0) : 0 = v:=by
 omega
theorem s_25_8 (v : Int) (h : v = 0) : 0 = v:=by
 omega
theorem s_25_9 (v : Int) (h : v = 0) : 0 = v:=by
 omega
theorem s_26_0 (v : Int) (h : 0 <= v /\ v < 15) : 0 + bitsV v 0 4 * 2 ^ 0 = v:=by
 unfold bitsV; (repeat' split) <;> omega
theorem s_26_1 (v : Int) (h : 0 <= v /\ v < 15) : 0 + bitsV v 0 4 * 2 ^ 0 = v:=by
 unfold bitsV; (repeat' split) <;> omega
theorem s_26_2 (v : Int) (h : 0 <= v /\ v < 15) : 0 + bitsV v 0 4 * 2 ^ 0 = v:=by
 unfold bitsV; (repeat' split) <;> omega
theorem s_26_3 (v : Int) (h : v = 0) : 0 = v:=by
 omega
theorem s_26_4 (v : Int) (h : v = 0) : 0 = v:=by
 omega
theorem s_26_5 (v : Int) (h : v = 0) : 0 = v:=by
 omega
theorem s_26_6 (v : Int) (h : 0 <= v /\ v <= 3 /\ v % 1 = 0) : 0 + bitsV v 0 2 * 2 ^ 0 = v:=by
 unfold bitsV; (repeat' split) <;> omega
theorem s_26_7 (v : Int) (h : v = 0) : 0 = v:=by
 omega
theorem s_26_8 (v : Int) (h : v = 0) : 0 = v:=by
 omega
theorem s_26_9 (v : Int) (h : v = 0) : 0 = v:=by
 omega
theorem s_27_0 (v : Int) (h : 0 <= v /\ v < 15) : 0 + bitsV v 0 4 * 2 ^ 0 = v:=by
 unfold bitsV; (repeat' split) <;> omega
theorem s_27_1 (v : Int) (h : 0 <= v /\ v < 15) : 0 + bitsV v 0 4 * 2 ^ 0 = v:=by
 unfold bitsV; (repeat' split) <;> omega
theorem s_27_2 (v : Int) (h : 0 <= v /\ v < 15) : 0 + bitsV v 0 4 * 2 ^ 0 = v:=by
 unfold bitsV; (repeat' split) <;> omega
theorem s_27_3 (v : Int) (h : v = 0) : 0 = v:=by
 omega
theorem s_27_4 (v : Int) (h : v = 0) : 0 = v:=by
 omega
theorem s_27_5 (v : Int) (h : v = 0) : 0 = v:=by
 omega
theorem s_27_6 (v : Int) (h : v = 0) : 0 = v:=by
 omega
theorem s_27_7 (v : Int) (h : v = 0 \/ v = 1) : 0 + bitsV v 0 1 * 2 ^ 0 = v:=by
 unfold bitsV; (repeat' split) <;> omega
theorem s_27_8 (v : Int) (h : v = 0) : 0 = v:=by
 omega
theorem s_27_9 (v : Int) (h : v = 0) : 0 = v:=by
 omega
theorem s_28_0 (v : Int) (h : 0 <= v /\ v < 15) : 0 + bitsV v 0 4 * 2 ^ 0 = v:=by
 unfold bitsV; (repeat' split) <;> omega
theorem s_28_1 (v : Int) (h : 0 <= v /\ v < 15) : 0 + bitsV v 0 4 * 2 ^ 0 = v:=by
 unfold bitsV; (repeat' split) <;> omega
theorem s_28_2 (v : Int) (h : 0 <= v /\ v < 15) : 0 + bitsV v 0 4 * 2 ^ 0 = v:=by
 unfold bitsV; (repeat' split) <;> omega
theorem s_28_3 (v : Int) (h : v = 0) : 0 = v:=by
 omega
theorem s_28_4 (v : Int) (h : v = 0) : 0 = v:=by
 omega
theorem s_28_5 (v : Int) (h : v = 0) : 0 = v:=by
 omega
theorem s_28_6 (v : Int) (h : v = 0) : 0 = v:=by
 omega
theorem s_28_7 (v : Int) (h : v = 0) : 0 = v:=by
 omega
theorem s_28_8 (v : Int) (h : v = 0) : 0 = v:=by
 omega
theorem s_28_9 (v : Int) (h : v = 0) : 0 = v:=by
 omega
theorem s_29_0 (v : Int) (h : 0 <= v /\ v < 15) : 0 + bitsV v 0 4 * 2 ^ 0 = v:=by
 unfold bitsV; (repeat' split) <;> omega
theorem s_29_1 (v : Int) (h : 0 <= v /\ v < 15) : 0 + bitsV v 0 4 * 2 ^ 0 = v:=by
 unfold bitsV; (repeat' split) <;> omega
theorem s_29_2 (v : Int) (h : 0 <= v /\ v < 15) : 0 + bitsV v 0 4 * 2 ^ 0 = v:=by
 unfold bitsV; (repeat' split) <;> omega
theorem s_29_3 (v : Int) (h : 0 <= v /\ v < 15) : 0 + bitsV v 0 4 * 2 ^ 0 = v:=by
 unfold bitsV; (repeat' split) <;> omega
theorem s_29_4 (v : Int) (h : v = 0) : 0 = v:=by
 omega
theorem s_29_5 (v : Int) (h : v = 0) : 0 = v:=by
 omega
theorem s_29_6 (v : Int) (h : v = 0) : 0 = v:=by
 omega
theorem s_29_7 (v : Int) (h : v = 0) : 0 = v:=by
 omega
theorem s_29_8 (v : Int) (h : v = 0) : 0 = v:=by
 omega
theorem s_29_9 (v : Int) (h : v = 0) : 0 = v:=by
 omega
theorem s_30_0 (v : Int) (h : 0 <= v /\ v < 15) : 0 + bitsV v 0 4 * 2 ^ 0 = v:=by
 unfold bitsV; (repeat' split) <;> omega
theorem s_30_1 (v : Int) (h : 0 <= v /\ v < 15) : 0 + bitsV v 0 4 * 2 ^ 0 = v:=by
 unfold bitsV; (repeat' split) <;> omega
theorem s_30_2 (v : Int) (h : 0 <= v /\ v < 15) : 0 + bitsV v 0 4 * 2 ^ 0 = v:=by
 unfold bitsV; (repeat' split) <;> omega
theorem s_30_3 (v : Int) (h : 0 <= v /\ v < 15) : 0 + bitsV v 0 4 * 2 ^ 0 = v:=by
 unfold bitsV; (repeat' split) <;> omega
theorem s_30_4 (v : Int) (h : v = 0) : 0 = v:=by
 omega
theorem s_30_5 (v : Int) (h : v = 0) : 0 = v:=by
 omega
theorem s_30_6 (v : Int) (h : v = 0) : 0 = v:=by
 omega
theorem s_30_7 (v : Int) (h : v = 0) : 0 = v:=by
 omega
theorem s_30_8 (v : Int) (h : v = 0) : 0 = v:=by
 omega
theorem s_30_9 (v : Int) (h : v = 0) : 0 = v:=by
 omega
theorem s_31_0 (v : Int) (h : 0 <= v /\ v < 15) : 0 + bitsV v 0 4 * 2 ^ 0 = v:=by
 unfold bitsV; (repeat' split) <;> omega
theorem s_31_1 (v : Int) (h : 0 <= v /\ v < 15) : 0 + bitsV v 0 4 * 2 ^ 0 = v:=by
 unfold bitsV; (repeat' split) <;> omega
theorem s_31_2 (v : Int) (h : 0 <= v /\ v < 15) : 0 + bitsV v 0 4 * 2 ^ 0 = v:=by
 unfold bitsV; (repeat' split) <;> omega
theorem s_31_3 (v : Int) (h : 0 <= v /\ v < 15) : 0 + bitsV v 0 4 * 2 ^ 0 = v:=by
 unfold bitsV; (repeat' split) <;> omega
theorem s_31_4 (v : Int) (h : v = 0) : 0 = v:=by
 omega
theorem s_31_5 (v : Int) (h : v = 0) : 0 = v:=by
 omega
theorem s_31_6 (v : Int) (h : v = 0) : 0 = v:=by
 omega
theorem s_31_7 (v : Int) (h : v = 0) : 0 = v:=by
 omega
theorem s_31_8 (v : Int) (h : v = 0) : 0 = v:=by
 omega
theorem s_31_9 (v : Int) (h : v = 0) : 0 = v:=by
 omega
theorem s_32_0 (v : Int) (h : 0 <= v /\ v < 15) : 0 + bitsV v 0 4 * 2 ^ 0 = v:=by
 unfold bitsV; (repeat' split) <;> omega
theorem s_32_1 (v : Int) (h : v = 0) : 0 = v:=by
 omega
theorem s_32_2 (v : Int) (h : 0 <= v /\ v < 15) : bitsV v 0 4 = v:=by
 unfold bitsV; split <;> omega
theorem s_32_3 (v : Int) (h : v = 0) : 0 = v:=by
 omega
theorem s_32_4 (v : Int) (h : v = 0) : 0 = v:=by
 omega
theorem s_32_5 (v : Int) (h : v = 0) : 0 = v:=by
 omega
theorem s_32_6 (v : Int) (h : v = 0) : 0 = v:=by
 omega
theorem s_32_7 (v : Int) (h : v = 0) : 0 = v:=by
 omega
theorem s_32_8 (v : Int) (h : v = 0) : 0 = v:=by
 omega
theorem s_32_9 (v : Int) (h : v = 0) : 0 = v:=by
 omega
theorem s_33_0 (v : Int) (h : v = 0) : 0 = v:=by
 omega
theorem s_33_1 (v : Int) (h : v = 0) : 0 = v:=by
 omega
theorem s_33_2 (v : Int) (h : v = 0) : 0 = v:=by
 omega
theorem s_33_3 (v : Int) (h : v = 0) : 0 = v:=by
 omega
theorem s_33_4 (v : Int) (h : -1048576 <= v /\ v <= 1048574 /\ v % 2 = 0) : leastV (0 + bitsV v 20 1 * 2 ^ 20 + bitsV v 12 6 * 2 ^ 12 + bitsV v 18 1 * 2 ^ 18 + bitsV v 19 1 * 2 ^ 19 + bitsV v 1 11 * 2 ^ 1) 21 = v:=by
 unfold leastV bitsV; (repeat' split) <;> omega
theorem s_33_5 (v : Int) (h : v = 0) : 0 = v:=by
 omega
theorem s_33_6 (v : Int) (h : v = 0) : 0 = v:=by
 omega
theorem s_33_7 (v : Int) (h : v = 0) : 0 = v:=by
 omega
theorem s_33_8 (v : Int) (h : 0 <= v /\ v <= 13) : 0 + bitsV v 0 4 * 2 ^ 0 = v:=by
 unfold bitsV; (repeat' split) <;> omega
theorem s_33_9 (v : Int) (h : v = 0) : 0 = v:=by
 omega
theorem s_34_0 (v : Int) (h : v = 0) : 0 = v:=by
 omega
theorem s_34_1 (v : Int) (h : v = 0) : 0 = v:=by
 omega
theorem s_34_2 (v : Int) (h : v = 0) : 0 = v:=by
 omega
theorem s_34_3 (v : Int) (h : v = 0) : 0 = v:=by
 omega
theorem s_34_5 (v : Int) (h : v = 0) : 0 = v:=by
 omega
theorem s_34_6 (v : Int) (h : v = 0) : 0 = v:=by
 omega
theorem s_34_7 (v : Int) (h : v = 0) : 0 = v:=by
 omega
theorem s_34_8 (v : Int) (h : v = 0) : 0 = v:=by
 omega
theorem s_34_9 (v : Int) (h : v = 0) : 0 = v:=by
 omega
end Go.Proofs.YtnbngokbamifbaaGreatDoor.Pw

/- What a law is proved with. -/
import Derived.Test.YtnbngokbamifbaaGreatDoorNa15
set_option linter.unusedVariables false
set_option linter.unusedSimpArgs false
namespace Go.Proofs.YtnbngokbamifbaaGreatDoor.Pw
open Go Go.RowKit
def fdP (x : Nat × Nat × Nat × Nat) : PV:=.agg [.int .i64 x.1,.int .i64 x.2.1,.int .i64 x.2.2.1,.int .i64 x.2.2.2]
def fieldsV (s : Int) : List (Nat × Nat × Nat × Nat) :=
 if s = 1 then [(4,0,6,5),(2,0,3,3),(0,0,0,3)]
 else if s = 2 then [(2,0,6,3),(1,0,3,3),(0,0,0,3)]
 else if s = 3 then [(4,0,6,3),(1,0,3,3),(0,0,0,3)]
 else if s = 4 then [(0,0,8,3),(4,0,0,8)]
 else if s = 5 then [(2,0,3,3),(0,0,0,3)]
 else if s = 6 then [(0,3,7,1),(2,0,3,4),(0,0,0,3)]
 else if s = 7 then [(2,0,3,4)]
 else if s = 8 then [(0,0,8,3),(4,2,0,8)]
 else if s = 9 then [(4,2,6,5),(1,0,3,3),(0,0,0,3)]
 else if s = 10 then [(4,2,0,7)]
 else if s = 11 then [(9,14,8,1),(9,0,0,8)]
 else if s = 12 then [(9,15,8,1),(9,0,0,8)]
 else if s = 14 then [(4,0,0,8)]
 else if s = 15 then [(8,0,8,4),(4,1,0,8)]
 else if s = 16 then [(4,1,0,11)]
 else if s = 17 then [(4,11,26,1),(4,12,16,4),(4,8,12,3),(4,0,0,8),(0,0,8,4)]
 else if s = 18 then [(4,11,26,1),(4,8,12,3),(4,0,0,8),(7,0,20,1),(1,0,16,4),(0,0,8,4)]
 else if s = 19 then [(4,11,26,1),(4,8,12,3),(4,0,0,8),(7,0,20,1),(0,0,8,4)]
 else if s = 20 then [(4,11,26,1),(4,8,12,3),(4,0,0,8),(1,0,16,4)]
 else if s = 21 then [(6,2,12,3),(6,0,6,2),(5,0,4,2),(7,0,20,1),(1,0,16,4),(0,0,8,4),(2,0,0,4)]
 else if s = 22 then [(6,2,12,3),(6,0,6,2),(5,0,4,2),(7,0,20,1),(0,0,8,4),(2,0,0,4)]
 else if s = 23 then [(6,2,12,3),(6,0,6,2),(5,0,4,2),(1,0,16,4),(2,0,0,4)]
 else if s = 24 then [(4,11,26,1),(4,8,12,3),(4,0,0,8),(1,0,16,4),(0,0,8,4)]
 else if s = 25 then [(1,0,16,4),(0,0,12,4),(4,0,0,12)]
 else if s = 26 then [(1,0,16,4),(0,0,12,4),(6,0,4,2),(2,0,0,4)]
 else if s = 27 then [(7,0,20,1),(1,0,16,4),(0,0,8,4),(2,0,0,4)]
 else if s = 28 then [(1,0,16,4),(0,0,8,4),(2,0,0,4)]
 else if s = 29 then [(1,0,16,4),(3,0,12,4),(0,0,8,4),(2,0,0,4)]
 else if s = 30 then [(1,0,16,4),(3,0,12,4),(0,0,8,4),(2,0,0,4)]
 else if s = 31 then [(1,0,16,4),(0,0,12,4),(3,0,8,4),(2,0,0,4)]
 else if s = 32 then [(2,0,16,4),(0,0,8,4),(2,0,0,4)]
 else if s = 33 then [(4,20,26,1),(8,0,22,4),(4,12,16,6),(4,18,13,1),(4,19,11,1),(4,1,0,11)]
 else if s = 34 then [(4,24,26,1),(4,12,16,10),(4,23,13,1),(4,22,11,1),(4,1,0,11)]
 else []
set_option maxHeartbeats 16000000 in
set_option maxRecDepth 100000 in
theorem fields_pure (s : Int) : PureF gT 81 [.int .i64 s] (.sl 4 ((fieldsV s).map fdP)):=by
 refine Spec.enter gTok P81 100 Tryz.func81 rfl (by kernel_rfl) ?_
 repeat' ((conv=>whnf); first | (refine (And.intro (fun _=>?_) (fun _=>?_) : (_ -> _) /\ (_ -> _)) <;> (first | (exfalso; first | contradiction | omega) | skip)) | refine Or.inl (And.intro (by first | exact inR_i64 (by omega) | exact inR_u32 (by omega) | exact inR_u64 (by omega) | exact inR_u8 (by omega)) ?_) | (refine And.intro (show (_ : Int) ≠ 0 by omega) (Or.inl (And.intro (show (0 : Int) <= _ by omega) (And.intro (show (0 : Int) < _ by omega) ?_)))) | (refine And.intro (show (_ : Int) ≠ 0 by omega) (Or.inl (And.intro (show (0 : Int) <= _ by omega) (And.intro (by first | exact (show (_ : Int) <= 9223372036854775807 by omega) | exact (show (_ : Int) <= 4294967295 by omega)) (And.intro (show (0 : Int) < _ by omega) ?_))))) | (refine retE ?_; (show _ = _); simp only [fieldsV, *,if_true,if_false,reduceIte,Int.reduceEq]; rfl) | (intro _))
def getV (i : IN) (f : Nat) : Int:=[i.rd,i.rn,i.rm,i.ra,i.imm,i.kind,i.by_,i.set,i.cond,i.regs].getD f 0
set_option maxRecDepth 100000 in
theorem get_0 (i : IN) : PureF gT 82 [inP i,.int .i64 0] (.int .i64 (getV i 0)):=by
 refine Spec.enter gTok P82 100 Tryz.func82 rfl (by kernel_rfl) ?_
 repeat' ((conv=>whnf); first | (refine (And.intro (fun _=>?_) (fun _=>?_) : (_ -> _) /\ (_ -> _)) <;> (first | (exfalso; first | contradiction | omega) | skip)) | refine Or.inl (And.intro (by first | exact inR_i64 (by omega) | exact inR_u32 (by omega) | exact inR_u64 (by omega) | exact inR_u8 (by omega)) ?_) | (refine And.intro (show (_ : Int) ≠ 0 by omega) (Or.inl (And.intro (show (0 : Int) <= _ by omega) (And.intro (show (0 : Int) < _ by omega) ?_)))) | (refine And.intro (show (_ : Int) ≠ 0 by omega) (Or.inl (And.intro (show (0 : Int) <= _ by omega) (And.intro (by first | exact (show (_ : Int) <= 9223372036854775807 by omega) | exact (show (_ : Int) <= 4294967295 by omega)) (And.intro (show (0 : Int) < _ by omega) ?_))))) | (refine Or.inl (Exists.intro 0 (And.intro rfl ?_))) | ((refine retE ?_; repeat' first|exact trivial|exact rfl|exact Iff.rfl|refine And.intro ?_ ?_)) | (refine And.intro (show (0 : Int) <= _ by omega) (And.intro (show _ < (_ : Int) by omega) ?_)) | (intro _))
set_option maxRecDepth 100000 in
theorem get_1 (i : IN) : PureF gT 82 [inP i,.int .i64 1] (.int .i64 (getV i 1)):=by
 refine Spec.enter gTok P82 100 Tryz.func82 rfl (by kernel_rfl) ?_
 repeat' ((conv=>whnf); first | (refine (And.intro (fun _=>?_) (fun _=>?_) : (_ -> _) /\ (_ -> _)) <;> (first | (exfalso; first | contradiction | omega) | skip)) | refine Or.inl (And.intro (by first | exact inR_i64 (by omega) | exact inR_u32 (by omega) | exact inR_u64 (by omega) | exact inR_u8 (by omega)) ?_) | (refine And.intro (show (_ : Int) ≠ 0 by omega) (Or.inl (And.intro (show (0 : Int) <= _ by omega) (And.intro (show (0 : Int) < _ by omega) ?_)))) | (refine And.intro (show (_ : Int) ≠ 0 by omega) (Or.inl (And.intro (show (0 : Int) <= _ by omega) (And.intro (by first | exact (show (_ : Int) <= 9223372036854775807 by omega) | exact (show (_ : Int) <= 4294967295 by omega)) (And.intro (show (0 : Int) < _ by omega) ?_))))) | (refine Or.inl (Exists.intro 1 (And.intro rfl ?_))) | ((refine retE ?_; repeat' first|exact trivial|exact rfl|exact Iff.rfl|refine And.intro ?_ ?_)) | (refine And.intro (show (0 : Int) <= _ by omega) (And.intro (show _ < (_ : Int) by omega) ?_)) | (intro _))
set_option maxRecDepth 100000 in
theorem get_2 (i : IN) : PureF gT 82 [inP i,.int .i64 2] (.int .i64 (getV i 2)):=by
 refine Spec.enter gTok P82 100 Tryz.func82 rfl (by kernel_rfl) ?_
 repeat' ((conv=>whnf); first | (refine (And.intro (fun _=>?_) (fun _=>?_) : (_ -> _) /\ (_ -> _)) <;> (first | (exfalso; first | contradiction | omega) | skip)) | refine Or.inl (And.intro (by first | exact inR_i64 (by omega) | exact inR_u32 (by omega) | exact inR_u64 (by omega) | exact inR_u8 (by omega)) ?_) | (refine And.intro (show (_ : Int) ≠ 0 by omega) (Or.inl (And.intro (show (0 : Int) <= _ by omega) (And.intro (show (0 : Int) < _ by omega) ?_)))) | (refine And.intro (show (_ : Int) ≠ 0 by omega) (Or.inl (And.intro (show (0 : Int) <= _ by omega) (And.intro (by first | exact (show (_ : Int) <= 9223372036854775807 by omega) | exact (show (_ : Int) <= 4294967295 by omega)) (And.intro (show (0 : Int) < _ by omega) ?_))))) | (refine Or.inl (Exists.intro 2 (And.intro rfl ?_))) | ((refine retE ?_; repeat' first|exact trivial|exact rfl|exact Iff.rfl|refine And.intro ?_ ?_)) | (refine And.intro (show (0 : Int) <= _ by omega) (And.intro (show _ < (_ : Int) by omega) ?_)) | (intro _))
set_option maxRecDepth 100000 in
theorem get_3 (i : IN) : PureF gT 82 [inP i,.int .i64 3] (.int .i64 (getV i 3)):=by
 refine Spec.enter gTok P82 100 Tryz.func82 rfl (by kernel_rfl) ?_
 repeat' ((conv=>whnf); first | (refine (And.intro (fun _=>?_) (fun _=>?_) : (_ -> _) /\ (_ -> _)) <;> (first | (exfalso; first | contradiction | omega) | skip)) | refine Or.inl (And.intro (by first | exact inR_i64 (by omega) | exact inR_u32 (by omega) | exact inR_u64 (by omega) | exact inR_u8 (by omega)) ?_) | (refine And.intro (show (_ : Int) ≠ 0 by omega) (Or.inl (And.intro (show (0 : Int) <= _ by omega) (And.intro (show (0 : Int) < _ by omega) ?_)))) | (refine And.intro (show (_ : Int) ≠ 0 by omega) (Or.inl (And.intro (show (0 : Int) <= _ by omega) (And.intro (by first | exact (show (_ : Int) <= 9223372036854775807 by omega) | exact (show (_ : Int) <= 4294967295 by omega)) (And.intro (show (0 : Int) < _ by omega) ?_))))) | (refine Or.inl (Exists.intro 3 (And.intro rfl ?_))) | ((refine retE ?_; repeat' first|exact trivial|exact rfl|exact Iff.rfl|refine And.intro ?_ ?_)) | (refine And.intro (show (0 : Int) <= _ by omega) (And.intro (show _ < (_ : Int) by omega) ?_)) | (intro _))
set_option maxRecDepth 100000 in
theorem get_4 (i : IN) : PureF gT 82 [inP i,.int .i64 4] (.int .i64 (getV i 4)):=by
 refine Spec.enter gTok P82 100 Tryz.func82 rfl (by kernel_rfl) ?_
 repeat' ((conv=>whnf); first | (refine (And.intro (fun _=>?_) (fun _=>?_) : (_ -> _) /\ (_ -> _)) <;> (first | (exfalso; first | contradiction | omega) | skip)) | refine Or.inl (And.intro (by first | exact inR_i64 (by omega) | exact inR_u32 (by omega) | exact inR_u64 (by omega) | exact inR_u8 (by omega)) ?_) | (refine And.intro (show (_ : Int) ≠ 0 by omega) (Or.inl (And.intro (show (0 : Int) <= _ by omega) (And.intro (show (0 : Int) < _ by omega) ?_)))) | (refine And.intro (show (_ : Int) ≠ 0 by omega) (Or.inl (And.intro (show (0 : Int) <= _ by omega) (And.intro (by first | exact (show (_ : Int) <= 9223372036854775807 by omega) | exact (show (_ : Int) <= 4294967295 by omega)) (And.intro (show (0 : Int) < _ by omega) ?_))))) | (refine Or.inl (Exists.intro 4 (And.intro rfl ?_))) | ((refine retE ?_; repeat' first|exact trivial|exact rfl|exact Iff.rfl|refine And.intro ?_ ?_)) | (refine And.intro (show (0 : Int) <= _ by omega) (And.intro (show _ < (_ : Int) by omega) ?_)) | (intro _))
set_option maxRecDepth 100000 in
theorem get_5 (i : IN) : PureF gT 82 [inP i,.int .i64 5] (.int .i64 (getV i 5)):=by
 refine Spec.enter gTok P82 100 Tryz.func82 rfl (by kernel_rfl) ?_
 repeat' ((conv=>whnf); first | (refine (And.intro (fun _=>?_) (fun _=>?_) : (_ -> _) /\ (_ -> _)) <;> (first | (exfalso; first | contradiction | omega) | skip)) | refine Or.inl (And.intro (by first | exact inR_i64 (by omega) | exact inR_u32 (by omega) | exact inR_u64 (by omega) | exact inR_u8 (by omega)) ?_) | (refine And.intro (show (_ : Int) ≠ 0 by omega) (Or.inl (And.intro (show (0 : Int) <= _ by omega) (And.intro (show (0 : Int) < _ by omega) ?_)))) | (refine And.intro (show (_ : Int) ≠ 0 by omega) (Or.inl (And.intro (show (0 : Int) <= _ by omega) (And.intro (by first | exact (show (_ : Int) <= 9223372036854775807 by omega) | exact (show (_ : Int) <= 4294967295 by omega)) (And.intro (show (0 : Int) < _ by omega) ?_))))) | (refine Or.inl (Exists.intro 5 (And.intro rfl ?_))) | ((refine retE ?_; repeat' first|exact trivial|exact rfl|exact Iff.rfl|refine And.intro ?_ ?_)) | (refine And.intro (show (0 : Int) <= _ by omega) (And.intro (show _ < (_ : Int) by omega) ?_)) | (intro _))
set_option maxRecDepth 100000 in
theorem get_6 (i : IN) : PureF gT 82 [inP i,.int .i64 6] (.int .i64 (getV i 6)):=by
 refine Spec.enter gTok P82 100 Tryz.func82 rfl (by kernel_rfl) ?_
 repeat' ((conv=>whnf); first | (refine (And.intro (fun _=>?_) (fun _=>?_) : (_ -> _) /\ (_ -> _)) <;> (first | (exfalso; first | contradiction | omega) | skip)) | refine Or.inl (And.intro (by first | exact inR_i64 (by omega) | exact inR_u32 (by omega) | exact inR_u64 (by omega) | exact inR_u8 (by omega)) ?_) | (refine And.intro (show (_ : Int) ≠ 0 by omega) (Or.inl (And.intro (show (0 : Int) <= _ by omega) (And.intro (show (0 : Int) < _ by omega) ?_)))) | (refine And.intro (show (_ : Int) ≠ 0 by omega) (Or.inl (And.intro (show (0 : Int) <= _ by omega) (And.intro (by first | exact (show (_ : Int) <= 9223372036854775807 by omega) | exact (show (_ : Int) <= 4294967295 by omega)) (And.intro (show (0 : Int) < _ by omega) ?_))))) | (refine Or.inl (Exists.intro 6 (And.intro rfl ?_))) | ((refine retE ?_; repeat' first|exact trivial|exact rfl|exact Iff.rfl|refine And.intro ?_ ?_)) | (refine And.intro (show (0 : Int) <= _ by omega) (And.intro (show _ < (_ : Int) by omega) ?_)) | (intro _))
set_option maxRecDepth 100000 in
theorem get_7 (i : IN) : PureF gT 82 [inP i,.int .i64 7] (.int .i64 (getV i 7)):=by
 refine Spec.enter gTok P82 100 Tryz.func82 rfl (by kernel_rfl) ?_
 repeat' ((conv=>whnf); first | (refine (And.intro (fun _=>?_) (fun _=>?_) : (_ -> _) /\ (_ -> _)) <;> (first | (exfalso; first | contradiction | omega) | skip)) | refine Or.inl (And.intro (by first | exact inR_i64 (by omega) | exact inR_u32 (by omega) | exact inR_u64 (by omega) | exact inR_u8 (by omega)) ?_) | (refine And.intro (show (_ : Int) ≠ 0 by omega) (Or.inl (And.intro (show (0 : Int) <= _ by omega) (And.intro (show (0 : Int) < _ by omega) ?_)))) | (refine And.intro (show (_ : Int) ≠ 0 by omega) (Or.inl (And.intro (show (0 : Int) <= _ by omega) (And.intro (by first | exact (show (_ : Int) <= 9223372036854775807 by omega) | exact (show (_ : Int) <= 4294967295 by omega)) (And.intro (show (0 : Int) < _ by omega) ?_))))) | (refine Or.inl (Exists.intro 7 (And.intro rfl ?_))) | ((refine retE ?_; repeat' first|exact trivial|exact rfl|exact Iff.rfl|refine And.intro ?_ ?_)) | (refine And.intro (show (0 : Int) <= _ by omega) (And.intro (show _ < (_ : Int) by omega) ?_)) | (intro _))
set_option maxRecDepth 100000 in
theorem get_8 (i : IN) : PureF gT 82 [inP i,.int .i64 8] (.int .i64 (getV i 8)):=by
 refine Spec.enter gTok P82 100 Tryz.func82 rfl (by kernel_rfl) ?_
 repeat' ((conv=>whnf); first | (refine (And.intro (fun _=>?_) (fun _=>?_) : (_ -> _) /\ (_ -> _)) <;> (first | (exfalso; first | contradiction | omega) | skip)) | refine Or.inl (And.intro (by first | exact inR_i64 (by omega) | exact inR_u32 (by omega) | exact inR_u64 (by omega) | exact inR_u8 (by omega)) ?_) | (refine And.intro (show (_ : Int) ≠ 0 by omega) (Or.inl (And.intro (show (0 : Int) <= _ by omega) (And.intro (show (0 : Int) < _ by omega) ?_)))) | (refine And.intro (show (_ : Int) ≠ 0 by omega) (Or.inl (And.intro (show (0 : Int) <= _ by omega) (And.intro (by first | exact (show (_ : Int) <= 9223372036854775807 by omega) | exact (show (_ : Int) <= 4294967295 by omega)) (And.intro (show (0 : Int) < _ by omega) ?_))))) | (refine Or.inl (Exists.intro 8 (And.intro rfl ?_))) | ((refine retE ?_; repeat' first|exact trivial|exact rfl|exact Iff.rfl|refine And.intro ?_ ?_)) | (refine And.intro (show (0 : Int) <= _ by omega) (And.intro (show _ < (_ : Int) by omega) ?_)) | (intro _))
set_option maxRecDepth 100000 in
theorem get_9 (i : IN) : PureF gT 82 [inP i,.int .i64 9] (.int .i64 (getV i 9)):=by
 refine Spec.enter gTok P82 100 Tryz.func82 rfl (by kernel_rfl) ?_
 repeat' ((conv=>whnf); first | (refine (And.intro (fun _=>?_) (fun _=>?_) : (_ -> _) /\ (_ -> _)) <;> (first | (exfalso; first | contradiction | omega) | skip)) | refine Or.inl (And.intro (by first | exact inR_i64 (by omega) | exact inR_u32 (by omega) | exact inR_u64 (by omega) | exact inR_u8 (by omega)) ?_) | (refine And.intro (show (_ : Int) ≠ 0 by omega) (Or.inl (And.intro (show (0 : Int) <= _ by omega) (And.intro (show (0 : Int) < _ by omega) ?_)))) | (refine And.intro (show (_ : Int) ≠ 0 by omega) (Or.inl (And.intro (show (0 : Int) <= _ by omega) (And.intro (by first | exact (show (_ : Int) <= 9223372036854775807 by omega) | exact (show (_ : Int) <= 4294967295 by omega)) (And.intro (show (0 : Int) < _ by omega) ?_))))) | (refine Or.inl (Exists.intro 9 (And.intro rfl ?_))) | ((refine retE ?_; repeat' first|exact trivial|exact rfl|exact Iff.rfl|refine And.intro ?_ ?_)) | (refine And.intro (show (0 : Int) <= _ by omega) (And.intro (show _ < (_ : Int) by omega) ?_)) | (intro _))
theorem get_pure (i : IN) (f : Nat) (hf : f < 10) : PureF gT 82 [inP i,.int .i64 f] (.int .i64 (getV i f)):=by
 match f,hf with
 | 0,_=>exact get_0 i
 | 1,_=>exact get_1 i
 | 2,_=>exact get_2 i
 | 3,_=>exact get_3 i
 | 4,_=>exact get_4 i
 | 5,_=>exact get_5 i
 | 6,_=>exact get_6 i
 | 7,_=>exact get_7 i
 | 8,_=>exact get_8 i
 | 9,_=>exact get_9 i
 
end Go.Proofs.YtnbngokbamifbaaGreatDoor.Pw
namespace Go.Proofs.YtnbngokbamifbaaGreatDoor.Pw
open Go Go.RowKit
theorem mod_bit0 (x k : Nat) (h : x / 2 ^ k % 2 = 0) : x % 2 ^ (k + 1) = x % 2 ^ k:=by
 rw [Nat.mod_pow_succ,h]; omega
theorem mod_bit1 (x k : Nat) (h : x / 2 ^ k % 2 = 1) : x % 2 ^ (k + 1) = x % 2 ^ k + 2 ^ k:=by
 rw [Nat.mod_pow_succ,h]; omega
theorem or_low (a b k : Nat) (h : b < 2 ^ k) : 2 ^ k * a + b = 2 ^ k * a ||| b:=Nat.two_pow_add_eq_or_of_lt h a
theorem add_bit (x k : Nat) (h : x / 2 ^ k % 2 = 0) : x + 2 ^ k = x ||| 2 ^ k:=by
 have hx : x = 2 ^ (k + 1) * (x / 2 ^ (k + 1)) + x % 2 ^ k:=by
  rw [← mod_bit0 x k h]; exact (Nat.div_add_mod x _).symm
 obtain ⟨q,hq⟩ : ∃ q,q = x / 2 ^ (k + 1):=⟨_,rfl⟩
 obtain ⟨r,hr⟩ : ∃ r,r = x % 2 ^ k:=⟨_,rfl⟩
 have hr2 : r < 2 ^ k:=by rw [hr]; exact Nat.mod_lt _ (Nat.two_pow_pos k)
 rw [← hq,← hr] at hx
 have hp : 2 ^ (k + 1) = 2 ^ k * 2:=Nat.pow_succ ..
 have e1 : 2 ^ k + r = 2 ^ k ||| r:=by have:=or_low 1 r k hr2; rwa [Nat.mul_one] at this
 have e2 : 2 ^ (k + 1) * q + (2 ^ k + r) = 2 ^ (k + 1) * q ||| (2 ^ k + r):=or_low q _ _ (by omega)
 have e3 : 2 ^ (k + 1) * q + r = 2 ^ (k + 1) * q ||| r:=or_low q _ _ (by omega)
 have e0 : 2 ^ (k + 1) * q + r + 2 ^ k = 2 ^ (k + 1) * q + (2 ^ k + r):=by omega
 rw [hx,e0,e2,e1,e3]
 generalize 2 ^ (k + 1) * q = A
 rw [Nat.or_assoc,Nat.or_comm r]
theorem bit_of (x k : Nat) : x.testBit k = true ↔ x / 2 ^ k % 2 = 1:=by rw [Nat.testBit_eq_decide_div_mod_eq]; simp
theorem or_bit_set (x k : Nat) (h : x / 2 ^ k % 2 = 1) : x ||| 2 ^ k = x:=by
 apply Nat.eq_of_testBit_eq
 intro i
 rw [Nat.testBit_or,Nat.testBit_two_pow]
 by_cases hi : k = i
 ·subst hi; rw [(bit_of x k).2 h]; simp
 ·simp [hi]
def plus (w n at_ b : Nat) : Nat:=w ||| (n % 2 ^ b) <<< at_
theorem plus_zero (w n at_ : Nat) : plus w n at_ 0 = w:=by simp [plus,Nat.mod_one]
theorem plus_bit (w n at_ b : Nat) : (plus w n at_ b) / 2 ^ (at_ + b) % 2 = w / 2 ^ (at_ + b) % 2:=by
 have key : (plus w n at_ b).testBit (at_ + b) = w.testBit (at_ + b):=by
  unfold plus
  rw [Nat.testBit_or,Nat.testBit_shiftLeft]
  have : (n % 2 ^ b).testBit (at_ + b - at_) = false:=by
   rw [show at_ + b - at_ = b by omega]
   exact Nat.testBit_lt_two_pow (Nat.mod_lt _ (Nat.two_pow_pos b))
  rw [this]; simp
 rw [Nat.testBit_eq_decide_div_mod_eq,Nat.testBit_eq_decide_div_mod_eq] at key
 have h1:=Nat.mod_two_eq_zero_or_one (plus w n at_ b / 2 ^ (at_ + b))
 have h2:=Nat.mod_two_eq_zero_or_one (w / 2 ^ (at_ + b))
 have:=decide_eq_decide.1 key
 omega
theorem plus_step1 (w n at_ b : Nat) (hn : n / 2 ^ b % 2 = 1) : plus w n at_ (b + 1) = plus w n at_ b ||| 2 ^ (at_ + b):=by
 unfold plus
 rw [mod_bit1 n b hn,add_bit (n % 2 ^ b) b (by rw [Nat.div_eq_of_lt (Nat.mod_lt _ (Nat.two_pow_pos b))]),Nat.shiftLeft_or_distrib,← Nat.or_assoc]
 congr 1
 rw [Nat.shiftLeft_eq,Nat.pow_add,Nat.mul_comm]
theorem plus_step0 (w n at_ b : Nat) (hn : n / 2 ^ b % 2 = 0) : plus w n at_ (b + 1) = plus w n at_ b:=by
 unfold plus; rw [mod_bit0 n b hn]
theorem plus_add (w n at_ b : Nat) (hn : n / 2 ^ b % 2 = 1) (hw : w / 2 ^ (at_ + b) % 2 = 0) : plus w n at_ (b + 1) = plus w n at_ b + 2 ^ (at_ + b):=by
 rw [plus_step1 w n at_ b hn,add_bit _ _ (by rw [plus_bit]; exact hw)]
theorem plus_keep (w n at_ b : Nat) (hn : n / 2 ^ b % 2 = 1) (hw : w / 2 ^ (at_ + b) % 2 = 1) : plus w n at_ (b + 1) = plus w n at_ b:=by
 rw [plus_step1 w n at_ b hn,or_bit_set _ _ (by rw [plus_bit]; exact hw)]
end Go.Proofs.YtnbngokbamifbaaGreatDoor.Pw
namespace Go.Proofs.YtnbngokbamifbaaGreatDoor.Pw
open Go Go.RowKit
def fbL : List Int:=[0,2048,4096,6144,6656,7168,7680,8192,10240,12288,14336,16384,16448,16512,16576,16640,16704,16768,16832,16896,16960,17024,17088,17152,17216,17280,17344,17408,17664,17920,18176,18432,20480,22528,24576,26624,36864,38912,43008,45056,45184,46080,48128,48896,48640,53248,57344,4064280576,4072669184,4026531840,4028628992,4030726144,4032823296,4034920448,4043309056,4047503360,4049600512,4053794816,4055891968,4031709184,4033806336,4027584256,4035972864,4044361472,4054847232,3925868544,3927965696,3930062848,3932160000,3934257152,3942645760,3946840064,3948937216,3953131520,3955228672,3931045888,3933143040,3926920960,3935309568,3943698176,3954183936,4060086272,4070572032,4173332480,4174381056,4164943872,4165992448,4194365440,4196462592,4198559744,4200656896,4211142656,4211081216,4211081232,4221566976,4225761280,4222677232,4205899904,4026564608,4026568704]
def fbV (f : Int) : Int:=if 1 <= f /\ f <= 100 then fbL.getD (f - 1).toNat 0 else 0
theorem at_lit {k : IntKind} {l : List Int} {n : Nat} {c : PV} (hc : (l.map (PV.lit k))[n]? = some c) : c = .lit k (l.getD n 0):=by
 rw [List.getElem?_map,Option.map_eq_some_iff] at hc
 obtain ⟨z,hz,rfl⟩:=hc
 rw [List.getD_eq_getElem?_getD,hz]; rfl
theorem shL_drop (f : Int) (h : 1 <= f /\ f <= 100) : (shL.drop 1).getD (f - 1).toNat 0 = shapeV f:=by
 unfold shapeV
 rw [if_pos h,List.getD_eq_getElem?_getD,List.getD_eq_getElem?_getD,List.getElem?_drop,show 1 + (f - 1).toNat = f.toNat by omega]
set_option maxHeartbeats 4000000 in
set_option maxRecDepth 100000 in
theorem rshape_pure' (f : Int) (hf : I64 f) : PureF gT 59 [.int .i64 f] (.int .i64 (shapeV f)):=by
 unfold I64 at hf
 refine Spec.enter gTok P59 100 Tryz.func59 rfl (by kernel_rfl) ?_
 refine And.intro (fun h=>?_) (fun h=>?_)
 ·exact retE (show (0 : Int) = shapeV f by unfold shapeV; rw [if_neg (by omega)])
 refine And.intro (fun h2=>?_) (fun h2=>?_)
 ·exact retE (show (0 : Int) = shapeV f by unfold shapeV; rw [if_neg (by omega)])
 have hF : 1 <= f /\ f <= 100:=by omega
 refine .inl ⟨inR_i64 (by omega),?_⟩
 refine ⟨by omega,show f - 1 < 100 by omega,.inr ⟨rfl,by omega,show 0 + (f - 1).toNat * 1 < 100 by omega,fun c hc=>?_⟩⟩
 have hc' : ((shL.drop 1).map (PV.lit .i64))[(f - 1).toNat]? = some c:=by
  have e : 0 + (f - 1).toNat * 1 = (f - 1).toNat:=by omega
  have h0 : ((shL.drop 1).map (PV.lit .i64))[0 + (f - 1).toNat * 1]? = some c:=hc
  rwa [e] at h0
 obtain rfl:=at_lit hc'
 exact retE (show (shL.drop 1).getD (f - 1).toNat 0 = shapeV f from shL_drop f hF)
set_option maxHeartbeats 4000000 in
set_option maxRecDepth 100000 in
theorem rbits_pure (f : Int) (hf : I64 f) : PureF gT 80 [.int .i64 f] (.int .u32 (fbV f)):=by
 unfold I64 at hf
 refine Spec.enter gTok P80 100 Tryz.func80 rfl (by kernel_rfl) ?_
 refine And.intro (fun h=>?_) (fun h=>?_)
 ·exact retE (show (0 : Int) = fbV f by unfold fbV; rw [if_neg (by omega)])
 refine And.intro (fun h2=>?_) (fun h2=>?_)
 ·exact retE (show (0 : Int) = fbV f by unfold fbV; rw [if_neg (by omega)])
 have hF : 1 <= f /\ f <= 100:=by omega
 refine .inl ⟨inR_i64 (by omega),?_⟩
 refine ⟨by omega,show f - 1 < 100 by omega,.inr ⟨rfl,by omega,show 0 + (f - 1).toNat * 1 < 100 by omega,fun c hc=>?_⟩⟩
 have hc' : (fbL.map (PV.lit .u32))[(f - 1).toNat]? = some c:=by
  have e : 0 + (f - 1).toNat * 1 = (f - 1).toNat:=by omega
  have h0 : (fbL.map (PV.lit .u32))[0 + (f - 1).toNat * 1]? = some c:=hc
  rwa [e] at h0
 obtain rfl:=at_lit hc'
 exact retE (show fbL.getD (f - 1).toNat 0 = fbV f by unfold fbV; rw [if_pos hF])
end Go.Proofs.YtnbngokbamifbaaGreatDoor.Pw
namespace Go.Proofs.YtnbngokbamifbaaGreatDoor.Pw
open Go Go.RowKit
set_option maxHeartbeats 4000000 in
set_option maxRecDepth 100000 in
theorem bitsOf_pure (f : Int) (hF : 1 <= f /\ f <= 100) : PureF gT 166 [.int .i64 f] (.int .u32 (fbV f)):=by
 refine Spec.enter gTok P166 100 Tryz.func166 rfl (by kernel_rfl) ?_
 refine ⟨by omega,show f < 101 by omega,.inr ⟨rfl,by omega,show 0 + f.toNat * 1 < 101 by omega,fun c hc=>?_⟩⟩
 have hc' : ((0 :: fbL).map (PV.lit .u32))[f.toNat]? = some c:=by
  have e : 0 + f.toNat * 1 = f.toNat:=by omega
  have h0 : ((0 :: fbL).map (PV.lit .u32))[0 + f.toNat * 1]? = some c:=hc
  rwa [e] at h0
 obtain rfl:=at_lit hc'
 refine retE (show (0 :: fbL).getD f.toNat 0 = fbV f from ?_)
 unfold fbV
 rw [if_pos hF,show f.toNat = (f - 1).toNat + 1 by omega]
 rfl
theorem formBits_pure (f : Int) : PureF gT 120 [.int .i64 f] (.int .u32 (fbV f)):=by
 refine Spec.enter gTok P120 100 Tryz.func120 rfl (by kernel_rfl) ?_
 refine ⟨[],no_rl,(form_is f).use (by repeat' first|exact trivial|exact rfl|exact Iff.rfl|refine And.intro ?_ ?_) rfl rfl ?_⟩
 refine And.intro (fun h=>?_) (fun h=>?_)
 ·exact retE (show (0 : Int) = fbV f by unfold fbV; rw [if_neg h])
 refine ⟨[],no_rl,(bitsOf_pure f (Classical.not_not.1 h)).use (by repeat' first|exact trivial|exact rfl|exact Iff.rfl|refine And.intro ?_ ?_) rfl rfl ?_⟩
 exact retE rfl
end Go.Proofs.YtnbngokbamifbaaGreatDoor.Pw
namespace Go.Proofs.YtnbngokbamifbaaGreatDoor.Pw
open Go Go.RowKit
def fdOk (x : Nat × Nat × Nat × Nat) : Prop:=x.1 < 10 /\ x.2.1 <= 40 /\ 1 <= x.2.2.2 /\ x.2.2.1 + x.2.2.2 <= 32
theorem fields_none (s : Int) (h : s < 1 \/ 34 < s) : fieldsV s = []:=by
 unfold fieldsV
 repeat rw [if_neg (by omega)]
def fdB (l : List (Nat × Nat × Nat × Nat)) : Bool:=l.all (fun x=>decide (x.1 < 10 /\ x.2.1 <= 40 /\ 1 <= x.2.2.2 /\ x.2.2.1 + x.2.2.2 <= 32)) && decide (l.length <= 7)
theorem fields_tab : ∀ k : Fin 35,fdB (fieldsV ((k.1 : Nat) : Int)) = true:=by decide
theorem fields_fd (s : Int) : fdB (fieldsV s) = true:=by
 by_cases h : s < 1 \/ 34 < s
 ·rw [fields_none s h]; rfl
 ·have h1:=fields_tab ⟨s.toNat,by omega⟩
  rwa [show (((⟨s.toNat,by omega⟩ : Fin 35).1 : Nat) : Int) = s by simp only []; omega] at h1
theorem fields_all (s : Int) : (fieldsV s).all (fun x=>decide (x.1 < 10 /\ x.2.1 <= 40 /\ 1 <= x.2.2.2 /\ x.2.2.1 + x.2.2.2 <= 32)) = true :=
 ((Bool.and_eq_true ..).mp (fields_fd s)).1
theorem fields_ok (s : Int) : ∀ x ∈ fieldsV s,fdOk x:=fun x hx=>by
 have:=List.all_eq_true.1 (fields_all s) x hx
 exact (of_decide_eq_true (p:=x.1 < 10 /\ x.2.1 <= 40 /\ 1 <= x.2.2.2 /\ x.2.2.1 + x.2.2.2 <= 32) this)
theorem fields_len (s : Int) : (fieldsV s).length <= 7 :=
 of_decide_eq_true ((Bool.and_eq_true ..).mp (fields_fd s)).2
def putF (i : IN) (w : Nat) (x : Nat × Nat × Nat × Nat) : Nat:=plus w (bitsV (getV i x.1) x.2.1 x.2.2.2).toNat x.2.2.1 x.2.2.2
def wordF (i : IN) (l : List (Nat × Nat × Nat × Nat)) : Nat:=l.foldl (putF i) (fbV i.form).toNat
theorem plus_lt (w n a b : Nat) (hw : w < 2 ^ 32) (h : a + b <= 32) : plus w n a b < 2 ^ 32:=by
 unfold plus
 refine Nat.or_lt_two_pow hw ?_
 rw [Nat.shiftLeft_eq]
 have h1 : n % 2 ^ b < 2 ^ b:=Nat.mod_lt _ (Nat.two_pow_pos b)
 calc n % 2 ^ b * 2 ^ a < 2 ^ b * 2 ^ a:=Nat.mul_lt_mul_of_pos_right h1 (Nat.two_pow_pos a)
  _ = 2 ^ (b + a):=(Nat.pow_add ..).symm
  _ <= 2 ^ 32:=Nat.pow_le_pow_right (by omega) (by omega)
theorem bitsV_bd (n : Int) (l w : Nat) : 0 <= bitsV n l w /\ bitsV n l w < 2 ^ w:=by
 have hp : (0 : Int) < 2 ^ w:=by have:=pow_cast w; have:=Nat.two_pow_pos w; omega
 exact ⟨Int.emod_nonneg _ (by omega),Int.emod_lt_of_pos _ hp⟩
theorem bitsV_nat (n l w : Nat) : bitsV n l w = ((n / 2 ^ l % 2 ^ w : Nat) : Int):=by
 unfold bitsV
 rw [if_neg (by omega),← pow_cast,← pow_cast]
 norm_cast
end Go.Proofs.YtnbngokbamifbaaGreatDoor.Pw
namespace Go.Proofs.YtnbngokbamifbaaGreatDoor.Pw
open Go Go.RowKit
def turn1 (s n : Int) (k : Nat) : Int:=n + ((if bitsV n k 1 = s then 1 else 0) - bitsV n k 1) * 2 ^ k
def turnN (n : Int) : Nat -> Int
 | 0=>n
 | k + 1=>turn1 (bitsV n 24 1) (turnN n k) (22 + k)
theorem bit_bd (n : Int) (k : Nat) : bitsV n k 1 = 0 \/ bitsV n k 1 = 1:=by
 have:=bitsV_bd n k 1
 have e : (2 : Int) ^ 1 = 2:=rfl
 omega
theorem turn1_bd (s n : Int) (k : Nat) (hk : k = 22 \/ k = 23) : n - 8388608 <= turn1 s n k /\ turn1 s n k <= n + 8388608:=by
 have hb:=bit_bd n k
 have p : (2 : Int) ^ 22 = 4194304:=by decide
 have q : (2 : Int) ^ 23 = 8388608:=by decide
 unfold turn1
 rcases hk with rfl | rfl <;> rcases hb with h | h <;> rw [h] <;> split <;> omega
theorem turnN_bd (n : Int) (k : Nat) (hk : k <= 2) : n - 16777216 <= turnN n k /\ turnN n k <= n + 16777216:=by
 have h0:=turn1_bd (bitsV n 24 1) (turnN n 0) 22 (.inl rfl)
 have h1:=turn1_bd (bitsV n 24 1) (turnN n 1) 23 (.inr rfl)
 have e0 : turnN n 0 = n:=rfl
 have e1 : turnN n 1 = turn1 (bitsV n 24 1) (turnN n 0) 22:=rfl
 have e2 : turnN n 2 = turn1 (bitsV n 24 1) (turnN n 1) 23:=rfl
 match k,hk with
 | 0,_=>omega
 | 1,_=>omega
 | 2,_=>omega
set_option maxRecDepth 100000 in
theorem turn_pure (n : Int) (hn : 0 <= n /\ n <= 1099511627776) : PureF gT 79 [.int .i64 n] (.int .i64 (turnN n 2)):=by
 refine Spec.enter gTok P79 100 Tryz.func79 rfl (by kernel_rfl) ?_
 refine ⟨[],no_rl,(bits_pure n 24 1 (by omega) (by omega) (by omega)).use (by repeat' first|exact trivial|exact rfl|exact Iff.rfl|refine And.intro ?_ ?_) rfl rfl ?_⟩
 refine SW.loopS gTok P79 (by kernel_rfl) (α:={i : Nat // i <= 2}) (fun i=>[(4,.int .i64 (22 + i.1 : Nat)),(0,.int .i64 (turnN n i.1))]) (fun i=>2 - i.1) ⟨0,by omega⟩ 60 ?_ ?_
 ·repeat' first | exact Iff.rfl | exact trivial | exact rfl | refine And.intro ?_ ?_
 rintro ⟨i,hi⟩
 refine And.intro (fun h=>?_) (fun h=>?_)
 ·have h' : ((22 + i : Nat) : Int) <= 23:=h
  have hb:=turnN_bd n i hi
  have hc:=turnN_bd n (i + 1) (by omega)
  have hp : (2 : Int) ^ (22 + i) <= 8388608:=by
   have : i = 0 \/ i = 1:=by omega
   rcases this with rfl | rfl <;> decide
  have hp0 : (0 : Int) < 2 ^ (22 + i):=by have:=pow_bd62 (22 + i) (by omega); omega
  have hbit:=bit_bd (turnN n i) (22 + i)
  refine ⟨[],no_rl,(bits_pure (turnN n i) (22 + i) 1 (by omega) (by omega) (by omega)).use (by repeat' first|exact trivial|exact rfl|exact Iff.rfl|refine And.intro ?_ ?_) rfl rfl ?_⟩
  refine And.intro (fun h2=>?_) (fun h2=>?_)
  ·have h2' : bitsV (turnN n i) (22 + i) 1 = bitsV n 24 1:=h2
   have e : turnN n (i + 1) = turnN n i + (1 - bitsV (turnN n i) (22 + i) 1) * 2 ^ (22 + i):=by
    show turn1 _ _ _ = _
    unfold turn1; rw [if_pos h2']
   refine .inl ⟨inR_i64 (show _ <= (1 : Int) - bitsV (turnN n i) (22 + i) 1 /\ (1 : Int) - bitsV (turnN n i) (22 + i) 1 <= _ by omega),?_⟩
   refine ⟨[],no_rl,(power_pure (22 + i) (by omega)).use (by repeat' first|exact trivial|exact rfl|exact Iff.rfl|refine And.intro ?_ ?_) rfl rfl ?_⟩
   have hm : -8388608 <= ((1 : Int) - bitsV (turnN n i) (22 + i) 1) * 2 ^ (22 + i) /\ ((1 : Int) - bitsV (turnN n i) (22 + i) 1) * 2 ^ (22 + i) <= 8388608:=by
    rcases hbit with h | h <;> rw [h] <;> omega
   refine .inl ⟨inR_i64 (show _ <= ((1 : Int) - bitsV (turnN n i) (22 + i) 1) * 2 ^ (22 + i) /\ _ <= _ by omega),?_⟩
   refine .inl ⟨inR_i64 (show _ <= turnN n i + ((1 : Int) - bitsV (turnN n i) (22 + i) 1) * 2 ^ (22 + i) /\ turnN n i + ((1 : Int) - bitsV (turnN n i) (22 + i) 1) * 2 ^ (22 + i) <= _ by omega),?_⟩
   refine .inl ⟨inR_i64 (show _ <= ((22 + i : Nat) : Int) + 1 /\ ((22 + i : Nat) : Int) + 1 <= _ by omega),⟨⟨i + 1,by omega⟩,show 2 - (i + 1) < 2 - i by omega,?_⟩⟩
   repeat' first | exact Iff.rfl | exact trivial | exact rfl | exact e.symm | exact congrArg (PV.int .i64) e.symm | refine And.intro ?_ ?_
  ·have h2' : ¬ bitsV (turnN n i) (22 + i) 1 = bitsV n 24 1:=h2
   have e : turnN n (i + 1) = turnN n i + (0 - bitsV (turnN n i) (22 + i) 1) * 2 ^ (22 + i):=by
    show turn1 _ _ _ = _
    unfold turn1; rw [if_neg h2']
   refine .inl ⟨inR_i64 (show _ <= (0 : Int) - bitsV (turnN n i) (22 + i) 1 /\ (0 : Int) - bitsV (turnN n i) (22 + i) 1 <= _ by omega),?_⟩
   refine ⟨[],no_rl,(power_pure (22 + i) (by omega)).use (by repeat' first|exact trivial|exact rfl|exact Iff.rfl|refine And.intro ?_ ?_) rfl rfl ?_⟩
   have hm : -8388608 <= ((0 : Int) - bitsV (turnN n i) (22 + i) 1) * 2 ^ (22 + i) /\ ((0 : Int) - bitsV (turnN n i) (22 + i) 1) * 2 ^ (22 + i) <= 8388608:=by
    rcases hbit with h | h <;> rw [h] <;> omega
   refine .inl ⟨inR_i64 (show _ <= ((0 : Int) - bitsV (turnN n i) (22 + i) 1) * 2 ^ (22 + i) /\ _ <= _ by omega),?_⟩
   refine .inl ⟨inR_i64 (show _ <= turnN n i + ((0 : Int) - bitsV (turnN n i) (22 + i) 1) * 2 ^ (22 + i) /\ turnN n i + ((0 : Int) - bitsV (turnN n i) (22 + i) 1) * 2 ^ (22 + i) <= _ by omega),?_⟩
   refine .inl ⟨inR_i64 (show _ <= ((22 + i : Nat) : Int) + 1 /\ ((22 + i : Nat) : Int) + 1 <= _ by omega),⟨⟨i + 1,by omega⟩,show 2 - (i + 1) < 2 - i by omega,?_⟩⟩
   repeat' first | exact Iff.rfl | exact trivial | exact rfl | exact e.symm | exact congrArg (PV.int .i64) e.symm | refine And.intro ?_ ?_
 ·have h' : ¬ ((22 + i : Nat) : Int) <= 23:=h
  refine retE ?_
  exact (show turnN n i = turnN n 2 by rw [show i = 2 by omega])
end Go.Proofs.YtnbngokbamifbaaGreatDoor.Pw
namespace Go.Proofs.YtnbngokbamifbaaGreatDoor.Pw
open Go Go.RowKit
def leastV (n : Int) (w : Nat) : Int:=if bitsV n (w - 1) 1 = 1 then n - 2 ^ w else n
end Go.Proofs.YtnbngokbamifbaaGreatDoor.Pw
namespace Go.Proofs.YtnbngokbamifbaaGreatDoor.Pw
open Go Go.RowKit
def WB (i : IN) : Prop:=∀ f,f < 10 -> -1099511627776 <= getV i f /\ getV i f <= 9223372036854775807
def turnI (i : IN) : IN:=if shapeV i.form = 34 then {i with imm:=turnN (bitsV i.imm 0 25) 2} else i
def wordV (i : IN) : Int:=((wordF (turnI i) (fieldsV (shapeV i.form)) : Nat) : Int)
theorem imm_bd (i : IN) : 0 <= bitsV i.imm 0 25 /\ bitsV i.imm 0 25 <= 1099511627776:=by
 have:=bitsV_bd i.imm 0 25
 have : (2 : Int) ^ 25 = 33554432:=by decide
 omega
theorem fb_all : fbL.all (fun z=>decide (0 <= z /\ z < 4294967296)) = true:=by decide
theorem fb_bd (f : Int) : 0 <= fbV f /\ fbV f < 4294967296:=by
 unfold fbV
 split
 ·rw [List.getD_eq_getElem?_getD]
  cases h : fbL[(f - 1).toNat]? with
  | none=>exact ⟨Int.le_refl 0,by decide⟩
  | some z=>exact of_decide_eq_true (List.all_eq_true.1 fb_all z (List.mem_of_getElem? h))
 ·omega
theorem WB_turn (i : IN) (hb : WB i) : WB {i with imm:=turnN (bitsV i.imm 0 25) 2}:=by
 intro f hf
 have h:=hb f hf
 have h1:=imm_bd i
 have h2:=turnN_bd (bitsV i.imm 0 25) 2 (by omega)
 match f,hf with
 | 4,_=>show _ <= turnN (bitsV i.imm 0 25) 2 /\ turnN (bitsV i.imm 0 25) 2 <= _; omega
 | 0,_ | 1,_ | 2,_ | 3,_ | 5,_ | 6,_ | 7,_ | 8,_ | 9,_=>exact h
theorem foldl_lt (i : IN) (l : List (Nat × Nat × Nat × Nat)) (h : ∀ y ∈ l,fdOk y) : ∀ w,w < 2 ^ 32 -> l.foldl (putF i) w < 2 ^ 32:=by
 induction l with
 | nil=>exact fun w hw=>hw
 | cons y l ih=>exact fun w hw=>ih (fun z hz=>h z (List.mem_cons_of_mem _ hz)) _ (plus_lt w _ _ _ hw (h y List.mem_cons_self).2.2.2)
theorem wordF_lt (i : IN) (l : List (Nat × Nat × Nat × Nat)) (h : ∀ y ∈ l,fdOk y) : wordF i l < 2 ^ 32 :=
 foldl_lt i l h _ (by have:=fb_bd i.form; omega)
theorem bit_nat (V : Int) (hV : 0 <= V) (b : Nat) : bitsV V b 1 = ((V.toNat / 2 ^ b % 2 : Nat) : Int):=by
 have h:=bitsV_nat V.toNat b 1
 rwa [Int.toNat_of_nonneg hV] at h
theorem bit_in (W a w b : Nat) (h : b < w) : bitsV (bitsV (W : Int) a w) b 1 = ((W / 2 ^ (a + b) % 2 : Nat) : Int):=by
 rw [bitsV_nat,bitsV_nat,Nat.pow_add,← Nat.div_div_eq_div_mul]
 congr 1
 generalize W / 2 ^ a = Y
 have k1 : (Y % 2 ^ w).testBit b = Y.testBit b:=by rw [Nat.testBit_mod_two_pow]; simp [h]
 rw [Nat.testBit_eq_decide_div_mod_eq,Nat.testBit_eq_decide_div_mod_eq] at k1
 have:=decide_eq_decide.1 k1
 have h1:=Nat.mod_two_eq_zero_or_one (Y % 2 ^ w / 2 ^ b)
 have h2:=Nat.mod_two_eq_zero_or_one (Y / 2 ^ b)
 omega
theorem take_succ_some {α : Type} {l : List α} {k : Nat} {x : α} (h : l[k]? = some x) : l.take (k + 1) = l.take k ++ [x]:=by
 rw [List.take_add_one,h]; rfl
set_option maxHeartbeats 4000000 in
set_option maxRecDepth 100000 in
theorem word_pure (i : IN) (hf : I64 i.form) (hb : WB i) : PureF gT 46 [inP i] (.int .u32 (wordV i)):=by
 refine Spec.enter gTok P46 100 Tryz.func46 rfl (by kernel_rfl) ?_
 refine ⟨[],no_rl,(rshape_pure' i.form hf).use (by repeat' first|exact trivial|exact rfl|exact Iff.rfl|refine And.intro ?_ ?_) rfl rfl ?_⟩
 refine And.intro (fun h=>?_) (fun h=>?_)
 ·refine ⟨[],no_rl,(bits_pure i.imm 0 25 (hb 4 (by omega)) (by omega) (by omega)).use (by repeat' first|exact trivial|exact rfl|exact Iff.rfl|refine And.intro ?_ ?_) rfl rfl ?_⟩
  refine ⟨[],no_rl,(turn_pure (bitsV i.imm 0 25) (imm_bd i)).use (by repeat' first|exact trivial|exact rfl|exact Iff.rfl|refine And.intro ?_ ?_) rfl rfl ?_⟩
  refine ⟨[],no_rl,(rbits_pure i.form hf).use (by repeat' first|exact trivial|exact rfl|exact Iff.rfl|refine And.intro ?_ ?_) rfl rfl ?_⟩
  refine .inl ⟨inR_i64 (show _ <= fbV i.form /\ fbV i.form <= _ by have:=fb_bd i.form; omega),?_⟩
  refine ⟨[],no_rl,(fields_pure (shapeV i.form)).use (by repeat' first|exact trivial|exact rfl|exact Iff.rfl|refine And.intro ?_ ?_) rfl rfl ?_⟩
  refine SW.loopS gTok P46 (by kernel_rfl) (α:={k : Nat // k <= (fieldsV (shapeV i.form)).length}) (fun k=>[(6,.int .i64 k.1),(4,.int .i64 (wordF {i with imm:=turnN (bitsV i.imm 0 25) 2} ((fieldsV (shapeV i.form)).take k.1) : Nat))]) (fun k=>(fieldsV (shapeV i.form)).length - k.1) ⟨0,Nat.zero_le _⟩ 60 ?_ ?_
  ·(repeat' first | exact Iff.rfl | exact trivial | exact rfl | refine And.intro ?_ ?_)
   exact (show fbV i.form = ((wordF {i with imm:=turnN (bitsV i.imm 0 25) 2} ((fieldsV (shapeV i.form)).take 0) : Nat) : Int) from (Int.toNat_of_nonneg (fb_bd i.form).1).symm)
  rintro ⟨k,hk⟩
  refine fun hl=>And.intro (fun h2=>?_) (fun h2=>?_)
  ·have h2a : (k : Int) < (((fieldsV (shapeV i.form)).map fdP).length : Nat):=h2
   rw [List.length_map] at h2a
   have h2' : k < (fieldsV (shapeV i.form)).length:=Int.ofNat_lt.1 h2a
   obtain ⟨x,hx⟩ : ∃ x,(fieldsV (shapeV i.form))[k]? = some x:=⟨_,List.getElem?_eq_getElem h2'⟩
   obtain ⟨x1,x2,x3,x4⟩:=fields_ok _ x (List.mem_of_getElem? hx)
   have hg : WB {i with imm:=turnN (bitsV i.imm 0 25) 2}:=WB_turn i hb
   repeat (refine ⟨_,fieldsV (shapeV i.form),fdP,rfl,show (0 : Int) <= (k : Int) by omega,h2a,fun x' hx'=>?_⟩; obtain rfl : x = x':=Option.some.inj (hx.symm.trans hx'))
   refine ⟨[],no_rl,(get_pure {i with imm:=turnN (bitsV i.imm 0 25) 2} x.1 x1).use (by repeat' first|exact trivial|exact rfl|exact Iff.rfl|refine And.intro ?_ ?_) rfl rfl ?_⟩
   repeat (refine ⟨_,fieldsV (shapeV i.form),fdP,rfl,show (0 : Int) <= (k : Int) by omega,h2a,fun x' hx'=>?_⟩; obtain rfl : x = x':=Option.some.inj (hx.symm.trans hx'))
   refine ⟨[],no_rl,(bits_pure (getV {i with imm:=turnN (bitsV i.imm 0 25) 2} x.1) x.2.1 x.2.2.2 (hg x.1 x1) (by omega) (by omega)).use (by repeat' first|exact trivial|exact rfl|exact Iff.rfl|refine And.intro ?_ ?_) rfl rfl ?_⟩
   obtain ⟨W,hW⟩ : ∃ W,W = wordF {i with imm:=turnN (bitsV i.imm 0 25) 2} ((fieldsV (shapeV i.form)).take k):=⟨_,rfl⟩
   have hWb : W < 2 ^ 32:=by rw [hW]; exact wordF_lt _ _ (fun y hy=>fields_ok _ y (List.mem_of_mem_take hy))
   repeat (refine ⟨_,fieldsV (shapeV i.form),fdP,rfl,show (0 : Int) <= (k : Int) by omega,h2a,fun x' hx'=>?_⟩; obtain rfl : x = x':=Option.some.inj (hx.symm.trans hx'))
   refine ⟨[],no_rl,(bits_pure ((wordF {i with imm:=turnN (bitsV i.imm 0 25) 2} ((fieldsV (shapeV i.form)).take k) : Nat) : Int) x.2.2.1 x.2.2.2 (by rw [← hW]; omega) (by omega) (by omega)).use (by repeat' first|exact trivial|exact rfl|exact Iff.rfl|refine And.intro ?_ ?_) rfl rfl ?_⟩
   refine SW.loopS gTok P46 (by kernel_rfl) (α:={b : Nat // b <= x.2.2.2}) (fun b=>[(9,.int .i64 b.1),(4,.int .i64 (plus W (bitsV (getV {i with imm:=turnN (bitsV i.imm 0 25) 2} x.1) x.2.1 x.2.2.2).toNat x.2.2.1 b.1 : Nat))]) (fun b=>x.2.2.2 - b.1) ⟨0,Nat.zero_le _⟩ 60 ?_ ?_
   ·(repeat' first | exact Iff.rfl | exact trivial | exact rfl | refine And.intro ?_ ?_)
    exact (show ((wordF {i with imm:=turnN (bitsV i.imm 0 25) 2} ((fieldsV (shapeV i.form)).take k) : Nat) : Int) = ((plus W (bitsV (getV {i with imm:=turnN (bitsV i.imm 0 25) 2} x.1) x.2.1 x.2.2.2).toNat x.2.2.1 0 : Nat) : Int) by rw [plus_zero,hW])
   rintro ⟨b,hb2⟩
   repeat (refine ⟨_,fieldsV (shapeV i.form),fdP,rfl,show (0 : Int) <= (k : Int) by omega,h2a,fun x' hx'=>?_⟩; obtain rfl : x = x':=Option.some.inj (hx.symm.trans hx'))
   have hw:=bitsV_bd ((wordF {i with imm:=turnN (bitsV i.imm 0 25) 2} ((fieldsV (shapeV i.form)).take k) : Nat) : Int) x.2.2.1 x.2.2.2
   have hv:=bitsV_bd (getV {i with imm:=turnN (bitsV i.imm 0 25) 2} x.1) x.2.1 x.2.2.2
   have hv32 : (2 : Int) ^ x.2.2.2 <= 4294967296:=by
    have h1 : (2 ^ x.2.2.2 : Nat) <= 2 ^ 32:=Nat.pow_le_pow_right (by omega) (by omega)
    have h3:=pow_cast x.2.2.2
    omega
   refine And.intro (fun h3=>?_) (fun h3=>?_)
   ·have h3a : b < x.2.2.2:=Int.ofNat_lt.1 h3
    refine ⟨[],no_rl,(bits_pure (bitsV (getV {i with imm:=turnN (bitsV i.imm 0 25) 2} x.1) x.2.1 x.2.2.2) b 1 (by omega) (by omega) (by omega)).use (by repeat' first|exact trivial|exact rfl|exact Iff.rfl|refine And.intro ?_ ?_) rfl rfl ?_⟩
    have hpl:=plus_lt W (bitsV (getV {i with imm:=turnN (bitsV i.imm 0 25) 2} x.1) x.2.1 x.2.2.2).toNat x.2.2.1 b hWb (by omega)
    refine And.intro (fun h4=>?_) (fun h4=>?_)
    ·refine ⟨[],no_rl,(bits_pure (bitsV ((wordF {i with imm:=turnN (bitsV i.imm 0 25) 2} ((fieldsV (shapeV i.form)).take k) : Nat) : Int) x.2.2.1 x.2.2.2) b 1 (by omega) (by omega) (by omega)).use (by repeat' first|exact trivial|exact rfl|exact Iff.rfl|refine And.intro ?_ ?_) rfl rfl ?_⟩
     have h4a : (bitsV (getV {i with imm:=turnN (bitsV i.imm 0 25) 2} x.1) x.2.1 x.2.2.2).toNat / 2 ^ b % 2 = 1:=by
      have h4' : bitsV (bitsV (getV {i with imm:=turnN (bitsV i.imm 0 25) 2} x.1) x.2.1 x.2.2.2) b 1 = 1:=h4
      have:=bit_nat (bitsV (getV {i with imm:=turnN (bitsV i.imm 0 25) 2} x.1) x.2.1 x.2.2.2) hv.1 b
      omega
     refine And.intro (fun h5=>?_) (fun h5=>?_)
     ·have h5a : W / 2 ^ (x.2.2.1 + b) % 2 = 0:=by
       have:=(bit_in W x.2.2.1 x.2.2.2 b h3a).symm.trans (hW ▸ h5)
       omega
      have e:=plus_add W (bitsV (getV {i with imm:=turnN (bitsV i.imm 0 25) 2} x.1) x.2.1 x.2.2.2).toNat x.2.2.1 b h4a h5a
      have pe:=pow_cast (x.2.2.1 + b)
      have pb:=pow_bd62 (x.2.2.1 + b) (by omega)
      repeat (refine ⟨_,fieldsV (shapeV i.form),fdP,rfl,show (0 : Int) <= (k : Int) by omega,h2a,fun x' hx'=>?_⟩; obtain rfl : x = x':=Option.some.inj (hx.symm.trans hx'))
      refine .inl ⟨inR_i64 (show _ <= (x.2.2.1 : Int) + (b : Int) /\ (x.2.2.1 : Int) + (b : Int) <= _ by omega),?_⟩
      refine ⟨[],no_rl,(power_pure (x.2.2.1 + b) (by omega)).use (by repeat' first|exact trivial|exact rfl|exact Iff.rfl|refine And.intro ?_ ?_) rfl rfl ?_⟩
      refine .inl ⟨inR_i64 (show _ <= ((plus W (bitsV (getV {i with imm:=turnN (bitsV i.imm 0 25) 2} x.1) x.2.1 x.2.2.2).toNat x.2.2.1 b : Nat) : Int) + 2 ^ (x.2.2.1 + b) /\ ((plus W (bitsV (getV {i with imm:=turnN (bitsV i.imm 0 25) 2} x.1) x.2.1 x.2.2.2).toNat x.2.2.1 b : Nat) : Int) + 2 ^ (x.2.2.1 + b) <= _ by omega),?_⟩
      refine .inl ⟨inR_i64 (show _ <= (b : Int) + 1 /\ (b : Int) + 1 <= _ by omega),⟨⟨b + 1,h3a⟩,show x.2.2.2 - (b + 1) < x.2.2.2 - b by omega,?_⟩⟩
      (repeat' first | exact Iff.rfl | exact trivial | exact rfl | refine And.intro ?_ ?_)
      exact (show ((plus W (bitsV (getV {i with imm:=turnN (bitsV i.imm 0 25) 2} x.1) x.2.1 x.2.2.2).toNat x.2.2.1 b : Nat) : Int) + 2 ^ (x.2.2.1 + b) = ((plus W (bitsV (getV {i with imm:=turnN (bitsV i.imm 0 25) 2} x.1) x.2.1 x.2.2.2).toNat x.2.2.1 (b + 1) : Nat) : Int) by omega)
     ·have h5a : W / 2 ^ (x.2.2.1 + b) % 2 = 1:=by
       have h5' : ¬ bitsV (bitsV (W : Int) x.2.2.1 x.2.2.2) b 1 = 0:=hW ▸ h5
       have:=bit_in W x.2.2.1 x.2.2.2 b h3a
       omega
      have e:=plus_keep W (bitsV (getV {i with imm:=turnN (bitsV i.imm 0 25) 2} x.1) x.2.1 x.2.2.2).toNat x.2.2.1 b h4a h5a
      refine .inl ⟨inR_i64 (show _ <= (b : Int) + 1 /\ (b : Int) + 1 <= _ by omega),⟨⟨b + 1,h3a⟩,show x.2.2.2 - (b + 1) < x.2.2.2 - b by omega,?_⟩⟩
      (repeat' first | exact Iff.rfl | exact trivial | exact rfl | refine And.intro ?_ ?_)
      exact (show ((plus W (bitsV (getV {i with imm:=turnN (bitsV i.imm 0 25) 2} x.1) x.2.1 x.2.2.2).toNat x.2.2.1 b : Nat) : Int) = ((plus W (bitsV (getV {i with imm:=turnN (bitsV i.imm 0 25) 2} x.1) x.2.1 x.2.2.2).toNat x.2.2.1 (b + 1) : Nat) : Int) by omega)
    ·have h4a : (bitsV (getV {i with imm:=turnN (bitsV i.imm 0 25) 2} x.1) x.2.1 x.2.2.2).toNat / 2 ^ b % 2 = 0:=by
      have h4' : ¬ bitsV (bitsV (getV {i with imm:=turnN (bitsV i.imm 0 25) 2} x.1) x.2.1 x.2.2.2) b 1 = 1:=h4
      have:=bit_nat (bitsV (getV {i with imm:=turnN (bitsV i.imm 0 25) 2} x.1) x.2.1 x.2.2.2) hv.1 b
      omega
     have e:=plus_step0 W (bitsV (getV {i with imm:=turnN (bitsV i.imm 0 25) 2} x.1) x.2.1 x.2.2.2).toNat x.2.2.1 b h4a
     refine .inl ⟨inR_i64 (show _ <= (b : Int) + 1 /\ (b : Int) + 1 <= _ by omega),⟨⟨b + 1,h3a⟩,show x.2.2.2 - (b + 1) < x.2.2.2 - b by omega,?_⟩⟩
     (repeat' first | exact Iff.rfl | exact trivial | exact rfl | refine And.intro ?_ ?_)
     exact (show ((plus W (bitsV (getV {i with imm:=turnN (bitsV i.imm 0 25) 2} x.1) x.2.1 x.2.2.2).toNat x.2.2.1 b : Nat) : Int) = ((plus W (bitsV (getV {i with imm:=turnN (bitsV i.imm 0 25) 2} x.1) x.2.1 x.2.2.2).toNat x.2.2.1 (b + 1) : Nat) : Int) by omega)
   ·have h3b : ¬ (b : Int) < (x.2.2.2 : Int):=h3
    obtain rfl : b = x.2.2.2:=by omega
    have e : wordF {i with imm:=turnN (bitsV i.imm 0 25) 2} ((fieldsV (shapeV i.form)).take (k + 1)) = plus W (bitsV (getV {i with imm:=turnN (bitsV i.imm 0 25) 2} x.1) x.2.1 x.2.2.2).toNat x.2.2.1 x.2.2.2:=by
     rw [hW,wordF,wordF,take_succ_some hx,List.foldl_append]; rfl
    refine .inl ⟨inR_i64 (show _ <= (k : Int) + 1 /\ (k : Int) + 1 <= _ by have:=fields_len (shapeV i.form); omega),⟨⟨k + 1,h2'⟩,show (fieldsV (shapeV i.form)).length - (k + 1) < (fieldsV (shapeV i.form)).length - k by omega,?_⟩⟩
    (repeat' first | exact Iff.rfl | exact trivial | exact rfl | refine And.intro ?_ ?_)
    exact (show ((plus W (bitsV (getV {i with imm:=turnN (bitsV i.imm 0 25) 2} x.1) x.2.1 x.2.2.2).toNat x.2.2.1 x.2.2.2 : Nat) : Int) = ((wordF {i with imm:=turnN (bitsV i.imm 0 25) 2} ((fieldsV (shapeV i.form)).take (k + 1)) : Nat) : Int) by rw [e])
  ·have h2a : ¬ (k : Int) < (((fieldsV (shapeV i.form)).map fdP).length : Nat):=h2
   rw [List.length_map] at h2a
   have hWb:=wordF_lt {i with imm:=turnN (bitsV i.imm 0 25) 2} ((fieldsV (shapeV i.form)).take k) (fun y hy=>fields_ok _ y (List.mem_of_mem_take hy))
   refine .inl ⟨inR_u32 (show 0 <= ((wordF {i with imm:=turnN (bitsV i.imm 0 25) 2} ((fieldsV (shapeV i.form)).take k) : Nat) : Int) /\ ((wordF {i with imm:=turnN (bitsV i.imm 0 25) 2} ((fieldsV (shapeV i.form)).take k) : Nat) : Int) <= 4294967295 by omega),retE ?_⟩
   exact (show ((wordF {i with imm:=turnN (bitsV i.imm 0 25) 2} ((fieldsV (shapeV i.form)).take k) : Nat) : Int) = wordV i by rw [wordV,turnI,if_pos h,List.take_of_length_le (by omega)])
 ·refine ⟨[],no_rl,(rbits_pure i.form hf).use (by repeat' first|exact trivial|exact rfl|exact Iff.rfl|refine And.intro ?_ ?_) rfl rfl ?_⟩
  refine .inl ⟨inR_i64 (show _ <= fbV i.form /\ fbV i.form <= _ by have:=fb_bd i.form; omega),?_⟩
  refine ⟨[],no_rl,(fields_pure (shapeV i.form)).use (by repeat' first|exact trivial|exact rfl|exact Iff.rfl|refine And.intro ?_ ?_) rfl rfl ?_⟩
  refine SW.loopS gTok P46 (by kernel_rfl) (α:={k : Nat // k <= (fieldsV (shapeV i.form)).length}) (fun k=>[(6,.int .i64 k.1),(4,.int .i64 (wordF i ((fieldsV (shapeV i.form)).take k.1) : Nat))]) (fun k=>(fieldsV (shapeV i.form)).length - k.1) ⟨0,Nat.zero_le _⟩ 60 ?_ ?_
  ·(repeat' first | exact Iff.rfl | exact trivial | exact rfl | refine And.intro ?_ ?_)
   exact (show fbV i.form = ((wordF i ((fieldsV (shapeV i.form)).take 0) : Nat) : Int) from (Int.toNat_of_nonneg (fb_bd i.form).1).symm)
  rintro ⟨k,hk⟩
  refine fun hl=>And.intro (fun h2=>?_) (fun h2=>?_)
  ·have h2a : (k : Int) < (((fieldsV (shapeV i.form)).map fdP).length : Nat):=h2
   rw [List.length_map] at h2a
   have h2' : k < (fieldsV (shapeV i.form)).length:=Int.ofNat_lt.1 h2a
   obtain ⟨x,hx⟩ : ∃ x,(fieldsV (shapeV i.form))[k]? = some x:=⟨_,List.getElem?_eq_getElem h2'⟩
   obtain ⟨x1,x2,x3,x4⟩:=fields_ok _ x (List.mem_of_getElem? hx)
   have hg : WB i:=hb
   repeat (refine ⟨_,fieldsV (shapeV i.form),fdP,rfl,show (0 : Int) <= (k : Int) by omega,h2a,fun x' hx'=>?_⟩; obtain rfl : x = x':=Option.some.inj (hx.symm.trans hx'))
   refine ⟨[],no_rl,(get_pure i x.1 x1).use (by repeat' first|exact trivial|exact rfl|exact Iff.rfl|refine And.intro ?_ ?_) rfl rfl ?_⟩
   repeat (refine ⟨_,fieldsV (shapeV i.form),fdP,rfl,show (0 : Int) <= (k : Int) by omega,h2a,fun x' hx'=>?_⟩; obtain rfl : x = x':=Option.some.inj (hx.symm.trans hx'))
   refine ⟨[],no_rl,(bits_pure (getV i x.1) x.2.1 x.2.2.2 (hg x.1 x1) (by omega) (by omega)).use (by repeat' first|exact trivial|exact rfl|exact Iff.rfl|refine And.intro ?_ ?_) rfl rfl ?_⟩
   obtain ⟨W,hW⟩ : ∃ W,W = wordF i ((fieldsV (shapeV i.form)).take k):=⟨_,rfl⟩
   have hWb : W < 2 ^ 32:=by rw [hW]; exact wordF_lt _ _ (fun y hy=>fields_ok _ y (List.mem_of_mem_take hy))
   repeat (refine ⟨_,fieldsV (shapeV i.form),fdP,rfl,show (0 : Int) <= (k : Int) by omega,h2a,fun x' hx'=>?_⟩; obtain rfl : x = x':=Option.some.inj (hx.symm.trans hx'))
   refine ⟨[],no_rl,(bits_pure ((wordF i ((fieldsV (shapeV i.form)).take k) : Nat) : Int) x.2.2.1 x.2.2.2 (by rw [← hW]; omega) (by omega) (by omega)).use (by repeat' first|exact trivial|exact rfl|exact Iff.rfl|refine And.intro ?_ ?_) rfl rfl ?_⟩
   refine SW.loopS gTok P46 (by kernel_rfl) (α:={b : Nat // b <= x.2.2.2}) (fun b=>[(9,.int .i64 b.1),(4,.int .i64 (plus W (bitsV (getV i x.1) x.2.1 x.2.2.2).toNat x.2.2.1 b.1 : Nat))]) (fun b=>x.2.2.2 - b.1) ⟨0,Nat.zero_le _⟩ 60 ?_ ?_
   ·(repeat' first | exact Iff.rfl | exact trivial | exact rfl | refine And.intro ?_ ?_)
    exact (show ((wordF i ((fieldsV (shapeV i.form)).take k) : Nat) : Int) = ((plus W (bitsV (getV i x.1) x.2.1 x.2.2.2).toNat x.2.2.1 0 : Nat) : Int) by rw [plus_zero,hW])
   rintro ⟨b,hb2⟩
   repeat (refine ⟨_,fieldsV (shapeV i.form),fdP,rfl,show (0 : Int) <= (k : Int) by omega,h2a,fun x' hx'=>?_⟩; obtain rfl : x = x':=Option.some.inj (hx.symm.trans hx'))
   have hw:=bitsV_bd ((wordF i ((fieldsV (shapeV i.form)).take k) : Nat) : Int) x.2.2.1 x.2.2.2
   have hv:=bitsV_bd (getV i x.1) x.2.1 x.2.2.2
   have hv32 : (2 : Int) ^ x.2.2.2 <= 4294967296:=by
    have h1 : (2 ^ x.2.2.2 : Nat) <= 2 ^ 32:=Nat.pow_le_pow_right (by omega) (by omega)
    have h3:=pow_cast x.2.2.2
    omega
   refine And.intro (fun h3=>?_) (fun h3=>?_)
   ·have h3a : b < x.2.2.2:=Int.ofNat_lt.1 h3
    refine ⟨[],no_rl,(bits_pure (bitsV (getV i x.1) x.2.1 x.2.2.2) b 1 (by omega) (by omega) (by omega)).use (by repeat' first|exact trivial|exact rfl|exact Iff.rfl|refine And.intro ?_ ?_) rfl rfl ?_⟩
    have hpl:=plus_lt W (bitsV (getV i x.1) x.2.1 x.2.2.2).toNat x.2.2.1 b hWb (by omega)
    refine And.intro (fun h4=>?_) (fun h4=>?_)
    ·refine ⟨[],no_rl,(bits_pure (bitsV ((wordF i ((fieldsV (shapeV i.form)).take k) : Nat) : Int) x.2.2.1 x.2.2.2) b 1 (by omega) (by omega) (by omega)).use (by repeat' first|exact trivial|exact rfl|exact Iff.rfl|refine And.intro ?_ ?_) rfl rfl ?_⟩
     have h4a : (bitsV (getV i x.1) x.2.1 x.2.2.2).toNat / 2 ^ b % 2 = 1:=by
      have h4' : bitsV (bitsV (getV i x.1) x.2.1 x.2.2.2) b 1 = 1:=h4
      have:=bit_nat (bitsV (getV i x.1) x.2.1 x.2.2.2) hv.1 b
      omega
     refine And.intro (fun h5=>?_) (fun h5=>?_)
     ·have h5a : W / 2 ^ (x.2.2.1 + b) % 2 = 0:=by
       have:=(bit_in W x.2.2.1 x.2.2.2 b h3a).symm.trans (hW ▸ h5)
       omega
      have e:=plus_add W (bitsV (getV i x.1) x.2.1 x.2.2.2).toNat x.2.2.1 b h4a h5a
      have pe:=pow_cast (x.2.2.1 + b)
      have pb:=pow_bd62 (x.2.2.1 + b) (by omega)
      repeat (refine ⟨_,fieldsV (shapeV i.form),fdP,rfl,show (0 : Int) <= (k : Int) by omega,h2a,fun x' hx'=>?_⟩; obtain rfl : x = x':=Option.some.inj (hx.symm.trans hx'))
      refine .inl ⟨inR_i64 (show _ <= (x.2.2.1 : Int) + (b : Int) /\ (x.2.2.1 : Int) + (b : Int) <= _ by omega),?_⟩
      refine ⟨[],no_rl,(power_pure (x.2.2.1 + b) (by omega)).use (by repeat' first|exact trivial|exact rfl|exact Iff.rfl|refine And.intro ?_ ?_) rfl rfl ?_⟩
      refine .inl ⟨inR_i64 (show _ <= ((plus W (bitsV (getV i x.1) x.2.1 x.2.2.2).toNat x.2.2.1 b : Nat) : Int) + 2 ^ (x.2.2.1 + b) /\ ((plus W (bitsV (getV i x.1) x.2.1 x.2.2.2).toNat x.2.2.1 b : Nat) : Int) + 2 ^ (x.2.2.1 + b) <= _ by omega),?_⟩
      refine .inl ⟨inR_i64 (show _ <= (b : Int) + 1 /\ (b : Int) + 1 <= _ by omega),⟨⟨b + 1,h3a⟩,show x.2.2.2 - (b + 1) < x.2.2.2 - b by omega,?_⟩⟩
      (repeat' first | exact Iff.rfl | exact trivial | exact rfl | refine And.intro ?_ ?_)
      exact (show ((plus W (bitsV (getV i x.1) x.2.1 x.2.2.2).toNat x.2.2.1 b : Nat) : Int) + 2 ^ (x.2.2.1 + b) = ((plus W (bitsV (getV i x.1) x.2.1 x.2.2.2).toNat x.2.2.1 (b + 1) : Nat) : Int) by omega)
     ·have h5a : W / 2 ^ (x.2.2.1 + b) % 2 = 1:=by
       have h5' : ¬ bitsV (bitsV (W : Int) x.2.2.1 x.2.2.2) b 1 = 0:=hW ▸ h5
       have:=bit_in W x.2.2.1 x.2.2.2 b h3a
       omega
      have e:=plus_keep W (bitsV (getV i x.1) x.2.1 x.2.2.2).toNat x.2.2.1 b h4a h5a
      refine .inl ⟨inR_i64 (show _ <= (b : Int) + 1 /\ (b : Int) + 1 <= _ by omega),⟨⟨b + 1,h3a⟩,show x.2.2.2 - (b + 1) < x.2.2.2 - b by omega,?_⟩⟩
      (repeat' first | exact Iff.rfl | exact trivial | exact rfl | refine And.intro ?_ ?_)
      exact (show ((plus W (bitsV (getV i x.1) x.2.1 x.2.2.2).toNat x.2.2.1 b : Nat) : Int) = ((plus W (bitsV (getV i x.1) x.2.1 x.2.2.2).toNat x.2.2.1 (b + 1) : Nat) : Int) by omega)
    ·have h4a : (bitsV (getV i x.1) x.2.1 x.2.2.2).toNat / 2 ^ b % 2 = 0:=by
      have h4' : ¬ bitsV (bitsV (getV i x.1) x.2.1 x.2.2.2) b 1 = 1:=h4
      have:=bit_nat (bitsV (getV i x.1) x.2.1 x.2.2.2) hv.1 b
      omega
     have e:=plus_step0 W (bitsV (getV i x.1) x.2.1 x.2.2.2).toNat x.2.2.1 b h4a
     refine .inl ⟨inR_i64 (show _ <= (b : Int) + 1 /\ (b : Int) + 1 <= _ by omega),⟨⟨b + 1,h3a⟩,show x.2.2.2 - (b + 1) < x.2.2.2 - b by omega,?_⟩⟩
     (repeat' first | exact Iff.rfl | exact trivial | exact rfl | refine And.intro ?_ ?_)
     exact (show ((plus W (bitsV (getV i x.1) x.2.1 x.2.2.2).toNat x.2.2.1 b : Nat) : Int) = ((plus W (bitsV (getV i x.1) x.2.1 x.2.2.2).toNat x.2.2.1 (b + 1) : Nat) : Int) by omega)
   ·have h3b : ¬ (b : Int) < (x.2.2.2 : Int):=h3
    obtain rfl : b = x.2.2.2:=by omega
    have e : wordF i ((fieldsV (shapeV i.form)).take (k + 1)) = plus W (bitsV (getV i x.1) x.2.1 x.2.2.2).toNat x.2.2.1 x.2.2.2:=by
     rw [hW,wordF,wordF,take_succ_some hx,List.foldl_append]; rfl
    refine .inl ⟨inR_i64 (show _ <= (k : Int) + 1 /\ (k : Int) + 1 <= _ by have:=fields_len (shapeV i.form); omega),⟨⟨k + 1,h2'⟩,show (fieldsV (shapeV i.form)).length - (k + 1) < (fieldsV (shapeV i.form)).length - k by omega,?_⟩⟩
    (repeat' first | exact Iff.rfl | exact trivial | exact rfl | refine And.intro ?_ ?_)
    exact (show ((plus W (bitsV (getV i x.1) x.2.1 x.2.2.2).toNat x.2.2.1 x.2.2.2 : Nat) : Int) = ((wordF i ((fieldsV (shapeV i.form)).take (k + 1)) : Nat) : Int) by rw [e])
  ·have h2a : ¬ (k : Int) < (((fieldsV (shapeV i.form)).map fdP).length : Nat):=h2
   rw [List.length_map] at h2a
   have hWb:=wordF_lt i ((fieldsV (shapeV i.form)).take k) (fun y hy=>fields_ok _ y (List.mem_of_mem_take hy))
   refine .inl ⟨inR_u32 (show 0 <= ((wordF i ((fieldsV (shapeV i.form)).take k) : Nat) : Int) /\ ((wordF i ((fieldsV (shapeV i.form)).take k) : Nat) : Int) <= 4294967295 by omega),retE ?_⟩
   exact (show ((wordF i ((fieldsV (shapeV i.form)).take k) : Nat) : Int) = wordV i by rw [wordV,turnI,if_neg h,List.take_of_length_le (by omega)])
end Go.Proofs.YtnbngokbamifbaaGreatDoor.Pw
namespace Go.Proofs.YtnbngokbamifbaaGreatDoor.Pw
open Go Go.RowKit
def vF (i : IN) (x : Nat × Nat × Nat × Nat) : Nat:=(bitsV (getV i x.1) x.2.1 x.2.2.2).toNat
theorem vF_lt (i : IN) (x : Nat × Nat × Nat × Nat) : vF i x < 2 ^ x.2.2.2:=by
 have:=bitsV_bd (getV i x.1) x.2.1 x.2.2.2
 have e:=pow_cast x.2.2.2
 unfold vF; omega
theorem plus_test (w n a b p : Nat) : (plus w n a b).testBit p = (w.testBit p || (decide (a <= p) && decide (p < a + b) && n.testBit (p - a))):=by
 unfold plus
 rw [Nat.testBit_or,Nat.testBit_shiftLeft,Nat.testBit_mod_two_pow]
 congr 1
 by_cases h : a <= p
 ·by_cases h2 : p < a + b
  ·rw [decide_eq_true h2,decide_eq_true (show p - a < b by omega)]; simp [h]
  ·rw [decide_eq_false h2,decide_eq_false (show ¬ p - a < b by omega)]; simp
 ·simp [h]
def inF (p : Nat) (x : Nat × Nat × Nat × Nat) : Bool:=decide (x.2.2.1 <= p) && decide (p < x.2.2.1 + x.2.2.2)
theorem fold_test (i : IN) (p : Nat) : ∀ (l : List (Nat × Nat × Nat × Nat)) (W : Nat),(l.foldl (putF i) W).testBit p = (W.testBit p || l.any fun x=>inF p x && (vF i x).testBit (p - x.2.2.1))
 | [],W=>by simp
 | x :: l,W=>by
  rw [List.foldl_cons,fold_test i p l,List.any_cons,← Bool.or_assoc]
  congr 1
  exact plus_test W (vF i x) x.2.2.1 x.2.2.2 p
def apartB (l : List (Nat × Nat × Nat × Nat)) : Bool:=l.all fun x=>l.all fun y=>decide (x = y) || decide (x.2.2.1 + x.2.2.2 <= y.2.2.1) || decide (y.2.2.1 + y.2.2.2 <= x.2.2.1)
def freeB (W : Nat) (l : List (Nat × Nat × Nat × Nat)) : Bool:=l.all fun x=>decide (W / 2 ^ x.2.2.1 % 2 ^ x.2.2.2 = 0)
theorem apart_tab : ∀ k : Fin 35,apartB (fieldsV ((k.1 : Nat) : Int)) = true:=by decide
theorem fields_apart (s : Int) : apartB (fieldsV s) = true:=by
 by_cases h : s < 1 \/ 34 < s
 ·rw [fields_none s h]; rfl
 ·have h1:=apart_tab ⟨s.toNat,by omega⟩
  rwa [show (((⟨s.toNat,by omega⟩ : Fin 35).1 : Nat) : Int) = s by simp only []; omega] at h1
theorem free_tab : (List.range 101).all (fun k=>freeB (fbV (k : Int)).toNat (fieldsV (shapeV (k : Int)))) = true:=by decide +kernel
theorem fields_free (f : Int) : freeB (fbV f).toNat (fieldsV (shapeV f)) = true:=by
 by_cases h : 1 <= f /\ f <= 100
 ·have h1:=List.all_eq_true.1 free_tab f.toNat (List.mem_range.2 (by omega))
  rwa [show ((f.toNat : Nat) : Int) = f by omega] at h1
 ·unfold shapeV; rw [if_neg h,fields_none 0 (by omega)]; rfl
theorem fold_field (i : IN) {l : List (Nat × Nat × Nat × Nat)} {W : Nat} (ha : apartB l = true) (hf : freeB W l = true) {x : Nat × Nat × Nat × Nat} (hx : x ∈ l) : (l.foldl (putF i) W) / 2 ^ x.2.2.1 % 2 ^ x.2.2.2 = vF i x:=by
 apply Nat.eq_of_testBit_eq
 intro p
 rw [Nat.testBit_mod_two_pow,Nat.testBit_div_two_pow]
 by_cases hp : p < x.2.2.2
 ·rw [decide_eq_true hp,Bool.true_and,fold_test]
  have h0 : W.testBit (p + x.2.2.1) = false:=by
   have h1:=of_decide_eq_true (List.all_eq_true.1 hf x hx)
   have h2 : (W / 2 ^ x.2.2.1 % 2 ^ x.2.2.2).testBit p = false:=by rw [h1]; simp
   rw [Nat.testBit_mod_two_pow,Nat.testBit_div_two_pow,decide_eq_true hp,Bool.true_and] at h2
   exact h2
  rw [h0,Bool.false_or,Bool.eq_iff_iff,List.any_eq_true]
  constructor
  ·rintro ⟨y,hy,hb⟩
   simp only [Bool.and_eq_true,inF,decide_eq_true_eq] at hb
   have h3:=List.all_eq_true.1 (List.all_eq_true.1 ha x hx) y hy
   simp only [Bool.or_eq_true,decide_eq_true_eq] at h3
   rcases h3 with (rfl | h3) | h3
   ·have:=hb.2; rwa [show p + x.2.2.1 - x.2.2.1 = p by omega] at this
   ·omega
   ·omega
  ·intro hb
   refine ⟨x,hx,?_⟩
   simp only [Bool.and_eq_true,inF,decide_eq_true_eq]
   exact ⟨⟨by omega,by omega⟩,by rwa [show p + x.2.2.1 - x.2.2.1 = p by omega]⟩
 ·rw [decide_eq_false hp,Bool.false_and]
  exact (Nat.testBit_lt_two_pow (Nat.lt_of_lt_of_le (vF_lt i x) (Nat.pow_le_pow_right (by decide) (by omega)))).symm
def fxd (l : List (Nat × Nat × Nat × Nat)) (p : Nat) : Bool:=l.all fun x=>!inF p x
theorem fold_fixed (i : IN) {l : List (Nat × Nat × Nat × Nat)} {W p : Nat} (h : fxd l p = true) : (l.foldl (putF i) W).testBit p = W.testBit p:=by
 rw [fold_test]
 have : (l.any fun x=>inF p x && (vF i x).testBit (p - x.2.2.1)) = false:=by
  rw [List.any_eq_false]
  intro x hx
  have:=List.all_eq_true.1 h x hx
  simp only [Bool.not_eq_true'] at this
  rw [this]; simp
 rw [this,Bool.or_false]
def fbN (f : Nat) : Nat:=(fbV (f : Int)).toNat
def fdN (f : Nat) : List (Nat × Nat × Nat × Nat):=fieldsV (shapeV (f : Int))
def sideB (f g : Nat) : Bool:=(fdN f).any fun x=>decide (x.1 < 4) && decide (x.2.1 = 0) && decide (x.2.2.2 = 4) && ([0,1,2,3].all fun k=>fxd (fdN g) (x.2.2.1 + k) && (fbN g).testBit (x.2.2.1 + k))
def pairB (f g : Nat) : Bool:=decide (f = g) || ((List.range 32).any fun p=>fxd (fdN f) p && fxd (fdN g) p && ((fbN f).testBit p != (fbN g).testBit p)) || sideB f g || sideB g f
theorem pairs_narrow : ((List.range 47).all fun f=>(List.range 47).all fun g=>pairB (f + 1) (g + 1)) = true:=by decide +kernel
theorem pairs_wide : ((List.range 53).all fun f=>(List.range 53).all fun g=>pairB (f + 48) (g + 48)) = true:=by decide +kernel
end Go.Proofs.YtnbngokbamifbaaGreatDoor.Pw

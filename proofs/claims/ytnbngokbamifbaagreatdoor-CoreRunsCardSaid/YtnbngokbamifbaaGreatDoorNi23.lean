/- What a law is proved with. -/
import Derived.Test.YtnbngokbamifbaaGreatDoorNi22
import Derived.Test.YtnbngokbamifbaaGreatDoorNi21
set_option linter.unusedVariables false
set_option linter.unusedSimpArgs false
set_option linter.unusedVariables false
namespace Go.Proofs.YtnbngokbamifbaaGreatDoor.Pw
open Go Go.RowKit
def takenX (x : XS) : XS:={ x with taken:=holdsV x.s x.i.cond }
def jmpCls (f : Int) : Int :=
 if f = 46 \/ f = 99 then 1 else if f = 47 \/ f = 100 then 2 else if f = 31 then 3 else if f = 45 then 4 else 0
def jumpsX (x : XS) : XS :=
 if jmpCls x.i.form = 1 then (if holdsV x.s x.i.cond then putX (takenX x) 15 (IntKind.u32.wrap (getX x 15 + (IntKind.u32.wrap x.i.imm))) else takenX x) else if jmpCls x.i.form = 2 then putX x 15 (IntKind.u32.wrap (getX x 15 + (IntKind.u32.wrap x.i.imm))) else if jmpCls x.i.form = 3 then backX x (getX x x.i.rm) else if jmpCls x.i.form = 4 then { x with kind:=2,code:=x.i.imm } else x
theorem jumpsX_1 {x : XS} (h : jmpCls x.i.form = 1) : jumpsX x = (if holdsV x.s x.i.cond then putX (takenX x) 15 (IntKind.u32.wrap (getX x 15 + (IntKind.u32.wrap x.i.imm))) else takenX x):=by unfold jumpsX; rw [if_pos h]
theorem jumpsX_2 {x : XS} (h : jmpCls x.i.form = 2) : jumpsX x = putX x 15 (IntKind.u32.wrap (getX x 15 + (IntKind.u32.wrap x.i.imm))):=by unfold jumpsX; rw [if_neg (by omega),if_pos h]
theorem jumpsX_3 {x : XS} (h : jmpCls x.i.form = 3) : jumpsX x = backX x (getX x x.i.rm):=by unfold jumpsX; rw [if_neg (by omega),if_neg (by omega),if_pos h]
theorem jumpsX_4 {x : XS} (h : jmpCls x.i.form = 4) : jumpsX x = { x with kind:=2,code:=x.i.imm }:=by unfold jumpsX; rw [if_neg (by omega),if_neg (by omega),if_neg (by omega),if_pos h]
theorem jumpsX_0 {x : XS} (h : jmpCls x.i.form = 0) : jumpsX x = x:=by unfold jumpsX; rw [if_neg (by omega),if_neg (by omega),if_neg (by omega),if_neg (by omega)]
set_option maxHeartbeats 4000000 in
set_option maxRecDepth 100000 in
theorem jumps_ok (m : MS) (x : XS) (hx : XOk x) : Spec gT 98 [.ptr 3 0] (stX m x) [] fun y S'=>y = .bool (jmpCls x.i.form ≠ 0) /\ S' = stX m (jumpsX x):=by
 refine Spec.leS (Spec.enter gTok P98 100 Tryz.func98 rfl (by kernel_rfl) ?_)
 refine And.intro (fun h46=>?_) (fun h46=>?_)
 ·have hc : jmpCls x.i.form = 1:=by rw [show x.i.form = 46 from h46]; rfl
  rw [jumpsX_1 hc]
  refine ⟨[],no_rl,(holds_pure x.s x.i.cond).use (by repeat' first|exact trivial|exact rfl|exact Iff.rfl|exact Or.inl rfl|refine And.intro ?_ ?_) rfl rfl ?_⟩
  refine And.intro (fun hn=>?_) (fun hp=>?_)
  ·rw [if_neg (show ¬ holdsV x.s x.i.cond from hn)]
   exact retS (show jmpCls x.i.form ≠ 0 by omega) (by first|exact leSt_same rfl|(repeat' first|exact trivial|exact rfl|exact Iff.rfl|exact not_false|refine And.intro ?_ ?_))
  rw [if_pos (Classical.not_not.1 (show ¬ ¬ holdsV x.s x.i.cond from hp))]
  refine .inr ?_
  refine ⟨[],no_rl,(get_ok m (takenX x) 15 (by decide) (by decide)).useE rfl (by exact ⟨trivial,rfl,trivial⟩) rfl ?_⟩
  refine .inr ?_
  refine ⟨[],no_rl,(put_ok m (takenX x) 15 (IntKind.u32.wrap (getX x 15 + (IntKind.u32.wrap x.i.imm))) (by decide) (by decide)).useE rfl (by exact ⟨trivial,rfl,rfl,trivial⟩) rfl ?_⟩
  exact retS (show jmpCls x.i.form ≠ 0 by omega) (by first|exact leSt_same rfl|(repeat' first|exact trivial|exact rfl|exact Iff.rfl|exact not_false|refine And.intro ?_ ?_))
 refine And.intro (fun h99=>?_) (fun h99=>?_)
 ·have hc : jmpCls x.i.form = 1:=by rw [show x.i.form = 99 from h99]; rfl
  rw [jumpsX_1 hc]
  refine ⟨[],no_rl,(holds_pure x.s x.i.cond).use (by repeat' first|exact trivial|exact rfl|exact Iff.rfl|exact Or.inl rfl|refine And.intro ?_ ?_) rfl rfl ?_⟩
  refine And.intro (fun hn=>?_) (fun hp=>?_)
  ·rw [if_neg (show ¬ holdsV x.s x.i.cond from hn)]
   exact retS (show jmpCls x.i.form ≠ 0 by omega) (by first|exact leSt_same rfl|(repeat' first|exact trivial|exact rfl|exact Iff.rfl|exact not_false|refine And.intro ?_ ?_))
  rw [if_pos (Classical.not_not.1 (show ¬ ¬ holdsV x.s x.i.cond from hp))]
  refine .inr ?_
  refine ⟨[],no_rl,(get_ok m (takenX x) 15 (by decide) (by decide)).useE rfl (by exact ⟨trivial,rfl,trivial⟩) rfl ?_⟩
  refine .inr ?_
  refine ⟨[],no_rl,(put_ok m (takenX x) 15 (IntKind.u32.wrap (getX x 15 + (IntKind.u32.wrap x.i.imm))) (by decide) (by decide)).useE rfl (by exact ⟨trivial,rfl,rfl,trivial⟩) rfl ?_⟩
  exact retS (show jmpCls x.i.form ≠ 0 by omega) (by first|exact leSt_same rfl|(repeat' first|exact trivial|exact rfl|exact Iff.rfl|exact not_false|refine And.intro ?_ ?_))
 refine And.intro (fun h47=>?_) (fun h47=>?_)
 ·have hc : jmpCls x.i.form = 2:=by rw [show x.i.form = 47 from h47]; rfl
  rw [jumpsX_2 hc]
  refine .inr ?_
  refine ⟨[],no_rl,(get_ok m x 15 (by decide) (by decide)).useE rfl (by exact ⟨trivial,rfl,trivial⟩) rfl ?_⟩
  refine .inr ?_
  refine ⟨[],no_rl,(put_ok m x 15 (IntKind.u32.wrap (getX x 15 + (IntKind.u32.wrap x.i.imm))) (by decide) (by decide)).useE rfl (by exact ⟨trivial,rfl,rfl,trivial⟩) rfl ?_⟩
  exact retS (show jmpCls x.i.form ≠ 0 by omega) (by first|exact leSt_same rfl|(repeat' first|exact trivial|exact rfl|exact Iff.rfl|exact not_false|refine And.intro ?_ ?_))
 refine And.intro (fun h100=>?_) (fun h100=>?_)
 ·have hc : jmpCls x.i.form = 2:=by rw [show x.i.form = 100 from h100]; rfl
  rw [jumpsX_2 hc]
  refine .inr ?_
  refine ⟨[],no_rl,(get_ok m x 15 (by decide) (by decide)).useE rfl (by exact ⟨trivial,rfl,trivial⟩) rfl ?_⟩
  refine .inr ?_
  refine ⟨[],no_rl,(put_ok m x 15 (IntKind.u32.wrap (getX x 15 + (IntKind.u32.wrap x.i.imm))) (by decide) (by decide)).useE rfl (by exact ⟨trivial,rfl,rfl,trivial⟩) rfl ?_⟩
  exact retS (show jmpCls x.i.form ≠ 0 by omega) (by first|exact leSt_same rfl|(repeat' first|exact trivial|exact rfl|exact Iff.rfl|exact not_false|refine And.intro ?_ ?_))
 refine And.intro (fun h31=>?_) (fun h31=>?_)
 ·have hc : jmpCls x.i.form = 3:=by rw [show x.i.form = 31 from h31]; rfl
  rw [jumpsX_3 hc]
  refine ⟨[],no_rl,(get_ok m x x.i.rm hx.rm.1 hx.rm.2).useE rfl (by exact ⟨trivial,rfl,trivial⟩) rfl ?_⟩
  refine ⟨[],no_rl,(back_ok m x (getX x x.i.rm)).useE rfl (by exact ⟨trivial,rfl,trivial⟩) rfl ?_⟩
  exact retS (show jmpCls x.i.form ≠ 0 by omega) (by first|exact leSt_same rfl|(repeat' first|exact trivial|exact rfl|exact Iff.rfl|exact not_false|refine And.intro ?_ ?_))
 refine And.intro (fun h45=>?_) (fun h45=>?_)
 ·have hc : jmpCls x.i.form = 4:=by rw [show x.i.form = 45 from h45]; rfl
  rw [jumpsX_4 hc]
  exact retS (show jmpCls x.i.form ≠ 0 by omega) (by first|exact leSt_same rfl|(repeat' first|exact trivial|exact rfl|exact Iff.rfl|exact not_false|refine And.intro ?_ ?_))
 ·have hc : jmpCls x.i.form = 0:=by unfold jmpCls; rw [if_neg (by omega),if_neg (by omega),if_neg (by omega),if_neg (by omega)]
  rw [jumpsX_0 hc]
  exact retS (show ¬ jmpCls x.i.form ≠ 0 from fun h=>h hc) (by first|exact leSt_same rfl|(repeat' first|exact trivial|exact rfl|exact Iff.rfl|exact not_false|refine And.intro ?_ ?_))
end Go.Proofs.YtnbngokbamifbaaGreatDoor.Pw
set_option linter.unusedVariables false
namespace Go.Proofs.YtnbngokbamifbaaGreatDoor.Pw
open Go Go.RowKit
def encW (w : Nat -> Int) (k : Nat) : PV:=.int .u8 (byW (w (k / 4)) (k % 4))
theorem ramL_is (w : Nat -> Int) : ramL w = (List.range 65536).map (encW w):=rfl
theorem ramL_len (w : Nat -> Int) : (ramL w).length = 65536:=by rw [ramL_is,List.length_map,List.length_range]
theorem ramL_get (w : Nat -> Int) (k : Nat) : (ramL w)[k]? = if k < 65536 then some (encW w k) else none:=by
 rw [ramL_is,List.getElem?_map]
 split
 ·rename_i h; rw [List.getElem?_range h]; rfl
 ·rename_i h; rw [List.getElem?_eq_none (by rw [List.length_range]; omega)]; rfl
def updN (w : Nat -> Int) (j : Nat) (x : Int) : Nat -> Int:=fun m=>if m = j then x else w m
theorem ramL_set (w : Nat -> Int) (j : Nat) (x : Int) (hj : j < 16384) :
  ((((ramL w).set (4 * j) (.int .u8 (byW x 0))).set (4 * j + 1) (.int .u8 (byW x 1))).set (4 * j + 2) (.int .u8 (byW x 2))).set (4 * j + 3) (.int .u8 (byW x 3)) = ramL (updN w j x):=by
 refine List.ext_getElem? fun k=>?_
 simp only [List.getElem?_set,List.length_set,ramL_len,ramL_get]
 have e : ∀ r : Nat,r < 4 -> encW (updN w j x) (4 * j + r) = .int .u8 (byW x r):=fun r hr=>by
  unfold encW updN
  rw [if_pos (by omega),show (4 * j + r) % 4 = r by omega]
 by_cases h0 : k = 4 * j
 ·subst h0; simp [show 4 * j < 65536 by omega]; exact (e 0 (by omega)).symm
 by_cases h1 : k = 4 * j + 1
 ·subst h1; simp [show 4 * j + 1 < 65536 by omega]; exact (e 1 (by omega)).symm
 by_cases h2 : k = 4 * j + 2
 ·subst h2; simp [show 4 * j + 2 < 65536 by omega]; exact (e 2 (by omega)).symm
 by_cases h3 : k = 4 * j + 3
 ·subst h3; simp [show 4 * j + 3 < 65536 by omega]; exact (e 3 (by omega)).symm
 rw [if_neg (by omega),if_neg (by omega),if_neg (by omega),if_neg (by omega)]
 split
 ·have : encW (updN w j x) k = encW w k:=by unfold encW updN; rw [if_neg (by omega)]
  rw [this]
 ·rfl
theorem byW_bd (x : Int) (k : Nat) : 0 <= byW x k /\ byW x k <= 255:=by unfold byW; omega
theorem byW_sum (x : Int) (h : U32 x) : byW x 0 + byW x 1 * 256 + byW x 2 * 65536 + byW x 3 * 16777216 = x:=by
 unfold U32 at h
 show x / 1 % 256 + x / 256 % 256 * 256 + x / 65536 % 256 * 65536 + x / 16777216 % 256 * 16777216 = x
 omega
theorem or_bytes (a b c d : Int) (ha : 0 <= a /\ a <= 255) (hb : 0 <= b /\ b <= 255) (hc : 0 <= c /\ c <= 255) (hd : 0 <= d /\ d <= 255) :
  bits .or .u32 (bits .or .u32 (bits .or .u32 (bits .or .u32 0 a) (b * 256)) (c * 65536)) (d * 16777216) = a + b * 256 + c * 65536 + d * 16777216:=by
 have h0:=(or_add_u32 0 a 0 (by decide) (by decide) (show 0 <= a /\ a * 1 <= _ by omega)).1
 have h1:=(or_add_u32 a b 8 (by decide) (show 0 <= a /\ a < 256 by omega) (show 0 <= b /\ b * 256 <= _ by omega)).1
 have h2:=(or_add_u32 (a + b * 256) c 16 (by decide) (show 0 <= _ /\ _ < (65536 : Int) by omega) (show 0 <= c /\ c * 65536 <= _ by omega)).1
 have h3:=(or_add_u32 (a + b * 256 + c * 65536) d 24 (by decide) (show 0 <= _ /\ _ < (16777216 : Int) by omega) (show 0 <= d /\ d * 16777216 <= _ by omega)).1
 replace h0 : bits .or .u32 0 (a * 1) = 0 + a * 1:=h0
 replace h1 : bits .or .u32 a (b * 256) = a + b * 256:=h1
 replace h2 : bits .or .u32 (a + b * 256) (c * 65536) = a + b * 256 + c * 65536:=h2
 replace h3 : bits .or .u32 (a + b * 256 + c * 65536) (d * 16777216) = a + b * 256 + c * 65536 + d * 16777216:=h3
 rw [Int.mul_one,Int.zero_add] at h0
 rw [h0,h1,h2,h3]
def inRam (at_ : Int) : Prop:=536870912 <= at_ /\ at_ <= 536936444
instance (a : Int) : Decidable (inRam a):=by unfold inRam; infer_instance
def inFl (fl : List Int) (at_ n : Int) : Prop:=134217728 <= at_ /\ at_ - 134217728 + n <= fl.length
instance (fl : List Int) (a n : Int) : Decidable (inFl fl a n):=by unfold inFl; infer_instance
def offF (at_ : Int) : Nat:=(at_ - 134217728).toNat
def offR (at_ : Int) : Nat:=(at_ - 536870912).toNat / 4
def ldE (fl : List Int) (at_ : Int) : Int:=if at_ % 4 ≠ 0 then 60 else if inRam at_ then 0 else if inFl fl at_ 4 then 0 else 61
def ldV (fl : List Int) (w : Nat -> Int) (at_ : Int) : Int:=if at_ % 4 ≠ 0 then 0 else if inRam at_ then w (offR at_) else if inFl fl at_ 4 then hN fl (offF at_) + hN fl (offF at_ + 2) * 65536 else 0
def stE (at_ : Int) : Int:=if at_ % 4 ≠ 0 then 60 else if 134217728 <= at_ /\ at_ < 134283264 then 62 else if inRam at_ then 0 else 61
def stW (w : Nat -> Int) (at_ x : Int) : Nat -> Int:=if stE at_ = 0 then updN w (offR at_) x else w
def hfE (fl : List Int) (at_ : Int) : Int:=if at_ % 2 ≠ 0 then 60 else if inFl fl at_ 2 then 0 else 61
def hfV (fl : List Int) (at_ : Int) : Int:=if at_ % 2 ≠ 0 then 0 else if inFl fl at_ 2 then hN fl (offF at_) else 0
def st2 (w : Nat -> Int) (fl : List Int) : List PBlk:=[ramB w,memB fl]
theorem cut4 {l : List Int} {i : Nat} (h : i + 4 <= l.length) : ((u8P l).drop i).take 4 = [.int .u8 (l.getD i 0),.int .u8 (l.getD (i + 1) 0),.int .u8 (l.getD (i + 2) 0),.int .u8 (l.getD (i + 3) 0)]:=by
 refine List.ext_getElem? fun k=>?_
 have g : ∀ j,j < l.length -> l[j]? = some (l.getD j 0):=fun j hj=>by rw [List.getD_eq_getElem?_getD,List.getElem?_eq_getElem hj]; rfl
 rw [List.getElem?_take]
 split
 ·rw [List.getElem?_drop,u8P,List.getElem?_map,g _ (by omega)]
  match k,‹k < 4› with
  | 0,_=>rfl
  | 1,_=>rfl
  | 2,_=>rfl
  | 3,_=>rfl
 ·rw [List.getElem?_eq_none]; simp; omega
theorem cut2 {l : List Int} {i : Nat} (h : i + 2 <= l.length) : ((u8P l).drop i).take 2 = [.int .u8 (l.getD i 0),.int .u8 (l.getD (i + 1) 0)]:=by
 refine List.ext_getElem? fun k=>?_
 have g : ∀ j,j < l.length -> l[j]? = some (l.getD j 0):=fun j hj=>by rw [List.getD_eq_getElem?_getD,List.getElem?_eq_getElem hj]; rfl
 rw [List.getElem?_take]
 split
 ·rw [List.getElem?_drop,u8P,List.getElem?_map,g _ (by omega)]
  match k,‹k < 2› with
  | 0,_=>rfl
  | 1,_=>rfl
 ·rw [List.getElem?_eq_none]; simp; omega
set_option maxRecDepth 100000 in
theorem within_fl (fl : List Int) (at_ : Int) (n : Nat) (hn : n = 2 \/ n = 4) (ha : U32 at_) (hl : fl.length <= 65536) (h : inFl fl at_ n) :
  PureF gT 65 [.sl 1 (u8P fl),.int .u32 134217728,.int .u32 at_,.int .i64 n] (.sl 1 (((u8P fl).drop (offF at_)).take n)):=by
 have el : (u8P fl).length = fl.length:=List.length_map ..
 obtain ⟨h1,h2⟩:=h
 unfold U32 at ha
 refine Spec.enter gTok P65 100 Tryz.func65 rfl (by kernel_rfl) ?_
 refine And.intro (fun h=>absurd (show at_ < 134217728 from h) (by omega)) (fun _=>?_)
 refine .inl ⟨inR_u32 (show _ <= at_ - 134217728 /\ at_ - 134217728 <= _ by omega),?_⟩
 refine .inl ⟨inR_i64 (show _ <= at_ - 134217728 /\ at_ - 134217728 <= _ by omega),?_⟩
 refine fun hm=>?_
 refine .inl ⟨inR_i64 (show _ <= (((u8P fl).length : Nat) : Int) - (n : Int) /\ (((u8P fl).length : Nat) : Int) - (n : Int) <= _ by omega),?_⟩
 refine And.intro (fun h=>absurd (show (((u8P fl).length : Nat) : Int) - (n : Int) < at_ - 134217728 from h) (by omega)) (fun _=>?_)
 refine .inl ⟨inR_u32 (show _ <= at_ - 134217728 /\ at_ - 134217728 <= _ by omega),?_⟩
 refine .inl ⟨inR_i64 (show _ <= at_ - 134217728 /\ at_ - 134217728 <= _ by omega),?_⟩
 refine .inl ⟨inR_i64 (show _ <= at_ - 134217728 + (n : Int) /\ at_ - 134217728 + (n : Int) <= _ by omega),?_⟩
 refine ⟨show 0 <= at_ - 134217728 by omega,show at_ - 134217728 <= at_ - 134217728 + (n : Int) by omega,show at_ - 134217728 + (n : Int) <= (((u8P fl).length : Nat) : Int) by omega,?_⟩
 refine retE ?_
 show List.take (at_ - 134217728 + (n : Int) - (at_ - 134217728)).toNat (List.drop (at_ - 134217728).toNat (u8P fl)) = _
 rw [show (at_ - 134217728 + (n : Int) - (at_ - 134217728)).toNat = n by omega]; rfl
set_option maxRecDepth 100000 in
theorem within_no (fl : List Int) (at_ : Int) (n : Nat) (hn : n = 2 \/ n = 4) (ha : U32 at_) (hl : fl.length <= 65536) (h : ¬ inFl fl at_ n) :
  PureF gT 65 [.sl 1 (u8P fl),.int .u32 134217728,.int .u32 at_,.int .i64 n] .nil:=by
 have el : (u8P fl).length = fl.length:=List.length_map ..
 unfold inFl at h
 unfold U32 at ha
 refine Spec.enter gTok P65 100 Tryz.func65 rfl (by kernel_rfl) ?_
 refine And.intro (fun h=>?_) (fun h0=>?_)
 ·exact retE trivial
 have h0' : ¬ at_ < 134217728:=h0
 refine .inl ⟨inR_u32 (show _ <= at_ - 134217728 /\ at_ - 134217728 <= _ by omega),?_⟩
 refine .inl ⟨inR_i64 (show _ <= at_ - 134217728 /\ at_ - 134217728 <= _ by omega),?_⟩
 refine fun hm=>?_
 refine .inl ⟨inR_i64 (show _ <= (((u8P fl).length : Nat) : Int) - (n : Int) /\ (((u8P fl).length : Nat) : Int) - (n : Int) <= _ by omega),?_⟩
 refine And.intro (fun h=>?_) (fun h1=>absurd (show ¬ (((u8P fl).length : Nat) : Int) - (n : Int) < at_ - 134217728 from h1) (by omega))
 exact retE trivial
set_option maxRecDepth 100000 in
theorem half_ok (w : Nat -> Int) (fl : List Int) (at_ : Int) (ha : U32 at_) (hb : BOk fl) (hl : fl.length <= 65536) : Spec gT 87 [.ptr 1 0,.int .u32 at_] (st2 w fl) [] fun y S'=>y = .tup [.int .u32 (hfV fl at_),.int .i64 (hfE fl at_)] /\ S' = st2 w fl:=by
 refine Spec.leS (Spec.enter gTok P87 100 Tryz.func87 rfl (by kernel_rfl) ?_)
 refine And.intro (show (2 : Int) ≠ 0 by decide) (.inl ⟨ha.1,show (0 : Int) < 2 by decide,?_⟩)
 refine And.intro (fun h=>?_) (fun h=>?_)
 ·have h' : at_ % 2 ≠ 0:=h
  have e1 : hfV fl at_ = 0:=by unfold hfV; rw [if_pos h']
  have e2 : hfE fl at_ = 60:=by unfold hfE; rw [if_pos h']
  rw [e1,e2]
  exact retS (by repeat' first|exact trivial|exact rfl|exact Iff.rfl|refine And.intro ?_ ?_) (by first|exact leSt_same rfl|(repeat' first|exact trivial|exact rfl|exact Iff.rfl|exact not_false|refine And.intro ?_ ?_))
 have h' : ¬ at_ % 2 ≠ 0:=h
 by_cases hf : inFl fl at_ 2
 ·have e1 : hfV fl at_ = hN fl (offF at_):=by unfold hfV; rw [if_neg h',if_pos hf]
  have e2 : hfE fl at_ = 0:=by unfold hfE; rw [if_neg h',if_pos hf]
  rw [e1,e2]
  have hw:=within_fl fl at_ 2 (.inl rfl) ha hl hf
  have hin : offF at_ + 2 <= fl.length:=by obtain ⟨q1,q2⟩:=hf; unfold offF; omega
  rw [cut2 hin] at hw
  have b0:=getD_ok hb (offF at_)
  have b1:=getD_ok hb (offF at_ + 1)
  unfold hN
  generalize fl.getD (offF at_) 0 = p at hw b0 ⊢
  generalize fl.getD (offF at_ + 1) 0 = q at hw b1 ⊢
  refine ⟨[],no_rl,hw.use (by repeat' first|exact trivial|exact rfl|exact Iff.rfl|exact Or.inl rfl|refine And.intro ?_ ?_) rfl rfl ?_⟩
  refine .inl ⟨show 2 ≠ 0 by decide,?_⟩
  refine ⟨Int,[p,q],PV.int .u8,rfl,show (0 : Int) <= 0 by decide,show (0 : Int) < 2 by decide,fun x hx=>?_⟩
  obtain rfl : p = x:=Option.some.inj hx
  refine ⟨Int,[p,q],PV.int .u8,rfl,show (0 : Int) <= 1 by decide,show (1 : Int) < 2 by decide,fun x hx=>?_⟩
  obtain rfl : q = x:=Option.some.inj hx
  refine .inl ⟨inR_u32 (show 0 <= p /\ p <= _ by omega),?_⟩
  refine .inl ⟨inR_u32 (show 0 <= q /\ q <= _ by omega),?_⟩
  refine ⟨by decide,.inl ⟨inR_u32 (show 0 <= q * 256 /\ q * 256 <= _ by omega),?_⟩⟩
  have e : bits .or .u32 p (q * 256) = p + q * 256:=(or_add_u32 p q 8 (by decide) (show 0 <= p /\ p < 256 by omega) (show 0 <= q /\ q * 256 <= _ by omega)).1
  exact retS (And.intro e (And.intro rfl trivial)) (leSt_same rfl)
 ·have e1 : hfV fl at_ = 0:=by unfold hfV; rw [if_neg h',if_neg hf]
  have e2 : hfE fl at_ = 61:=by unfold hfE; rw [if_neg h',if_neg hf]
  rw [e1,e2]
  refine ⟨[],no_rl,(within_no fl at_ 2 (.inl rfl) ha hl hf).use (by repeat' first|exact trivial|exact rfl|exact Iff.rfl|exact Or.inl rfl|refine And.intro ?_ ?_) rfl rfl ?_⟩
  exact retS (by repeat' first|exact trivial|exact rfl|exact Iff.rfl|refine And.intro ?_ ?_) (by first|exact leSt_same rfl|(repeat' first|exact trivial|exact rfl|exact Iff.rfl|exact not_false|refine And.intro ?_ ?_))
theorem le_ref (l o n : Nat) : leK (.ref l o n) (.ref l o n):=by
 show (if (Nat.beq l l && Nat.beq o o && Nat.beq n n) = true then True else False)
 rw [if_pos (by simp only [Nat.beq_refl,Bool.and_self])]; trivial
def offB (at_ : Int) : Nat:=(at_ - 536870912).toNat
theorem ram_yes {at_ : Int} (h : inRam at_) : at_ = ((offB at_ : Nat) : Int) + 536870912 /\ offB at_ <= 65532:=by
 obtain ⟨a,b⟩:=h
 unfold offB; omega
set_option maxRecDepth 100000 in
theorem within_ram_no (w : Nat -> Int) (fl : List Int) (at_ : Int) (ha : U32 at_) (h : ¬ inRam at_) (h4 : at_ % 4 = 0) : Spec gT 65 [.wref 0,.int .u32 536870912,.int .u32 at_,.int .i64 4] (st2 w fl) [] fun y S'=>y = .nil /\ S' = st2 w fl:=by
 have el:=ramL_len w
 unfold inRam at h
 unfold U32 at ha
 refine Spec.leS (Spec.enter gTok P65 100 Tryz.func65 rfl (by kernel_rfl) ?_)
 refine And.intro (fun h=>?_) (fun h0=>?_)
 ·exact retS (by repeat' first|exact trivial|exact rfl|exact Iff.rfl|refine And.intro ?_ ?_) (by first|exact leSt_same rfl|(repeat' first|exact trivial|exact rfl|exact Iff.rfl|exact not_false|refine And.intro ?_ ?_))
 have h0' : ¬ at_ < 536870912:=h0
 refine .inl ⟨inR_u32 (show _ <= at_ - 536870912 /\ at_ - 536870912 <= _ by omega),?_⟩
 refine .inl ⟨inR_i64 (show _ <= at_ - 536870912 /\ at_ - 536870912 <= _ by omega),?_⟩
 refine fun hm=>?_
 refine .inl ⟨inR_i64 (show _ <= (((ramL w).length : Nat) : Int) - 4 /\ (((ramL w).length : Nat) : Int) - 4 <= _ by rw [el]; decide),?_⟩
 refine And.intro (fun h=>?_) (fun h1=>absurd (show ¬ (((ramL w).length : Nat) : Int) - 4 < at_ - 536870912 from h1) (by rw [el]; omega))
 exact retS (by repeat' first|exact trivial|exact rfl|exact Iff.rfl|refine And.intro ?_ ?_) (by first|exact leSt_same rfl|(repeat' first|exact trivial|exact rfl|exact Iff.rfl|exact not_false|refine And.intro ?_ ?_))
set_option maxRecDepth 100000 in
theorem within_ram_yes (w : Nat -> Int) (fl : List Int) (at_ : Int) (ha : U32 at_) (h : inRam at_) : Spec gT 65 [.wref 0,.int .u32 536870912,.int .u32 at_,.int .i64 4] (st2 w fl) [] fun y S'=>y = .ref 0 (offB at_) 4 /\ S' = st2 w fl:=by
 have el:=ramL_len w
 obtain ⟨e,hle⟩:=ram_yes h
 unfold U32 at ha
 generalize offB at_ = o at e hle ⊢
 subst e
 refine Spec.leS (Spec.enter gTok P65 100 Tryz.func65 rfl (by kernel_rfl) ?_)
 refine And.intro (fun h=>absurd (show (o : Int) + 536870912 < 536870912 from h) (by omega)) (fun _=>?_)
 refine .inl ⟨inR_u32 (show _ <= (o : Int) + 536870912 - 536870912 /\ (o : Int) + 536870912 - 536870912 <= _ by omega),?_⟩
 refine .inl ⟨inR_i64 (show _ <= (o : Int) + 536870912 - 536870912 /\ (o : Int) + 536870912 - 536870912 <= _ by omega),?_⟩
 refine fun hm=>?_
 refine .inl ⟨inR_i64 (show _ <= (((ramL w).length : Nat) : Int) - 4 /\ (((ramL w).length : Nat) : Int) - 4 <= _ by rw [el]; decide),?_⟩
 refine And.intro (fun h1=>absurd (show (((ramL w).length : Nat) : Int) - 4 < (o : Int) + 536870912 - 536870912 from h1) (by rw [el]; omega)) (fun _=>?_)
 refine .inl ⟨inR_u32 (show _ <= (o : Int) + 536870912 - 536870912 /\ (o : Int) + 536870912 - 536870912 <= _ by omega),?_⟩
 refine .inl ⟨inR_i64 (show _ <= (o : Int) + 536870912 - 536870912 /\ (o : Int) + 536870912 - 536870912 <= _ by omega),?_⟩
 refine .inl ⟨inR_i64 (show _ <= (o : Int) + 536870912 - 536870912 + 4 /\ (o : Int) + 536870912 - 536870912 + 4 <= _ by omega),?_⟩
 refine ⟨o,o + 4,show (o : Int) + 536870912 - 536870912 = (o : Int) by omega,show (o : Int) + 536870912 - 536870912 + 4 = ((o + 4 : Nat) : Int) by omega,by omega,show o + 4 <= (ramL w).length by rw [el]; omega,show o < (ramL w).length by rw [el]; omega,?_⟩
 exact retS (show leK (.ref 0 (o * 1) (o + 4 - o)) (.ref 0 o 4) by rw [Nat.mul_one,Nat.add_sub_cancel_left]; exact le_ref _ _ _) (leSt_same rfl)
theorem encW_at (w : Nat -> Int) (j r : Nat) (hr : r < 4) : encW w (4 * j + r) = .int .u8 (byW (w j) r):=by
 unfold encW; rw [show (4 * j + r) / 4 = j by omega,show (4 * j + r) % 4 = r by omega]
set_option maxHeartbeats 4000000 in
set_option maxRecDepth 100000 in
theorem word_ram (w : Nat -> Int) (fl : List Int) (j : Nat) (hj : j < 16384) (hw : U32 (w j)) : Spec gT 118 [.ref 0 (4 * j) 4] (st2 w fl) [] fun y S'=>y = .int .u32 (w j) /\ S' = st2 w fl:=by
 have el : (List.range 65536).length = 65536:=List.length_range
 have hg : ∀ r x : Nat,r < 4 -> (List.range 65536)[4 * j + r]? = some x -> x = 4 * j + r:=fun r x hr hx=>by
  rw [List.getElem?_range (by omega)] at hx; exact (Option.some.inj hx).symm
 have e0:=encW_at w j 0 (by decide)
 have e1:=encW_at w j 1 (by decide)
 have e2:=encW_at w j 2 (by decide)
 have e3:=encW_at w j 3 (by decide)
 have b0:=byW_bd (w j) 0
 have b1:=byW_bd (w j) 1
 have b2:=byW_bd (w j) 2
 have b3:=byW_bd (w j) 3
 have hsum:=byW_sum (w j) hw
 have d0 : byD 0 = 1:=rfl
 have d1 : byD 1 = 256:=rfl
 have d2 : byD 2 = 65536:=rfl
 have d3 : byD 3 = 16777216:=rfl
 refine Spec.leS (Spec.enter gTok P118 100 Tryz.func118 rfl (by kernel_rfl) ?_)
 refine SW.rounds gTok P118 (by kernel_rfl) (N:=60) 5 ?_
 refine ⟨Nat,List.range 65536,encW w,rfl,show 4 * j + 0 < (List.range 65536).length by rw [el]; omega,fun x hx=>?_⟩
 obtain rfl:=hg 0 x (by decide) hx
 rw [e0]
 refine .inl ⟨inR_u32 (show 0 <= byW (w j) 0 /\ byW (w j) 0 <= _ by omega),?_⟩
 refine ⟨by decide,.inl ⟨inR_u32 (show 0 <= byW (w j) 0 * byD 0 /\ byW (w j) 0 * byD 0 <= _ by rw [d0]; omega),?_⟩⟩
 refine ⟨Nat,List.range 65536,encW w,rfl,show 4 * j + 1 < (List.range 65536).length by rw [el]; omega,fun x hx=>?_⟩
 obtain rfl:=hg 1 x (by decide) hx
 rw [e1]
 refine .inl ⟨inR_u32 (show 0 <= byW (w j) 1 /\ byW (w j) 1 <= _ by omega),?_⟩
 refine ⟨by decide,.inl ⟨inR_u32 (show 0 <= byW (w j) 1 * byD 1 /\ byW (w j) 1 * byD 1 <= _ by rw [d1]; omega),?_⟩⟩
 refine ⟨Nat,List.range 65536,encW w,rfl,show 4 * j + 2 < (List.range 65536).length by rw [el]; omega,fun x hx=>?_⟩
 obtain rfl:=hg 2 x (by decide) hx
 rw [e2]
 refine .inl ⟨inR_u32 (show 0 <= byW (w j) 2 /\ byW (w j) 2 <= _ by omega),?_⟩
 refine ⟨by decide,.inl ⟨inR_u32 (show 0 <= byW (w j) 2 * byD 2 /\ byW (w j) 2 * byD 2 <= _ by rw [d2]; omega),?_⟩⟩
 refine ⟨Nat,List.range 65536,encW w,rfl,show 4 * j + 3 < (List.range 65536).length by rw [el]; omega,fun x hx=>?_⟩
 obtain rfl:=hg 3 x (by decide) hx
 rw [e3]
 refine .inl ⟨inR_u32 (show 0 <= byW (w j) 3 /\ byW (w j) 3 <= _ by omega),?_⟩
 refine ⟨by decide,.inl ⟨inR_u32 (show 0 <= byW (w j) 3 * byD 3 /\ byW (w j) 3 * byD 3 <= _ by rw [d3]; omega),?_⟩⟩
 exact retS (show bits .or .u32 (bits .or .u32 (bits .or .u32 (bits .or .u32 0 (byW (w j) 0 * 1)) (byW (w j) 1 * 256)) (byW (w j) 2 * 65536)) (byW (w j) 3 * 16777216) = w j by rw [Int.mul_one,or_bytes _ _ _ _ b0 b1 b2 b3,hsum]) (leSt_same rfl)
set_option maxHeartbeats 4000000 in
set_option maxRecDepth 100000 in
theorem word_fl (a b c d : Int) (ha : 0 <= a /\ a <= 255) (hb : 0 <= b /\ b <= 255) (hc : 0 <= c /\ c <= 255) (hd : 0 <= d /\ d <= 255) : PureF gT 118 [.sl 1 [.int .u8 a,.int .u8 b,.int .u8 c,.int .u8 d]] (.int .u32 (a + b * 256 + c * 65536 + d * 16777216)):=by
 have d0 : byD 0 = 1:=rfl
 have d1 : byD 1 = 256:=rfl
 have d2 : byD 2 = 65536:=rfl
 have d3 : byD 3 = 16777216:=rfl
 refine Spec.enter gTok P118 100 Tryz.func118 rfl (by kernel_rfl) ?_
 refine fun _=>?_
 refine SW.rounds gTok P118 (by kernel_rfl) (N:=60) 5 ?_
 refine And.intro (fun _=>?_) (fun h=>absurd (show (0 : Int) < 4 by decide) h)
 refine ⟨Int,[a,b,c,d],PV.int .u8,rfl,show (0 : Int) <= 0 by decide,show (0 : Int) < 4 by decide,fun x hx=>?_⟩
 obtain rfl : a = x:=Option.some.inj hx
 refine .inl ⟨inR_u32 (show 0 <= a /\ a <= _ by omega),?_⟩
 refine ⟨by decide,.inl ⟨inR_u32 (show 0 <= a * byD 0 /\ a * byD 0 <= _ by rw [d0]; omega),?_⟩⟩
 refine And.intro (fun _=>?_) (fun h=>absurd (show (1 : Int) < 4 by decide) h)
 refine ⟨Int,[a,b,c,d],PV.int .u8,rfl,show (0 : Int) <= 1 by decide,show (1 : Int) < 4 by decide,fun x hx=>?_⟩
 obtain rfl : b = x:=Option.some.inj hx
 refine .inl ⟨inR_u32 (show 0 <= b /\ b <= _ by omega),?_⟩
 refine ⟨by decide,.inl ⟨inR_u32 (show 0 <= b * byD 1 /\ b * byD 1 <= _ by rw [d1]; omega),?_⟩⟩
 refine And.intro (fun _=>?_) (fun h=>absurd (show (2 : Int) < 4 by decide) h)
 refine ⟨Int,[a,b,c,d],PV.int .u8,rfl,show (0 : Int) <= 2 by decide,show (2 : Int) < 4 by decide,fun x hx=>?_⟩
 obtain rfl : c = x:=Option.some.inj hx
 refine .inl ⟨inR_u32 (show 0 <= c /\ c <= _ by omega),?_⟩
 refine ⟨by decide,.inl ⟨inR_u32 (show 0 <= c * byD 2 /\ c * byD 2 <= _ by rw [d2]; omega),?_⟩⟩
 refine And.intro (fun _=>?_) (fun h=>absurd (show (3 : Int) < 4 by decide) h)
 refine ⟨Int,[a,b,c,d],PV.int .u8,rfl,show (0 : Int) <= 3 by decide,show (3 : Int) < 4 by decide,fun x hx=>?_⟩
 obtain rfl : d = x:=Option.some.inj hx
 refine .inl ⟨inR_u32 (show 0 <= d /\ d <= _ by omega),?_⟩
 refine ⟨by decide,.inl ⟨inR_u32 (show 0 <= d * byD 3 /\ d * byD 3 <= _ by rw [d3]; omega),?_⟩⟩
 refine And.intro (fun h=>absurd (show (4 : Int) < 4 from h) (by decide)) (fun _=>?_)
 refine retE ?_
 show bits .or .u32 (bits .or .u32 (bits .or .u32 (bits .or .u32 0 (a * 1)) (b * 256)) (c * 65536)) (d * 16777216) = _
 rw [Int.mul_one,or_bytes _ _ _ _ ha hb hc hd]
theorem ldE_60 {fl : List Int} {a : Int} (h : a % 4 ≠ 0) : ldE fl a = 60:=by unfold ldE; rw [if_pos h]
theorem ldE_ram {fl : List Int} {a : Int} (h : ¬ a % 4 ≠ 0) (h1 : inRam a) : ldE fl a = 0:=by unfold ldE; rw [if_neg h,if_pos h1]
theorem ldE_fl {fl : List Int} {a : Int} (h : ¬ a % 4 ≠ 0) (h1 : ¬ inRam a) (h2 : inFl fl a 4) : ldE fl a = 0:=by unfold ldE; rw [if_neg h,if_neg h1,if_pos h2]
theorem ldE_no {fl : List Int} {a : Int} (h : ¬ a % 4 ≠ 0) (h1 : ¬ inRam a) (h2 : ¬ inFl fl a 4) : ldE fl a = 61:=by unfold ldE; rw [if_neg h,if_neg h1,if_neg h2]
theorem ldV_60 {fl : List Int} {w : Nat -> Int} {a : Int} (h : a % 4 ≠ 0) : ldV fl w a = 0:=by unfold ldV; rw [if_pos h]
theorem ldV_ram {fl : List Int} {w : Nat -> Int} {a : Int} (h : ¬ a % 4 ≠ 0) (h1 : inRam a) : ldV fl w a = w (offR a):=by unfold ldV; rw [if_neg h,if_pos h1]
theorem ldV_fl {fl : List Int} {w : Nat -> Int} {a : Int} (h : ¬ a % 4 ≠ 0) (h1 : ¬ inRam a) (h2 : inFl fl a 4) : ldV fl w a = hN fl (offF a) + hN fl (offF a + 2) * 65536:=by unfold ldV; rw [if_neg h,if_neg h1,if_pos h2]
theorem ldV_no {fl : List Int} {w : Nat -> Int} {a : Int} (h : ¬ a % 4 ≠ 0) (h1 : ¬ inRam a) (h2 : ¬ inFl fl a 4) : ldV fl w a = 0:=by unfold ldV; rw [if_neg h,if_neg h1,if_neg h2]
theorem offB4 {a : Int} (h : ¬ a % 4 ≠ 0) (h1 : inRam a) : offB a = 4 * offR a /\ offR a < 16384:=by
 obtain ⟨q1,q2⟩:=h1
 unfold offB offR
 have : a % 4 = 0:=Classical.not_not.1 h
 omega
set_option maxHeartbeats 4000000 in
set_option maxRecDepth 100000 in
theorem load_ok (w : Nat -> Int) (fl : List Int) (at_ : Int) (ha : U32 at_) (hb : BOk fl) (hl : fl.length <= 65536) (hw : ∀ k,U32 (w k)) : Spec gT 133 [.ptr 1 0,.int .u32 at_] (st2 w fl) [] fun y S'=>y = .tup [.int .u32 (ldV fl w at_),.int .i64 (ldE fl at_)] /\ S' = st2 w fl:=by
 refine Spec.leS (Spec.enter gTok P133 100 Tryz.func133 rfl (by kernel_rfl) ?_)
 refine And.intro (show (4 : Int) ≠ 0 by decide) (.inl ⟨ha.1,show (0 : Int) < 4 by decide,?_⟩)
 refine And.intro (fun h=>?_) (fun h=>?_)
 ·rw [ldE_60 h,ldV_60 h]
  exact retS (by repeat' first|exact trivial|exact rfl|exact Iff.rfl|refine And.intro ?_ ?_) (by first|exact leSt_same rfl|(repeat' first|exact trivial|exact rfl|exact Iff.rfl|exact not_false|refine And.intro ?_ ?_))
 have h4 : ¬ at_ % 4 ≠ 0:=h
 by_cases hr : inRam at_
 ·obtain ⟨e,hj⟩:=offB4 h4 hr
  have hy:=within_ram_yes w fl at_ ha hr
  rw [e] at hy
  rw [ldE_ram h4 hr,ldV_ram h4 hr]
  refine ⟨[],no_rl,(hy).useE rfl (by exact ⟨trivial,rfl,rfl,rfl,trivial⟩) rfl ?_⟩
  refine ⟨[],no_rl,(word_ram w fl (offR at_) hj (hw _)).useS rfl rfl rfl rfl ⟨le_ref _ _ _,trivial⟩ (And.intro (leBlk_same rfl rfl) (And.intro (leBlk_same rfl rfl) ?_))⟩
  exact retS (by repeat' first|exact trivial|exact rfl|exact Iff.rfl|refine And.intro ?_ ?_) (by first|exact leSt_same rfl|(repeat' first|exact trivial|exact rfl|exact Iff.rfl|exact not_false|refine And.intro ?_ ?_))
 ·refine ⟨[],no_rl,(within_ram_no w fl at_ ha hr (Classical.not_not.1 h4)).useE rfl (by exact ⟨trivial,rfl,rfl,rfl,trivial⟩) rfl ?_⟩
  by_cases hf : inFl fl at_ 4
  ·rw [ldE_fl h4 hr hf,ldV_fl h4 hr hf]
   have hy:=within_fl fl at_ 4 (.inr rfl) ha hl hf
   have hin : offF at_ + 4 <= fl.length:=by obtain ⟨q1,q2⟩:=hf; unfold offF; omega
   rw [cut4 hin] at hy
   have b0:=getD_ok hb (offF at_)
   have b1:=getD_ok hb (offF at_ + 1)
   have b2:=getD_ok hb (offF at_ + 2)
   have b3:=getD_ok hb (offF at_ + 3)
   have e : hN fl (offF at_) + hN fl (offF at_ + 2) * 65536 = fl.getD (offF at_) 0 + fl.getD (offF at_ + 1) 0 * 256 + fl.getD (offF at_ + 2) 0 * 65536 + fl.getD (offF at_ + 3) 0 * 16777216:=by unfold hN; rw [show offF at_ + 2 + 1 = offF at_ + 3 by omega]; omega
   rw [e]
   have hz:=word_fl _ _ _ _ b0 b1 b2 b3
   refine ⟨[],no_rl,hy.use (by repeat' first|exact trivial|exact rfl|exact Iff.rfl|exact Or.inl rfl|refine And.intro ?_ ?_) rfl rfl ?_⟩
   refine .inl ⟨show 4 ≠ 0 by decide,?_⟩
   refine ⟨[],no_rl,hz.use (by repeat' first|exact trivial|exact rfl|exact Iff.rfl|exact Or.inl rfl|refine And.intro ?_ ?_) rfl rfl ?_⟩
   exact retS (by repeat' first|exact trivial|exact rfl|exact Iff.rfl|refine And.intro ?_ ?_) (by first|exact leSt_same rfl|(repeat' first|exact trivial|exact rfl|exact Iff.rfl|exact not_false|refine And.intro ?_ ?_))
  ·rw [ldE_no h4 hr hf,ldV_no h4 hr hf]
   refine ⟨[],no_rl,(within_no fl at_ 4 (.inr rfl) ha hl hf).use (by repeat' first|exact trivial|exact rfl|exact Iff.rfl|exact Or.inl rfl|refine And.intro ?_ ?_) rfl rfl ?_⟩
   exact retS (by repeat' first|exact trivial|exact rfl|exact Iff.rfl|refine And.intro ?_ ?_) (by first|exact leSt_same rfl|(repeat' first|exact trivial|exact rfl|exact Iff.rfl|exact not_false|refine And.intro ?_ ?_))
end Go.Proofs.YtnbngokbamifbaaGreatDoor.Pw
set_option linter.unusedVariables false
namespace Go.Proofs.YtnbngokbamifbaaGreatDoor.Pw
open Go Go.RowKit
theorem stE_60 {a : Int} (h : a % 4 ≠ 0) : stE a = 60:=by unfold stE; rw [if_pos h]
theorem stE_62 {a : Int} (h : ¬ a % 4 ≠ 0) (h1 : 134217728 <= a /\ a < 134283264) : stE a = 62:=by unfold stE; rw [if_neg h,if_pos h1]
theorem stE_ok {a : Int} (h : ¬ a % 4 ≠ 0) (h2 : inRam a) : stE a = 0:=by unfold stE; rw [if_neg h,if_neg (by obtain ⟨q1,q2⟩:=h2; omega),if_pos h2]
theorem stE_61 {a : Int} (h : ¬ a % 4 ≠ 0) (h1 : ¬ (134217728 <= a /\ a < 134283264)) (h2 : ¬ inRam a) : stE a = 61:=by unfold stE; rw [if_neg h,if_neg h1,if_neg h2]
theorem stW_no {w : Nat -> Int} {a x : Int} (h : stE a ≠ 0) : stW w a x = w:=by unfold stW; rw [if_neg h]
theorem stW_ok {w : Nat -> Int} {a x : Int} (h : stE a = 0) : stW w a x = updN w (offR a) x:=by unfold stW; rw [if_pos h]
theorem wrap_by (x : Int) (k : Nat) : IntKind.u8.wrap (x / byD k) = byW x k:=IntKind.wrap_u8' _
set_option maxHeartbeats 4000000 in
set_option maxRecDepth 100000 in
theorem store_ok (w : Nat -> Int) (fl : List Int) (at_ x : Int) (ha : U32 at_) : Spec gT 30 [.ptr 1 0,.int .u32 at_,.int .u32 x] (st2 w fl) [] fun y S'=>y = .int .i64 (stE at_) /\ S' = st2 (stW w at_ x) fl:=by
 have el:=ramL_len w
 refine Spec.leS (Spec.enter gTok P30 100 Tryz.func30 rfl (by kernel_rfl) ?_)
 refine And.intro (show (4 : Int) ≠ 0 by decide) (.inl ⟨ha.1,show (0 : Int) < 4 by decide,?_⟩)
 refine And.intro (fun h=>?_) (fun h=>?_)
 ·rw [stW_no (by rw [stE_60 h]; decide),stE_60 h]
  exact retS (by repeat' first|exact trivial|exact rfl|exact Iff.rfl|refine And.intro ?_ ?_) (by first|exact leSt_same rfl|(repeat' first|exact trivial|exact rfl|exact Iff.rfl|exact not_false|refine And.intro ?_ ?_))
 have h4 : ¬ at_ % 4 ≠ 0:=h
 by_cases hf : 134217728 <= at_ /\ at_ < 134283264
 ·rw [stW_no (by rw [stE_62 h4 hf]; decide),stE_62 h4 hf]
  refine And.intro (fun _=>?_) (fun h=>absurd hf.1 h)
  refine And.intro (fun _=>?_) (fun h=>absurd hf.2 h)
  exact retS (by repeat' first|exact trivial|exact rfl|exact Iff.rfl|refine And.intro ?_ ?_) (by first|exact leSt_same rfl|(repeat' first|exact trivial|exact rfl|exact Iff.rfl|exact not_false|refine And.intro ?_ ?_))
 by_cases hr : inRam at_
 ·obtain ⟨e,hj⟩:=offB4 h4 hr
  have hy:=within_ram_yes w fl at_ ha hr
  rw [e] at hy
  rw [stW_ok (stE_ok h4 hr),stE_ok h4 hr]
  have hset:=ramL_set w (offR at_) x hj
  generalize offR at_ = j at hj hy hset ⊢
  refine And.intro (fun _=>?_) (fun h=>absurd (show 134217728 <= at_ by have:=hr.1; omega) h)
  refine And.intro (fun h=>absurd h (show ¬ at_ < 134283264 by have:=hr.1; omega)) (fun _=>?_)
  refine ⟨[],no_rl,(hy).useE rfl (by exact ⟨trivial,rfl,rfl,rfl,trivial⟩) rfl ?_⟩
  refine SW.rounds gTok P30 (by kernel_rfl) (N:=60) 5 ?_
  refine ⟨by decide,.inr ?_⟩
  refine ⟨show 4 * j + 0 < (ramL w).length by rw [el]; omega,?_⟩
  refine ⟨by decide,.inr ?_⟩
  refine ⟨show 4 * j + 1 < ((ramL w).set (4 * j + 0) _).length by rw [List.length_set,el]; omega,?_⟩
  refine ⟨by decide,.inr ?_⟩
  refine ⟨show 4 * j + 2 < (((ramL w).set (4 * j + 0) _).set (4 * j + 1) _).length by rw [List.length_set,List.length_set,el]; omega,?_⟩
  refine ⟨by decide,.inr ?_⟩
  refine ⟨show 4 * j + 3 < ((((ramL w).set (4 * j + 0) _).set (4 * j + 1) _).set (4 * j + 2) _).length by rw [List.length_set,List.length_set,List.length_set,el]; omega,?_⟩
  refine retS rfl (And.intro ?_ (And.intro (leBlk_same rfl rfl) trivial))
  show ((((ramL w).set (4 * j) (.int .u8 (IntKind.u8.wrap (x / byD 0)))).set (4 * j + 1) (.int .u8 (IntKind.u8.wrap (x / byD 1)))).set (4 * j + 2) (.int .u8 (IntKind.u8.wrap (x / byD 2)))).set (4 * j + 3) (.int .u8 (IntKind.u8.wrap (x / byD 3))) = ramL (updN w j x)
  rw [wrap_by,wrap_by,wrap_by,wrap_by]
  exact hset
 ·rw [stW_no (by rw [stE_61 h4 hf hr]; decide),stE_61 h4 hf hr]
  refine And.intro (fun h1=>?_) (fun h1=>?_)
  ·refine And.intro (fun h2=>absurd ⟨h1,h2⟩ hf) (fun _=>?_)
   refine ⟨[],no_rl,(within_ram_no w fl at_ ha hr (Classical.not_not.1 h4)).useE rfl (by exact ⟨trivial,rfl,rfl,rfl,trivial⟩) rfl ?_⟩
   exact retS (by repeat' first|exact trivial|exact rfl|exact Iff.rfl|refine And.intro ?_ ?_) (by first|exact leSt_same rfl|(repeat' first|exact trivial|exact rfl|exact Iff.rfl|exact not_false|refine And.intro ?_ ?_))
  ·refine ⟨[],no_rl,(within_ram_no w fl at_ ha hr (Classical.not_not.1 h4)).useE rfl (by exact ⟨trivial,rfl,rfl,rfl,trivial⟩) rfl ?_⟩
   exact retS (by repeat' first|exact trivial|exact rfl|exact Iff.rfl|refine And.intro ?_ ?_) (by first|exact leSt_same rfl|(repeat' first|exact trivial|exact rfl|exact Iff.rfl|exact not_false|refine And.intro ?_ ?_))
end Go.Proofs.YtnbngokbamifbaaGreatDoor.Pw
set_option linter.unusedVariables false
namespace Go.Proofs.YtnbngokbamifbaaGreatDoor.Pw
open Go Go.RowKit
structure MOk (m : MS) : Prop where
 w : ∀ k,U32 (m.w k)
 fl : BOk m.fl
 len : m.fl.length <= 65536
def isSt (f : Int) : Prop:=f = 33 \/ f = 35 \/ f = 84 \/ f = 37 \/ f = 86
instance (f : Int) : Decidable (isSt f):=by unfold isSt; infer_instance
def dataX (x : XS) (a n : Int) : XS:={ x with data:=a,words:=n }
def accW (m : MS) (x : XS) (a : Int) : Nat -> Int:=if isSt x.i.form then stW m.w a (getX x x.i.rd) else m.w
def accX (m : MS) (x : XS) (a : Int) : XS:=if isSt x.i.form then dataX x a 1 else if ldE m.fl a = 0 then putX (dataX x a 1) x.i.rd (ldV m.fl m.w a) else dataX x a 1
def accE (m : MS) (x : XS) (a : Int) : Int:=if isSt x.i.form then stE a else ldE m.fl a
def withW (m : MS) (w : Nat -> Int) : MS:={ m with w:=w }
set_option maxHeartbeats 4000000 in
set_option maxRecDepth 100000 in
theorem access_ok (m : MS) (x : XS) (a : Int) (hm : MOk m) (hx : XOk x) (ha : U32 a) : Spec gT 90 [.ptr 3 0,.int .u32 a] (stX m x) [] fun y S'=>y = .int .i64 (accE m x a) /\ S' = stX (withW m (accW m x a)) (accX m x a):=by
 refine Spec.leS (Spec.enter gTok P90 100 Tryz.func90 rfl (by kernel_rfl) ?_)
 refine And.intro (fun h1=>?_) (fun h1=>?_)
 ·have hs : isSt x.i.form:=by unfold isSt; omega
  have e1 : accW m x a = stW m.w a (getX x x.i.rd):=by unfold accW; rw [if_pos hs]
  have e2 : accX m x a = dataX x a 1:=by unfold accX; rw [if_pos hs]
  have e3 : accE m x a = stE a:=by unfold accE; rw [if_pos hs]
  rw [e1,e2,e3]
  refine ⟨[],no_rl,(getM_ok .p .p m (dataX x a 1) x.i.rd hx.rd.1 hx.rd.2).useS rfl rfl rfl rfl (by repeat' first|exact trivial|exact rfl|exact Iff.rfl|refine And.intro ?_ ?_) (And.intro (by first | exact leBlk_same rfl rfl | (repeat' first | exact trivial | exact rfl | exact Iff.rfl | exact Or.inl rfl | exact not_false | refine And.intro ?_ ?_)) (And.intro (by first | exact leBlk_same rfl rfl | (repeat' first | exact trivial | exact rfl | exact Iff.rfl | exact Or.inl rfl | exact not_false | refine And.intro ?_ ?_)) (And.intro (by first | exact leBlk_same rfl rfl | (repeat' first | exact trivial | exact rfl | exact Iff.rfl | exact Or.inl rfl | exact not_false | refine And.intro ?_ ?_)) (And.intro (by first | exact leBlk_same rfl rfl | (repeat' first | exact trivial | exact rfl | exact Iff.rfl | exact Or.inl rfl | exact not_false | refine And.intro ?_ ?_)) ?_))))⟩
  refine ⟨[],no_rl,(store_ok m.w m.fl a (getX x x.i.rd) ha).useE rfl (by exact ⟨trivial,rfl,rfl,trivial⟩) rfl ?_⟩
  exact retS (by repeat' first|exact trivial|exact rfl|exact Iff.rfl|refine And.intro ?_ ?_) (by first|exact leSt_same rfl|(repeat' first|exact trivial|exact rfl|exact Iff.rfl|exact not_false|refine And.intro ?_ ?_))
 refine And.intro (fun h2=>?_) (fun h2=>?_)
 ·have hs : isSt x.i.form:=by unfold isSt; omega
  have e1 : accW m x a = stW m.w a (getX x x.i.rd):=by unfold accW; rw [if_pos hs]
  have e2 : accX m x a = dataX x a 1:=by unfold accX; rw [if_pos hs]
  have e3 : accE m x a = stE a:=by unfold accE; rw [if_pos hs]
  rw [e1,e2,e3]
  refine ⟨[],no_rl,(getM_ok .p .p m (dataX x a 1) x.i.rd hx.rd.1 hx.rd.2).useS rfl rfl rfl rfl (by repeat' first|exact trivial|exact rfl|exact Iff.rfl|refine And.intro ?_ ?_) (And.intro (by first | exact leBlk_same rfl rfl | (repeat' first | exact trivial | exact rfl | exact Iff.rfl | exact Or.inl rfl | exact not_false | refine And.intro ?_ ?_)) (And.intro (by first | exact leBlk_same rfl rfl | (repeat' first | exact trivial | exact rfl | exact Iff.rfl | exact Or.inl rfl | exact not_false | refine And.intro ?_ ?_)) (And.intro (by first | exact leBlk_same rfl rfl | (repeat' first | exact trivial | exact rfl | exact Iff.rfl | exact Or.inl rfl | exact not_false | refine And.intro ?_ ?_)) (And.intro (by first | exact leBlk_same rfl rfl | (repeat' first | exact trivial | exact rfl | exact Iff.rfl | exact Or.inl rfl | exact not_false | refine And.intro ?_ ?_)) ?_))))⟩
  refine ⟨[],no_rl,(store_ok m.w m.fl a (getX x x.i.rd) ha).useE rfl (by exact ⟨trivial,rfl,rfl,trivial⟩) rfl ?_⟩
  exact retS (by repeat' first|exact trivial|exact rfl|exact Iff.rfl|refine And.intro ?_ ?_) (by first|exact leSt_same rfl|(repeat' first|exact trivial|exact rfl|exact Iff.rfl|exact not_false|refine And.intro ?_ ?_))
 refine And.intro (fun h3=>?_) (fun h3=>?_)
 ·have hs : isSt x.i.form:=by unfold isSt; omega
  have e1 : accW m x a = stW m.w a (getX x x.i.rd):=by unfold accW; rw [if_pos hs]
  have e2 : accX m x a = dataX x a 1:=by unfold accX; rw [if_pos hs]
  have e3 : accE m x a = stE a:=by unfold accE; rw [if_pos hs]
  rw [e1,e2,e3]
  refine ⟨[],no_rl,(getM_ok .p .p m (dataX x a 1) x.i.rd hx.rd.1 hx.rd.2).useS rfl rfl rfl rfl (by repeat' first|exact trivial|exact rfl|exact Iff.rfl|refine And.intro ?_ ?_) (And.intro (by first | exact leBlk_same rfl rfl | (repeat' first | exact trivial | exact rfl | exact Iff.rfl | exact Or.inl rfl | exact not_false | refine And.intro ?_ ?_)) (And.intro (by first | exact leBlk_same rfl rfl | (repeat' first | exact trivial | exact rfl | exact Iff.rfl | exact Or.inl rfl | exact not_false | refine And.intro ?_ ?_)) (And.intro (by first | exact leBlk_same rfl rfl | (repeat' first | exact trivial | exact rfl | exact Iff.rfl | exact Or.inl rfl | exact not_false | refine And.intro ?_ ?_)) (And.intro (by first | exact leBlk_same rfl rfl | (repeat' first | exact trivial | exact rfl | exact Iff.rfl | exact Or.inl rfl | exact not_false | refine And.intro ?_ ?_)) ?_))))⟩
  refine ⟨[],no_rl,(store_ok m.w m.fl a (getX x x.i.rd) ha).useE rfl (by exact ⟨trivial,rfl,rfl,trivial⟩) rfl ?_⟩
  exact retS (by repeat' first|exact trivial|exact rfl|exact Iff.rfl|refine And.intro ?_ ?_) (by first|exact leSt_same rfl|(repeat' first|exact trivial|exact rfl|exact Iff.rfl|exact not_false|refine And.intro ?_ ?_))
 refine And.intro (fun h4=>?_) (fun h4=>?_)
 ·have hs : isSt x.i.form:=by unfold isSt; omega
  have e1 : accW m x a = stW m.w a (getX x x.i.rd):=by unfold accW; rw [if_pos hs]
  have e2 : accX m x a = dataX x a 1:=by unfold accX; rw [if_pos hs]
  have e3 : accE m x a = stE a:=by unfold accE; rw [if_pos hs]
  rw [e1,e2,e3]
  refine ⟨[],no_rl,(getM_ok .p .p m (dataX x a 1) x.i.rd hx.rd.1 hx.rd.2).useS rfl rfl rfl rfl (by repeat' first|exact trivial|exact rfl|exact Iff.rfl|refine And.intro ?_ ?_) (And.intro (by first | exact leBlk_same rfl rfl | (repeat' first | exact trivial | exact rfl | exact Iff.rfl | exact Or.inl rfl | exact not_false | refine And.intro ?_ ?_)) (And.intro (by first | exact leBlk_same rfl rfl | (repeat' first | exact trivial | exact rfl | exact Iff.rfl | exact Or.inl rfl | exact not_false | refine And.intro ?_ ?_)) (And.intro (by first | exact leBlk_same rfl rfl | (repeat' first | exact trivial | exact rfl | exact Iff.rfl | exact Or.inl rfl | exact not_false | refine And.intro ?_ ?_)) (And.intro (by first | exact leBlk_same rfl rfl | (repeat' first | exact trivial | exact rfl | exact Iff.rfl | exact Or.inl rfl | exact not_false | refine And.intro ?_ ?_)) ?_))))⟩
  refine ⟨[],no_rl,(store_ok m.w m.fl a (getX x x.i.rd) ha).useE rfl (by exact ⟨trivial,rfl,rfl,trivial⟩) rfl ?_⟩
  exact retS (by repeat' first|exact trivial|exact rfl|exact Iff.rfl|refine And.intro ?_ ?_) (by first|exact leSt_same rfl|(repeat' first|exact trivial|exact rfl|exact Iff.rfl|exact not_false|refine And.intro ?_ ?_))
 refine And.intro (fun h5=>?_) (fun h5=>?_)
 ·have hs : isSt x.i.form:=by unfold isSt; omega
  have e1 : accW m x a = stW m.w a (getX x x.i.rd):=by unfold accW; rw [if_pos hs]
  have e2 : accX m x a = dataX x a 1:=by unfold accX; rw [if_pos hs]
  have e3 : accE m x a = stE a:=by unfold accE; rw [if_pos hs]
  rw [e1,e2,e3]
  refine ⟨[],no_rl,(getM_ok .p .p m (dataX x a 1) x.i.rd hx.rd.1 hx.rd.2).useS rfl rfl rfl rfl (by repeat' first|exact trivial|exact rfl|exact Iff.rfl|refine And.intro ?_ ?_) (And.intro (by first | exact leBlk_same rfl rfl | (repeat' first | exact trivial | exact rfl | exact Iff.rfl | exact Or.inl rfl | exact not_false | refine And.intro ?_ ?_)) (And.intro (by first | exact leBlk_same rfl rfl | (repeat' first | exact trivial | exact rfl | exact Iff.rfl | exact Or.inl rfl | exact not_false | refine And.intro ?_ ?_)) (And.intro (by first | exact leBlk_same rfl rfl | (repeat' first | exact trivial | exact rfl | exact Iff.rfl | exact Or.inl rfl | exact not_false | refine And.intro ?_ ?_)) (And.intro (by first | exact leBlk_same rfl rfl | (repeat' first | exact trivial | exact rfl | exact Iff.rfl | exact Or.inl rfl | exact not_false | refine And.intro ?_ ?_)) ?_))))⟩
  refine ⟨[],no_rl,(store_ok m.w m.fl a (getX x x.i.rd) ha).useE rfl (by exact ⟨trivial,rfl,rfl,trivial⟩) rfl ?_⟩
  exact retS (by repeat' first|exact trivial|exact rfl|exact Iff.rfl|refine And.intro ?_ ?_) (by first|exact leSt_same rfl|(repeat' first|exact trivial|exact rfl|exact Iff.rfl|exact not_false|refine And.intro ?_ ?_))
 ·have hs : ¬ isSt x.i.form:=by unfold isSt; omega
  have e1 : accW m x a = m.w:=by unfold accW; rw [if_neg hs]
  have e3 : accE m x a = ldE m.fl a:=by unfold accE; rw [if_neg hs]
  have e2 : accX m x a = if ldE m.fl a = 0 then putX (dataX x a 1) x.i.rd (ldV m.fl m.w a) else dataX x a 1:=by unfold accX; rw [if_neg hs]
  rw [e1,e2,e3]
  refine ⟨[],no_rl,(load_ok m.w m.fl a ha hm.fl hm.len hm.w).useE rfl (by exact ⟨trivial,rfl,trivial⟩) rfl ?_⟩
  refine And.intro (fun h=>?_) (fun h=>?_)
  ·rw [if_pos h]
   refine ⟨[],no_rl,(put_ok m (dataX x a 1) x.i.rd (ldV m.fl m.w a) hx.rd.1 hx.rd.2).useS rfl rfl rfl rfl (by repeat' first|exact trivial|exact rfl|exact Iff.rfl|refine And.intro ?_ ?_) (And.intro (by first | exact leBlk_same rfl rfl | (repeat' first | exact trivial | exact rfl | exact Iff.rfl | exact Or.inl rfl | exact not_false | refine And.intro ?_ ?_)) (And.intro (by first | exact leBlk_same rfl rfl | (repeat' first | exact trivial | exact rfl | exact Iff.rfl | exact Or.inl rfl | exact not_false | refine And.intro ?_ ?_)) (And.intro (by first | exact leBlk_same rfl rfl | (repeat' first | exact trivial | exact rfl | exact Iff.rfl | exact Or.inl rfl | exact not_false | refine And.intro ?_ ?_)) (And.intro (by first | exact leBlk_same rfl rfl | (repeat' first | exact trivial | exact rfl | exact Iff.rfl | exact Or.inl rfl | exact not_false | refine And.intro ?_ ?_)) ?_))))⟩
   exact retS (by repeat' first|exact trivial|exact rfl|exact Iff.rfl|refine And.intro ?_ ?_) (by first|exact leSt_same rfl|(repeat' first|exact trivial|exact rfl|exact Iff.rfl|exact not_false|refine And.intro ?_ ?_))
  ·rw [if_neg h]
   exact retS (by repeat' first|exact trivial|exact rfl|exact Iff.rfl|refine And.intro ?_ ?_) (by first|exact leSt_same rfl|(repeat' first|exact trivial|exact rfl|exact Iff.rfl|exact not_false|refine And.intro ?_ ?_))
def bitP (regs : Int) (r : Nat) : Int:=bits .and .i64 (regs / Ev.pow2 .i64 (r : Int)) 1
def pushG (x : XS) (w : Nat -> Int) (a : Int) : Nat -> (Nat -> Int) × Int × Int
 | 0=>(w,a,0)
 | r + 1=>if (pushG x w a r).2.2 ≠ 0 then pushG x w a r else if bitP x.i.regs r = 0 then pushG x w a r
  else if stE (pushG x w a r).2.1 ≠ 0 then ((pushG x w a r).1,(pushG x w a r).2.1,stE (pushG x w a r).2.1)
  else (stW (pushG x w a r).1 (pushG x w a r).2.1 (getX x r),IntKind.u32.wrap ((pushG x w a r).2.1 + 4),0)
theorem pushG_stick {x : XS} {w : Nat -> Int} {a : Int} {r : Nat} (h : (pushG x w a r).2.2 ≠ 0) : ∀ n,pushG x w a (r + n) = pushG x w a r
 | 0=>rfl
 | n + 1=>by rw [← Nat.add_assoc,pushG,pushG_stick h n,if_pos h]
theorem pushG_skip {x : XS} {w : Nat -> Int} {a : Int} {r : Nat} (h : (pushG x w a r).2.2 = 0) (hb : bitP x.i.regs r = 0) : pushG x w a (r + 1) = pushG x w a r:=by rw [pushG,if_neg (by omega),if_pos hb]
theorem pushG_bad {x : XS} {w : Nat -> Int} {a : Int} {r : Nat} (h : (pushG x w a r).2.2 = 0) (hb : ¬ bitP x.i.regs r = 0) (he : stE (pushG x w a r).2.1 ≠ 0) : pushG x w a (r + 1) = ((pushG x w a r).1,(pushG x w a r).2.1,stE (pushG x w a r).2.1):=by rw [pushG,if_neg (by omega),if_neg hb,if_pos he]
theorem pushG_ok {x : XS} {w : Nat -> Int} {a : Int} {r : Nat} (h : (pushG x w a r).2.2 = 0) (hb : ¬ bitP x.i.regs r = 0) (he : ¬ stE (pushG x w a r).2.1 ≠ 0) : pushG x w a (r + 1) = (stW (pushG x w a r).1 (pushG x w a r).2.1 (getX x r),IntKind.u32.wrap ((pushG x w a r).2.1 + 4),0):=by rw [pushG,if_neg (by omega),if_neg hb,if_neg he]
theorem pushG_bd {x : XS} {w : Nat -> Int} {a : Int} (ha : U32 a) : ∀ r,U32 (pushG x w a r).2.1
 | 0=>ha
 | r + 1=>by
  have ih:=pushG_bd (x:=x) (w:=w) ha r
  rw [pushG]
  split
  ·exact ih
  ·split
   ·exact ih
   ·split
    ·exact ih
    ·exact wrap_u32 _
def pushA (x : XS) : Int:=IntKind.u32.wrap (getX x 13 - IntKind.u32.wrap (4 * bits16 x.i.regs))
def pushR (m : MS) (x : XS) : (Nat -> Int) × Int × Int:=pushG x m.w (pushA x) 15
def pushX (m : MS) (x : XS) : XS:=if (pushR m x).2.2 = 0 then putX (dataX x (pushA x) (bits16 x.i.regs)) 13 (pushA x) else dataX x (pushA x) (bits16 x.i.regs)
set_option maxHeartbeats 8000000 in
set_option maxRecDepth 100000 in
theorem push_ok (m : MS) (x : XS) (hx : XOk x) : Spec gT 91 [.ptr 3 0] (stX m x) [] fun y S'=>y = .int .i64 (pushR m x).2.2 /\ S' = stX (withW m (pushR m x).1) (pushX m x):=by
 have hA : U32 (pushA x):=wrap_u32 _
 have hbits:=bits16_bd x.i.regs hx.regs.1 hx.regs.2
 have ew : IntKind.u32.wrap x.i.regs = x.i.regs:=by rw [IntKind.wrap_u32']; have:=hx.regs; omega
 refine Spec.leS (Spec.enter gTok P91 100 Tryz.func91 rfl (by kernel_rfl) ?_)
 refine .inl ⟨inR_u32 (show 0 <= x.i.regs /\ x.i.regs <= _ by have:=hx.regs; omega),?_⟩
 refine ⟨[],no_rl,(pop_pure x.i.regs hx.regs.1 hx.regs.2).use (by repeat' first|exact trivial|exact rfl|exact Iff.rfl|exact Or.inl rfl|refine And.intro ?_ ?_) rfl rfl ?_⟩
 refine .inl ⟨inR_i64 (show _ <= 4 * bits16 x.i.regs /\ 4 * bits16 x.i.regs <= _ by omega),?_⟩
 refine .inr ?_
 refine ⟨[],no_rl,(getM_ok .w .p m { x with words:=bits16 x.i.regs } 13 (by decide) (by decide)).useE rfl (by exact ⟨trivial,rfl,trivial⟩) rfl ?_⟩
 refine .inr ?_
 have e0 : pushG x m.w (pushA x) 0 = (m.w,pushA x,0):=rfl
 refine SW.loopX gTok P91 (by kernel_rfl) (α:={r : Nat // r <= 15 /\ (pushG x m.w (pushA x) r).2.2 = 0}) (fun r=>[(0,.ptr 3 0),(3,.int .u32 (pushG x m.w (pushA x) r.1).2.1),(32,.int .i64 r.1)]) (fun r=>stX (withW m (pushG x m.w (pushA x) r.1).1) (dataX x (pushA x) (bits16 x.i.regs))) (fun r=>15 - r.1) ⟨0,by omega,rfl⟩ 60 [some 0,some 1,some 2,some 3] ?_ ?_
 ·repeat' first | exact trivial | exact rfl | exact Iff.rfl | refine And.intro ?_ ?_
 rintro ⟨r,hr,hz⟩
 have hP:=pushG_bd (x:=x) (w:=m.w) hA r
 refine And.intro (fun h=>?_) (fun h=>?_)
 ·have h' : (r : Int) < 15:=h
  refine ⟨show (0 : Int) <= (r : Int) by omega,?_⟩
  refine And.intro (fun hb=>?_) (fun hb=>?_)
  ·have hs:=pushG_skip (x:=x) (w:=m.w) (a:=pushA x) hz hb
   refine .inl ⟨inR_i64 (show _ <= (r : Int) + 1 /\ (r : Int) + 1 <= _ by omega),⟨⟨r + 1,by omega,by rw [hs]; exact hz⟩,[some 0,some 1,some 2,some 3],show 15 - (r + 1) < 15 - r by omega,?_⟩⟩
   show subK _ _ _ (PSt.bare _ [(0,.ptr 3 0),(3,.int .u32 (pushG x m.w (pushA x) (r + 1)).2.1),(32,.int .i64 (r + 1 : Nat))] (stX (withW m (pushG x m.w (pushA x) (r + 1)).1) (dataX x (pushA x) (bits16 x.i.regs))))
   rw [hs]
   repeat' first | exact trivial | exact rfl | exact Iff.rfl | refine And.intro ?_ ?_
  ·refine ⟨[],no_rl,(getM_ok .p .p (withW m (pushG x m.w (pushA x) r).1) (dataX x (pushA x) (bits16 x.i.regs)) (r : Int) (by omega) (by omega)).useE rfl (by exact ⟨trivial,rfl,trivial⟩) rfl ?_⟩
   refine ⟨[],no_rl,(store_ok (pushG x m.w (pushA x) r).1 m.fl (pushG x m.w (pushA x) r).2.1 (getX x r) hP).useE rfl (by exact ⟨trivial,rfl,rfl,trivial⟩) rfl ?_⟩
   refine And.intro (fun he=>?_) (fun he=>?_)
   ·have hE:=pushG_bad (x:=x) (w:=m.w) (a:=pushA x) hz hb he
    have hF : pushR m x = ((pushG x m.w (pushA x) r).1,(pushG x m.w (pushA x) r).2.1,stE (pushG x m.w (pushA x) r).2.1):=by
     have hs:=pushG_stick (x:=x) (w:=m.w) (a:=pushA x) (r:=r + 1) (by rw [hE]; exact he) (14 - r)
     unfold pushR
     rw [show 15 = r + 1 + (14 - r) by omega,hs,hE]
    have hX : pushX m x = dataX x (pushA x) (bits16 x.i.regs):=by unfold pushX; rw [hF,if_neg (show ¬ stE _ = 0 from he)]
    rw [hF,hX]
    exact retS rfl (And.intro (show ramL (stW _ _ _) = ramL _ by rw [stW_no he]; rfl) (And.intro (leBlk_same rfl rfl) (leSt_same rfl)))
   ·have hs:=pushG_ok (x:=x) (w:=m.w) (a:=pushA x) hz hb he
    refine .inr ?_
    refine .inl ⟨inR_i64 (show _ <= (r : Int) + 1 /\ (r : Int) + 1 <= _ by omega),⟨⟨r + 1,by omega,by rw [hs]⟩,[some 0,some 1,some 2,some 3],show 15 - (r + 1) < 15 - r by omega,?_⟩⟩
    show subK _ _ _ (PSt.bare _ [(0,.ptr 3 0),(3,.int .u32 (pushG x m.w (pushA x) (r + 1)).2.1),(32,.int .i64 (r + 1 : Nat))] (stX (withW m (pushG x m.w (pushA x) (r + 1)).1) (dataX x (pushA x) (bits16 x.i.regs))))
    rw [hs]
    repeat' first | exact trivial | exact rfl | exact Iff.rfl | refine And.intro ?_ ?_
 ·have h' : ¬ (r : Int) < 15:=h
  obtain rfl : r = 15:=by omega
  have hX : pushX m x = putX (dataX x (pushA x) (bits16 x.i.regs)) 13 (pushA x):=by unfold pushX; rw [if_pos (show (pushR m x).2.2 = 0 from hz)]
  rw [show (pushR m x).2.2 = 0 from hz,hX]
  refine ⟨[],no_rl,(put_ok (withW m (pushG x m.w (pushA x) 15).1) (dataX x (pushA x) (bits16 x.i.regs)) 13 (pushA x) (by decide) (by decide)).useE rfl (by exact ⟨trivial,rfl,rfl,trivial⟩) rfl ?_⟩
  exact retS rfl (leSt_same rfl)
def popG (m : MS) (x : XS) (a : Int) : Nat -> XS × Int × Int
 | 0=>(x,a,0)
 | r + 1=>if (popG m x a r).2.2 ≠ 0 then popG m x a r else if bitP x.i.regs r = 0 then popG m x a r
  else if ldE m.fl (popG m x a r).2.1 ≠ 0 then ((popG m x a r).1,(popG m x a r).2.1,ldE m.fl (popG m x a r).2.1)
  else if r = 15 then (backX (popG m x a r).1 (ldV m.fl m.w (popG m x a r).2.1),IntKind.u32.wrap ((popG m x a r).2.1 + 4),0)
  else (putX (popG m x a r).1 r (ldV m.fl m.w (popG m x a r).2.1),IntKind.u32.wrap ((popG m x a r).2.1 + 4),0)
theorem popG_stick {m : MS} {x : XS} {a : Int} {r : Nat} (h : (popG m x a r).2.2 ≠ 0) : ∀ n,popG m x a (r + n) = popG m x a r
 | 0=>rfl
 | n + 1=>by rw [← Nat.add_assoc,popG,popG_stick h n,if_pos h]
theorem popG_skip {m : MS} {x : XS} {a : Int} {r : Nat} (h : (popG m x a r).2.2 = 0) (hb : bitP x.i.regs r = 0) : popG m x a (r + 1) = popG m x a r:=by rw [popG,if_neg (by omega),if_pos hb]
theorem popG_bad {m : MS} {x : XS} {a : Int} {r : Nat} (h : (popG m x a r).2.2 = 0) (hb : ¬ bitP x.i.regs r = 0) (he : ldE m.fl (popG m x a r).2.1 ≠ 0) : popG m x a (r + 1) = ((popG m x a r).1,(popG m x a r).2.1,ldE m.fl (popG m x a r).2.1):=by rw [popG,if_neg (by omega),if_neg hb,if_pos he]
theorem popG_back {m : MS} {x : XS} {a : Int} {r : Nat} (h : (popG m x a r).2.2 = 0) (hb : ¬ bitP x.i.regs r = 0) (he : ¬ ldE m.fl (popG m x a r).2.1 ≠ 0) (hr : r = 15) : popG m x a (r + 1) = (backX (popG m x a r).1 (ldV m.fl m.w (popG m x a r).2.1),IntKind.u32.wrap ((popG m x a r).2.1 + 4),0):=by rw [popG,if_neg (by omega),if_neg hb,if_neg he,if_pos hr]
theorem popG_put {m : MS} {x : XS} {a : Int} {r : Nat} (h : (popG m x a r).2.2 = 0) (hb : ¬ bitP x.i.regs r = 0) (he : ¬ ldE m.fl (popG m x a r).2.1 ≠ 0) (hr : ¬ r = 15) : popG m x a (r + 1) = (putX (popG m x a r).1 r (ldV m.fl m.w (popG m x a r).2.1),IntKind.u32.wrap ((popG m x a r).2.1 + 4),0):=by rw [popG,if_neg (by omega),if_neg hb,if_neg he,if_neg hr]
theorem backX_i (x : XS) (v : Int) : (backX x v).i = x.i:=by unfold backX; split <;> rfl
theorem popG_bd {m : MS} {x : XS} {a : Int} (ha : U32 a) : ∀ r,U32 (popG m x a r).2.1 /\ (popG m x a r).1.i = x.i
 | 0=>⟨ha,rfl⟩
 | r + 1=>by
  have ih:=popG_bd (m:=m) (x:=x) ha r
  rw [popG]
  split
  ·exact ih
  ·split
   ·exact ih
   ·split
    ·exact ih
    ·split
     ·exact ⟨wrap_u32 _,(backX_i _ _).trans ih.2⟩
     ·exact ⟨wrap_u32 _,ih.2⟩
def popR (m : MS) (x : XS) : XS × Int × Int:=popG m (dataX x (getX x 13) (bits16 x.i.regs)) (getX x 13) 16
def popX (m : MS) (x : XS) : XS:=if (popR m x).2.2 = 0 then putX (popR m x).1 13 (popR m x).2.1 else (popR m x).1
set_option maxHeartbeats 8000000 in
set_option maxRecDepth 100000 in
theorem popm_ok (m : MS) (x : XS) (hm : MOk m) (hx : XOk x) : Spec gT 92 [.ptr 3 0] (stX m x) [] fun y S'=>y = .int .i64 (popR m x).2.2 /\ S' = stX m (popX m x):=by
 have hA : U32 (getX x 13):=getX_bd hx _
 refine Spec.leS (Spec.enter gTok P92 100 Tryz.func92 rfl (by kernel_rfl) ?_)
 refine .inl ⟨inR_u32 (show 0 <= x.i.regs /\ x.i.regs <= _ by have:=hx.regs; omega),?_⟩
 refine ⟨[],no_rl,(pop_pure x.i.regs hx.regs.1 hx.regs.2).use (by repeat' first|exact trivial|exact rfl|exact Iff.rfl|exact Or.inl rfl|refine And.intro ?_ ?_) rfl rfl ?_⟩
 refine ⟨[],no_rl,(get_ok m { x with words:=bits16 x.i.regs } 13 (by decide) (by decide)).useE rfl (by exact ⟨trivial,rfl,trivial⟩) rfl ?_⟩
 generalize hx2 : dataX x (getX x 13) (bits16 x.i.regs) = x2
 have hR : popR m x = popG m x2 (getX x 13) 16:=by unfold popR; rw [hx2]
 have hi : x2.i = x.i:=by rw [← hx2]; rfl
 refine SW.loopX gTok P92 (by kernel_rfl) (α:={r : Nat // r <= 16 /\ (popG m x2 (getX x 13) r).2.2 = 0}) (fun r=>[(0,.ptr 3 0),(3,.int .u32 (popG m x2 (getX x 13) r.1).2.1),(26,.int .i64 r.1)]) (fun r=>stX m (popG m x2 (getX x 13) r.1).1) (fun r=>16 - r.1) ⟨0,by omega,rfl⟩ 60 [some 0,some 1,some 2,some 3] ?_ ?_
 ·show subK _ _ _ (PSt.bare _ [(0,.ptr 3 0),(3,.int .u32 (getX x 13)),(26,.int .i64 (0 : Nat))] (stX m x2))
  rw [← hx2]
  repeat' first | exact trivial | exact rfl | exact Iff.rfl | refine And.intro ?_ ?_
 rintro ⟨r,hr,hz⟩
 obtain ⟨hP,hI⟩:=popG_bd (m:=m) (x:=x2) hA r
 refine And.intro (fun h=>?_) (fun h=>?_)
 ·have h' : (r : Int) < 16:=h
  refine ⟨show (0 : Int) <= (r : Int) by omega,?_⟩
  refine And.intro (fun hb=>?_) (fun hb=>?_)
  ·have hb' : bitP x2.i.regs r = 0:=by rw [← hI]; exact hb
   have hs:=popG_skip (m:=m) (x:=x2) (a:=getX x 13) hz hb'
   refine .inl ⟨inR_i64 (show _ <= (r : Int) + 1 /\ (r : Int) + 1 <= _ by omega),⟨⟨r + 1,by omega,by rw [hs]; exact hz⟩,[some 0,some 1,some 2,some 3],show 16 - (r + 1) < 16 - r by omega,?_⟩⟩
   show subK _ _ _ (PSt.bare _ [(0,.ptr 3 0),(3,.int .u32 (popG m x2 (getX x 13) (r + 1)).2.1),(26,.int .i64 (r + 1 : Nat))] (stX m (popG m x2 (getX x 13) (r + 1)).1))
   rw [hs]
   repeat' first | exact trivial | exact rfl | exact Iff.rfl | refine And.intro ?_ ?_
  ·have hb' : ¬ bitP x2.i.regs r = 0:=by rw [← hI]; exact hb
   refine ⟨[],no_rl,(load_ok m.w m.fl (popG m x2 (getX x 13) r).2.1 hP hm.fl hm.len hm.w).useE rfl (by exact ⟨trivial,rfl,trivial⟩) rfl ?_⟩
   refine And.intro (fun he=>?_) (fun he=>?_)
   ·have hE:=popG_bad (m:=m) (x:=x2) (a:=getX x 13) hz hb' he
    have hF : popR m x = ((popG m x2 (getX x 13) r).1,(popG m x2 (getX x 13) r).2.1,ldE m.fl (popG m x2 (getX x 13) r).2.1):=by
     have hs:=popG_stick (m:=m) (x:=x2) (a:=getX x 13) (r:=r + 1) (by rw [hE]; exact he) (15 - r)
     rw [hR,show 16 = r + 1 + (15 - r) by omega,hs,hE]
    have hX : popX m x = (popG m x2 (getX x 13) r).1:=by unfold popX; rw [hF,if_neg (show ¬ ldE m.fl _ = 0 from he)]
    rw [hF,hX]
    exact retS rfl (leSt_same rfl)
   ·refine .inr ?_
    refine And.intro (fun h15=>?_) (fun h15=>?_)
    ·have hs:=popG_back (m:=m) (x:=x2) (a:=getX x 13) hz hb' he (show r = 15 by have : (r : Int) = 15:=h15; omega)
     refine ⟨[],no_rl,(back_ok m (popG m x2 (getX x 13) r).1 (ldV m.fl m.w (popG m x2 (getX x 13) r).2.1)).useE rfl (by exact ⟨trivial,rfl,trivial⟩) rfl ?_⟩
     refine .inl ⟨inR_i64 (show _ <= (r : Int) + 1 /\ (r : Int) + 1 <= _ by omega),⟨⟨r + 1,by omega,by rw [hs]⟩,[some 0,some 1,some 2,some 3],show 16 - (r + 1) < 16 - r by omega,?_⟩⟩
     show subK _ _ _ (PSt.bare _ [(0,.ptr 3 0),(3,.int .u32 (popG m x2 (getX x 13) (r + 1)).2.1),(26,.int .i64 (r + 1 : Nat))] (stX m (popG m x2 (getX x 13) (r + 1)).1))
     rw [hs]
     repeat' first | exact trivial | exact rfl | exact Iff.rfl | refine And.intro ?_ ?_
    ·have hs:=popG_put (m:=m) (x:=x2) (a:=getX x 13) hz hb' he (show ¬ r = 15 from fun e=>h15 (show (r : Int) = 15 by omega))
     refine ⟨[],no_rl,(put_ok m (popG m x2 (getX x 13) r).1 (r : Int) (ldV m.fl m.w (popG m x2 (getX x 13) r).2.1) (by omega) (by omega)).useE rfl (by exact ⟨trivial,rfl,rfl,trivial⟩) rfl ?_⟩
     refine .inl ⟨inR_i64 (show _ <= (r : Int) + 1 /\ (r : Int) + 1 <= _ by omega),⟨⟨r + 1,by omega,by rw [hs]⟩,[some 0,some 1,some 2,some 3],show 16 - (r + 1) < 16 - r by omega,?_⟩⟩
     show subK _ _ _ (PSt.bare _ [(0,.ptr 3 0),(3,.int .u32 (popG m x2 (getX x 13) (r + 1)).2.1),(26,.int .i64 (r + 1 : Nat))] (stX m (popG m x2 (getX x 13) (r + 1)).1))
     rw [hs]
     repeat' first | exact trivial | exact rfl | exact Iff.rfl | refine And.intro ?_ ?_
 ·have h' : ¬ (r : Int) < 16:=h
  obtain rfl : r = 16:=by omega
  have hX : popX m x = putX (popG m x2 (getX x 13) 16).1 13 (popG m x2 (getX x 13) 16).2.1:=by unfold popX; rw [hR,if_pos hz]
  rw [show (popR m x).2.2 = 0 by rw [hR]; exact hz,hX]
  refine ⟨[],no_rl,(put_ok m (popG m x2 (getX x 13) 16).1 13 (popG m x2 (getX x 13) 16).2.1 (by decide) (by decide)).useE rfl (by exact ⟨trivial,rfl,rfl,trivial⟩) rfl ?_⟩
  exact retS rfl (leSt_same rfl)
end Go.Proofs.YtnbngokbamifbaaGreatDoor.Pw

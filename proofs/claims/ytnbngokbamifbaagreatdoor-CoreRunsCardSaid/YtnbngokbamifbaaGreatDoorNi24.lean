/- What a law is proved with. -/
import Derived.Test.YtnbngokbamifbaaGreatDoorNi21
import Derived.Test.YtnbngokbamifbaaGreatDoorNi22
import Derived.Test.YtnbngokbamifbaaGreatDoorNi23
import Derived.Test.YtnbngokbamifbaaGreatDoorNi14
set_option linter.unusedVariables false
set_option linter.unusedSimpArgs false
set_option linter.unusedVariables false
namespace Go.Proofs.YtnbngokbamifbaaGreatDoor.Pw
open Go Go.RowKit
def doE (m : MS) (x : XS) : Int:=if adrCls x.i.form ≠ 0 then accE m x (adrX x) else if x.i.form = 42 then (pushR m x).2.2 else if x.i.form = 43 then (popR m x).2.2 else 0
def doW (m : MS) (x : XS) : Nat -> Int:=if adrCls x.i.form ≠ 0 then accW m x (adrX x) else if x.i.form = 42 then (pushR m x).1 else m.w
def plainX (x : XS) : XS:=if sumCls x.i.form ≠ 0 then sumsX x else if logCls x.i.form ≠ 0 then logicsX x else if shCls x.i.form ≠ 0 then shiftsX x else if prodCls x.i.form ≠ 0 then prodX x else if movCls x.i.form ≠ 0 then movesX x else jumpsX x
def doX (m : MS) (x : XS) : XS:=if adrCls x.i.form ≠ 0 then accX m x (adrX x) else if x.i.form = 42 then pushX m x else if x.i.form = 43 then popX m x else plainX x
theorem adrX_bd {x : XS} : U32 (adrX x):=by
 unfold adrX
 repeat' split
 all_goals first | exact wrap_u32 _ | exact ⟨by decide,by decide⟩
set_option maxHeartbeats 8000000 in
set_option maxRecDepth 100000 in
theorem do_ok (m : MS) (x : XS) (hm : MOk m) (hx : XOk x) : Spec gT 55 [.ptr 3 0] (stX m x) [] fun y S'=>y = .int .i64 (doE m x) /\ S' = stX (withW m (doW m x)) (doX m x):=by
 refine Spec.leS (Spec.enter gTok P55 100 Tryz.func55 rfl (by kernel_rfl) ?_)
 refine ⟨[],no_rl,(address_ok m x hx).useE rfl (by exact ⟨trivial,trivial⟩) rfl ?_⟩
 refine And.intro (fun ha=>?_) (fun ha=>?_)
 ·have ha' : adrCls x.i.form ≠ 0:=ha
  have e1 : doE m x = accE m x (adrX x):=by unfold doE; rw [if_pos ha']
  have e2 : doW m x = accW m x (adrX x):=by unfold doW; rw [if_pos ha']
  have e3 : doX m x = accX m x (adrX x):=by unfold doX; rw [if_pos ha']
  rw [e1,e2,e3]
  refine ⟨[],no_rl,(access_ok m x (adrX x) hm hx adrX_bd).useE rfl (by exact ⟨trivial,rfl,trivial⟩) rfl ?_⟩
  exact retS (by repeat' first|exact trivial|exact rfl|exact Iff.rfl|refine And.intro ?_ ?_) (by first|exact leSt_same rfl|(repeat' first|exact trivial|exact rfl|exact Iff.rfl|exact not_false|refine And.intro ?_ ?_))
 have ha' : ¬ adrCls x.i.form ≠ 0:=ha
 refine And.intro (fun h42=>?_) (fun h42=>?_)
 ·have e1 : doE m x = (pushR m x).2.2:=by unfold doE; rw [if_neg ha',if_pos h42]
  have e2 : doW m x = (pushR m x).1:=by unfold doW; rw [if_neg ha',if_pos h42]
  have e3 : doX m x = pushX m x:=by unfold doX; rw [if_neg ha',if_pos h42]
  rw [e1,e2,e3]
  refine ⟨[],no_rl,(push_ok m x hx).useE rfl (by exact ⟨trivial,trivial⟩) rfl ?_⟩
  exact retS (by repeat' first|exact trivial|exact rfl|exact Iff.rfl|refine And.intro ?_ ?_) (by first|exact leSt_same rfl|(repeat' first|exact trivial|exact rfl|exact Iff.rfl|exact not_false|refine And.intro ?_ ?_))
 have e2 : doW m x = m.w:=by unfold doW; rw [if_neg ha',if_neg h42]
 rw [e2]
 refine And.intro (fun h43=>?_) (fun h43=>?_)
 ·have e1 : doE m x = (popR m x).2.2:=by unfold doE; rw [if_neg ha',if_neg h42,if_pos h43]
  have e3 : doX m x = popX m x:=by unfold doX; rw [if_neg ha',if_neg h42,if_pos h43]
  rw [e1,e3]
  refine ⟨[],no_rl,(popm_ok m x hm hx).useE rfl (by exact ⟨trivial,trivial⟩) rfl ?_⟩
  exact retS (by repeat' first|exact trivial|exact rfl|exact Iff.rfl|refine And.intro ?_ ?_) (by first|exact leSt_same rfl|(repeat' first|exact trivial|exact rfl|exact Iff.rfl|exact not_false|refine And.intro ?_ ?_))
 have e1 : doE m x = 0:=by unfold doE; rw [if_neg ha',if_neg h42,if_neg h43]
 have e3 : doX m x = plainX x:=by unfold doX; rw [if_neg ha',if_neg h42,if_neg h43]
 rw [e1,e3]
 have s0:=sums_ok m x hx
 by_cases c0 : sumCls x.i.form ≠ 0
 ·have e : plainX x = sumsX x:=by unfold plainX; rw [if_pos c0]
  rw [e]
  refine ⟨[],no_rl,(s0).useE rfl (by exact ⟨trivial,trivial⟩) rfl ?_⟩
  refine And.intro (fun h=>absurd c0 h) (fun _=>?_)
  exact retS (by repeat' first|exact trivial|exact rfl|exact Iff.rfl|refine And.intro ?_ ?_) (by first|exact leSt_same rfl|(repeat' first|exact trivial|exact rfl|exact Iff.rfl|exact not_false|refine And.intro ?_ ?_))
 rw [sumsX_0 (Classical.not_not.1 c0)] at s0
 have s1:=logics_ok m x hx
 by_cases c1 : logCls x.i.form ≠ 0
 ·have e : plainX x = logicsX x:=by unfold plainX; rw [if_neg c0,if_pos c1]
  rw [e]
  refine ⟨[],no_rl,(s0).useE rfl (by exact ⟨trivial,trivial⟩) rfl ?_⟩
  refine And.intro (fun _=>?_) (fun h=>absurd c0 h)
  refine ⟨[],no_rl,(s1).useE rfl (by exact ⟨trivial,trivial⟩) rfl ?_⟩
  refine And.intro (fun h=>absurd c1 h) (fun _=>?_)
  exact retS (by repeat' first|exact trivial|exact rfl|exact Iff.rfl|refine And.intro ?_ ?_) (by first|exact leSt_same rfl|(repeat' first|exact trivial|exact rfl|exact Iff.rfl|exact not_false|refine And.intro ?_ ?_))
 rw [logicsX_0 (Classical.not_not.1 c1)] at s1
 have s2:=shifts_ok m x hx
 by_cases c2 : shCls x.i.form ≠ 0
 ·have e : plainX x = shiftsX x:=by unfold plainX; rw [if_neg c0,if_neg c1,if_pos c2]
  rw [e]
  refine ⟨[],no_rl,(s0).useE rfl (by exact ⟨trivial,trivial⟩) rfl ?_⟩
  refine And.intro (fun _=>?_) (fun h=>absurd c0 h)
  refine ⟨[],no_rl,(s1).useE rfl (by exact ⟨trivial,trivial⟩) rfl ?_⟩
  refine And.intro (fun _=>?_) (fun h=>absurd c1 h)
  refine ⟨[],no_rl,(s2).useE rfl (by exact ⟨trivial,trivial⟩) rfl ?_⟩
  refine And.intro (fun h=>absurd c2 h) (fun _=>?_)
  exact retS (by repeat' first|exact trivial|exact rfl|exact Iff.rfl|refine And.intro ?_ ?_) (by first|exact leSt_same rfl|(repeat' first|exact trivial|exact rfl|exact Iff.rfl|exact not_false|refine And.intro ?_ ?_))
 rw [shiftsX_0 (Classical.not_not.1 c2)] at s2
 have s3:=products_ok m x hx
 by_cases c3 : prodCls x.i.form ≠ 0
 ·have e : plainX x = prodX x:=by unfold plainX; rw [if_neg c0,if_neg c1,if_neg c2,if_pos c3]
  rw [e]
  refine ⟨[],no_rl,(s0).useE rfl (by exact ⟨trivial,trivial⟩) rfl ?_⟩
  refine And.intro (fun _=>?_) (fun h=>absurd c0 h)
  refine ⟨[],no_rl,(s1).useE rfl (by exact ⟨trivial,trivial⟩) rfl ?_⟩
  refine And.intro (fun _=>?_) (fun h=>absurd c1 h)
  refine ⟨[],no_rl,(s2).useE rfl (by exact ⟨trivial,trivial⟩) rfl ?_⟩
  refine And.intro (fun _=>?_) (fun h=>absurd c2 h)
  refine ⟨[],no_rl,(s3).useE rfl (by exact ⟨trivial,trivial⟩) rfl ?_⟩
  refine And.intro (fun h=>absurd c3 h) (fun _=>?_)
  exact retS (by repeat' first|exact trivial|exact rfl|exact Iff.rfl|refine And.intro ?_ ?_) (by first|exact leSt_same rfl|(repeat' first|exact trivial|exact rfl|exact Iff.rfl|exact not_false|refine And.intro ?_ ?_))
 rw [prodX_0 (Classical.not_not.1 c3)] at s3
 have s4:=moves_ok m x hx
 by_cases c4 : movCls x.i.form ≠ 0
 ·have e : plainX x = movesX x:=by unfold plainX; rw [if_neg c0,if_neg c1,if_neg c2,if_neg c3,if_pos c4]
  rw [e]
  refine ⟨[],no_rl,(s0).useE rfl (by exact ⟨trivial,trivial⟩) rfl ?_⟩
  refine And.intro (fun _=>?_) (fun h=>absurd c0 h)
  refine ⟨[],no_rl,(s1).useE rfl (by exact ⟨trivial,trivial⟩) rfl ?_⟩
  refine And.intro (fun _=>?_) (fun h=>absurd c1 h)
  refine ⟨[],no_rl,(s2).useE rfl (by exact ⟨trivial,trivial⟩) rfl ?_⟩
  refine And.intro (fun _=>?_) (fun h=>absurd c2 h)
  refine ⟨[],no_rl,(s3).useE rfl (by exact ⟨trivial,trivial⟩) rfl ?_⟩
  refine And.intro (fun _=>?_) (fun h=>absurd c3 h)
  refine ⟨[],no_rl,(s4).useE rfl (by exact ⟨trivial,trivial⟩) rfl ?_⟩
  refine And.intro (fun h=>absurd c4 h) (fun _=>?_)
  exact retS (by repeat' first|exact trivial|exact rfl|exact Iff.rfl|refine And.intro ?_ ?_) (by first|exact leSt_same rfl|(repeat' first|exact trivial|exact rfl|exact Iff.rfl|exact not_false|refine And.intro ?_ ?_))
 rw [movesX_0 (Classical.not_not.1 c4)] at s4
 have e : plainX x = jumpsX x:=by unfold plainX; rw [if_neg c0,if_neg c1,if_neg c2,if_neg c3,if_neg c4]
 rw [e]
 refine ⟨[],no_rl,(s0).useE rfl (by exact ⟨trivial,trivial⟩) rfl ?_⟩
 refine And.intro (fun _=>?_) (fun h=>absurd c0 h)
 refine ⟨[],no_rl,(s1).useE rfl (by exact ⟨trivial,trivial⟩) rfl ?_⟩
 refine And.intro (fun _=>?_) (fun h=>absurd c1 h)
 refine ⟨[],no_rl,(s2).useE rfl (by exact ⟨trivial,trivial⟩) rfl ?_⟩
 refine And.intro (fun _=>?_) (fun h=>absurd c2 h)
 refine ⟨[],no_rl,(s3).useE rfl (by exact ⟨trivial,trivial⟩) rfl ?_⟩
 refine And.intro (fun _=>?_) (fun h=>absurd c3 h)
 refine ⟨[],no_rl,(s4).useE rfl (by exact ⟨trivial,trivial⟩) rfl ?_⟩
 refine And.intro (fun _=>?_) (fun h=>absurd c4 h)
 refine ⟨[],no_rl,(jumps_ok m x hx).useE rfl (by exact ⟨trivial,trivial⟩) rfl ?_⟩
 exact retS (by repeat' first|exact trivial|exact rfl|exact Iff.rfl|refine And.intro ?_ ?_) (by first|exact leSt_same rfl|(repeat' first|exact trivial|exact rfl|exact Iff.rfl|exact not_false|refine And.intro ?_ ?_))
end Go.Proofs.YtnbngokbamifbaaGreatDoor.Pw
set_option linter.unusedVariables false
namespace Go.Proofs.YtnbngokbamifbaaGreatDoor.Pw
open Go Go.RowKit
def divC (a b : Int) : Int:=if b = 0 \/ (Lib.bitLen a.toNat : Int) - Lib.bitLen b.toNat < 0 then 2 else 3 + ((Lib.bitLen a.toNat : Int) - Lib.bitLen b.toNat) / 4
theorem blen_u32 {x : Int} (h : x <= 4294967295) : Lib.bitLen x.toNat <= 32:=Rm.bitLen_le32 x.toNat (by omega)
theorem divc_pure (a b : Int) (ha : U32 a) (hb : U32 b) : PureF gT 101 [.int .u32 a,.int .u32 b] (.int .i64 (divC a b)):=by
 have h1:=blen_u32 ha.2
 have h2:=blen_u32 hb.2
 refine Spec.enter gTok P101 100 Tryz.func101 rfl (by kernel_rfl) ?_
 refine ⟨[],no_rl,(alen_pure a ha).use (by repeat' first|exact trivial|exact rfl|exact Iff.rfl|exact Or.inl rfl|refine And.intro ?_ ?_) rfl rfl ?_⟩
 refine ⟨[],no_rl,(alen_pure b hb).use (by repeat' first|exact trivial|exact rfl|exact Iff.rfl|exact Or.inl rfl|refine And.intro ?_ ?_) rfl rfl ?_⟩
 refine .inl ⟨inR_i64 (by omega),?_⟩
 refine And.intro (fun h=>?_) (fun h=>And.intro (fun h3=>?_) (fun h3=>?_))
 ·refine retE ?_
  exact (show (2 : Int) = divC a b by unfold divC; rw [if_pos (.inl h)])
 ·refine retE ?_
  exact (show (2 : Int) = divC a b by unfold divC; rw [if_pos (.inr h3)])
 ·refine ⟨by decide,.inl ⟨by omega,show (Lib.bitLen a.toNat : Int) - Lib.bitLen b.toNat <= 9223372036854775807 by omega,by decide,?_⟩⟩
  refine .inl ⟨inR_i64 (by omega),?_⟩
  refine retE ?_
  exact (show (3 : Int) + _ = divC a b by unfold divC; rw [if_neg (by omega)])
def topR (regs : Int) : Prop:=bits .and .i64 (regs / Ev.pow2 .i64 15) 1 = 1
instance (r : Int) : Decidable (topR r):=by unfold topR; infer_instance
def listV (i : IN) : Int:=if i.form = 43 /\ topR i.regs then 1 + bits16 i.regs + 2 else 1 + bits16 i.regs
theorem listc_pure (i : IN) (h0 : 0 <= i.regs) (h1 : i.regs <= 65535) : PureF gT 100 [inP i] (.int .i64 (listV i)):=by
 have hb:=bits16_bd i.regs h0 h1
 refine Spec.enter gTok P100 100 Tryz.func100 rfl (by kernel_rfl) ?_
 refine .inl ⟨inR_u32 (show 0 <= i.regs /\ i.regs <= _ by omega),?_⟩
 refine ⟨[],no_rl,(pop_pure i.regs h0 h1).use (by repeat' first|exact trivial|exact rfl|exact Iff.rfl|exact Or.inl rfl|refine And.intro ?_ ?_) rfl rfl ?_⟩
 refine .inl ⟨inR_i64 (show _ <= 1 + bits16 i.regs /\ 1 + bits16 i.regs <= _ by omega),?_⟩
 refine And.intro (fun h=>?_) (fun h=>?_)
 ·refine ⟨by decide,?_⟩
  refine And.intro (fun ht=>?_) (fun ht=>?_)
  ·refine .inl ⟨inR_i64 (show _ <= 1 + bits16 i.regs + 2 /\ 1 + bits16 i.regs + 2 <= _ by omega),?_⟩
   exact retE (show 1 + bits16 i.regs + 2 = listV i by unfold listV; rw [if_pos ⟨h,ht⟩])
  ·exact retE (show 1 + bits16 i.regs = listV i by unfold listV; rw [if_neg (fun q=>ht q.2)])
 ·exact retE (show 1 + bits16 i.regs = listV i by unfold listV; rw [if_neg (fun q=>h q.1)])
def baseCls (f : Int) : Int :=
 if f = 46 \/ f = 99 then 1 else if f = 47 \/ f = 100 \/ f = 31 then 2 else if f = 32 \/ f = 34 \/ f = 36 \/ f = 38 \/ f = 85 \/ f = 87 \/ f = 33 \/ f = 35 \/ f = 37 \/ f = 84 \/ f = 86 \/ f = 93 \/ f = 94 then 3 else if f = 42 \/ f = 43 then 4 else if f = 97 then 5 else 0
def baseV (i : IN) (t : Prop) [Decidable t] (a b : Int) : Int:=if baseCls i.form = 1 then (if t then 3 else 1) else if baseCls i.form = 2 then 3 else if baseCls i.form = 3 then 2 else if baseCls i.form = 4 then listV i else if baseCls i.form = 5 then divC a b else 1
theorem baseV_0 {i : IN} {t : Prop} [Decidable t] {a b : Int} (h : baseCls i.form = 0) : baseV i t a b = 1:=by unfold baseV; rw [if_neg (by omega),if_neg (by omega),if_neg (by omega),if_neg (by omega),if_neg (by omega)]
theorem baseV_1 {i : IN} {t : Prop} [Decidable t] {a b : Int} (h : baseCls i.form = 1) : baseV i t a b = (if t then 3 else 1):=by unfold baseV; rw [if_pos h]
theorem baseV_2 {i : IN} {t : Prop} [Decidable t] {a b : Int} (h : baseCls i.form = 2) : baseV i t a b = 3:=by unfold baseV; rw [if_neg (by omega),if_pos h]
theorem baseV_3 {i : IN} {t : Prop} [Decidable t] {a b : Int} (h : baseCls i.form = 3) : baseV i t a b = 2:=by unfold baseV; rw [if_neg (by omega),if_neg (by omega),if_pos h]
theorem baseV_4 {i : IN} {t : Prop} [Decidable t] {a b : Int} (h : baseCls i.form = 4) : baseV i t a b = listV i:=by unfold baseV; rw [if_neg (by omega),if_neg (by omega),if_neg (by omega),if_pos h]
theorem baseV_5 {i : IN} {t : Prop} [Decidable t] {a b : Int} (h : baseCls i.form = 5) : baseV i t a b = divC a b:=by unfold baseV; rw [if_neg (by omega),if_neg (by omega),if_neg (by omega),if_neg (by omega),if_pos h]
set_option maxHeartbeats 4000000 in
set_option maxRecDepth 100000 in
theorem base_pure (i : IN) (t : Prop) [Decidable t] (a b : Int) (hr : rightV i) (hi : I64 i.imm) (h0 : 0 <= i.regs) (h1 : i.regs <= 65535) (ha : U32 a) (hb : U32 b) : PureF gT 56 [inP i,.bool t,.int .u32 a,.int .u32 b] (.tup [.int .i64 (baseV i t a b),.int .i64 0]):=by
 refine Spec.enter gTok P56 100 Tryz.func56 rfl (by kernel_rfl) ?_
 refine ⟨[],no_rl,(right_pure i hi).use (by repeat' first|exact trivial|exact rfl|exact Iff.rfl|exact Or.inl rfl|refine And.intro ?_ ?_) rfl rfl ?_⟩
 refine And.intro (fun h=>absurd hr h) (fun _=>?_)
 refine And.intro (fun h46=>?_) (fun h46=>?_)
 ·have hc : baseCls i.form = 1:=by rw [show i.form = 46 from h46]; rfl
  rw [baseV_1 hc]
  refine And.intro (fun h=>?_) (fun h=>?_)
  ·rw [if_neg (show ¬ t from h)]
   exact retE (And.intro rfl (And.intro rfl trivial))
  ·rw [if_pos (Classical.not_not.1 (show ¬ ¬ t from h))]
   exact retE (And.intro rfl (And.intro rfl trivial))
 refine And.intro (fun h99=>?_) (fun h99=>?_)
 ·have hc : baseCls i.form = 1:=by rw [show i.form = 99 from h99]; rfl
  rw [baseV_1 hc]
  refine And.intro (fun h=>?_) (fun h=>?_)
  ·rw [if_neg (show ¬ t from h)]
   exact retE (And.intro rfl (And.intro rfl trivial))
  ·rw [if_pos (Classical.not_not.1 (show ¬ ¬ t from h))]
   exact retE (And.intro rfl (And.intro rfl trivial))
 refine And.intro (fun h47=>?_) (fun h47=>?_)
 ·have hc : baseCls i.form = 2:=by rw [show i.form = 47 from h47]; rfl
  rw [baseV_2 hc]
  exact retE (And.intro rfl (And.intro rfl trivial))
 refine And.intro (fun h100=>?_) (fun h100=>?_)
 ·have hc : baseCls i.form = 2:=by rw [show i.form = 100 from h100]; rfl
  rw [baseV_2 hc]
  exact retE (And.intro rfl (And.intro rfl trivial))
 refine And.intro (fun h31=>?_) (fun h31=>?_)
 ·have hc : baseCls i.form = 2:=by rw [show i.form = 31 from h31]; rfl
  rw [baseV_2 hc]
  exact retE (And.intro rfl (And.intro rfl trivial))
 refine And.intro (fun h32=>?_) (fun h32=>?_)
 ·have hc : baseCls i.form = 3:=by rw [show i.form = 32 from h32]; rfl
  rw [baseV_3 hc]
  exact retE (And.intro rfl (And.intro rfl trivial))
 refine And.intro (fun h34=>?_) (fun h34=>?_)
 ·have hc : baseCls i.form = 3:=by rw [show i.form = 34 from h34]; rfl
  rw [baseV_3 hc]
  exact retE (And.intro rfl (And.intro rfl trivial))
 refine And.intro (fun h36=>?_) (fun h36=>?_)
 ·have hc : baseCls i.form = 3:=by rw [show i.form = 36 from h36]; rfl
  rw [baseV_3 hc]
  exact retE (And.intro rfl (And.intro rfl trivial))
 refine And.intro (fun h38=>?_) (fun h38=>?_)
 ·have hc : baseCls i.form = 3:=by rw [show i.form = 38 from h38]; rfl
  rw [baseV_3 hc]
  exact retE (And.intro rfl (And.intro rfl trivial))
 refine And.intro (fun h85=>?_) (fun h85=>?_)
 ·have hc : baseCls i.form = 3:=by rw [show i.form = 85 from h85]; rfl
  rw [baseV_3 hc]
  exact retE (And.intro rfl (And.intro rfl trivial))
 refine And.intro (fun h87=>?_) (fun h87=>?_)
 ·have hc : baseCls i.form = 3:=by rw [show i.form = 87 from h87]; rfl
  rw [baseV_3 hc]
  exact retE (And.intro rfl (And.intro rfl trivial))
 refine And.intro (fun h33=>?_) (fun h33=>?_)
 ·have hc : baseCls i.form = 3:=by rw [show i.form = 33 from h33]; rfl
  rw [baseV_3 hc]
  exact retE (And.intro rfl (And.intro rfl trivial))
 refine And.intro (fun h35=>?_) (fun h35=>?_)
 ·have hc : baseCls i.form = 3:=by rw [show i.form = 35 from h35]; rfl
  rw [baseV_3 hc]
  exact retE (And.intro rfl (And.intro rfl trivial))
 refine And.intro (fun h37=>?_) (fun h37=>?_)
 ·have hc : baseCls i.form = 3:=by rw [show i.form = 37 from h37]; rfl
  rw [baseV_3 hc]
  exact retE (And.intro rfl (And.intro rfl trivial))
 refine And.intro (fun h84=>?_) (fun h84=>?_)
 ·have hc : baseCls i.form = 3:=by rw [show i.form = 84 from h84]; rfl
  rw [baseV_3 hc]
  exact retE (And.intro rfl (And.intro rfl trivial))
 refine And.intro (fun h86=>?_) (fun h86=>?_)
 ·have hc : baseCls i.form = 3:=by rw [show i.form = 86 from h86]; rfl
  rw [baseV_3 hc]
  exact retE (And.intro rfl (And.intro rfl trivial))
 refine And.intro (fun h93=>?_) (fun h93=>?_)
 ·have hc : baseCls i.form = 3:=by rw [show i.form = 93 from h93]; rfl
  rw [baseV_3 hc]
  exact retE (And.intro rfl (And.intro rfl trivial))
 refine And.intro (fun h94=>?_) (fun h94=>?_)
 ·have hc : baseCls i.form = 3:=by rw [show i.form = 94 from h94]; rfl
  rw [baseV_3 hc]
  exact retE (And.intro rfl (And.intro rfl trivial))
 refine And.intro (fun h42=>?_) (fun h42=>?_)
 ·have hc : baseCls i.form = 4:=by rw [show i.form = 42 from h42]; rfl
  rw [baseV_4 hc]
  refine ⟨[],no_rl,(listc_pure i h0 h1).use (by repeat' first|exact trivial|exact rfl|exact Iff.rfl|exact Or.inl rfl|refine And.intro ?_ ?_) rfl rfl ?_⟩
  exact retE (And.intro rfl (And.intro rfl trivial))
 refine And.intro (fun h43=>?_) (fun h43=>?_)
 ·have hc : baseCls i.form = 4:=by rw [show i.form = 43 from h43]; rfl
  rw [baseV_4 hc]
  refine ⟨[],no_rl,(listc_pure i h0 h1).use (by repeat' first|exact trivial|exact rfl|exact Iff.rfl|exact Or.inl rfl|refine And.intro ?_ ?_) rfl rfl ?_⟩
  exact retE (And.intro rfl (And.intro rfl trivial))
 refine And.intro (fun h97=>?_) (fun h97=>?_)
 ·have hc : baseCls i.form = 5:=by rw [show i.form = 97 from h97]; rfl
  rw [baseV_5 hc]
  refine ⟨[],no_rl,(divc_pure a b ha hb).use (by repeat' first|exact trivial|exact rfl|exact Iff.rfl|exact Or.inl rfl|refine And.intro ?_ ?_) rfl rfl ?_⟩
  exact retE (And.intro rfl (And.intro rfl trivial))
 ·have hc : baseCls i.form = 0:=by unfold baseCls; rw [if_neg (by omega),if_neg (by omega),if_neg (by omega),if_neg (by omega),if_neg (by omega)]
  rw [baseV_0 hc]
  exact retE (And.intro rfl (And.intro rfl trivial))
def lineV (a : Int) : Int:=a / 16
def bufP (full : Prop) (line : Int) : PV:=.agg [.bool full,.int .u32 line]
theorem sized_pure (n : Int) : PureF gT 102 [.int .i64 n] (.bool (n = 2 \/ n = 4)):=by
 refine Spec.enter gTok P102 100 Tryz.func102 rfl (by kernel_rfl) ?_
 refine And.intro (fun h=>?_) (fun h=>?_)
 ·exact retE (show n = 2 \/ n = 4 from .inl h)
 ·exact retE (show n = 4 ↔ (n = 2 \/ n = 4) from ⟨.inr,fun q=>q.elim (fun e=>absurd e h) id⟩)
set_option maxRecDepth 100000 in
theorem line_pure (a : Int) (ha : U32 a) : PureF gT 104 [.int .u32 a] (.int .u32 (lineV a)):=by
 refine Spec.enter gTok P104 100 Tryz.func104 rfl (by kernel_rfl) ?_
 refine And.intro (show (16 : Int) ≠ 0 by decide) (.inl ⟨ha.1,show a <= 4294967295 from ha.2,show (0 : Int) < 16 by decide,?_⟩)
 exact retE rfl
def missV (full : Prop) [Decidable full] (line l : Int) : Int:=if full /\ line = l then 0 else 1
set_option maxRecDepth 100000 in
theorem take_pure (full : Prop) [Decidable full] (line l : Int) : PureF gT 103 [bufP full line,.int .u32 l] (.tup [bufP True l,.int .i64 (missV full line l)]):=by
 refine Spec.enter gTok P103 100 Tryz.func103 rfl (by kernel_rfl) ?_
 refine And.intro (fun h=>?_) (fun h=>?_)
 ·refine And.intro (fun hl=>?_) (fun hl=>?_)
  ·have e : missV full line l = 0:=by unfold missV; rw [if_pos ⟨h,hl⟩]
   rw [e]
   exact retE (And.intro (And.intro (iff_true_intro h) (And.intro hl trivial)) (And.intro rfl trivial))
  ·have e : missV full line l = 1:=by unfold missV; rw [if_neg (fun q=>hl q.2)]
   rw [e]
   exact retE (And.intro (And.intro trivial (And.intro rfl trivial)) (And.intro rfl trivial))
 ·have e : missV full line l = 1:=by unfold missV; rw [if_neg (fun q=>h q.1)]
  rw [e]
  exact retE (And.intro (And.intro trivial (And.intro rfl trivial)) (And.intro rfl trivial))
def fetL (at_ n : Int) : Int:=if n = 2 then lineV at_ else lineV (IntKind.u32.wrap (at_ + 2))
def fetM (full : Prop) [Decidable full] (line at_ n : Int) : Int:=if n = 2 then missV full line (lineV at_) else missV full line (lineV at_) + missV True (lineV at_) (lineV (IntKind.u32.wrap (at_ + 2)))
theorem missV_bd (full : Prop) [Decidable full] (line l : Int) : 0 <= missV full line l /\ missV full line l <= 1:=by unfold missV; split <;> omega
set_option maxHeartbeats 4000000 in
set_option maxRecDepth 100000 in
theorem fetch_pure (full : Prop) [Decidable full] (line at_ n : Int) (ha : U32 at_) (hn : n = 2 \/ n = 4) : PureF gT 57 [bufP full line,.int .u32 at_,.int .i64 n] (.tup [bufP True (fetL at_ n),.int .i64 (fetM full line at_ n)]):=by
 have b1:=missV_bd full line (lineV at_)
 have b2:=missV_bd True (lineV at_) (lineV (IntKind.u32.wrap (at_ + 2)))
 refine Spec.enter gTok P57 100 Tryz.func57 rfl (by kernel_rfl) ?_
 refine ⟨[],no_rl,(sized_pure n).use (by repeat' first|exact trivial|exact rfl|exact Iff.rfl|exact Or.inl rfl|refine And.intro ?_ ?_) rfl rfl ?_⟩
 refine And.intro (fun h=>absurd hn h) (fun _=>?_)
 refine ⟨[],no_rl,(line_pure at_ ha).use (by repeat' first|exact trivial|exact rfl|exact Iff.rfl|exact Or.inl rfl|refine And.intro ?_ ?_) rfl rfl ?_⟩
 refine ⟨[],no_rl,(take_pure full line (lineV at_)).use (by repeat' first|exact trivial|exact rfl|exact Iff.rfl|exact Or.inl rfl|refine And.intro ?_ ?_) rfl rfl ?_⟩
 refine And.intro (fun h=>?_) (fun h=>?_)
 ·have e1 : fetL at_ n = lineV at_:=by unfold fetL; rw [if_pos h]
  have e2 : fetM full line at_ n = missV full line (lineV at_):=by unfold fetM; rw [if_pos h]
  rw [e1,e2]
  (refine retE ?_; repeat' first|exact trivial|exact rfl|exact Iff.rfl|exact Or.inl rfl|refine And.intro ?_ ?_)
 ·have e1 : fetL at_ n = lineV (IntKind.u32.wrap (at_ + 2)):=by unfold fetL; rw [if_neg h]
  have e2 : fetM full line at_ n = missV full line (lineV at_) + missV True (lineV at_) (lineV (IntKind.u32.wrap (at_ + 2))):=by unfold fetM; rw [if_neg h]
  rw [e1,e2]
  refine .inr ?_
  refine ⟨[],no_rl,(line_pure (IntKind.u32.wrap (at_ + 2)) (wrap_u32 _)).use (by repeat' first|exact trivial|exact rfl|exact Iff.rfl|exact Or.inl rfl|refine And.intro ?_ ?_) rfl rfl ?_⟩
  refine ⟨[],no_rl,(take_pure True (lineV at_) (lineV (IntKind.u32.wrap (at_ + 2)))).use (by repeat' first|exact trivial|exact rfl|exact Iff.rfl|exact Or.inl rfl|refine And.intro ?_ ?_) rfl rfl ?_⟩
  refine .inl ⟨inR_i64 (by omega),?_⟩
  (refine retE ?_; repeat' first|exact trivial|exact rfl|exact Iff.rfl|exact Or.inl rfl|refine And.intro ?_ ?_)
end Go.Proofs.YtnbngokbamifbaaGreatDoor.Pw
set_option linter.unusedVariables false
namespace Go.Proofs.YtnbngokbamifbaaGreatDoor.Pw
open Go Go.RowKit
theorem ru_regs : ∀ s : Fin 35,(ruW (s.1 : Int)).regs = 0 \/ (ruW (s.1 : Int)).regs = 16639 \/ (ruW (s.1 : Int)).regs = 33023:=by decide
theorem shapeC_bd (f : Int) : 0 <= shapeV f /\ shapeV f <= 34:=by
 unfold shapeV
 split
 ·have key : ∀ n : Fin 101,0 <= shL.getD n.1 0 /\ shL.getD n.1 0 <= 34:=by decide
  exact key ⟨f.toNat,by omega⟩
 ·decide
theorem rightC_regs {i : IN} (h : rightV i) (hi : IOk i) : 0 <= i.regs /\ i.regs <= 65535:=by
 obtain ⟨hf,h1,h2,h3,h4,h5,_⟩:=h
 have hb:=shapeC_bd i.form
 have hr:=ru_regs ⟨(shapeV i.form).toNat,by omega⟩
 rw [show (((⟨(shapeV i.form).toNat,by omega⟩ : Fin 35).1 : Nat) : Int) = shapeV i.form by simp only []; omega] at hr
 have hI:=hi i.regs (by simp [inLs])
 rcases h5 with ⟨_,e⟩ | ⟨hn,h0,ha⟩
 ·omega
 ·rcases hr with e | e | e
  ·exact absurd e hn
  ·rw [e] at ha
   have:=regs_of 14 (by decide) (by decide) i.regs 16639 (by decide) h0 hI.2 ha
   omega
  ·rw [e] at ha
   have:=regs_of 15 (by decide) (by decide) i.regs 33023 (by decide) h0 hI.2 ha
   omega
theorem right_bar {i : IN} (h : rightV i) (hs : shapeV i.form = 21 \/ shapeV i.form = 22 \/ shapeV i.form = 23) : 0 <= i.kind /\ i.kind <= 3 /\ 0 <= i.by_ /\ i.by_ <= 255:=by
 obtain ⟨hf,h1,h2,h3,h4,h5,h6,h7,h8,h9,h10⟩:=h
 have hk : (ruW (shapeV i.form)).kind = true:=by rcases hs with e | e | e <;> rw [e] <;> rfl
 rcases h9 with ⟨_,hb⟩ | ⟨hn,_⟩
 ·unfold barrelV at hb; omega
 ·exact absurd hk hn
theorem shape_low {f : Int} (h : 1 <= f /\ f <= 3) : shapeV f = 1:=by
 rcases (show f = 1 \/ f = 2 \/ f = 3 by omega) with rfl | rfl | rfl <;> decide
theorem right_low {i : IN} (h : rightV i) (hf : 1 <= i.form /\ i.form <= 3) : 0 <= i.imm /\ i.imm <= 32:=by
 obtain ⟨_,h1,h2,h3,h4,h5,h6,h7,h8,h9,h10⟩:=h
 rw [shape_low hf] at h7
 have e0 : (ruW 1).i0 = 0:=rfl
 have e1 : (ruW 1).i1 = 32:=rfl
 rcases h7 with ⟨_,e⟩ | ⟨_,a,b,_⟩ <;> omega
theorem right_idx {i : IN} (h : rightV i) (hf : i.form = 86 \/ i.form = 87) : 0 <= i.by_ /\ i.by_ <= 3:=by
 obtain ⟨_,h1,h2,h3,h4,h5,h6,h7,h8,h9,h10⟩:=h
 have hs : shapeV i.form = 26:=by rcases hf with e | e <;> rw [e] <;> decide
 rw [hs] at h9
 have e0 : (ruW 26).b0 = 0:=rfl
 have e1 : (ruW 26).b1 = 3:=rfl
 rcases h9 with ⟨hk,_⟩ | ⟨_,_,⟨_,e⟩ | ⟨_,a,b,_⟩⟩
 ·exact absurd hk (by decide)
 ·omega
 ·omega
structure RSOk (s : RS) : Prop where
 r : ∀ k,U32 (s.R k)
 n : 0 <= s.N /\ s.N <= 1
 z : 0 <= s.Z /\ s.Z <= 1
 c : 0 <= s.C /\ s.C <= 1
 v : 0 <= s.V /\ s.V <= 1
def startX (s : RS) (i : IN) : XS:=⟨i,{ s with R:=upd s.R 15 (IntKind.u32.wrap (s.R 15 + IntKind.u32.wrap (sizeV i.form))) },s.R 15,False,0,0,0,0,0,0⟩
theorem upd_bd {R : Nat -> Int} {i v : Int} (h : ∀ k,U32 (R k)) (hv : U32 v) : ∀ k,U32 (upd R i v k):=fun k=>by
 unfold upd; split
 ·exact hv
 ·exact h k
theorem startX_ok {s : RS} {i : IN} (hs : RSOk s) (h : rightV i) (hi : IOk i) : XOk (startX s i) where
 rd:=⟨(has_bd h.2.1).1,by have:=(has_bd h.2.1).2; show _ <= (15 : Int); exact Int.le_of_lt this⟩
 rn:=⟨(has_bd h.2.2.1).1,by have:=(has_bd h.2.2.1).2; show _ <= (15 : Int); exact Int.le_of_lt this⟩
 rm:=⟨(has_bd h.2.2.2.1).1,by have:=(has_bd h.2.2.2.1).2; show _ <= (15 : Int); exact Int.le_of_lt this⟩
 ra:=⟨(has_bd h.2.2.2.2.1).1,by have:=(has_bd h.2.2.2.2.1).2; show _ <= (15 : Int); exact Int.le_of_lt this⟩
 imm:=hi i.imm (by simp [inLs])
 bar:=right_bar h
 low:=right_low h
 idx:=right_idx h
 regs:=rightC_regs h hi
 r:=upd_bd hs.r (wrap_u32 _)
 n:=hs.n
 z:=hs.z
 c:=hs.c
 v:=hs.v
end Go.Proofs.YtnbngokbamifbaaGreatDoor.Pw
set_option linter.unusedVariables false
namespace Go.Proofs.YtnbngokbamifbaaGreatDoor.Pw
open Go Go.RowKit
instance (h : Int) : Decidable (beginsV h):=by unfold beginsV; infer_instance
def half2 (fl : List Int) (a : Int) : Int:=hfV fl a * 65536 + hfV fl (IntKind.u32.wrap (a + 2))
noncomputable def fchE (fl : List Int) (a : Int) : Int :=
 if hfE fl a ≠ 0 then hfE fl a else if ¬ beginsV (hfV fl a) then ofE (hfV fl a) False else if hfE fl (IntKind.u32.wrap (a + 2)) ≠ 0 then hfE fl (IntKind.u32.wrap (a + 2)) else ofE (half2 fl a) True
noncomputable def fchI (fl : List Int) (a : Int) : IN :=
 if hfE fl a ≠ 0 then iZ else if ¬ beginsV (hfV fl a) then ofI (hfV fl a) False else if hfE fl (IntKind.u32.wrap (a + 2)) ≠ 0 then iZ else ofI (half2 fl a) True
theorem hfV_bd {fl : List Int} (hb : BOk fl) (a : Int) : 0 <= hfV fl a /\ hfV fl a <= 65535:=by
 unfold hfV
 split
 ·decide
 ·split
  ·exact hN_bd hb _
  ·decide
theorem half2_or {fl : List Int} (hb : BOk fl) (a : Int) : bits .or .u32 (hfV fl a * 65536) (hfV fl (IntKind.u32.wrap (a + 2))) = half2 fl a:=by
 have b1:=hfV_bd hb a
 have b2:=hfV_bd hb (IntKind.u32.wrap (a + 2))
 exact (or_add_u32 (hfV fl (IntKind.u32.wrap (a + 2))) (hfV fl a) 16 (by decide) (show 0 <= _ /\ _ < (65536 : Int) by omega) (show 0 <= hfV fl a /\ hfV fl a * 65536 <= _ by omega)).2
theorem half2_bd {fl : List Int} (hb : BOk fl) (a : Int) : U32 (half2 fl a):=by
 have b1:=hfV_bd hb a
 have b2:=hfV_bd hb (IntKind.u32.wrap (a + 2))
 unfold half2 U32; omega
set_option maxHeartbeats 4000000 in
set_option maxRecDepth 100000 in
theorem fetch_ok (m : MS) (a : Int) (hm : MOk m) (ha : U32 a) : Spec gT 52 [.ptr 2 0,.int .u32 a] (stM m) [] fun y S'=>y = .tup [inP (fchI m.fl a),.int .i64 (fchE m.fl a)] /\ S' = stM m:=by
 have bh:=hfV_bd hm.fl a
 have uh : U32 (hfV m.fl a):=⟨bh.1,by omega⟩
 have kE : fchE m.fl a = if hfE m.fl a ≠ 0 then hfE m.fl a else if ¬ beginsV (hfV m.fl a) then ofE (hfV m.fl a) False else if hfE m.fl (IntKind.u32.wrap (a + 2)) ≠ 0 then hfE m.fl (IntKind.u32.wrap (a + 2)) else ofE (half2 m.fl a) True:=rfl
 have kI : fchI m.fl a = if hfE m.fl a ≠ 0 then iZ else if ¬ beginsV (hfV m.fl a) then ofI (hfV m.fl a) False else if hfE m.fl (IntKind.u32.wrap (a + 2)) ≠ 0 then iZ else ofI (half2 m.fl a) True:=rfl
 refine Spec.leS (Spec.enter gTok P52 100 Tryz.func52 rfl (by kernel_rfl) ?_)
 refine ⟨[],no_rl,(half_ok m.w m.fl a ha hm.fl hm.len).useE rfl (by exact ⟨trivial,rfl,trivial⟩) rfl ?_⟩
 refine And.intro (fun h=>?_) (fun h=>?_)
 ·have h' : hfE m.fl a ≠ 0:=h
  rw [if_pos h'] at kE kI
  rw [kE,kI]
  exact retS (by repeat' first|exact trivial|exact rfl|exact Iff.rfl|refine And.intro ?_ ?_) (by first|exact leSt_same rfl|(repeat' first|exact trivial|exact rfl|exact Iff.rfl|exact not_false|refine And.intro ?_ ?_))
 rw [if_neg (show ¬ hfE m.fl a ≠ 0 from h)] at kE kI
 refine ⟨[],no_rl,(begins_pure (hfV m.fl a) uh).use (by repeat' first|exact trivial|exact rfl|exact Iff.rfl|exact Or.inl rfl|refine And.intro ?_ ?_) rfl rfl ?_⟩
 refine And.intro (fun h1=>?_) (fun h1=>?_)
 ·rw [if_pos (show ¬ beginsV (hfV m.fl a) from h1)] at kE kI
  rw [kE,kI]
  refine ⟨[],no_rl,(of_pure (hfV m.fl a) False uh).use (And.intro rfl (And.intro not_false trivial)) rfl rfl ?_⟩
  exact retS (by repeat' first|exact trivial|exact rfl|exact Iff.rfl|refine And.intro ?_ ?_) (by first|exact leSt_same rfl|(repeat' first|exact trivial|exact rfl|exact Iff.rfl|exact not_false|refine And.intro ?_ ?_))
 rw [if_neg (show ¬ ¬ beginsV (hfV m.fl a) from h1)] at kE kI
 refine .inr ?_
 refine ⟨[],no_rl,(half_ok m.w m.fl (IntKind.u32.wrap (a + 2)) (wrap_u32 _) hm.fl hm.len).useE rfl (by exact ⟨trivial,rfl,trivial⟩) rfl ?_⟩
 refine And.intro (fun h=>?_) (fun h=>?_)
 ·rw [if_pos (show hfE m.fl (IntKind.u32.wrap (a + 2)) ≠ 0 from h)] at kE kI
  rw [kE,kI]
  exact retS (by repeat' first|exact trivial|exact rfl|exact Iff.rfl|refine And.intro ?_ ?_) (by first|exact leSt_same rfl|(repeat' first|exact trivial|exact rfl|exact Iff.rfl|exact not_false|refine And.intro ?_ ?_))
 rw [if_neg (show ¬ hfE m.fl (IntKind.u32.wrap (a + 2)) ≠ 0 from h)] at kE kI
 have hw:=of_pure (half2 m.fl a) True (half2_bd hm.fl a)
 rw [← half2_or hm.fl a] at hw
 rw [kE,kI,← half2_or hm.fl a]
 refine ⟨by decide,.inl ⟨inR_u32 (show 0 <= hfV m.fl a * 65536 /\ hfV m.fl a * 65536 <= _ by omega),?_⟩⟩
 refine ⟨[],no_rl,hw.use (And.intro rfl (And.intro trivial trivial)) rfl rfl ?_⟩
 exact retS (by repeat' first|exact trivial|exact rfl|exact Iff.rfl|refine And.intro ?_ ?_) (by first|exact leSt_same rfl|(repeat' first|exact trivial|exact rfl|exact Iff.rfl|exact not_false|refine And.intro ?_ ?_))
def faultM (m : MS) (e : Int) : MS:={ m with kind:=3,code:=e }
def evP (a d w c n : Int) : PV:=.agg [.int .u32 a,.int .u32 d,.int .i64 w,.int .i64 c,.int .i64 n]
set_option maxRecDepth 100000 in
theorem fault_ok (m : MS) (e : Int) : Spec gT 53 [.ptr 2 0,.int .i64 e] (stM m) [] fun y S'=>y = .tup [evP 0 0 0 0 0,.int .i64 10] /\ S' = stM (faultM m e):=by
 refine Spec.leS (Spec.enter gTok P53 100 Tryz.func53 rfl (by kernel_rfl) ?_)
 exact retS (by repeat' first|exact trivial|exact rfl|exact Iff.rfl|refine And.intro ?_ ?_) (by first|exact leSt_same rfl|(repeat' first|exact trivial|exact rfl|exact Iff.rfl|exact not_false|refine And.intro ?_ ?_))
end Go.Proofs.YtnbngokbamifbaaGreatDoor.Pw
set_option linter.unusedVariables false
namespace Go.Proofs.YtnbngokbamifbaaGreatDoor.Pw
open Go Go.RowKit
structure MSOk (m : MS) : Prop where
 mem : MOk m
 s : RSOk m.s
 wait : 0 <= m.wait /\ m.wait <= 7
 cyc : 0 <= m.cyc /\ m.cyc <= 1000000000000000
structure YOk (x : XS) : Prop where
 s : RSOk x.s
 a : U32 x.a
 b : U32 x.b
 k : x.kind = 0 \/ x.kind = 1 \/ x.kind = 2
theorem putX_y {x : XS} (h : YOk x) (r : Int) {v : Int} (hv : U32 v) : YOk (putX x r v):=⟨⟨upd_bd h.s.r hv,h.s.n,h.s.z,h.s.c,h.s.v⟩,h.a,h.b,h.k⟩
theorem nzX_y {x : XS} (h : YOk x) {v : Int} (hv : U32 v) : YOk (nzX x v):=⟨⟨h.s.r,by unfold U32 at hv; show 0 <= v / 2147483648 /\ v / 2147483648 <= 1; omega,by show 0 <= (if v = 0 then (1 : Int) else 0) /\ (if v = 0 then (1 : Int) else 0) <= 1; split <;> omega,h.s.c,h.s.v⟩,h.a,h.b,h.k⟩
theorem flagC_y {x : XS} (h : YOk x) {c : Int} (hc : 0 <= c /\ c <= 1) : YOk (flagC x c):=⟨⟨h.s.r,h.s.n,h.s.z,hc,h.s.v⟩,h.a,h.b,h.k⟩
theorem flagCV_y {x : XS} (h : YOk x) {c o : Int} (hc : 0 <= c /\ c <= 1) (ho : 0 <= o /\ o <= 1) : YOk (flagCV x c o):=⟨⟨h.s.r,h.s.n,h.s.z,hc,ho⟩,h.a,h.b,h.k⟩
theorem sumX_y {x : XS} (h : YOk x) (d : Int) {v w c : Int} (hv : U32 v) (hw : U32 w) (hc : 0 <= c) : YOk (sumX x d v w c):=by
 have hs : U32 (Rm.addS v w c):=Rm.addS_bd _ _ _
 have h1 : YOk (if setsX x then flagCV (nzX x (Rm.addS v w c)) (Rm.addC v w c) (Rm.addV v w c) else x):=by
  split
  ·exact flagCV_y (nzX_y h hs) (Rm.addC_bd _ _ _ hc hv.1 hv.2 hw.1 hw.2) (Rm.addV_bd _ _ _)
  ·exact h
 unfold sumX
 split
 ·exact putX_y h1 _ hs
 ·exact h1
theorem logicX_y {x : XS} (h : YOk x) (d : Int) {v c : Int} (hv : U32 v) (hc : 0 <= c /\ c <= 1) : YOk (logicX x d v c):=by
 have h1 : YOk (if setsX x then flagC (nzX x v) c else x):=by
  split
  ·exact flagC_y (nzX_y h hv) hc
  ·exact h
 unfold logicX
 split
 ·exact putX_y h1 _ hv
 ·exact h1
theorem bits_u32 {a b : Int} (ha : U32 a) (hb : U32 b) : U32 (bits .and .u32 a b) /\ U32 (bits .or .u32 a b) /\ U32 (bits .xor .u32 a b) /\ U32 (bits .andNot .u32 a b):=by
 obtain ⟨a0,a1⟩:=ha
 obtain ⟨b0,b1⟩:=hb
 rw [u32_and a b a0 (by omega) b0 (by omega),u32_or a b a0 (by omega) b0 (by omega),u32_xor a b a0 (by omega) b0 (by omega),u32_andNot a b a0 (by omega) b0 (by omega)]
 have h1 : a.toNat &&& b.toNat < 2 ^ 32:=Nat.and_lt_two_pow _ (show b.toNat < 4294967296 by omega)
 have h2 : a.toNat ||| b.toNat < 2 ^ 32:=Nat.or_lt_two_pow (show a.toNat < 4294967296 by omega) (show b.toNat < 4294967296 by omega)
 have h3 : a.toNat ^^^ b.toNat < 2 ^ 32:=Nat.xor_lt_two_pow (show a.toNat < 4294967296 by omega) (show b.toNat < 4294967296 by omega)
 have h4 : a.toNat &&& (4294967295 - b.toNat) < 2 ^ 32:=Nat.and_lt_two_pow _ (show 4294967295 - b.toNat < 4294967296 by omega)
 generalize a.toNat &&& b.toNat = p at h1 ⊢
 generalize a.toNat ||| b.toNat = q at h2 ⊢
 generalize a.toNat ^^^ b.toNat = r at h3 ⊢
 generalize a.toNat &&& (4294967295 - b.toNat) = t at h4 ⊢
 unfold U32
 omega
theorem z_u32 : U32 0:=⟨by decide,by decide⟩
theorem secC_bd {x : XS} (h : XOk x) : 0 <= secC x /\ secC x <= 1:=by
 have hc:=h.c
 unfold secC
 split
 ·exact hc
 ·split
  ·unfold Rm.carryX
   have:=Rm.wordX_bd x.i.imm
   split
   ·split <;> omega
   ·omega
  ·split
   ·exact shC_bd _ _ _ _ (getX_bd h _)
   ·exact hc
theorem sumsX_y {x : XS} (h : YOk x) (hx : XOk x) : YOk (sumsX x):=by
 have f:=firstX_bd hx
 have w:=secW_bd hx
 have c:=hx.c
 unfold sumsX
 repeat' split
 all_goals first | exact h | (refine sumX_y h _ ?_ ?_ ?_ <;> first | exact f | exact w | exact notW_bd f | exact notW_bd w | exact c.1 | decide | exact ⟨by decide,by decide⟩)
theorem logicsX_y {x : XS} (h : YOk x) (hx : XOk x) : YOk (logicsX x):=by
 have f:=firstX_bd hx
 have w:=secW_bd hx
 have c:=secC_bd hx
 have b:=bits_u32 f w
 have n:=notW_bd w
 have o:=(bits_u32 f n).2.1
 unfold logicsX
 split
 ·exact logicX_y h _ w c
 split
 ·exact logicX_y h _ n c
 split
 ·exact logicX_y h _ b.1 c
 split
 ·exact logicX_y h _ b.2.1 c
 split
 ·exact logicX_y h _ b.2.2.1 c
 split
 ·exact logicX_y h _ b.2.2.2 c
 split
 ·exact logicX_y h _ o c
 split
 ·exact logicX_y h _ b.1 c
 split
 ·exact logicX_y h _ b.2.2.1 c
 ·exact h
theorem shiftX_y {x : XS} (h : YOk x) (k : Int) {v : Int} (n : Int) (hv : U32 v) : YOk (shiftX x k v n):=logicX_y h _ (shW_bd _ _ _ hv) (shC_bd _ _ _ _ hv)
theorem shiftsX_y {x : XS} (h : YOk x) (hx : XOk x) : YOk (shiftsX x):=by
 unfold shiftsX
 repeat' split
 all_goals first | exact h | exact shiftX_y h _ _ (getX_bd hx _)
theorem longX_y {x : XS} (h : YOk x) {a b : Int} (ha : U32 a) (hb : U32 b) : YOk (longX x a b):=putX_y (putX_y h _ ha) _ hb
theorem prodX_y {x : XS} (h : YOk x) (hx : XOk x) : YOk (prodX x):=by
 have hab : YOk { x with a:=getX x x.i.rn,b:=getX x x.i.rm }:=⟨h.s,getX_bd hx _,getX_bd hx _,h.k⟩
 unfold prodX
 repeat' split
 all_goals first | exact h | exact putX_y (nzX_y h (wrap_u32 _)) _ (wrap_u32 _) | exact putX_y h _ (lo_bd x) | exact putX_y h _ (wrap_u32 _) | exact longX_y h (lo_bd x) (hi_bd hx) | exact longX_y h (Rm.addS_bd _ _ _) (Rm.addS_bd _ _ _) | exact putX_y hab _ (wrap_u32 _)
theorem stackV_bd (r : Int) {v : Int} (hv : U32 v) : U32 (stackV r v):=by
 unfold stackV
 split
 ·exact (bits_u32 hv ⟨by decide,by decide⟩).2.2.2
 ·exact hv
theorem movesX_y {x : XS} (h : YOk x) (hx : XOk x) : YOk (movesX x):=by
 unfold movesX
 repeat' split
 all_goals first | exact h | exact putX_y h _ (stackV_bd _ (wrap_u32 _)) | exact putX_y h _ (stackV_bd _ (getX_bd hx _)) | exact putX_y h _ (wrap_u32 _) | exact putX_y h _ (bits_u32 (bits_u32 (getX_bd hx _) ⟨by decide,by decide⟩).1 (wrap_u32 _)).2.1
theorem backX_y {x : XS} (h : YOk x) {v : Int} (hv : U32 v) : YOk (backX x v):=by
 unfold backX
 split
 ·exact ⟨h.s,h.a,h.b,.inr (.inl rfl)⟩
 ·exact putX_y h _ (bits_u32 hv ⟨by decide,by decide⟩).2.2.2
theorem jumpsX_y {x : XS} (h : YOk x) (hx : XOk x) : YOk (jumpsX x):=by
 have ht : YOk (takenX x):=⟨h.s,h.a,h.b,h.k⟩
 unfold jumpsX
 repeat' split
 all_goals first | exact h | exact ht | exact putX_y ht _ (wrap_u32 _) | exact putX_y h _ (wrap_u32 _) | exact backX_y h (getX_bd hx _) | exact ⟨h.s,h.a,h.b,.inr (.inr rfl)⟩
theorem plainX_y {x : XS} (h : YOk x) (hx : XOk x) : YOk (plainX x):=by
 unfold plainX
 repeat' split
 ·exact sumsX_y h hx
 ·exact logicsX_y h hx
 ·exact shiftsX_y h hx
 ·exact prodX_y h hx
 ·exact movesX_y h hx
 ·exact jumpsX_y h hx
theorem dataX_y {x : XS} (h : YOk x) (a n : Int) : YOk (dataX x a n):=⟨h.s,h.a,h.b,h.k⟩
theorem ldV_bd {m : MS} (hm : MOk m) (a : Int) : U32 (ldV m.fl m.w a):=by
 unfold ldV
 split
 ·exact ⟨by decide,by decide⟩
 ·split
  ·exact hm.w _
  ·split
   ·have b1:=hN_bd hm.fl (offF a)
    have b2:=hN_bd hm.fl (offF a + 2)
    unfold U32; omega
   ·exact ⟨by decide,by decide⟩
theorem accX_y {m : MS} {x : XS} (hm : MOk m) (h : YOk x) (a : Int) : YOk (accX m x a):=by
 unfold accX
 repeat' split
 ·exact dataX_y h _ _
 ·exact putX_y (dataX_y h _ _) _ (ldV_bd hm _)
 ·exact dataX_y h _ _
theorem pushX_y {m : MS} {x : XS} (h : YOk x) : YOk (pushX m x):=by
 unfold pushX
 split
 ·exact putX_y (dataX_y h _ _) _ (wrap_u32 _)
 ·exact dataX_y h _ _
theorem popG_y {m : MS} (hm : MOk m) {x : XS} (h : YOk x) (a : Int) : ∀ r,YOk (popG m x a r).1
 | 0=>h
 | r + 1=>by
  have ih:=popG_y hm h a r
  rw [popG]
  split
  ·exact ih
  ·split
   ·exact ih
   ·split
    ·exact ih
    ·split
     ·exact backX_y ih (ldV_bd hm _)
     ·exact putX_y ih _ (ldV_bd hm _)
theorem popX_y {m : MS} (hm : MOk m) {x : XS} (h : YOk x) (hx : XOk x) : YOk (popX m x):=by
 have h1:=popG_y hm (dataX_y h (getX x 13) (bits16 x.i.regs)) (getX x 13) 16
 have h2:=(popG_bd (m:=m) (x:=dataX x (getX x 13) (bits16 x.i.regs)) (getX_bd hx 13) 16).1
 unfold popX
 split
 ·exact putX_y h1 _ h2
 ·exact h1
theorem doX_y {m : MS} (hm : MOk m) {x : XS} (h : YOk x) (hx : XOk x) : YOk (doX m x):=by
 unfold doX
 repeat' split
 ·exact accX_y hm h _
 ·exact pushX_y h
 ·exact popX_y hm h hx
 ·exact plainX_y h hx
theorem startX_y {s : RS} (hs : RSOk s) (i : IN) : YOk (startX s i):=⟨⟨upd_bd hs.r (wrap_u32 _),hs.n,hs.z,hs.c,hs.v⟩,z_u32,z_u32,.inl rfl⟩
end Go.Proofs.YtnbngokbamifbaaGreatDoor.Pw
set_option linter.unusedVariables false
namespace Go.Proofs.YtnbngokbamifbaaGreatDoor.Pw
open Go Go.RowKit
theorem of_right {w : Int} {wide : Prop} (h : ofE w wide = 0) : rightV (ofI w wide) /\ IOk (ofI w wide) /\ formIn wide (ofI w wide).form:=by
 unfold ofE at h
 split at h
 ·rename_i hf
  obtain ⟨f,hf⟩:=hf
  have e:=ofI_is hf
  rw [e]
  have hI : I64 f:=by have:=hf.1; unfold formIn at this; unfold I64; omega
  refine ⟨hf.2.1.1,read_ok hI,?_⟩
  have : (readV f w).form = f:=rfl
  rw [this]; exact hf.1
 ·cases h
theorem fch_right {fl : List Int} {a : Int} (h : fchE fl a = 0) : rightV (fchI fl a) /\ IOk (fchI fl a):=by
 unfold fchE at h
 unfold fchI
 split at h
 ·rename_i h1; exact absurd h h1
 ·rename_i h1
  rw [if_neg h1]
  split at h
  ·rename_i h2
   rw [if_pos h2]
   exact ⟨(of_right h).1,(of_right h).2.1⟩
  ·rename_i h2
   rw [if_neg h2]
   split at h
   ·rename_i h3; exact absurd h h3
   ·rename_i h3
    rw [if_neg h3]
    exact ⟨(of_right h).1,(of_right h).2.1⟩
theorem size_24 {i : IN} (h : rightV i) : sizeV i.form = 2 \/ sizeV i.form = 4:=by
 have:=h.1
 unfold sizeV
 split
 ·exact .inr rfl
 ·split
  ·exact .inl rfl
  ·omega
theorem base_bd (i : IN) (t : Prop) [Decidable t] {a b : Int} (ha : U32 a) (hb : U32 b) (h0 : 0 <= i.regs) (h1 : i.regs <= 65535) : 1 <= baseV i t a b /\ baseV i t a b <= 20:=by
 have e1:=blen_u32 ha.2
 have e2:=bits16_bd i.regs h0 h1
 unfold baseV
 repeat' split
 all_goals first | omega | (unfold listV; split <;> omega) | (unfold divC; split <;> omega)
theorem fetM_bd (full : Prop) [Decidable full] (line a n : Int) : 0 <= fetM full line a n /\ fetM full line a n <= 2:=by
 have b1:=missV_bd full line (lineV a)
 have b2:=missV_bd True (lineV a) (lineV (IntKind.u32.wrap (a + 2)))
 unfold fetM
 split <;> omega
theorem mul_bd {n w : Int} (hn : 0 <= n /\ n <= 2) (hw : 0 <= w /\ w <= 7) : 0 <= n * w /\ n * w <= 14:=by
 rcases (show n = 0 \/ n = 1 \/ n = 2 by omega) with rfl | rfl | rfl <;> omega
open Classical in
noncomputable def stpBase (m : MS) : Int:=baseV (fchI m.fl (m.s.R 15)) (doX m (startX m.s (fchI m.fl (m.s.R 15)))).taken (doX m (startX m.s (fchI m.fl (m.s.R 15)))).a (doX m (startX m.s (fchI m.fl (m.s.R 15)))).b
open Classical in
noncomputable def stpMiss (m : MS) : Int:=fetM m.full m.line (m.s.R 15) (sizeV (fchI m.fl (m.s.R 15)).form)
noncomputable def stpX (m : MS) : XS:=doX m (startX m.s (fchI m.fl (m.s.R 15)))
noncomputable def stpOk (m : MS) : MS:=⟨doW m (startX m.s (fchI m.fl (m.s.R 15))),m.fl,m.wait,(stpX m).s,True,fetL (m.s.R 15) (sizeV (fchI m.fl (m.s.R 15)).form),m.cyc + (stpBase m + stpMiss m * m.wait),(stpX m).kind,(stpX m).code⟩
noncomputable def stpD (m : MS) : Int:=doE m (startX m.s (fchI m.fl (m.s.R 15)))
noncomputable def stpE (m : MS) : Int:=if m.kind ≠ 0 then 71 else if fchE m.fl (m.s.R 15) ≠ 0 then 10 else if stpD m ≠ 0 then 10 else 0
noncomputable def stpM (m : MS) : MS:=if m.kind ≠ 0 then m else if fchE m.fl (m.s.R 15) ≠ 0 then faultM m (fchE m.fl (m.s.R 15)) else if stpD m ≠ 0 then faultM (withW m (doW m (startX m.s (fchI m.fl (m.s.R 15))))) (stpD m) else stpOk m
noncomputable def evA (m : MS) : Int:=if stpE m ≠ 0 then 0 else m.s.R 15
noncomputable def evD (m : MS) : Int:=if stpE m ≠ 0 then 0 else (stpX m).data
noncomputable def evW (m : MS) : Int:=if stpE m ≠ 0 then 0 else (stpX m).words
noncomputable def evC (m : MS) : Int:=if stpE m ≠ 0 then 0 else stpBase m
noncomputable def evN (m : MS) : Int:=if stpE m ≠ 0 then 0 else stpMiss m
noncomputable def stpV (m : MS) : PV:=evP (evA m) (evD m) (evW m) (evC m) (evN m)
theorem stpV_is (m : MS) : stpV m = if stpE m ≠ 0 then evP 0 0 0 0 0 else evP (m.s.R 15) (stpX m).data (stpX m).words (stpBase m) (stpMiss m):=by
 unfold stpV evA evD evW evC evN
 split <;> rfl
open Classical in
set_option maxHeartbeats 16000000 in
set_option maxRecDepth 100000 in
theorem step_ok (m : MS) (hm : MSOk m) : Spec gT 20 [.ptr 2 0] (stM m) [] fun y S'=>y = .tup [stpV m,.int .i64 (stpE m)] /\ S' = stM (stpM m):=by
 have kE : stpE m = if m.kind ≠ 0 then 71 else if fchE m.fl (m.s.R 15) ≠ 0 then 10 else if stpD m ≠ 0 then 10 else 0:=rfl
 have kM : stpM m = if m.kind ≠ 0 then m else if fchE m.fl (m.s.R 15) ≠ 0 then faultM m (fchE m.fl (m.s.R 15)) else if stpD m ≠ 0 then faultM (withW m (doW m (startX m.s (fchI m.fl (m.s.R 15))))) (stpD m) else stpOk m:=rfl
 have kV:=stpV_is m
 refine Spec.leS (Spec.enter gTok P20 100 Tryz.func20 rfl (by kernel_rfl) ?_)
 refine And.intro (fun h=>?_) (fun h=>?_)
 ·have h' : m.kind ≠ 0:=h
  rw [if_pos h'] at kE kM
  rw [kE,if_pos (by decide)] at kV
  rw [kV,kE,kM]
  exact retS (by repeat' first|exact trivial|exact rfl|exact Iff.rfl|refine And.intro ?_ ?_) (by first|exact leSt_same rfl|(repeat' first|exact trivial|exact rfl|exact Iff.rfl|exact not_false|refine And.intro ?_ ?_))
 rw [if_neg (show ¬ m.kind ≠ 0 from h)] at kE kM
 refine ⟨[],no_rl,(fetch_ok m (m.s.R 15) hm.mem (hm.s.r 15)).useE rfl (by exact ⟨trivial,rfl,trivial⟩) rfl ?_⟩
 refine And.intro (fun h=>?_) (fun h=>?_)
 ·have h' : fchE m.fl (m.s.R 15) ≠ 0:=h
  rw [if_pos h'] at kE kM
  rw [kE,if_pos (by decide)] at kV
  rw [kV,kE,kM]
  refine ⟨[],no_rl,(fault_ok m (fchE m.fl (m.s.R 15))).useE rfl (by exact ⟨trivial,rfl,trivial⟩) rfl ?_⟩
  exact retS (by repeat' first|exact trivial|exact rfl|exact Iff.rfl|refine And.intro ?_ ?_) (by first|exact leSt_same rfl|(repeat' first|exact trivial|exact rfl|exact Iff.rfl|exact not_false|refine And.intro ?_ ?_))
 have hf : fchE m.fl (m.s.R 15) = 0:=Classical.not_not.1 h
 rw [if_neg (show ¬ fchE m.fl (m.s.R 15) ≠ 0 from h)] at kE kM
 obtain ⟨hr,hio⟩:=fch_right hf
 have hx:=startX_ok hm.s hr hio
 have hy:=doX_y hm.mem (startX_y hm.s (fchI m.fl (m.s.R 15))) hx
 have hsz:=size_24 hr
 have hrg:=rightC_regs hr hio
 have hdo:=do_ok m (startX m.s (fchI m.fl (m.s.R 15))) hm.mem hx
 refine ⟨[],no_rl,(ibytes_pure (fchI m.fl (m.s.R 15))).use (by repeat' first|exact trivial|exact rfl|exact Iff.rfl|exact Or.inl rfl|refine And.intro ?_ ?_) rfl rfl ?_⟩
 refine .inr ?_
 refine .inr ?_
 refine ⟨[],no_rl,(hdo).useP [0,1,2,5] rfl rfl rfl (by repeat' first|exact trivial|exact rfl|exact Iff.rfl|refine And.intro ?_ ?_) (And.intro (by first | (show leBlk _ _; exact leBlk_same rfl rfl) | (repeat' first | exact trivial | exact rfl | exact Iff.rfl | exact Or.inl rfl | exact not_false | refine And.intro ?_ ?_)) (And.intro (by first | (show leBlk _ _; exact leBlk_same rfl rfl) | (repeat' first | exact trivial | exact rfl | exact Iff.rfl | exact Or.inl rfl | exact not_false | refine And.intro ?_ ?_)) (And.intro (by first | (show leBlk _ _; exact leBlk_same rfl rfl) | (repeat' first | exact trivial | exact rfl | exact Iff.rfl | exact Or.inl rfl | exact not_false | refine And.intro ?_ ?_)) (And.intro (by first | (show leBlk _ _; exact leBlk_same rfl rfl) | (repeat' first | exact trivial | exact rfl | exact Iff.rfl | exact Or.inl rfl | exact not_false | refine And.intro ?_ ?_)) ?_))))⟩
 refine And.intro (fun h=>?_) (fun h=>?_)
 ·have h' : stpD m ≠ 0:=h
  rw [if_pos h'] at kE kM
  rw [kE,if_pos (by decide)] at kV
  rw [kV,kE,kM]
  refine ⟨[],no_rl,(fault_ok (withW m (doW m (startX m.s (fchI m.fl (m.s.R 15))))) (stpD m)).useE rfl (by exact ⟨trivial,rfl,trivial⟩) rfl ?_⟩
  exact retS (by repeat' first|exact trivial|exact rfl|exact Iff.rfl|refine And.intro ?_ ?_) (by first|exact leSt_same rfl|(repeat' first|exact trivial|exact rfl|exact Iff.rfl|exact not_false|refine And.intro ?_ ?_))
 rw [if_neg (show ¬ stpD m ≠ 0 from h)] at kE kM
 rw [kE,if_neg (by decide)] at kV
 rw [kV,kE,kM]
 have hba:=base_pure (fchI m.fl (m.s.R 15)) (doX m (startX m.s (fchI m.fl (m.s.R 15)))).taken (doX m (startX m.s (fchI m.fl (m.s.R 15)))).a (doX m (startX m.s (fchI m.fl (m.s.R 15)))).b hr (hio _ (by simp [inLs])) hrg.1 hrg.2 hy.a hy.b
 have hfe:=fetch_pure m.full m.line (m.s.R 15) (sizeV (fchI m.fl (m.s.R 15)).form) (hm.s.r 15) hsz
 refine ⟨[],no_rl,hba.use (by repeat' first|exact trivial|exact rfl|exact Iff.rfl|exact Or.inl rfl|refine And.intro ?_ ?_) rfl rfl ?_⟩
 refine ⟨[],no_rl,(ibytes_pure (fchI m.fl (m.s.R 15))).use (by repeat' first|exact trivial|exact rfl|exact Iff.rfl|exact Or.inl rfl|refine And.intro ?_ ?_) rfl rfl ?_⟩
 refine ⟨[],no_rl,hfe.use (by repeat' first|exact trivial|exact rfl|exact Iff.rfl|exact Or.inl rfl|refine And.intro ?_ ?_) rfl rfl ?_⟩
 have hmi:=fetM_bd m.full m.line (m.s.R 15) (sizeV (fchI m.fl (m.s.R 15)).form)
 have hbb:=base_bd (fchI m.fl (m.s.R 15)) (doX m (startX m.s (fchI m.fl (m.s.R 15)))).taken hy.a hy.b hrg.1 hrg.2
 have hmw:=mul_bd hmi hm.wait
 have hcy:=hm.cyc
 refine And.intro ?_ ?_
 ·refine And.intro ?_ ?_
  ·refine .inl ⟨inR_i64 (show _ <= stpMiss m * m.wait /\ stpMiss m * m.wait <= _ by unfold stpMiss; omega),?_⟩
   refine .inl ⟨inR_i64 (show _ <= stpBase m + stpMiss m * m.wait /\ stpBase m + stpMiss m * m.wait <= _ by unfold stpMiss stpBase; omega),?_⟩
   refine .inl ⟨inR_i64 (show _ <= m.cyc + (stpBase m + stpMiss m * m.wait) /\ m.cyc + (stpBase m + stpMiss m * m.wait) <= _ by unfold stpMiss stpBase; omega),?_⟩
   exact retS (by repeat' first|exact trivial|exact rfl|exact Iff.rfl|refine And.intro ?_ ?_) (by first|exact leSt_same rfl|(repeat' first|exact trivial|exact rfl|exact Iff.rfl|exact not_false|refine And.intro ?_ ?_))
  ·refine And.intro ?_ ?_
   ·refine ⟨[],no_rl,(ibytes_pure (fchI m.fl (m.s.R 15))).use (by repeat' first|exact trivial|exact rfl|exact Iff.rfl|exact Or.inl rfl|refine And.intro ?_ ?_) rfl rfl ?_⟩
    refine ⟨[],no_rl,hfe.use (by repeat' first|exact trivial|exact rfl|exact Iff.rfl|exact Or.inl rfl|refine And.intro ?_ ?_) rfl rfl ?_⟩
    exact rfl
   ·first | exact trivial | ((conv=>whnf); exact trivial)
 ·refine And.intro ?_ ?_
  ·refine ⟨[],no_rl,hfe.use (by repeat' first|exact trivial|exact rfl|exact Iff.rfl|exact Or.inl rfl|refine And.intro ?_ ?_) rfl rfl ?_⟩
   exact rfl
  ·first | exact trivial | ((conv=>whnf); exact trivial)
end Go.Proofs.YtnbngokbamifbaaGreatDoor.Pw
set_option linter.unusedVariables false
namespace Go.Proofs.YtnbngokbamifbaaGreatDoor.Pw
open Go Go.RowKit
def clampS (s : RS) : RS:={ s with N:=min s.N 1,Z:=min s.Z 1,C:=min s.C 1,V:=min s.V 1 }
def setM (m : MS) (s : RS) : MS:={ m with s:=clampS s }
def haltP (k c : Int) : PV:=.agg [.int .i64 k,.int .i64 c]
set_option maxRecDepth 100000 in
theorem set_ok (m : MS) (s : RS) : Spec gT 17 [.ptr 2 0,rsP s] (stM m) [] fun y S'=>y = .tup [] /\ S' = stM (setM m s):=by
 refine Spec.leS (Spec.enter gTok P17 100 Tryz.func17 rfl (by kernel_rfl) ?_)
 exact retS (by repeat' first|exact trivial|exact rfl|exact Iff.rfl|refine And.intro ?_ ?_) (by first|exact leSt_same rfl|(repeat' first|exact trivial|exact rfl|exact Iff.rfl|exact not_false|refine And.intro ?_ ?_))
set_option maxRecDepth 100000 in
theorem state_ok (m : MS) : Spec gT 23 [.ptr 2 0] (stM m) [] fun y S'=>y = rsP m.s /\ S' = stM m:=by
 refine Spec.leS (Spec.enter gTok P23 100 Tryz.func23 rfl (by kernel_rfl) ?_)
 exact retS (by repeat' first|exact trivial|exact rfl|exact Iff.rfl|refine And.intro ?_ ?_) (by first|exact leSt_same rfl|(repeat' first|exact trivial|exact rfl|exact Iff.rfl|exact not_false|refine And.intro ?_ ?_))
set_option maxRecDepth 100000 in
theorem halt_ok (m : MS) : Spec gT 22 [.ptr 2 0] (stM m) [] fun y S'=>y = haltP m.kind m.code /\ S' = stM m:=by
 refine Spec.leS (Spec.enter gTok P22 100 Tryz.func22 rfl (by kernel_rfl) ?_)
 exact retS (by repeat' first|exact trivial|exact rfl|exact Iff.rfl|refine And.intro ?_ ?_) (by first|exact leSt_same rfl|(repeat' first|exact trivial|exact rfl|exact Iff.rfl|exact not_false|refine And.intro ?_ ?_))
set_option maxRecDepth 100000 in
theorem cycles_ok (m : MS) : Spec gT 21 [.ptr 2 0] (stM m) [] fun y S'=>y = .int .i64 m.cyc /\ S' = stM m:=by
 refine Spec.leS (Spec.enter gTok P21 100 Tryz.func21 rfl (by kernel_rfl) ?_)
 exact retS (by repeat' first|exact trivial|exact rfl|exact Iff.rfl|refine And.intro ?_ ?_) (by first|exact leSt_same rfl|(repeat' first|exact trivial|exact rfl|exact Iff.rfl|exact not_false|refine And.intro ?_ ?_))
end Go.Proofs.YtnbngokbamifbaaGreatDoor.Pw

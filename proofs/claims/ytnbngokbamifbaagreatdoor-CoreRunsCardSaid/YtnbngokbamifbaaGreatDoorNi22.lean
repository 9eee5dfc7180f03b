/- What a law is proved with. -/
import Derived.Test.YtnbngokbamifbaaGreatDoorNi21
set_option linter.unusedVariables false
set_option linter.unusedSimpArgs false
set_option linter.unusedVariables false
namespace Go.Proofs.YtnbngokbamifbaaGreatDoor.Pw
open Go Go.RowKit
def logCls (f : Int) : Int :=
 if f = 8 \/ f = 60 \/ f = 76 then 1 else if f = 27 \/ f = 61 \/ f = 77 then 2 else if f = 12 \/ f = 50 \/ f = 66 then 3 else if f = 24 \/ f = 52 \/ f = 68 then 4 else if f = 13 \/ f = 54 \/ f = 70 then 5 else if f = 26 \/ f = 51 \/ f = 67 then 6 else if f = 53 \/ f = 69 then 7 else if f = 20 \/ f = 62 \/ f = 78 then 8 else if f = 63 \/ f = 79 then 9 else 0
def logicsX (x : XS) : XS :=
 if logCls x.i.form = 1 then logicX x x.i.rd (secW x) (secC x) else if logCls x.i.form = 2 then logicX x x.i.rd (notW (secW x)) (secC x) else if logCls x.i.form = 3 then logicX x x.i.rd (bits .and .u32 (firstX x) (secW x)) (secC x) else if logCls x.i.form = 4 then logicX x x.i.rd (bits .or .u32 (firstX x) (secW x)) (secC x) else if logCls x.i.form = 5 then logicX x x.i.rd (bits .xor .u32 (firstX x) (secW x)) (secC x) else if logCls x.i.form = 6 then logicX x x.i.rd (bits .andNot .u32 (firstX x) (secW x)) (secC x) else if logCls x.i.form = 7 then logicX x x.i.rd (bits .or .u32 (firstX x) (notW (secW x))) (secC x) else if logCls x.i.form = 8 then logicX x (-1) (bits .and .u32 (firstX x) (secW x)) (secC x) else if logCls x.i.form = 9 then logicX x (-1) (bits .xor .u32 (firstX x) (secW x)) (secC x) else x
theorem logicsX_1 {x : XS} (h : logCls x.i.form = 1) : logicsX x = logicX x x.i.rd (secW x) (secC x):=by unfold logicsX; rw [if_pos h]
theorem logicsX_2 {x : XS} (h : logCls x.i.form = 2) : logicsX x = logicX x x.i.rd (notW (secW x)) (secC x):=by unfold logicsX; rw [if_neg (by omega),if_pos h]
theorem logicsX_3 {x : XS} (h : logCls x.i.form = 3) : logicsX x = logicX x x.i.rd (bits .and .u32 (firstX x) (secW x)) (secC x):=by unfold logicsX; rw [if_neg (by omega),if_neg (by omega),if_pos h]
theorem logicsX_4 {x : XS} (h : logCls x.i.form = 4) : logicsX x = logicX x x.i.rd (bits .or .u32 (firstX x) (secW x)) (secC x):=by unfold logicsX; rw [if_neg (by omega),if_neg (by omega),if_neg (by omega),if_pos h]
theorem logicsX_5 {x : XS} (h : logCls x.i.form = 5) : logicsX x = logicX x x.i.rd (bits .xor .u32 (firstX x) (secW x)) (secC x):=by unfold logicsX; rw [if_neg (by omega),if_neg (by omega),if_neg (by omega),if_neg (by omega),if_pos h]
theorem logicsX_6 {x : XS} (h : logCls x.i.form = 6) : logicsX x = logicX x x.i.rd (bits .andNot .u32 (firstX x) (secW x)) (secC x):=by unfold logicsX; rw [if_neg (by omega),if_neg (by omega),if_neg (by omega),if_neg (by omega),if_neg (by omega),if_pos h]
theorem logicsX_7 {x : XS} (h : logCls x.i.form = 7) : logicsX x = logicX x x.i.rd (bits .or .u32 (firstX x) (notW (secW x))) (secC x):=by unfold logicsX; rw [if_neg (by omega),if_neg (by omega),if_neg (by omega),if_neg (by omega),if_neg (by omega),if_neg (by omega),if_pos h]
theorem logicsX_8 {x : XS} (h : logCls x.i.form = 8) : logicsX x = logicX x (-1) (bits .and .u32 (firstX x) (secW x)) (secC x):=by unfold logicsX; rw [if_neg (by omega),if_neg (by omega),if_neg (by omega),if_neg (by omega),if_neg (by omega),if_neg (by omega),if_neg (by omega),if_pos h]
theorem logicsX_9 {x : XS} (h : logCls x.i.form = 9) : logicsX x = logicX x (-1) (bits .xor .u32 (firstX x) (secW x)) (secC x):=by unfold logicsX; rw [if_neg (by omega),if_neg (by omega),if_neg (by omega),if_neg (by omega),if_neg (by omega),if_neg (by omega),if_neg (by omega),if_neg (by omega),if_pos h]
theorem logicsX_0 {x : XS} (h : logCls x.i.form = 0) : logicsX x = x:=by unfold logicsX; rw [if_neg (by omega),if_neg (by omega),if_neg (by omega),if_neg (by omega),if_neg (by omega),if_neg (by omega),if_neg (by omega),if_neg (by omega),if_neg (by omega)]
set_option maxHeartbeats 4000000 in
set_option maxRecDepth 100000 in
theorem logics_ok (m : MS) (x : XS) (hx : XOk x) : Spec gT 94 [.ptr 3 0] (stX m x) [] fun y S'=>y = .bool (logCls x.i.form ≠ 0) /\ S' = stX m (logicsX x):=by
 refine Spec.leS (Spec.enter gTok P94 100 Tryz.func94 rfl (by kernel_rfl) ?_)
 refine ⟨[],no_rl,(first_ok m x hx).useE rfl (by exact ⟨trivial,trivial⟩) rfl ?_⟩
 refine ⟨[],no_rl,(second_ok m x hx).useE rfl (by exact ⟨trivial,trivial⟩) rfl ?_⟩
 refine And.intro (fun h8=>?_) (fun h8=>?_)
 ·have hc : logCls x.i.form = 1:=by rw [show x.i.form = 8 from h8]; rfl
  rw [logicsX_1 hc]
  refine ⟨[],no_rl,(logic_ok m x x.i.rd (secW x) (secC x) hx.rd.2).useE rfl (by exact ⟨trivial,rfl,rfl,rfl,trivial⟩) rfl ?_⟩
  exact retS (show logCls x.i.form ≠ 0 by omega) (leSt_same rfl)
 refine And.intro (fun h60=>?_) (fun h60=>?_)
 ·have hc : logCls x.i.form = 1:=by rw [show x.i.form = 60 from h60]; rfl
  rw [logicsX_1 hc]
  refine ⟨[],no_rl,(logic_ok m x x.i.rd (secW x) (secC x) hx.rd.2).useE rfl (by exact ⟨trivial,rfl,rfl,rfl,trivial⟩) rfl ?_⟩
  exact retS (show logCls x.i.form ≠ 0 by omega) (leSt_same rfl)
 refine And.intro (fun h76=>?_) (fun h76=>?_)
 ·have hc : logCls x.i.form = 1:=by rw [show x.i.form = 76 from h76]; rfl
  rw [logicsX_1 hc]
  refine ⟨[],no_rl,(logic_ok m x x.i.rd (secW x) (secC x) hx.rd.2).useE rfl (by exact ⟨trivial,rfl,rfl,rfl,trivial⟩) rfl ?_⟩
  exact retS (show logCls x.i.form ≠ 0 by omega) (leSt_same rfl)
 refine And.intro (fun h27=>?_) (fun h27=>?_)
 ·have hc : logCls x.i.form = 2:=by rw [show x.i.form = 27 from h27]; rfl
  rw [logicsX_2 hc]
  refine ⟨[],no_rl,(logic_ok m x x.i.rd (notW (secW x)) (secC x) hx.rd.2).useE rfl (by exact ⟨trivial,rfl,rfl,rfl,trivial⟩) rfl ?_⟩
  exact retS (show logCls x.i.form ≠ 0 by omega) (leSt_same rfl)
 refine And.intro (fun h61=>?_) (fun h61=>?_)
 ·have hc : logCls x.i.form = 2:=by rw [show x.i.form = 61 from h61]; rfl
  rw [logicsX_2 hc]
  refine ⟨[],no_rl,(logic_ok m x x.i.rd (notW (secW x)) (secC x) hx.rd.2).useE rfl (by exact ⟨trivial,rfl,rfl,rfl,trivial⟩) rfl ?_⟩
  exact retS (show logCls x.i.form ≠ 0 by omega) (leSt_same rfl)
 refine And.intro (fun h77=>?_) (fun h77=>?_)
 ·have hc : logCls x.i.form = 2:=by rw [show x.i.form = 77 from h77]; rfl
  rw [logicsX_2 hc]
  refine ⟨[],no_rl,(logic_ok m x x.i.rd (notW (secW x)) (secC x) hx.rd.2).useE rfl (by exact ⟨trivial,rfl,rfl,rfl,trivial⟩) rfl ?_⟩
  exact retS (show logCls x.i.form ≠ 0 by omega) (leSt_same rfl)
 refine And.intro (fun h12=>?_) (fun h12=>?_)
 ·have hc : logCls x.i.form = 3:=by rw [show x.i.form = 12 from h12]; rfl
  rw [logicsX_3 hc]
  refine ⟨[],no_rl,(logic_ok m x x.i.rd (bits .and .u32 (firstX x) (secW x)) (secC x) hx.rd.2).useE rfl (by exact ⟨trivial,rfl,rfl,rfl,trivial⟩) rfl ?_⟩
  exact retS (show logCls x.i.form ≠ 0 by omega) (leSt_same rfl)
 refine And.intro (fun h50=>?_) (fun h50=>?_)
 ·have hc : logCls x.i.form = 3:=by rw [show x.i.form = 50 from h50]; rfl
  rw [logicsX_3 hc]
  refine ⟨[],no_rl,(logic_ok m x x.i.rd (bits .and .u32 (firstX x) (secW x)) (secC x) hx.rd.2).useE rfl (by exact ⟨trivial,rfl,rfl,rfl,trivial⟩) rfl ?_⟩
  exact retS (show logCls x.i.form ≠ 0 by omega) (leSt_same rfl)
 refine And.intro (fun h66=>?_) (fun h66=>?_)
 ·have hc : logCls x.i.form = 3:=by rw [show x.i.form = 66 from h66]; rfl
  rw [logicsX_3 hc]
  refine ⟨[],no_rl,(logic_ok m x x.i.rd (bits .and .u32 (firstX x) (secW x)) (secC x) hx.rd.2).useE rfl (by exact ⟨trivial,rfl,rfl,rfl,trivial⟩) rfl ?_⟩
  exact retS (show logCls x.i.form ≠ 0 by omega) (leSt_same rfl)
 refine And.intro (fun h24=>?_) (fun h24=>?_)
 ·have hc : logCls x.i.form = 4:=by rw [show x.i.form = 24 from h24]; rfl
  rw [logicsX_4 hc]
  refine ⟨[],no_rl,(logic_ok m x x.i.rd (bits .or .u32 (firstX x) (secW x)) (secC x) hx.rd.2).useE rfl (by exact ⟨trivial,rfl,rfl,rfl,trivial⟩) rfl ?_⟩
  exact retS (show logCls x.i.form ≠ 0 by omega) (leSt_same rfl)
 refine And.intro (fun h52=>?_) (fun h52=>?_)
 ·have hc : logCls x.i.form = 4:=by rw [show x.i.form = 52 from h52]; rfl
  rw [logicsX_4 hc]
  refine ⟨[],no_rl,(logic_ok m x x.i.rd (bits .or .u32 (firstX x) (secW x)) (secC x) hx.rd.2).useE rfl (by exact ⟨trivial,rfl,rfl,rfl,trivial⟩) rfl ?_⟩
  exact retS (show logCls x.i.form ≠ 0 by omega) (leSt_same rfl)
 refine And.intro (fun h68=>?_) (fun h68=>?_)
 ·have hc : logCls x.i.form = 4:=by rw [show x.i.form = 68 from h68]; rfl
  rw [logicsX_4 hc]
  refine ⟨[],no_rl,(logic_ok m x x.i.rd (bits .or .u32 (firstX x) (secW x)) (secC x) hx.rd.2).useE rfl (by exact ⟨trivial,rfl,rfl,rfl,trivial⟩) rfl ?_⟩
  exact retS (show logCls x.i.form ≠ 0 by omega) (leSt_same rfl)
 refine And.intro (fun h13=>?_) (fun h13=>?_)
 ·have hc : logCls x.i.form = 5:=by rw [show x.i.form = 13 from h13]; rfl
  rw [logicsX_5 hc]
  refine ⟨[],no_rl,(logic_ok m x x.i.rd (bits .xor .u32 (firstX x) (secW x)) (secC x) hx.rd.2).useE rfl (by exact ⟨trivial,rfl,rfl,rfl,trivial⟩) rfl ?_⟩
  exact retS (show logCls x.i.form ≠ 0 by omega) (leSt_same rfl)
 refine And.intro (fun h54=>?_) (fun h54=>?_)
 ·have hc : logCls x.i.form = 5:=by rw [show x.i.form = 54 from h54]; rfl
  rw [logicsX_5 hc]
  refine ⟨[],no_rl,(logic_ok m x x.i.rd (bits .xor .u32 (firstX x) (secW x)) (secC x) hx.rd.2).useE rfl (by exact ⟨trivial,rfl,rfl,rfl,trivial⟩) rfl ?_⟩
  exact retS (show logCls x.i.form ≠ 0 by omega) (leSt_same rfl)
 refine And.intro (fun h70=>?_) (fun h70=>?_)
 ·have hc : logCls x.i.form = 5:=by rw [show x.i.form = 70 from h70]; rfl
  rw [logicsX_5 hc]
  refine ⟨[],no_rl,(logic_ok m x x.i.rd (bits .xor .u32 (firstX x) (secW x)) (secC x) hx.rd.2).useE rfl (by exact ⟨trivial,rfl,rfl,rfl,trivial⟩) rfl ?_⟩
  exact retS (show logCls x.i.form ≠ 0 by omega) (leSt_same rfl)
 refine And.intro (fun h26=>?_) (fun h26=>?_)
 ·have hc : logCls x.i.form = 6:=by rw [show x.i.form = 26 from h26]; rfl
  rw [logicsX_6 hc]
  refine ⟨[],no_rl,(logic_ok m x x.i.rd (bits .andNot .u32 (firstX x) (secW x)) (secC x) hx.rd.2).useE rfl (by exact ⟨trivial,rfl,rfl,rfl,trivial⟩) rfl ?_⟩
  exact retS (show logCls x.i.form ≠ 0 by omega) (leSt_same rfl)
 refine And.intro (fun h51=>?_) (fun h51=>?_)
 ·have hc : logCls x.i.form = 6:=by rw [show x.i.form = 51 from h51]; rfl
  rw [logicsX_6 hc]
  refine ⟨[],no_rl,(logic_ok m x x.i.rd (bits .andNot .u32 (firstX x) (secW x)) (secC x) hx.rd.2).useE rfl (by exact ⟨trivial,rfl,rfl,rfl,trivial⟩) rfl ?_⟩
  exact retS (show logCls x.i.form ≠ 0 by omega) (leSt_same rfl)
 refine And.intro (fun h67=>?_) (fun h67=>?_)
 ·have hc : logCls x.i.form = 6:=by rw [show x.i.form = 67 from h67]; rfl
  rw [logicsX_6 hc]
  refine ⟨[],no_rl,(logic_ok m x x.i.rd (bits .andNot .u32 (firstX x) (secW x)) (secC x) hx.rd.2).useE rfl (by exact ⟨trivial,rfl,rfl,rfl,trivial⟩) rfl ?_⟩
  exact retS (show logCls x.i.form ≠ 0 by omega) (leSt_same rfl)
 refine And.intro (fun h53=>?_) (fun h53=>?_)
 ·have hc : logCls x.i.form = 7:=by rw [show x.i.form = 53 from h53]; rfl
  rw [logicsX_7 hc]
  refine ⟨[],no_rl,(logic_ok m x x.i.rd (bits .or .u32 (firstX x) (notW (secW x))) (secC x) hx.rd.2).useE rfl (by exact ⟨trivial,rfl,rfl,rfl,trivial⟩) rfl ?_⟩
  exact retS (show logCls x.i.form ≠ 0 by omega) (leSt_same rfl)
 refine And.intro (fun h69=>?_) (fun h69=>?_)
 ·have hc : logCls x.i.form = 7:=by rw [show x.i.form = 69 from h69]; rfl
  rw [logicsX_7 hc]
  refine ⟨[],no_rl,(logic_ok m x x.i.rd (bits .or .u32 (firstX x) (notW (secW x))) (secC x) hx.rd.2).useE rfl (by exact ⟨trivial,rfl,rfl,rfl,trivial⟩) rfl ?_⟩
  exact retS (show logCls x.i.form ≠ 0 by omega) (leSt_same rfl)
 refine And.intro (fun h20=>?_) (fun h20=>?_)
 ·have hc : logCls x.i.form = 8:=by rw [show x.i.form = 20 from h20]; rfl
  rw [logicsX_8 hc]
  refine ⟨[],no_rl,(logic_ok m x (-1) (bits .and .u32 (firstX x) (secW x)) (secC x) (by decide)).useE rfl (by exact ⟨trivial,rfl,rfl,rfl,trivial⟩) rfl ?_⟩
  exact retS (show logCls x.i.form ≠ 0 by omega) (leSt_same rfl)
 refine And.intro (fun h62=>?_) (fun h62=>?_)
 ·have hc : logCls x.i.form = 8:=by rw [show x.i.form = 62 from h62]; rfl
  rw [logicsX_8 hc]
  refine ⟨[],no_rl,(logic_ok m x (-1) (bits .and .u32 (firstX x) (secW x)) (secC x) (by decide)).useE rfl (by exact ⟨trivial,rfl,rfl,rfl,trivial⟩) rfl ?_⟩
  exact retS (show logCls x.i.form ≠ 0 by omega) (leSt_same rfl)
 refine And.intro (fun h78=>?_) (fun h78=>?_)
 ·have hc : logCls x.i.form = 8:=by rw [show x.i.form = 78 from h78]; rfl
  rw [logicsX_8 hc]
  refine ⟨[],no_rl,(logic_ok m x (-1) (bits .and .u32 (firstX x) (secW x)) (secC x) (by decide)).useE rfl (by exact ⟨trivial,rfl,rfl,rfl,trivial⟩) rfl ?_⟩
  exact retS (show logCls x.i.form ≠ 0 by omega) (leSt_same rfl)
 refine And.intro (fun h63=>?_) (fun h63=>?_)
 ·have hc : logCls x.i.form = 9:=by rw [show x.i.form = 63 from h63]; rfl
  rw [logicsX_9 hc]
  refine ⟨[],no_rl,(logic_ok m x (-1) (bits .xor .u32 (firstX x) (secW x)) (secC x) (by decide)).useE rfl (by exact ⟨trivial,rfl,rfl,rfl,trivial⟩) rfl ?_⟩
  exact retS (show logCls x.i.form ≠ 0 by omega) (leSt_same rfl)
 refine And.intro (fun h79=>?_) (fun h79=>?_)
 ·have hc : logCls x.i.form = 9:=by rw [show x.i.form = 79 from h79]; rfl
  rw [logicsX_9 hc]
  refine ⟨[],no_rl,(logic_ok m x (-1) (bits .xor .u32 (firstX x) (secW x)) (secC x) (by decide)).useE rfl (by exact ⟨trivial,rfl,rfl,rfl,trivial⟩) rfl ?_⟩
  exact retS (show logCls x.i.form ≠ 0 by omega) (leSt_same rfl)
 ·have hc : logCls x.i.form = 0:=by unfold logCls; rw [if_neg (by omega),if_neg (by omega),if_neg (by omega),if_neg (by omega),if_neg (by omega),if_neg (by omega),if_neg (by omega),if_neg (by omega),if_neg (by omega)]
  rw [logicsX_0 hc]
  exact retS (show ¬ logCls x.i.form ≠ 0 from fun h=>h hc) (leSt_same rfl)
end Go.Proofs.YtnbngokbamifbaaGreatDoor.Pw
set_option linter.unusedVariables false
namespace Go.Proofs.YtnbngokbamifbaaGreatDoor.Pw
open Go Go.RowKit
def byX (x : XS) : Int:=bits .and .u32 (getX x x.i.rm) 255
theorem byX_bd {x : XS} (h : XOk x) : 0 <= byX x /\ byX x <= 255:=by
 unfold byX
 have b:=getX_bd h x.i.rm
 rw [Rm.u32_mask8 _ b.1 b.2]; omega
def shCls (f : Int) : Int :=
 if f = 1 \/ f = 2 \/ f = 3 then 1 else if f = 14 \/ f = 15 \/ f = 16 then 2 else if f = 19 then 3 else if f = 88 \/ f = 89 \/ f = 90 \/ f = 91 then 4 else 0
def shiftsX (x : XS) : XS :=
 if shCls x.i.form = 1 then shiftX x (x.i.form - 1) (getX x x.i.rm) x.i.imm else if shCls x.i.form = 2 then shiftX x (x.i.form - 14) (getX x x.i.rd) (byX x) else if shCls x.i.form = 3 then shiftX x 3 (getX x x.i.rd) (byX x) else if shCls x.i.form = 4 then shiftX x (x.i.form - 88) (getX x x.i.rn) (byX x) else x
theorem shiftsX_1 {x : XS} (h : shCls x.i.form = 1) : shiftsX x = shiftX x (x.i.form - 1) (getX x x.i.rm) x.i.imm:=by unfold shiftsX; rw [if_pos h]
theorem shiftsX_2 {x : XS} (h : shCls x.i.form = 2) : shiftsX x = shiftX x (x.i.form - 14) (getX x x.i.rd) (byX x):=by unfold shiftsX; rw [if_neg (by omega),if_pos h]
theorem shiftsX_3 {x : XS} (h : shCls x.i.form = 3) : shiftsX x = shiftX x 3 (getX x x.i.rd) (byX x):=by unfold shiftsX; rw [if_neg (by omega),if_neg (by omega),if_pos h]
theorem shiftsX_4 {x : XS} (h : shCls x.i.form = 4) : shiftsX x = shiftX x (x.i.form - 88) (getX x x.i.rn) (byX x):=by unfold shiftsX; rw [if_neg (by omega),if_neg (by omega),if_neg (by omega),if_pos h]
theorem shiftsX_0 {x : XS} (h : shCls x.i.form = 0) : shiftsX x = x:=by unfold shiftsX; rw [if_neg (by omega),if_neg (by omega),if_neg (by omega),if_neg (by omega)]
set_option maxHeartbeats 4000000 in
set_option maxRecDepth 100000 in
theorem shifts_ok (m : MS) (x : XS) (hx : XOk x) : Spec gT 95 [.ptr 3 0] (stX m x) [] fun y S'=>y = .bool (shCls x.i.form ≠ 0) /\ S' = stX m (shiftsX x):=by
 refine Spec.leS (Spec.enter gTok P95 100 Tryz.func95 rfl (by kernel_rfl) ?_)
 have hby:=byX_bd hx
 refine ⟨[],no_rl,(get_ok m x x.i.rm hx.rm.1 hx.rm.2).useE rfl (by exact ⟨trivial,rfl,trivial⟩) rfl ?_⟩
 refine .inl ⟨inR_i64 (show _ <= byX x /\ byX x <= _ by omega),?_⟩
 refine And.intro (fun h1=>?_) (fun h1=>?_)
 ·have hc : shCls x.i.form = 1:=by rw [show x.i.form = 1 from h1]; rfl
  rw [shiftsX_1 hc]
  refine .inl ⟨inR_i64 (show _ <= x.i.form - 1 /\ x.i.form - 1 <= _ by omega),?_⟩
  refine ⟨[],no_rl,(get_ok m x x.i.rm hx.rm.1 hx.rm.2).useE rfl (by exact ⟨trivial,rfl,trivial⟩) rfl ?_⟩
  have hl:=hx.low (by omega)
  refine ⟨[],no_rl,(xshift_ok m x (x.i.form - 1) (getX x x.i.rm) x.i.imm hx (by omega) (by omega) hl.1 (by omega) (getX_bd hx _)).useE rfl (by exact ⟨trivial,rfl,rfl,rfl,trivial⟩) rfl ?_⟩
  exact retS (show shCls x.i.form ≠ 0 by omega) (leSt_same rfl)
 refine And.intro (fun h2=>?_) (fun h2=>?_)
 ·have hc : shCls x.i.form = 1:=by rw [show x.i.form = 2 from h2]; rfl
  rw [shiftsX_1 hc]
  refine .inl ⟨inR_i64 (show _ <= x.i.form - 1 /\ x.i.form - 1 <= _ by omega),?_⟩
  refine ⟨[],no_rl,(get_ok m x x.i.rm hx.rm.1 hx.rm.2).useE rfl (by exact ⟨trivial,rfl,trivial⟩) rfl ?_⟩
  have hl:=hx.low (by omega)
  refine ⟨[],no_rl,(xshift_ok m x (x.i.form - 1) (getX x x.i.rm) x.i.imm hx (by omega) (by omega) hl.1 (by omega) (getX_bd hx _)).useE rfl (by exact ⟨trivial,rfl,rfl,rfl,trivial⟩) rfl ?_⟩
  exact retS (show shCls x.i.form ≠ 0 by omega) (leSt_same rfl)
 refine And.intro (fun h3=>?_) (fun h3=>?_)
 ·have hc : shCls x.i.form = 1:=by rw [show x.i.form = 3 from h3]; rfl
  rw [shiftsX_1 hc]
  refine .inl ⟨inR_i64 (show _ <= x.i.form - 1 /\ x.i.form - 1 <= _ by omega),?_⟩
  refine ⟨[],no_rl,(get_ok m x x.i.rm hx.rm.1 hx.rm.2).useE rfl (by exact ⟨trivial,rfl,trivial⟩) rfl ?_⟩
  have hl:=hx.low (by omega)
  refine ⟨[],no_rl,(xshift_ok m x (x.i.form - 1) (getX x x.i.rm) x.i.imm hx (by omega) (by omega) hl.1 (by omega) (getX_bd hx _)).useE rfl (by exact ⟨trivial,rfl,rfl,rfl,trivial⟩) rfl ?_⟩
  exact retS (show shCls x.i.form ≠ 0 by omega) (leSt_same rfl)
 refine And.intro (fun h14=>?_) (fun h14=>?_)
 ·have hc : shCls x.i.form = 2:=by rw [show x.i.form = 14 from h14]; rfl
  rw [shiftsX_2 hc]
  refine .inl ⟨inR_i64 (show _ <= x.i.form - 14 /\ x.i.form - 14 <= _ by omega),?_⟩
  refine ⟨[],no_rl,(get_ok m x x.i.rd hx.rd.1 hx.rd.2).useE rfl (by exact ⟨trivial,rfl,trivial⟩) rfl ?_⟩
  refine ⟨[],no_rl,(xshift_ok m x (x.i.form - 14) (getX x x.i.rd) (byX x) hx (by omega) (by omega) (byX_bd hx).1 (byX_bd hx).2 (getX_bd hx _)).useE rfl (by exact ⟨trivial,rfl,rfl,rfl,trivial⟩) rfl ?_⟩
  exact retS (show shCls x.i.form ≠ 0 by omega) (leSt_same rfl)
 refine And.intro (fun h15=>?_) (fun h15=>?_)
 ·have hc : shCls x.i.form = 2:=by rw [show x.i.form = 15 from h15]; rfl
  rw [shiftsX_2 hc]
  refine .inl ⟨inR_i64 (show _ <= x.i.form - 14 /\ x.i.form - 14 <= _ by omega),?_⟩
  refine ⟨[],no_rl,(get_ok m x x.i.rd hx.rd.1 hx.rd.2).useE rfl (by exact ⟨trivial,rfl,trivial⟩) rfl ?_⟩
  refine ⟨[],no_rl,(xshift_ok m x (x.i.form - 14) (getX x x.i.rd) (byX x) hx (by omega) (by omega) (byX_bd hx).1 (byX_bd hx).2 (getX_bd hx _)).useE rfl (by exact ⟨trivial,rfl,rfl,rfl,trivial⟩) rfl ?_⟩
  exact retS (show shCls x.i.form ≠ 0 by omega) (leSt_same rfl)
 refine And.intro (fun h16=>?_) (fun h16=>?_)
 ·have hc : shCls x.i.form = 2:=by rw [show x.i.form = 16 from h16]; rfl
  rw [shiftsX_2 hc]
  refine .inl ⟨inR_i64 (show _ <= x.i.form - 14 /\ x.i.form - 14 <= _ by omega),?_⟩
  refine ⟨[],no_rl,(get_ok m x x.i.rd hx.rd.1 hx.rd.2).useE rfl (by exact ⟨trivial,rfl,trivial⟩) rfl ?_⟩
  refine ⟨[],no_rl,(xshift_ok m x (x.i.form - 14) (getX x x.i.rd) (byX x) hx (by omega) (by omega) (byX_bd hx).1 (byX_bd hx).2 (getX_bd hx _)).useE rfl (by exact ⟨trivial,rfl,rfl,rfl,trivial⟩) rfl ?_⟩
  exact retS (show shCls x.i.form ≠ 0 by omega) (leSt_same rfl)
 refine And.intro (fun h19=>?_) (fun h19=>?_)
 ·have hc : shCls x.i.form = 3:=by rw [show x.i.form = 19 from h19]; rfl
  rw [shiftsX_3 hc]
  refine ⟨[],no_rl,(get_ok m x x.i.rd hx.rd.1 hx.rd.2).useE rfl (by exact ⟨trivial,rfl,trivial⟩) rfl ?_⟩
  refine ⟨[],no_rl,(xshift_ok m x 3 (getX x x.i.rd) (byX x) hx (by omega) (by omega) (byX_bd hx).1 (byX_bd hx).2 (getX_bd hx _)).useE rfl (by exact ⟨trivial,rfl,rfl,rfl,trivial⟩) rfl ?_⟩
  exact retS (show shCls x.i.form ≠ 0 by omega) (leSt_same rfl)
 refine And.intro (fun h88=>?_) (fun h88=>?_)
 ·have hc : shCls x.i.form = 4:=by rw [show x.i.form = 88 from h88]; rfl
  rw [shiftsX_4 hc]
  refine .inl ⟨inR_i64 (show _ <= x.i.form - 88 /\ x.i.form - 88 <= _ by omega),?_⟩
  refine ⟨[],no_rl,(get_ok m x x.i.rn hx.rn.1 hx.rn.2).useE rfl (by exact ⟨trivial,rfl,trivial⟩) rfl ?_⟩
  refine ⟨[],no_rl,(xshift_ok m x (x.i.form - 88) (getX x x.i.rn) (byX x) hx (by omega) (by omega) (byX_bd hx).1 (byX_bd hx).2 (getX_bd hx _)).useE rfl (by exact ⟨trivial,rfl,rfl,rfl,trivial⟩) rfl ?_⟩
  exact retS (show shCls x.i.form ≠ 0 by omega) (leSt_same rfl)
 refine And.intro (fun h89=>?_) (fun h89=>?_)
 ·have hc : shCls x.i.form = 4:=by rw [show x.i.form = 89 from h89]; rfl
  rw [shiftsX_4 hc]
  refine .inl ⟨inR_i64 (show _ <= x.i.form - 88 /\ x.i.form - 88 <= _ by omega),?_⟩
  refine ⟨[],no_rl,(get_ok m x x.i.rn hx.rn.1 hx.rn.2).useE rfl (by exact ⟨trivial,rfl,trivial⟩) rfl ?_⟩
  refine ⟨[],no_rl,(xshift_ok m x (x.i.form - 88) (getX x x.i.rn) (byX x) hx (by omega) (by omega) (byX_bd hx).1 (byX_bd hx).2 (getX_bd hx _)).useE rfl (by exact ⟨trivial,rfl,rfl,rfl,trivial⟩) rfl ?_⟩
  exact retS (show shCls x.i.form ≠ 0 by omega) (leSt_same rfl)
 refine And.intro (fun h90=>?_) (fun h90=>?_)
 ·have hc : shCls x.i.form = 4:=by rw [show x.i.form = 90 from h90]; rfl
  rw [shiftsX_4 hc]
  refine .inl ⟨inR_i64 (show _ <= x.i.form - 88 /\ x.i.form - 88 <= _ by omega),?_⟩
  refine ⟨[],no_rl,(get_ok m x x.i.rn hx.rn.1 hx.rn.2).useE rfl (by exact ⟨trivial,rfl,trivial⟩) rfl ?_⟩
  refine ⟨[],no_rl,(xshift_ok m x (x.i.form - 88) (getX x x.i.rn) (byX x) hx (by omega) (by omega) (byX_bd hx).1 (byX_bd hx).2 (getX_bd hx _)).useE rfl (by exact ⟨trivial,rfl,rfl,rfl,trivial⟩) rfl ?_⟩
  exact retS (show shCls x.i.form ≠ 0 by omega) (leSt_same rfl)
 refine And.intro (fun h91=>?_) (fun h91=>?_)
 ·have hc : shCls x.i.form = 4:=by rw [show x.i.form = 91 from h91]; rfl
  rw [shiftsX_4 hc]
  refine .inl ⟨inR_i64 (show _ <= x.i.form - 88 /\ x.i.form - 88 <= _ by omega),?_⟩
  refine ⟨[],no_rl,(get_ok m x x.i.rn hx.rn.1 hx.rn.2).useE rfl (by exact ⟨trivial,rfl,trivial⟩) rfl ?_⟩
  refine ⟨[],no_rl,(xshift_ok m x (x.i.form - 88) (getX x x.i.rn) (byX x) hx (by omega) (by omega) (byX_bd hx).1 (byX_bd hx).2 (getX_bd hx _)).useE rfl (by exact ⟨trivial,rfl,rfl,rfl,trivial⟩) rfl ?_⟩
  exact retS (show shCls x.i.form ≠ 0 by omega) (leSt_same rfl)
 ·have hc : shCls x.i.form = 0:=by unfold shCls; rw [if_neg (by omega),if_neg (by omega),if_neg (by omega),if_neg (by omega)]
  rw [shiftsX_0 hc]
  exact retS (show ¬ shCls x.i.form ≠ 0 from fun h=>h hc) (leSt_same rfl)
end Go.Proofs.YtnbngokbamifbaaGreatDoor.Pw
set_option linter.unusedVariables false
namespace Go.Proofs.YtnbngokbamifbaaGreatDoor.Pw
open Go Go.RowKit
def holdsV (s : RS) (c : Int) : Prop :=
 (c = 0 /\ s.Z = 1) \/ (c = 1 /\ ¬ s.Z = 1) \/ (c = 2 /\ s.C = 1) \/ (c = 3 /\ ¬ s.C = 1) \/ (c = 4 /\ s.N = 1) \/ (c = 5 /\ ¬ s.N = 1) \/ (c = 6 /\ s.V = 1) \/ (c = 7 /\ ¬ s.V = 1) \/
 (c = 8 /\ s.C = 1 /\ s.Z = 0) \/ (c = 9 /\ ¬ (s.C = 1 /\ s.Z = 0)) \/ (c = 10 /\ s.N = s.V) \/ (c = 11 /\ ¬ s.N = s.V) \/ (c = 12 /\ s.Z = 0 /\ s.N = s.V) \/ (c = 13 /\ ¬ (s.Z = 0 /\ s.N = s.V))
instance (s : RS) (c : Int) : Decidable (holdsV s c):=by unfold holdsV; infer_instance
theorem leB_iff {p q : Prop} (h : p ↔ q) : leK (.bool p) (.bool q):=h
theorem leB_tt {q : Prop} (h : q) : leK .tt (.bool q):=h
theorem leB_ff {q : Prop} (h : ¬ q) : leK .ff (.bool q):=h
theorem lit_arg {f : FuncId} {a r : PV} {c K : Int} (e : c = K) (h : PureF gT f [a,.lit .i64 K] r) (ha : leK a a) : PureF gT f [a,.int .i64 c] r:=by
 subst e
 exact Spec.args h ⟨ha,show le1 (.int .i64 c) (.lit .i64 c) from rfl,trivial⟩
theorem rs_self (s : RS) : leK (rsP s) (rsP s):=leL_self (l:=rsFs s) rfl
set_option maxRecDepth 100000 in
theorem holds_out (s : RS) (c : Int) (h : c < 0 \/ 13 < c) : PureF gT 14 [rsP s,.int .i64 c] (.bool (holdsV s c)):=by
 have hn : ¬ holdsV s c:=by unfold holdsV; omega
 refine Spec.enter gTok P14 100 Tryz.func14 rfl (by kernel_rfl) ?_
 refine And.intro (by decide) (.inr ?_)
 repeat' ((try (conv=>whnf)); first
  | (refine retE ?_; exact leB_ff hn)
  | (refine (And.intro (fun _=>?_) (fun _=>?_) : (_ -> _) /\ (_ -> _)) <;> (first | (exfalso; first | contradiction | omega) | skip)))
set_option maxRecDepth 100000 in
theorem holds_0 (s : RS) : PureF gT 14 [rsP s,.lit .i64 0] (.bool (holdsV s 0)):=by
 refine Spec.enter gTok P14 100 Tryz.func14 rfl (by kernel_rfl) ?_
 repeat' ((try (conv=>whnf)); first
  | (refine retE ?_; first | (refine leB_iff ?_; simp [holdsV, *]; done) | (refine leB_tt ?_; simp [holdsV, *]; done) | (refine leB_ff ?_; simp [holdsV, *]; done))
  | (refine (And.intro (fun _=>?_) (fun _=>?_) : (_ -> _) /\ (_ -> _)) <;> (first | (exfalso; contradiction) | skip)))
set_option maxRecDepth 100000 in
theorem holds_1 (s : RS) : PureF gT 14 [rsP s,.lit .i64 1] (.bool (holdsV s 1)):=by
 refine Spec.enter gTok P14 100 Tryz.func14 rfl (by kernel_rfl) ?_
 repeat' ((try (conv=>whnf)); first
  | (refine retE ?_; first | (refine leB_iff ?_; simp [holdsV, *]; done) | (refine leB_tt ?_; simp [holdsV, *]; done) | (refine leB_ff ?_; simp [holdsV, *]; done))
  | (refine (And.intro (fun _=>?_) (fun _=>?_) : (_ -> _) /\ (_ -> _)) <;> (first | (exfalso; contradiction) | skip)))
set_option maxRecDepth 100000 in
theorem holds_2 (s : RS) : PureF gT 14 [rsP s,.lit .i64 2] (.bool (holdsV s 2)):=by
 refine Spec.enter gTok P14 100 Tryz.func14 rfl (by kernel_rfl) ?_
 repeat' ((try (conv=>whnf)); first
  | (refine retE ?_; first | (refine leB_iff ?_; simp [holdsV, *]; done) | (refine leB_tt ?_; simp [holdsV, *]; done) | (refine leB_ff ?_; simp [holdsV, *]; done))
  | (refine (And.intro (fun _=>?_) (fun _=>?_) : (_ -> _) /\ (_ -> _)) <;> (first | (exfalso; contradiction) | skip)))
set_option maxRecDepth 100000 in
theorem holds_3 (s : RS) : PureF gT 14 [rsP s,.lit .i64 3] (.bool (holdsV s 3)):=by
 refine Spec.enter gTok P14 100 Tryz.func14 rfl (by kernel_rfl) ?_
 repeat' ((try (conv=>whnf)); first
  | (refine retE ?_; first | (refine leB_iff ?_; simp [holdsV, *]; done) | (refine leB_tt ?_; simp [holdsV, *]; done) | (refine leB_ff ?_; simp [holdsV, *]; done))
  | (refine (And.intro (fun _=>?_) (fun _=>?_) : (_ -> _) /\ (_ -> _)) <;> (first | (exfalso; contradiction) | skip)))
set_option maxRecDepth 100000 in
theorem holds_4 (s : RS) : PureF gT 14 [rsP s,.lit .i64 4] (.bool (holdsV s 4)):=by
 refine Spec.enter gTok P14 100 Tryz.func14 rfl (by kernel_rfl) ?_
 repeat' ((try (conv=>whnf)); first
  | (refine retE ?_; first | (refine leB_iff ?_; simp [holdsV, *]; done) | (refine leB_tt ?_; simp [holdsV, *]; done) | (refine leB_ff ?_; simp [holdsV, *]; done))
  | (refine (And.intro (fun _=>?_) (fun _=>?_) : (_ -> _) /\ (_ -> _)) <;> (first | (exfalso; contradiction) | skip)))
set_option maxRecDepth 100000 in
theorem holds_5 (s : RS) : PureF gT 14 [rsP s,.lit .i64 5] (.bool (holdsV s 5)):=by
 refine Spec.enter gTok P14 100 Tryz.func14 rfl (by kernel_rfl) ?_
 repeat' ((try (conv=>whnf)); first
  | (refine retE ?_; first | (refine leB_iff ?_; simp [holdsV, *]; done) | (refine leB_tt ?_; simp [holdsV, *]; done) | (refine leB_ff ?_; simp [holdsV, *]; done))
  | (refine (And.intro (fun _=>?_) (fun _=>?_) : (_ -> _) /\ (_ -> _)) <;> (first | (exfalso; contradiction) | skip)))
set_option maxRecDepth 100000 in
theorem holds_6 (s : RS) : PureF gT 14 [rsP s,.lit .i64 6] (.bool (holdsV s 6)):=by
 refine Spec.enter gTok P14 100 Tryz.func14 rfl (by kernel_rfl) ?_
 repeat' ((try (conv=>whnf)); first
  | (refine retE ?_; first | (refine leB_iff ?_; simp [holdsV, *]; done) | (refine leB_tt ?_; simp [holdsV, *]; done) | (refine leB_ff ?_; simp [holdsV, *]; done))
  | (refine (And.intro (fun _=>?_) (fun _=>?_) : (_ -> _) /\ (_ -> _)) <;> (first | (exfalso; contradiction) | skip)))
set_option maxRecDepth 100000 in
theorem holds_7 (s : RS) : PureF gT 14 [rsP s,.lit .i64 7] (.bool (holdsV s 7)):=by
 refine Spec.enter gTok P14 100 Tryz.func14 rfl (by kernel_rfl) ?_
 repeat' ((try (conv=>whnf)); first
  | (refine retE ?_; first | (refine leB_iff ?_; simp [holdsV, *]; done) | (refine leB_tt ?_; simp [holdsV, *]; done) | (refine leB_ff ?_; simp [holdsV, *]; done))
  | (refine (And.intro (fun _=>?_) (fun _=>?_) : (_ -> _) /\ (_ -> _)) <;> (first | (exfalso; contradiction) | skip)))
set_option maxRecDepth 100000 in
theorem holds_8 (s : RS) : PureF gT 14 [rsP s,.lit .i64 8] (.bool (holdsV s 8)):=by
 refine Spec.enter gTok P14 100 Tryz.func14 rfl (by kernel_rfl) ?_
 repeat' ((try (conv=>whnf)); first
  | (refine retE ?_; first | (refine leB_iff ?_; simp [holdsV, *]; done) | (refine leB_tt ?_; simp [holdsV, *]; done) | (refine leB_ff ?_; simp [holdsV, *]; done))
  | (refine (And.intro (fun _=>?_) (fun _=>?_) : (_ -> _) /\ (_ -> _)) <;> (first | (exfalso; contradiction) | skip)))
set_option maxRecDepth 100000 in
theorem holds_9 (s : RS) : PureF gT 14 [rsP s,.lit .i64 9] (.bool (holdsV s 9)):=by
 refine Spec.enter gTok P14 100 Tryz.func14 rfl (by kernel_rfl) ?_
 repeat' ((try (conv=>whnf)); first
  | (refine retE ?_; first | (refine leB_iff ?_; simp [holdsV, *]; done) | (refine leB_tt ?_; simp [holdsV, *]; done) | (refine leB_ff ?_; simp [holdsV, *]; done))
  | (refine (And.intro (fun _=>?_) (fun _=>?_) : (_ -> _) /\ (_ -> _)) <;> (first | (exfalso; contradiction) | skip)))
set_option maxRecDepth 100000 in
theorem holds_10 (s : RS) : PureF gT 14 [rsP s,.lit .i64 10] (.bool (holdsV s 10)):=by
 refine Spec.enter gTok P14 100 Tryz.func14 rfl (by kernel_rfl) ?_
 repeat' ((try (conv=>whnf)); first
  | (refine retE ?_; first | (refine leB_iff ?_; simp [holdsV, *]; done) | (refine leB_tt ?_; simp [holdsV, *]; done) | (refine leB_ff ?_; simp [holdsV, *]; done))
  | (refine (And.intro (fun _=>?_) (fun _=>?_) : (_ -> _) /\ (_ -> _)) <;> (first | (exfalso; contradiction) | skip)))
set_option maxRecDepth 100000 in
theorem holds_11 (s : RS) : PureF gT 14 [rsP s,.lit .i64 11] (.bool (holdsV s 11)):=by
 refine Spec.enter gTok P14 100 Tryz.func14 rfl (by kernel_rfl) ?_
 repeat' ((try (conv=>whnf)); first
  | (refine retE ?_; first | (refine leB_iff ?_; simp [holdsV, *]; done) | (refine leB_tt ?_; simp [holdsV, *]; done) | (refine leB_ff ?_; simp [holdsV, *]; done))
  | (refine (And.intro (fun _=>?_) (fun _=>?_) : (_ -> _) /\ (_ -> _)) <;> (first | (exfalso; contradiction) | skip)))
set_option maxRecDepth 100000 in
theorem holds_12 (s : RS) : PureF gT 14 [rsP s,.lit .i64 12] (.bool (holdsV s 12)):=by
 refine Spec.enter gTok P14 100 Tryz.func14 rfl (by kernel_rfl) ?_
 repeat' ((try (conv=>whnf)); first
  | (refine retE ?_; first | (refine leB_iff ?_; simp [holdsV, *]; done) | (refine leB_tt ?_; simp [holdsV, *]; done) | (refine leB_ff ?_; simp [holdsV, *]; done))
  | (refine (And.intro (fun _=>?_) (fun _=>?_) : (_ -> _) /\ (_ -> _)) <;> (first | (exfalso; contradiction) | skip)))
set_option maxRecDepth 100000 in
theorem holds_13 (s : RS) : PureF gT 14 [rsP s,.lit .i64 13] (.bool (holdsV s 13)):=by
 refine Spec.enter gTok P14 100 Tryz.func14 rfl (by kernel_rfl) ?_
 repeat' ((try (conv=>whnf)); first
  | (refine retE ?_; first | (refine leB_iff ?_; simp [holdsV, *]; done) | (refine leB_tt ?_; simp [holdsV, *]; done) | (refine leB_ff ?_; simp [holdsV, *]; done))
  | (refine (And.intro (fun _=>?_) (fun _=>?_) : (_ -> _) /\ (_ -> _)) <;> (first | (exfalso; contradiction) | skip)))
theorem holds_pure (s : RS) (c : Int) : PureF gT 14 [rsP s,.int .i64 c] (.bool (holdsV s c)):=by
 by_cases h : c < 0 \/ 13 < c
 ·exact holds_out s c h
 ·have hc : c = 0 \/ c = 1 \/ c = 2 \/ c = 3 \/ c = 4 \/ c = 5 \/ c = 6 \/ c = 7 \/ c = 8 \/ c = 9 \/ c = 10 \/ c = 11 \/ c = 12 \/ c = 13:=by omega
  rcases hc with rfl | rfl | rfl | rfl | rfl | rfl | rfl | rfl | rfl | rfl | rfl | rfl | rfl | rfl
  
  ·exact lit_arg rfl (holds_0 s) (rs_self s)
  ·exact lit_arg rfl (holds_1 s) (rs_self s)
  ·exact lit_arg rfl (holds_2 s) (rs_self s)
  ·exact lit_arg rfl (holds_3 s) (rs_self s)
  ·exact lit_arg rfl (holds_4 s) (rs_self s)
  ·exact lit_arg rfl (holds_5 s) (rs_self s)
  ·exact lit_arg rfl (holds_6 s) (rs_self s)
  ·exact lit_arg rfl (holds_7 s) (rs_self s)
  ·exact lit_arg rfl (holds_8 s) (rs_self s)
  ·exact lit_arg rfl (holds_9 s) (rs_self s)
  ·exact lit_arg rfl (holds_10 s) (rs_self s)
  ·exact lit_arg rfl (holds_11 s) (rs_self s)
  ·exact lit_arg rfl (holds_12 s) (rs_self s)
  ·exact lit_arg rfl (holds_13 s) (rs_self s)
def stackV (r v : Int) : Int:=if r = 13 then bits .andNot .u32 v 3 else v
theorem stack_pure (r v : Int) : PureF gT 147 [.int .i64 r,.int .u32 v] (.int .u32 (stackV r v)):=by
 refine Spec.enter gTok P147 100 Tryz.func147 rfl (by kernel_rfl) ?_
 refine And.intro (fun h=>?_) (fun h=>?_)
 ·exact retE (show bits .andNot .u32 v 3 = stackV r v by unfold stackV; rw [if_pos h])
 ·exact retE (show v = stackV r v by unfold stackV; rw [if_neg h])
def backX (x : XS) (v : Int) : XS:=if bits .or .u32 v 1 = 4294967295 then { x with kind:=1,code:=0 } else putX x 15 (bits .andNot .u32 v 1)
set_option maxRecDepth 100000 in
theorem back_ok (m : MS) (x : XS) (v : Int) : Spec gT 136 [.ptr 3 0,.int .u32 v] (stX m x) [] fun y S'=>y = .tup [] /\ S' = stX m (backX x v):=by
 refine Spec.leS (Spec.enter gTok P136 100 Tryz.func136 rfl (by kernel_rfl) ?_)
 refine And.intro (fun h=>?_) (fun h=>?_)
 ·have e : backX x v = { x with kind:=1,code:=0 }:=by unfold backX; rw [if_pos h]
  rw [e]
  exact retS (by repeat' first|exact trivial|exact rfl|exact Iff.rfl|refine And.intro ?_ ?_) (by first|exact leSt_same rfl|(repeat' first|exact trivial|exact rfl|exact Iff.rfl|exact not_false|refine And.intro ?_ ?_))
 ·have e : backX x v = putX x 15 (bits .andNot .u32 v 1):=by unfold backX; rw [if_neg h]
  rw [e]
  refine ⟨[],no_rl,(put_ok m x 15 (bits .andNot .u32 v 1) (by decide) (by decide)).useE rfl (by exact ⟨trivial,rfl,rfl,trivial⟩) rfl ?_⟩
  exact retS (by repeat' first|exact trivial|exact rfl|exact Iff.rfl|refine And.intro ?_ ?_) (by first|exact leSt_same rfl|(repeat' first|exact trivial|exact rfl|exact Iff.rfl|exact not_false|refine And.intro ?_ ?_))
def longX (x : XS) (lo hi : Int) : XS:=putX (putX x x.i.rd lo) x.i.ra hi
set_option maxRecDepth 100000 in
theorem long_ok (m : MS) (x : XS) (lo hi : Int) (hx : XOk x) : Spec gT 144 [.ptr 3 0,.int .u32 lo,.int .u32 hi] (stX m x) [] fun y S'=>y = .tup [] /\ S' = stX m (longX x lo hi):=by
 refine Spec.leS (Spec.enter gTok P144 100 Tryz.func144 rfl (by kernel_rfl) ?_)
 refine ⟨[],no_rl,(put_ok m x x.i.rd lo hx.rd.1 hx.rd.2).useE rfl (by exact ⟨trivial,rfl,rfl,trivial⟩) rfl ?_⟩
 refine ⟨[],no_rl,(put_ok m (putX x x.i.rd lo) x.i.ra hi hx.ra.1 hx.ra.2).useE rfl (by exact ⟨trivial,rfl,rfl,trivial⟩) rfl ?_⟩
 exact retS (by repeat' first|exact trivial|exact rfl|exact Iff.rfl|refine And.intro ?_ ?_) (by first|exact leSt_same rfl|(repeat' first|exact trivial|exact rfl|exact Iff.rfl|exact not_false|refine And.intro ?_ ?_))
end Go.Proofs.YtnbngokbamifbaaGreatDoor.Pw
set_option linter.unusedVariables false
namespace Go.Proofs.YtnbngokbamifbaaGreatDoor.Pw
open Go Go.RowKit
def movCls (f : Int) : Int :=
 if f = 28 then 1 else if f = 30 then 2 else if f = 48 then 3 else if f = 49 then 4 else if f = 82 then 5 else if f = 83 then 6 else if f = 39 then 7 else if f = 40 then 8 else if f = 41 then 9 else if f = 44 then 10 else 0
def movesX (x : XS) : XS :=
 if movCls x.i.form = 1 then putX x x.i.rd (stackV x.i.rd (IntKind.u32.wrap (getX x x.i.rd + getX x x.i.rm))) else if movCls x.i.form = 2 then putX x x.i.rd (stackV x.i.rd (getX x x.i.rm)) else if movCls x.i.form = 3 then putX x x.i.rd (IntKind.u32.wrap x.i.imm) else if movCls x.i.form = 4 then putX x x.i.rd (bits .or .u32 (bits .and .u32 (getX x x.i.rd) 65535) (IntKind.u32.wrap (IntKind.u32.wrap x.i.imm * Ev.pow2 .u32 16))) else if movCls x.i.form = 5 then putX x x.i.rd (IntKind.u32.wrap (getX x x.i.rn + IntKind.u32.wrap x.i.imm)) else if movCls x.i.form = 6 then putX x x.i.rd (IntKind.u32.wrap (getX x x.i.rn - IntKind.u32.wrap x.i.imm)) else if movCls x.i.form = 7 then putX x x.i.rd (IntKind.u32.wrap (getX x 13 + IntKind.u32.wrap x.i.imm)) else if movCls x.i.form = 8 then putX x 13 (IntKind.u32.wrap (getX x 13 + IntKind.u32.wrap x.i.imm)) else if movCls x.i.form = 9 then putX x 13 (IntKind.u32.wrap (getX x 13 - IntKind.u32.wrap x.i.imm)) else if movCls x.i.form = 10 then x else x
theorem movesX_1 {x : XS} (h : movCls x.i.form = 1) : movesX x = putX x x.i.rd (stackV x.i.rd (IntKind.u32.wrap (getX x x.i.rd + getX x x.i.rm))):=by unfold movesX; rw [if_pos h]
theorem movesX_2 {x : XS} (h : movCls x.i.form = 2) : movesX x = putX x x.i.rd (stackV x.i.rd (getX x x.i.rm)):=by unfold movesX; rw [if_neg (by omega),if_pos h]
theorem movesX_3 {x : XS} (h : movCls x.i.form = 3) : movesX x = putX x x.i.rd (IntKind.u32.wrap x.i.imm):=by unfold movesX; rw [if_neg (by omega),if_neg (by omega),if_pos h]
theorem movesX_4 {x : XS} (h : movCls x.i.form = 4) : movesX x = putX x x.i.rd (bits .or .u32 (bits .and .u32 (getX x x.i.rd) 65535) (IntKind.u32.wrap (IntKind.u32.wrap x.i.imm * Ev.pow2 .u32 16))):=by unfold movesX; rw [if_neg (by omega),if_neg (by omega),if_neg (by omega),if_pos h]
theorem movesX_5 {x : XS} (h : movCls x.i.form = 5) : movesX x = putX x x.i.rd (IntKind.u32.wrap (getX x x.i.rn + IntKind.u32.wrap x.i.imm)):=by unfold movesX; rw [if_neg (by omega),if_neg (by omega),if_neg (by omega),if_neg (by omega),if_pos h]
theorem movesX_6 {x : XS} (h : movCls x.i.form = 6) : movesX x = putX x x.i.rd (IntKind.u32.wrap (getX x x.i.rn - IntKind.u32.wrap x.i.imm)):=by unfold movesX; rw [if_neg (by omega),if_neg (by omega),if_neg (by omega),if_neg (by omega),if_neg (by omega),if_pos h]
theorem movesX_7 {x : XS} (h : movCls x.i.form = 7) : movesX x = putX x x.i.rd (IntKind.u32.wrap (getX x 13 + IntKind.u32.wrap x.i.imm)):=by unfold movesX; rw [if_neg (by omega),if_neg (by omega),if_neg (by omega),if_neg (by omega),if_neg (by omega),if_neg (by omega),if_pos h]
theorem movesX_8 {x : XS} (h : movCls x.i.form = 8) : movesX x = putX x 13 (IntKind.u32.wrap (getX x 13 + IntKind.u32.wrap x.i.imm)):=by unfold movesX; rw [if_neg (by omega),if_neg (by omega),if_neg (by omega),if_neg (by omega),if_neg (by omega),if_neg (by omega),if_neg (by omega),if_pos h]
theorem movesX_9 {x : XS} (h : movCls x.i.form = 9) : movesX x = putX x 13 (IntKind.u32.wrap (getX x 13 - IntKind.u32.wrap x.i.imm)):=by unfold movesX; rw [if_neg (by omega),if_neg (by omega),if_neg (by omega),if_neg (by omega),if_neg (by omega),if_neg (by omega),if_neg (by omega),if_neg (by omega),if_pos h]
theorem movesX_10 {x : XS} (h : movCls x.i.form = 10) : movesX x = x:=by unfold movesX; rw [if_neg (by omega),if_neg (by omega),if_neg (by omega),if_neg (by omega),if_neg (by omega),if_neg (by omega),if_neg (by omega),if_neg (by omega),if_neg (by omega),if_pos h]
theorem movesX_0 {x : XS} (h : movCls x.i.form = 0) : movesX x = x:=by unfold movesX; rw [if_neg (by omega),if_neg (by omega),if_neg (by omega),if_neg (by omega),if_neg (by omega),if_neg (by omega),if_neg (by omega),if_neg (by omega),if_neg (by omega),if_neg (by omega)]
set_option maxHeartbeats 4000000 in
set_option maxRecDepth 100000 in
theorem moves_ok (m : MS) (x : XS) (hx : XOk x) : Spec gT 97 [.ptr 3 0] (stX m x) [] fun y S'=>y = .bool (movCls x.i.form ≠ 0) /\ S' = stX m (movesX x):=by
 refine Spec.leS (Spec.enter gTok P97 100 Tryz.func97 rfl (by kernel_rfl) ?_)
 refine .inr ?_
 refine And.intro (fun h28=>?_) (fun h28=>?_)
 ·have hc : movCls x.i.form = 1:=by rw [show x.i.form = 28 from h28]; rfl
  rw [movesX_1 hc]
  refine ⟨[],no_rl,(get_ok m x x.i.rd hx.rd.1 hx.rd.2).useE rfl (by exact ⟨trivial,rfl,trivial⟩) rfl ?_⟩
  refine ⟨[],no_rl,(get_ok m x x.i.rm hx.rm.1 hx.rm.2).useE rfl (by exact ⟨trivial,rfl,trivial⟩) rfl ?_⟩
  refine .inr ?_
  refine ⟨[],no_rl,(stack_pure x.i.rd (IntKind.u32.wrap (getX x x.i.rd + getX x x.i.rm))).use (by repeat' first|exact trivial|exact rfl|exact Iff.rfl|exact Or.inl rfl|refine And.intro ?_ ?_) rfl rfl ?_⟩
  refine ⟨[],no_rl,(put_ok m x x.i.rd (stackV x.i.rd (IntKind.u32.wrap (getX x x.i.rd + getX x x.i.rm))) hx.rd.1 hx.rd.2).useE rfl (by exact ⟨trivial,rfl,rfl,trivial⟩) rfl ?_⟩
  exact retS (show movCls x.i.form ≠ 0 by omega) (leSt_same rfl)
 refine And.intro (fun h30=>?_) (fun h30=>?_)
 ·have hc : movCls x.i.form = 2:=by rw [show x.i.form = 30 from h30]; rfl
  rw [movesX_2 hc]
  refine ⟨[],no_rl,(get_ok m x x.i.rm hx.rm.1 hx.rm.2).useE rfl (by exact ⟨trivial,rfl,trivial⟩) rfl ?_⟩
  refine ⟨[],no_rl,(stack_pure x.i.rd (getX x x.i.rm)).use (by repeat' first|exact trivial|exact rfl|exact Iff.rfl|exact Or.inl rfl|refine And.intro ?_ ?_) rfl rfl ?_⟩
  refine ⟨[],no_rl,(put_ok m x x.i.rd (stackV x.i.rd (getX x x.i.rm)) hx.rd.1 hx.rd.2).useE rfl (by exact ⟨trivial,rfl,rfl,trivial⟩) rfl ?_⟩
  exact retS (show movCls x.i.form ≠ 0 by omega) (leSt_same rfl)
 refine And.intro (fun h48=>?_) (fun h48=>?_)
 ·have hc : movCls x.i.form = 3:=by rw [show x.i.form = 48 from h48]; rfl
  rw [movesX_3 hc]
  refine ⟨[],no_rl,(put_ok m x x.i.rd (IntKind.u32.wrap x.i.imm) hx.rd.1 hx.rd.2).useE rfl (by exact ⟨trivial,rfl,rfl,trivial⟩) rfl ?_⟩
  exact retS (show movCls x.i.form ≠ 0 by omega) (leSt_same rfl)
 refine And.intro (fun h49=>?_) (fun h49=>?_)
 ·have hc : movCls x.i.form = 4:=by rw [show x.i.form = 49 from h49]; rfl
  rw [movesX_4 hc]
  refine ⟨by decide,.inr ?_⟩
  refine ⟨[],no_rl,(get_ok m x x.i.rd hx.rd.1 hx.rd.2).useE rfl (by exact ⟨trivial,rfl,trivial⟩) rfl ?_⟩
  refine ⟨[],no_rl,(put_ok m x x.i.rd (bits .or .u32 (bits .and .u32 (getX x x.i.rd) 65535) (IntKind.u32.wrap (IntKind.u32.wrap x.i.imm * Ev.pow2 .u32 16))) hx.rd.1 hx.rd.2).useE rfl (by exact ⟨trivial,rfl,rfl,trivial⟩) rfl ?_⟩
  exact retS (show movCls x.i.form ≠ 0 by omega) (leSt_same rfl)
 refine And.intro (fun h82=>?_) (fun h82=>?_)
 ·have hc : movCls x.i.form = 5:=by rw [show x.i.form = 82 from h82]; rfl
  rw [movesX_5 hc]
  refine ⟨[],no_rl,(get_ok m x x.i.rn hx.rn.1 hx.rn.2).useE rfl (by exact ⟨trivial,rfl,trivial⟩) rfl ?_⟩
  refine .inr ?_
  refine ⟨[],no_rl,(put_ok m x x.i.rd (IntKind.u32.wrap (getX x x.i.rn + IntKind.u32.wrap x.i.imm)) hx.rd.1 hx.rd.2).useE rfl (by exact ⟨trivial,rfl,rfl,trivial⟩) rfl ?_⟩
  exact retS (show movCls x.i.form ≠ 0 by omega) (leSt_same rfl)
 refine And.intro (fun h83=>?_) (fun h83=>?_)
 ·have hc : movCls x.i.form = 6:=by rw [show x.i.form = 83 from h83]; rfl
  rw [movesX_6 hc]
  refine ⟨[],no_rl,(get_ok m x x.i.rn hx.rn.1 hx.rn.2).useE rfl (by exact ⟨trivial,rfl,trivial⟩) rfl ?_⟩
  refine .inr ?_
  refine ⟨[],no_rl,(put_ok m x x.i.rd (IntKind.u32.wrap (getX x x.i.rn - IntKind.u32.wrap x.i.imm)) hx.rd.1 hx.rd.2).useE rfl (by exact ⟨trivial,rfl,rfl,trivial⟩) rfl ?_⟩
  exact retS (show movCls x.i.form ≠ 0 by omega) (leSt_same rfl)
 refine And.intro (fun h39=>?_) (fun h39=>?_)
 ·have hc : movCls x.i.form = 7:=by rw [show x.i.form = 39 from h39]; rfl
  rw [movesX_7 hc]
  refine ⟨[],no_rl,(get_ok m x 13 (by decide) (by decide)).useE rfl (by exact ⟨trivial,rfl,trivial⟩) rfl ?_⟩
  refine .inr ?_
  refine ⟨[],no_rl,(put_ok m x x.i.rd (IntKind.u32.wrap (getX x 13 + IntKind.u32.wrap x.i.imm)) hx.rd.1 hx.rd.2).useE rfl (by exact ⟨trivial,rfl,rfl,trivial⟩) rfl ?_⟩
  exact retS (show movCls x.i.form ≠ 0 by omega) (leSt_same rfl)
 refine And.intro (fun h40=>?_) (fun h40=>?_)
 ·have hc : movCls x.i.form = 8:=by rw [show x.i.form = 40 from h40]; rfl
  rw [movesX_8 hc]
  refine ⟨[],no_rl,(get_ok m x 13 (by decide) (by decide)).useE rfl (by exact ⟨trivial,rfl,trivial⟩) rfl ?_⟩
  refine .inr ?_
  refine ⟨[],no_rl,(put_ok m x 13 (IntKind.u32.wrap (getX x 13 + IntKind.u32.wrap x.i.imm)) (by decide) (by decide)).useE rfl (by exact ⟨trivial,rfl,rfl,trivial⟩) rfl ?_⟩
  exact retS (show movCls x.i.form ≠ 0 by omega) (leSt_same rfl)
 refine And.intro (fun h41=>?_) (fun h41=>?_)
 ·have hc : movCls x.i.form = 9:=by rw [show x.i.form = 41 from h41]; rfl
  rw [movesX_9 hc]
  refine ⟨[],no_rl,(get_ok m x 13 (by decide) (by decide)).useE rfl (by exact ⟨trivial,rfl,trivial⟩) rfl ?_⟩
  refine .inr ?_
  refine ⟨[],no_rl,(put_ok m x 13 (IntKind.u32.wrap (getX x 13 - IntKind.u32.wrap x.i.imm)) (by decide) (by decide)).useE rfl (by exact ⟨trivial,rfl,rfl,trivial⟩) rfl ?_⟩
  exact retS (show movCls x.i.form ≠ 0 by omega) (leSt_same rfl)
 refine And.intro (fun h44=>?_) (fun h44=>?_)
 ·have hc : movCls x.i.form = 10:=by rw [show x.i.form = 44 from h44]; rfl
  rw [movesX_10 hc]
  exact retS (show movCls x.i.form ≠ 0 by omega) (leSt_same rfl)
 ·have hc : movCls x.i.form = 0:=by unfold movCls; rw [if_neg (by omega),if_neg (by omega),if_neg (by omega),if_neg (by omega),if_neg (by omega),if_neg (by omega),if_neg (by omega),if_neg (by omega),if_neg (by omega),if_neg (by omega)]
  rw [movesX_0 hc]
  exact retS (show ¬ movCls x.i.form ≠ 0 from fun h=>h hc) (leSt_same rfl)
end Go.Proofs.YtnbngokbamifbaaGreatDoor.Pw
set_option linter.unusedVariables false
namespace Go.Proofs.YtnbngokbamifbaaGreatDoor.Pw
open Go Go.RowKit
theorem lo_bd (x : XS) : U32 (getX x x.i.rn * getX x x.i.rm % 4294967296):=by unfold U32; omega
theorem hi_bd {x : XS} (h : XOk x) : U32 (getX x x.i.rn * getX x x.i.rm / 4294967296):=by
 have a:=getX_bd h x.i.rn
 have b:=getX_bd h x.i.rm
 unfold U32 at a b ⊢
 have h1 : 0 <= getX x x.i.rn * getX x x.i.rm:=Int.mul_nonneg a.1 b.1
 have h2 : getX x x.i.rn * getX x x.i.rm <= 4294967295 * 4294967295:=Int.mul_le_mul a.2 b.2 b.1 (by decide)
 omega
def prodCls (f : Int) : Int :=
 if f = 25 then 1 else if f = 92 then 2 else if f = 93 then 3 else if f = 94 then 4 else if f = 95 then 5 else if f = 96 then 6 else if f = 97 then 7 else if f = 98 then 8 else 0
def prodX (x : XS) : XS :=
 if prodCls x.i.form = 1 then putX (nzX x (IntKind.u32.wrap (getX x x.i.rd * getX x x.i.rm))) x.i.rd (IntKind.u32.wrap (getX x x.i.rd * getX x x.i.rm)) else if prodCls x.i.form = 2 then putX x x.i.rd (getX x x.i.rn * getX x x.i.rm % 4294967296) else if prodCls x.i.form = 3 then putX x x.i.rd (IntKind.u32.wrap ((getX x x.i.rn * getX x x.i.rm % 4294967296) + getX x x.i.ra)) else if prodCls x.i.form = 4 then putX x x.i.rd (IntKind.u32.wrap (getX x x.i.ra - (getX x x.i.rn * getX x x.i.rm % 4294967296))) else if prodCls x.i.form = 5 then longX x (getX x x.i.rn * getX x x.i.rm % 4294967296) (getX x x.i.rn * getX x x.i.rm / 4294967296) else if prodCls x.i.form = 6 then longX x (Rm.addS (getX x x.i.rn * getX x x.i.rm % 4294967296) (getX x x.i.rd) 0) (Rm.addS (getX x x.i.rn * getX x x.i.rm / 4294967296) (getX x x.i.ra) (Rm.addC (getX x x.i.rn * getX x x.i.rm % 4294967296) (getX x x.i.rd) 0)) else if prodCls x.i.form = 7 then putX { x with a:=getX x x.i.rn,b:=getX x x.i.rm } x.i.rd (IntKind.u32.wrap (getX x x.i.rn / max (getX x x.i.rm) 1 * min (getX x x.i.rm) 1)) else if prodCls x.i.form = 8 then putX x x.i.rd (IntKind.u32.wrap (32 - (Lib.bitLen (getX x x.i.rm).toNat : Int))) else x
theorem prodX_1 {x : XS} (h : prodCls x.i.form = 1) : prodX x = putX (nzX x (IntKind.u32.wrap (getX x x.i.rd * getX x x.i.rm))) x.i.rd (IntKind.u32.wrap (getX x x.i.rd * getX x x.i.rm)):=by unfold prodX; rw [if_pos h]
theorem prodX_2 {x : XS} (h : prodCls x.i.form = 2) : prodX x = putX x x.i.rd (getX x x.i.rn * getX x x.i.rm % 4294967296):=by unfold prodX; rw [if_neg (by omega),if_pos h]
theorem prodX_3 {x : XS} (h : prodCls x.i.form = 3) : prodX x = putX x x.i.rd (IntKind.u32.wrap ((getX x x.i.rn * getX x x.i.rm % 4294967296) + getX x x.i.ra)):=by unfold prodX; rw [if_neg (by omega),if_neg (by omega),if_pos h]
theorem prodX_4 {x : XS} (h : prodCls x.i.form = 4) : prodX x = putX x x.i.rd (IntKind.u32.wrap (getX x x.i.ra - (getX x x.i.rn * getX x x.i.rm % 4294967296))):=by unfold prodX; rw [if_neg (by omega),if_neg (by omega),if_neg (by omega),if_pos h]
theorem prodX_5 {x : XS} (h : prodCls x.i.form = 5) : prodX x = longX x (getX x x.i.rn * getX x x.i.rm % 4294967296) (getX x x.i.rn * getX x x.i.rm / 4294967296):=by unfold prodX; rw [if_neg (by omega),if_neg (by omega),if_neg (by omega),if_neg (by omega),if_pos h]
theorem prodX_6 {x : XS} (h : prodCls x.i.form = 6) : prodX x = longX x (Rm.addS (getX x x.i.rn * getX x x.i.rm % 4294967296) (getX x x.i.rd) 0) (Rm.addS (getX x x.i.rn * getX x x.i.rm / 4294967296) (getX x x.i.ra) (Rm.addC (getX x x.i.rn * getX x x.i.rm % 4294967296) (getX x x.i.rd) 0)):=by unfold prodX; rw [if_neg (by omega),if_neg (by omega),if_neg (by omega),if_neg (by omega),if_neg (by omega),if_pos h]
theorem prodX_7 {x : XS} (h : prodCls x.i.form = 7) : prodX x = putX { x with a:=getX x x.i.rn,b:=getX x x.i.rm } x.i.rd (IntKind.u32.wrap (getX x x.i.rn / max (getX x x.i.rm) 1 * min (getX x x.i.rm) 1)):=by unfold prodX; rw [if_neg (by omega),if_neg (by omega),if_neg (by omega),if_neg (by omega),if_neg (by omega),if_neg (by omega),if_pos h]
theorem prodX_8 {x : XS} (h : prodCls x.i.form = 8) : prodX x = putX x x.i.rd (IntKind.u32.wrap (32 - (Lib.bitLen (getX x x.i.rm).toNat : Int))):=by unfold prodX; rw [if_neg (by omega),if_neg (by omega),if_neg (by omega),if_neg (by omega),if_neg (by omega),if_neg (by omega),if_neg (by omega),if_pos h]
theorem prodX_0 {x : XS} (h : prodCls x.i.form = 0) : prodX x = x:=by unfold prodX; rw [if_neg (by omega),if_neg (by omega),if_neg (by omega),if_neg (by omega),if_neg (by omega),if_neg (by omega),if_neg (by omega),if_neg (by omega)]
set_option maxHeartbeats 4000000 in
set_option maxRecDepth 100000 in
theorem products_ok (m : MS) (x : XS) (hx : XOk x) : Spec gT 96 [.ptr 3 0] (stX m x) [] fun y S'=>y = .bool (prodCls x.i.form ≠ 0) /\ S' = stX m (prodX x):=by
 refine Spec.leS (Spec.enter gTok P96 100 Tryz.func96 rfl (by kernel_rfl) ?_)
 have hlo:=lo_bd x
 have hhi:=hi_bd hx
 refine ⟨[],no_rl,(get_ok m x x.i.rn hx.rn.1 hx.rn.2).useE rfl (by exact ⟨trivial,rfl,trivial⟩) rfl ?_⟩
 refine ⟨[],no_rl,(get_ok m x x.i.rm hx.rm.1 hx.rm.2).useE rfl (by exact ⟨trivial,rfl,trivial⟩) rfl ?_⟩
 refine ⟨[],no_rl,(mulw_pure (getX x x.i.rn) (getX x x.i.rm) (getX_bd hx _) (getX_bd hx _)).use (by repeat' first|exact trivial|exact rfl|exact Iff.rfl|exact Or.inl rfl|refine And.intro ?_ ?_) rfl rfl ?_⟩
 refine And.intro (fun h25=>?_) (fun h25=>?_)
 ·have hc : prodCls x.i.form = 1:=by rw [show x.i.form = 25 from h25]; rfl
  rw [prodX_1 hc]
  refine ⟨[],no_rl,(get_ok m x x.i.rd hx.rd.1 hx.rd.2).useE rfl (by exact ⟨trivial,rfl,trivial⟩) rfl ?_⟩
  refine .inr ?_
  refine ⟨[],no_rl,(nz_ok m x (IntKind.u32.wrap (getX x x.i.rd * getX x x.i.rm))).useE rfl (by exact ⟨trivial,rfl,trivial⟩) rfl ?_⟩
  refine ⟨[],no_rl,(put_ok m (nzX x (IntKind.u32.wrap (getX x x.i.rd * getX x x.i.rm))) x.i.rd (IntKind.u32.wrap (getX x x.i.rd * getX x x.i.rm)) hx.rd.1 hx.rd.2).useE rfl (by exact ⟨trivial,rfl,rfl,trivial⟩) rfl ?_⟩
  exact retS (show prodCls x.i.form ≠ 0 by omega) (leSt_same rfl)
 refine And.intro (fun h92=>?_) (fun h92=>?_)
 ·have hc : prodCls x.i.form = 2:=by rw [show x.i.form = 92 from h92]; rfl
  rw [prodX_2 hc]
  refine ⟨[],no_rl,(put_ok m x x.i.rd (getX x x.i.rn * getX x x.i.rm % 4294967296) hx.rd.1 hx.rd.2).useE rfl (by exact ⟨trivial,rfl,rfl,trivial⟩) rfl ?_⟩
  exact retS (show prodCls x.i.form ≠ 0 by omega) (leSt_same rfl)
 refine And.intro (fun h93=>?_) (fun h93=>?_)
 ·have hc : prodCls x.i.form = 3:=by rw [show x.i.form = 93 from h93]; rfl
  rw [prodX_3 hc]
  refine ⟨[],no_rl,(get_ok m x x.i.ra hx.ra.1 hx.ra.2).useE rfl (by exact ⟨trivial,rfl,trivial⟩) rfl ?_⟩
  refine .inr ?_
  refine ⟨[],no_rl,(put_ok m x x.i.rd (IntKind.u32.wrap ((getX x x.i.rn * getX x x.i.rm % 4294967296) + getX x x.i.ra)) hx.rd.1 hx.rd.2).useE rfl (by exact ⟨trivial,rfl,rfl,trivial⟩) rfl ?_⟩
  exact retS (show prodCls x.i.form ≠ 0 by omega) (leSt_same rfl)
 refine And.intro (fun h94=>?_) (fun h94=>?_)
 ·have hc : prodCls x.i.form = 4:=by rw [show x.i.form = 94 from h94]; rfl
  rw [prodX_4 hc]
  refine ⟨[],no_rl,(get_ok m x x.i.ra hx.ra.1 hx.ra.2).useE rfl (by exact ⟨trivial,rfl,trivial⟩) rfl ?_⟩
  refine .inr ?_
  refine ⟨[],no_rl,(put_ok m x x.i.rd (IntKind.u32.wrap (getX x x.i.ra - (getX x x.i.rn * getX x x.i.rm % 4294967296))) hx.rd.1 hx.rd.2).useE rfl (by exact ⟨trivial,rfl,rfl,trivial⟩) rfl ?_⟩
  exact retS (show prodCls x.i.form ≠ 0 by omega) (leSt_same rfl)
 refine And.intro (fun h95=>?_) (fun h95=>?_)
 ·have hc : prodCls x.i.form = 5:=by rw [show x.i.form = 95 from h95]; rfl
  rw [prodX_5 hc]
  refine ⟨[],no_rl,(long_ok m x (getX x x.i.rn * getX x x.i.rm % 4294967296) (getX x x.i.rn * getX x x.i.rm / 4294967296) hx).useE rfl (by exact ⟨trivial,rfl,rfl,trivial⟩) rfl ?_⟩
  exact retS (show prodCls x.i.form ≠ 0 by omega) (leSt_same rfl)
 refine And.intro (fun h96=>?_) (fun h96=>?_)
 ·have hc : prodCls x.i.form = 6:=by rw [show x.i.form = 96 from h96]; rfl
  rw [prodX_6 hc]
  refine ⟨[],no_rl,(get_ok m x x.i.rd hx.rd.1 hx.rd.2).useE rfl (by exact ⟨trivial,rfl,trivial⟩) rfl ?_⟩
  refine ⟨[],no_rl,(add_pure (getX x x.i.rn * getX x x.i.rm % 4294967296) (getX x x.i.rd) 0 hlo (getX_bd hx _) (by decide)).use (by repeat' first|exact trivial|exact rfl|exact Iff.rfl|exact Or.inl rfl|refine And.intro ?_ ?_) rfl rfl ?_⟩
  refine ⟨[],no_rl,(get_ok m x x.i.ra hx.ra.1 hx.ra.2).useE rfl (by exact ⟨trivial,rfl,trivial⟩) rfl ?_⟩
  refine ⟨[],no_rl,(add_pure (getX x x.i.rn * getX x x.i.rm / 4294967296) (getX x x.i.ra) (Rm.addC (getX x x.i.rn * getX x x.i.rm % 4294967296) (getX x x.i.rd) 0) hhi (getX_bd hx _) (Rm.addC_bd (getX x x.i.rn * getX x x.i.rm % 4294967296) (getX x x.i.rd) 0 (by decide) hlo.1 hlo.2 (getX_bd hx _).1 (getX_bd hx _).2).1).use (by repeat' first|exact trivial|exact rfl|exact Iff.rfl|exact Or.inl rfl|refine And.intro ?_ ?_) rfl rfl ?_⟩
  refine ⟨[],no_rl,(long_ok m x (Rm.addS (getX x x.i.rn * getX x x.i.rm % 4294967296) (getX x x.i.rd) 0) (Rm.addS (getX x x.i.rn * getX x x.i.rm / 4294967296) (getX x x.i.ra) (Rm.addC (getX x x.i.rn * getX x x.i.rm % 4294967296) (getX x x.i.rd) 0)) hx).useE rfl (by exact ⟨trivial,rfl,rfl,trivial⟩) rfl ?_⟩
  exact retS (show prodCls x.i.form ≠ 0 by omega) (leSt_same rfl)
 refine And.intro (fun h97=>?_) (fun h97=>?_)
 ·have hc : prodCls x.i.form = 7:=by rw [show x.i.form = 97 from h97]; rfl
  rw [prodX_7 hc]
  refine ⟨show max (getX x x.i.rm) 1 ≠ 0 by omega,.inl ⟨(getX_bd hx x.i.rn).1,show getX x x.i.rn <= 4294967295 from (getX_bd hx x.i.rn).2,show (0 : Int) < max (getX x x.i.rm) 1 by omega,?_⟩⟩
  refine .inr ?_
  refine ⟨[],no_rl,(put_ok m { x with a:=getX x x.i.rn,b:=getX x x.i.rm } x.i.rd (IntKind.u32.wrap (getX x x.i.rn / max (getX x x.i.rm) 1 * min (getX x x.i.rm) 1)) hx.rd.1 hx.rd.2).useE rfl (by exact ⟨trivial,rfl,rfl,trivial⟩) rfl ?_⟩
  exact retS (show prodCls x.i.form ≠ 0 by omega) (leSt_same rfl)
 refine And.intro (fun h98=>?_) (fun h98=>?_)
 ·have hc : prodCls x.i.form = 8:=by rw [show x.i.form = 98 from h98]; rfl
  rw [prodX_8 hc]
  refine ⟨[],no_rl,(lz_pure (getX x x.i.rm) (getX_bd hx _)).use (by repeat' first|exact trivial|exact rfl|exact Iff.rfl|exact Or.inl rfl|refine And.intro ?_ ?_) rfl rfl ?_⟩
  refine .inr ?_
  refine ⟨[],no_rl,(put_ok m x x.i.rd (IntKind.u32.wrap (32 - (Lib.bitLen (getX x x.i.rm).toNat : Int))) hx.rd.1 hx.rd.2).useE rfl (by exact ⟨trivial,rfl,rfl,trivial⟩) rfl ?_⟩
  exact retS (show prodCls x.i.form ≠ 0 by omega) (leSt_same rfl)
 ·have hc : prodCls x.i.form = 0:=by unfold prodCls; rw [if_neg (by omega),if_neg (by omega),if_neg (by omega),if_neg (by omega),if_neg (by omega),if_neg (by omega),if_neg (by omega),if_neg (by omega)]
  rw [prodX_0 hc]
  exact retS (show ¬ prodCls x.i.form ≠ 0 from fun h=>h hc) (leSt_same rfl)
end Go.Proofs.YtnbngokbamifbaaGreatDoor.Pw
set_option linter.unusedVariables false
namespace Go.Proofs.YtnbngokbamifbaaGreatDoor.Pw
open Go Go.RowKit
def adrCls (f : Int) : Int :=
 if f = 32 then 1 else if f = 34 \/ f = 33 then 2 else if f = 36 \/ f = 35 \/ f = 85 \/ f = 84 then 3 else if f = 38 \/ f = 37 then 4 else if f = 87 \/ f = 86 then 5 else 0
def adrX (x : XS) : Int :=
 if adrCls x.i.form = 1 then (IntKind.u32.wrap (bits .andNot .u32 (getX x 15) 3 + (IntKind.u32.wrap x.i.imm))) else if adrCls x.i.form = 2 then (IntKind.u32.wrap (getX x x.i.rn + getX x x.i.rm)) else if adrCls x.i.form = 3 then (IntKind.u32.wrap (getX x x.i.rn + (IntKind.u32.wrap x.i.imm))) else if adrCls x.i.form = 4 then (IntKind.u32.wrap (getX x 13 + (IntKind.u32.wrap x.i.imm))) else if adrCls x.i.form = 5 then (IntKind.u32.wrap (getX x x.i.rn + IntKind.u32.wrap (getX x x.i.rm * Ev.pow2 .u32 x.i.by_))) else 0
theorem adrX_1 {x : XS} (h : adrCls x.i.form = 1) : adrX x = (IntKind.u32.wrap (bits .andNot .u32 (getX x 15) 3 + (IntKind.u32.wrap x.i.imm))):=by unfold adrX; rw [if_pos h]
theorem adrX_2 {x : XS} (h : adrCls x.i.form = 2) : adrX x = (IntKind.u32.wrap (getX x x.i.rn + getX x x.i.rm)):=by unfold adrX; rw [if_neg (by omega),if_pos h]
theorem adrX_3 {x : XS} (h : adrCls x.i.form = 3) : adrX x = (IntKind.u32.wrap (getX x x.i.rn + (IntKind.u32.wrap x.i.imm))):=by unfold adrX; rw [if_neg (by omega),if_neg (by omega),if_pos h]
theorem adrX_4 {x : XS} (h : adrCls x.i.form = 4) : adrX x = (IntKind.u32.wrap (getX x 13 + (IntKind.u32.wrap x.i.imm))):=by unfold adrX; rw [if_neg (by omega),if_neg (by omega),if_neg (by omega),if_pos h]
theorem adrX_5 {x : XS} (h : adrCls x.i.form = 5) : adrX x = (IntKind.u32.wrap (getX x x.i.rn + IntKind.u32.wrap (getX x x.i.rm * Ev.pow2 .u32 x.i.by_))):=by unfold adrX; rw [if_neg (by omega),if_neg (by omega),if_neg (by omega),if_neg (by omega),if_pos h]
theorem adrX_0 {x : XS} (h : adrCls x.i.form = 0) : adrX x = 0:=by unfold adrX; rw [if_neg (by omega),if_neg (by omega),if_neg (by omega),if_neg (by omega),if_neg (by omega)]
set_option maxHeartbeats 4000000 in
set_option maxRecDepth 100000 in
theorem address_ok (m : MS) (x : XS) (hx : XOk x) : Spec gT 89 [.ptr 3 0] (stX m x) [] fun y S'=>y = .tup [.int .u32 (adrX x),.bool (adrCls x.i.form ≠ 0)] /\ S' = stX m x:=by
 refine Spec.leS (Spec.enter gTok P89 100 Tryz.func89 rfl (by kernel_rfl) ?_)
 refine .inr ?_
 refine And.intro (fun h32=>?_) (fun h32=>?_)
 ·have hc : adrCls x.i.form = 1:=by rw [show x.i.form = 32 from h32]; rfl
  rw [adrX_1 hc]
  refine ⟨[],no_rl,(get_ok m x 15 (by decide) (by decide)).useE rfl (by exact ⟨trivial,rfl,trivial⟩) rfl ?_⟩
  refine .inr ?_
  exact retS (And.intro rfl (And.intro (show adrCls x.i.form ≠ 0 by omega) trivial)) (leSt_same rfl)
 refine And.intro (fun h34=>?_) (fun h34=>?_)
 ·have hc : adrCls x.i.form = 2:=by rw [show x.i.form = 34 from h34]; rfl
  rw [adrX_2 hc]
  refine ⟨[],no_rl,(get_ok m x x.i.rn hx.rn.1 hx.rn.2).useE rfl (by exact ⟨trivial,rfl,trivial⟩) rfl ?_⟩
  refine ⟨[],no_rl,(get_ok m x x.i.rm hx.rm.1 hx.rm.2).useE rfl (by exact ⟨trivial,rfl,trivial⟩) rfl ?_⟩
  refine .inr ?_
  exact retS (And.intro rfl (And.intro (show adrCls x.i.form ≠ 0 by omega) trivial)) (leSt_same rfl)
 refine And.intro (fun h33=>?_) (fun h33=>?_)
 ·have hc : adrCls x.i.form = 2:=by rw [show x.i.form = 33 from h33]; rfl
  rw [adrX_2 hc]
  refine ⟨[],no_rl,(get_ok m x x.i.rn hx.rn.1 hx.rn.2).useE rfl (by exact ⟨trivial,rfl,trivial⟩) rfl ?_⟩
  refine ⟨[],no_rl,(get_ok m x x.i.rm hx.rm.1 hx.rm.2).useE rfl (by exact ⟨trivial,rfl,trivial⟩) rfl ?_⟩
  refine .inr ?_
  exact retS (And.intro rfl (And.intro (show adrCls x.i.form ≠ 0 by omega) trivial)) (leSt_same rfl)
 refine And.intro (fun h36=>?_) (fun h36=>?_)
 ·have hc : adrCls x.i.form = 3:=by rw [show x.i.form = 36 from h36]; rfl
  rw [adrX_3 hc]
  refine ⟨[],no_rl,(get_ok m x x.i.rn hx.rn.1 hx.rn.2).useE rfl (by exact ⟨trivial,rfl,trivial⟩) rfl ?_⟩
  refine .inr ?_
  exact retS (And.intro rfl (And.intro (show adrCls x.i.form ≠ 0 by omega) trivial)) (leSt_same rfl)
 refine And.intro (fun h35=>?_) (fun h35=>?_)
 ·have hc : adrCls x.i.form = 3:=by rw [show x.i.form = 35 from h35]; rfl
  rw [adrX_3 hc]
  refine ⟨[],no_rl,(get_ok m x x.i.rn hx.rn.1 hx.rn.2).useE rfl (by exact ⟨trivial,rfl,trivial⟩) rfl ?_⟩
  refine .inr ?_
  exact retS (And.intro rfl (And.intro (show adrCls x.i.form ≠ 0 by omega) trivial)) (leSt_same rfl)
 refine And.intro (fun h85=>?_) (fun h85=>?_)
 ·have hc : adrCls x.i.form = 3:=by rw [show x.i.form = 85 from h85]; rfl
  rw [adrX_3 hc]
  refine ⟨[],no_rl,(get_ok m x x.i.rn hx.rn.1 hx.rn.2).useE rfl (by exact ⟨trivial,rfl,trivial⟩) rfl ?_⟩
  refine .inr ?_
  exact retS (And.intro rfl (And.intro (show adrCls x.i.form ≠ 0 by omega) trivial)) (leSt_same rfl)
 refine And.intro (fun h84=>?_) (fun h84=>?_)
 ·have hc : adrCls x.i.form = 3:=by rw [show x.i.form = 84 from h84]; rfl
  rw [adrX_3 hc]
  refine ⟨[],no_rl,(get_ok m x x.i.rn hx.rn.1 hx.rn.2).useE rfl (by exact ⟨trivial,rfl,trivial⟩) rfl ?_⟩
  refine .inr ?_
  exact retS (And.intro rfl (And.intro (show adrCls x.i.form ≠ 0 by omega) trivial)) (leSt_same rfl)
 refine And.intro (fun h38=>?_) (fun h38=>?_)
 ·have hc : adrCls x.i.form = 4:=by rw [show x.i.form = 38 from h38]; rfl
  rw [adrX_4 hc]
  refine ⟨[],no_rl,(get_ok m x 13 (by decide) (by decide)).useE rfl (by exact ⟨trivial,rfl,trivial⟩) rfl ?_⟩
  refine .inr ?_
  exact retS (And.intro rfl (And.intro (show adrCls x.i.form ≠ 0 by omega) trivial)) (leSt_same rfl)
 refine And.intro (fun h37=>?_) (fun h37=>?_)
 ·have hc : adrCls x.i.form = 4:=by rw [show x.i.form = 37 from h37]; rfl
  rw [adrX_4 hc]
  refine ⟨[],no_rl,(get_ok m x 13 (by decide) (by decide)).useE rfl (by exact ⟨trivial,rfl,trivial⟩) rfl ?_⟩
  refine .inr ?_
  exact retS (And.intro rfl (And.intro (show adrCls x.i.form ≠ 0 by omega) trivial)) (leSt_same rfl)
 refine And.intro (fun h87=>?_) (fun h87=>?_)
 ·have hc : adrCls x.i.form = 5:=by rw [show x.i.form = 87 from h87]; rfl
  rw [adrX_5 hc]
  refine ⟨[],no_rl,(get_ok m x x.i.rn hx.rn.1 hx.rn.2).useE rfl (by exact ⟨trivial,rfl,trivial⟩) rfl ?_⟩
  refine ⟨[],no_rl,(get_ok m x x.i.rm hx.rm.1 hx.rm.2).useE rfl (by exact ⟨trivial,rfl,trivial⟩) rfl ?_⟩
  refine ⟨(hx.idx (by omega)).1,.inr ?_⟩
  refine .inr ?_
  exact retS (And.intro rfl (And.intro (show adrCls x.i.form ≠ 0 by omega) trivial)) (leSt_same rfl)
 refine And.intro (fun h86=>?_) (fun h86=>?_)
 ·have hc : adrCls x.i.form = 5:=by rw [show x.i.form = 86 from h86]; rfl
  rw [adrX_5 hc]
  refine ⟨[],no_rl,(get_ok m x x.i.rn hx.rn.1 hx.rn.2).useE rfl (by exact ⟨trivial,rfl,trivial⟩) rfl ?_⟩
  refine ⟨[],no_rl,(get_ok m x x.i.rm hx.rm.1 hx.rm.2).useE rfl (by exact ⟨trivial,rfl,trivial⟩) rfl ?_⟩
  refine ⟨(hx.idx (by omega)).1,.inr ?_⟩
  refine .inr ?_
  exact retS (And.intro rfl (And.intro (show adrCls x.i.form ≠ 0 by omega) trivial)) (leSt_same rfl)
 ·have hc : adrCls x.i.form = 0:=by unfold adrCls; rw [if_neg (by omega),if_neg (by omega),if_neg (by omega),if_neg (by omega),if_neg (by omega)]
  rw [adrX_0 hc]
  exact retS (And.intro rfl (And.intro (show ¬ adrCls x.i.form ≠ 0 from fun h=>h hc) trivial)) (leSt_same rfl)
end Go.Proofs.YtnbngokbamifbaaGreatDoor.Pw

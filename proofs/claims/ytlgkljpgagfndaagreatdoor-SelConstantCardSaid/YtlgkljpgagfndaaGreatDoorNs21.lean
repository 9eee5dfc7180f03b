/- What this claim is proved with: no condition. -/
import Derived.Test.YtlgkljpgagfndaaGreatDoorNs20
set_option maxRecDepth 100000
set_option maxHeartbeats 4000000
set_option linter.unusedVariables false
set_option linter.unusedSimpArgs false
namespace Go.Proofs.YtlgkljpgagfndaaGreatDoor.Pw
open Go Go.RowKit
def aR (f:Int):Int :=
 if f=4\/f=6\/f=10\/f=55\/f=71 then 1 else if f=5\/f=7\/f=11\/f=58\/f=74 then 2 else if f=17\/f=56\/f=72 then 3 else if f=18\/f=57\/f=73 then 4 else if f=21 then 5 else if f=59\/f=75 then 6 else if f=9\/f=22\/f=29\/f=65\/f=81 then 7 else if f=23\/f=64\/f=80 then 8 else 0
def dP (x:XS):XS :=
 if aR x.i.form=1 then gL x x.i.rd (aQ x) (bQ x) 0 else if aR x.i.form=2 then gL x x.i.rd (aQ x) (dU (bQ x)) 1 else if aR x.i.form=3 then gL x x.i.rd (aQ x) (bQ x) x.s.C else if aR x.i.form=4 then gL x x.i.rd (aQ x) (dU (bQ x)) x.s.C else if aR x.i.form=5 then gL x x.i.rd 0 (dU (bQ x)) 1 else if aR x.i.form=6 then gL x x.i.rd (bQ x) (dU (aQ x)) 1 else if aR x.i.form=7 then gL x (-1) (aQ x) (dU (bQ x)) 1 else if aR x.i.form=8 then gL x (-1) (aQ x) (bQ x) 0 else x
theorem mg {x:XS} (h:aR x.i.form=1):dP x=gL x x.i.rd (aQ x) (bQ x) 0:=by unfold dP; rw[if_pos h]
theorem mh {x:XS} (h:aR x.i.form=2):dP x=gL x x.i.rd (aQ x) (dU (bQ x)) 1:=by unfold dP; rw[if_neg (by omega),if_pos h]
theorem sw {x:XS} (h:aR x.i.form=3):dP x=gL x x.i.rd (aQ x) (bQ x) x.s.C:=by unfold dP; rw[if_neg (by omega),if_neg (by omega),if_pos h]
theorem sA {x:XS} (h:aR x.i.form=4):dP x=gL x x.i.rd (aQ x) (dU (bQ x)) x.s.C:=by unfold dP; rw[if_neg (by omega),if_neg (by omega),if_neg (by omega),if_pos h]
theorem Hz {x:XS} (h:aR x.i.form=5):dP x=gL x x.i.rd 0 (dU (bQ x)) 1:=by unfold dP; rw[if_neg (by omega),if_neg (by omega),if_neg (by omega),if_neg (by omega),if_pos h]
theorem yn {x:XS} (h:aR x.i.form=6):dP x=gL x x.i.rd (bQ x) (dU (aQ x)) 1:=by unfold dP; rw[if_neg (by omega),if_neg (by omega),if_neg (by omega),if_neg (by omega),if_neg (by omega),if_pos h]
theorem mi {x:XS} (h:aR x.i.form=7):dP x=gL x (-1) (aQ x) (dU (bQ x)) 1:=by unfold dP; rw[if_neg (by omega),if_neg (by omega),if_neg (by omega),if_neg (by omega),if_neg (by omega),if_neg (by omega),if_pos h]
theorem sB {x:XS} (h:aR x.i.form=8):dP x=gL x (-1) (aQ x) (bQ x) 0:=by unfold dP; rw[if_neg (by omega),if_neg (by omega),if_neg (by omega),if_neg (by omega),if_neg (by omega),if_neg (by omega),if_neg (by omega),if_pos h]
theorem yo {x:XS} (h:aR x.i.form=0):dP x=x:=by unfold dP; rw[if_neg (by omega),if_neg (by omega),if_neg (by omega),if_neg (by omega),if_neg (by omega),if_neg (by omega),if_neg (by omega),if_neg (by omega)]
theorem HA (m:MS) (x:XS) (hx:kq x):Spec gT 80 [.ptr 3 0] (fS m x) [] fun y S'=>y = .bool (aR x.i.form≠0)/\S'=fS m (dP x):=by
 refine Spec.iJ (Spec.enter an P80 100 Tryz.func80 rfl (by kernel_rfl) ?_)
 refine (uG m x hx).e ?_
 refine (qF m x hx).e ?_
 refine⟨fun h4=>?_,fun h4=>?_⟩
 ·have hc:aR x.i.form=1:=by rw[show x.i.form=4 from h4]; rfl
  rw[mg hc]
  refine (cE m x x.i.rd (aQ x) (bQ x) 0 hx.rd.2 (bE hx) (bZ hx) (by decide)).e ?_
  exact a_ (show aR x.i.form≠0 by omega) (ah rfl)
 refine⟨fun h6=>?_,fun h6=>?_⟩
 ·have hc:aR x.i.form=1:=by rw[show x.i.form=6 from h6]; rfl
  rw[mg hc]
  refine (cE m x x.i.rd (aQ x) (bQ x) 0 hx.rd.2 (bE hx) (bZ hx) (by decide)).e ?_
  exact a_ (show aR x.i.form≠0 by omega) (ah rfl)
 refine⟨fun cC=>?_,fun cC=>?_⟩
 ·have hc:aR x.i.form=1:=by rw[show x.i.form=10 from cC]; rfl
  rw[mg hc]
  refine (cE m x x.i.rd (aQ x) (bQ x) 0 hx.rd.2 (bE hx) (bZ hx) (by decide)).e ?_
  exact a_ (show aR x.i.form≠0 by omega) (ah rfl)
 refine⟨fun Z6=>?_,fun Z6=>?_⟩
 ·have hc:aR x.i.form=1:=by rw[show x.i.form=55 from Z6]; rfl
  rw[mg hc]
  refine (cE m x x.i.rd (aQ x) (bQ x) 0 hx.rd.2 (bE hx) (bZ hx) (by decide)).e ?_
  exact a_ (show aR x.i.form≠0 by omega) (ah rfl)
 refine⟨fun Z7=>?_,fun Z7=>?_⟩
 ·have hc:aR x.i.form=1:=by rw[show x.i.form=71 from Z7]; rfl
  rw[mg hc]
  refine (cE m x x.i.rd (aQ x) (bQ x) 0 hx.rd.2 (bE hx) (bZ hx) (by decide)).e ?_
  exact a_ (show aR x.i.form≠0 by omega) (ah rfl)
 refine⟨fun h5=>?_,fun h5=>?_⟩
 ·have hc:aR x.i.form=2:=by rw[show x.i.form=5 from h5]; rfl
  rw[mh hc]
  refine (cE m x x.i.rd (aQ x) (dU (bQ x)) 1 hx.rd.2 (bE hx) (cS (bZ hx)) (by decide)).e ?_
  exact a_ (show aR x.i.form≠0 by omega) (ah rfl)
 refine⟨fun h7=>?_,fun h7=>?_⟩
 ·have hc:aR x.i.form=2:=by rw[show x.i.form=7 from h7]; rfl
  rw[mh hc]
  refine (cE m x x.i.rd (aQ x) (dU (bQ x)) 1 hx.rd.2 (bE hx) (cS (bZ hx)) (by decide)).e ?_
  exact a_ (show aR x.i.form≠0 by omega) (ah rfl)
 refine⟨fun Z8=>?_,fun Z8=>?_⟩
 ·have hc:aR x.i.form=2:=by rw[show x.i.form=11 from Z8]; rfl
  rw[mh hc]
  refine (cE m x x.i.rd (aQ x) (dU (bQ x)) 1 hx.rd.2 (bE hx) (cS (bZ hx)) (by decide)).e ?_
  exact a_ (show aR x.i.form≠0 by omega) (ah rfl)
 refine⟨fun Z9=>?_,fun Z9=>?_⟩
 ·have hc:aR x.i.form=2:=by rw[show x.i.form=58 from Z9]; rfl
  rw[mh hc]
  refine (cE m x x.i.rd (aQ x) (dU (bQ x)) 1 hx.rd.2 (bE hx) (cS (bZ hx)) (by decide)).e ?_
  exact a_ (show aR x.i.form≠0 by omega) (ah rfl)
 refine⟨fun Z'=>?_,fun Z'=>?_⟩
 ·have hc:aR x.i.form=2:=by rw[show x.i.form=74 from Z']; rfl
  rw[mh hc]
  refine (cE m x x.i.rd (aQ x) (dU (bQ x)) 1 hx.rd.2 (bE hx) (cS (bZ hx)) (by decide)).e ?_
  exact a_ (show aR x.i.form≠0 by omega) (ah rfl)
 refine⟨fun QR=>?_,fun QR=>?_⟩
 ·have hc:aR x.i.form=3:=by rw[show x.i.form=17 from QR]; rfl
  rw[sw hc]
  refine (cE m x x.i.rd (aQ x) (bQ x) x.s.C hx.rd.2 (bE hx) (bZ hx) hx.c.1).e ?_
  exact a_ (show aR x.i.form≠0 by omega) (ah rfl)
 refine⟨fun Z_=>?_,fun Z_=>?_⟩
 ·have hc:aR x.i.form=3:=by rw[show x.i.form=56 from Z_]; rfl
  rw[sw hc]
  refine (cE m x x.i.rd (aQ x) (bQ x) x.s.C hx.rd.2 (bE hx) (bZ hx) hx.c.1).e ?_
  exact a_ (show aR x.i.form≠0 by omega) (ah rfl)
 refine⟨fun h72=>?_,fun h72=>?_⟩
 ·have hc:aR x.i.form=3:=by rw[show x.i.form=72 from h72]; rfl
  rw[sw hc]
  refine (cE m x x.i.rd (aQ x) (bQ x) x.s.C hx.rd.2 (bE hx) (bZ hx) hx.c.1).e ?_
  exact a_ (show aR x.i.form≠0 by omega) (ah rfl)
 refine⟨fun h18=>?_,fun h18=>?_⟩
 ·have hc:aR x.i.form=4:=by rw[show x.i.form=18 from h18]; rfl
  rw[sA hc]
  refine (cE m x x.i.rd (aQ x) (dU (bQ x)) x.s.C hx.rd.2 (bE hx) (cS (bZ hx)) hx.c.1).e ?_
  exact a_ (show aR x.i.form≠0 by omega) (ah rfl)
 refine⟨fun h57=>?_,fun h57=>?_⟩
 ·have hc:aR x.i.form=4:=by rw[show x.i.form=57 from h57]; rfl
  rw[sA hc]
  refine (cE m x x.i.rd (aQ x) (dU (bQ x)) x.s.C hx.rd.2 (bE hx) (cS (bZ hx)) hx.c.1).e ?_
  exact a_ (show aR x.i.form≠0 by omega) (ah rfl)
 refine⟨fun h73=>?_,fun h73=>?_⟩
 ·have hc:aR x.i.form=4:=by rw[show x.i.form=73 from h73]; rfl
  rw[sA hc]
  refine (cE m x x.i.rd (aQ x) (dU (bQ x)) x.s.C hx.rd.2 (bE hx) (cS (bZ hx)) hx.c.1).e ?_
  exact a_ (show aR x.i.form≠0 by omega) (ah rfl)
 refine⟨fun h21=>?_,fun h21=>?_⟩
 ·have hc:aR x.i.form=5:=by rw[show x.i.form=21 from h21]; rfl
  rw[Hz hc]
  refine (cE m x x.i.rd 0 (dU (bQ x)) 1 hx.rd.2 (by unfold bO; omega) (cS (bZ hx)) (by decide)).e ?_
  exact a_ (show aR x.i.form≠0 by omega) (ah rfl)
 refine⟨fun h59=>?_,fun h59=>?_⟩
 ·have hc:aR x.i.form=6:=by rw[show x.i.form=59 from h59]; rfl
  rw[yn hc]
  refine (cE m x x.i.rd (bQ x) (dU (aQ x)) 1 hx.rd.2 (bZ hx) (cS (bE hx)) (by decide)).e ?_
  exact a_ (show aR x.i.form≠0 by omega) (ah rfl)
 refine⟨fun h75=>?_,fun h75=>?_⟩
 ·have hc:aR x.i.form=6:=by rw[show x.i.form=75 from h75]; rfl
  rw[yn hc]
  refine (cE m x x.i.rd (bQ x) (dU (aQ x)) 1 hx.rd.2 (bZ hx) (cS (bE hx)) (by decide)).e ?_
  exact a_ (show aR x.i.form≠0 by omega) (ah rfl)
 refine⟨fun h9=>?_,fun h9=>?_⟩
 ·have hc:aR x.i.form=7:=by rw[show x.i.form=9 from h9]; rfl
  rw[mi hc]
  refine (cE m x (-1) (aQ x) (dU (bQ x)) 1 (by decide) (bE hx) (cS (bZ hx)) (by decide)).e ?_
  exact a_ (show aR x.i.form≠0 by omega) (ah rfl)
 refine⟨fun h22=>?_,fun h22=>?_⟩
 ·have hc:aR x.i.form=7:=by rw[show x.i.form=22 from h22]; rfl
  rw[mi hc]
  refine (cE m x (-1) (aQ x) (dU (bQ x)) 1 (by decide) (bE hx) (cS (bZ hx)) (by decide)).e ?_
  exact a_ (show aR x.i.form≠0 by omega) (ah rfl)
 refine⟨fun h29=>?_,fun h29=>?_⟩
 ·have hc:aR x.i.form=7:=by rw[show x.i.form=29 from h29]; rfl
  rw[mi hc]
  refine (cE m x (-1) (aQ x) (dU (bQ x)) 1 (by decide) (bE hx) (cS (bZ hx)) (by decide)).e ?_
  exact a_ (show aR x.i.form≠0 by omega) (ah rfl)
 refine⟨fun h65=>?_,fun h65=>?_⟩
 ·have hc:aR x.i.form=7:=by rw[show x.i.form=65 from h65]; rfl
  rw[mi hc]
  refine (cE m x (-1) (aQ x) (dU (bQ x)) 1 (by decide) (bE hx) (cS (bZ hx)) (by decide)).e ?_
  exact a_ (show aR x.i.form≠0 by omega) (ah rfl)
 refine⟨fun h81=>?_,fun h81=>?_⟩
 ·have hc:aR x.i.form=7:=by rw[show x.i.form=81 from h81]; rfl
  rw[mi hc]
  refine (cE m x (-1) (aQ x) (dU (bQ x)) 1 (by decide) (bE hx) (cS (bZ hx)) (by decide)).e ?_
  exact a_ (show aR x.i.form≠0 by omega) (ah rfl)
 refine⟨fun h23=>?_,fun h23=>?_⟩
 ·have hc:aR x.i.form=8:=by rw[show x.i.form=23 from h23]; rfl
  rw[sB hc]
  refine (cE m x (-1) (aQ x) (bQ x) 0 (by decide) (bE hx) (bZ hx) (by decide)).e ?_
  exact a_ (show aR x.i.form≠0 by omega) (ah rfl)
 refine⟨fun h64=>?_,fun h64=>?_⟩
 ·have hc:aR x.i.form=8:=by rw[show x.i.form=64 from h64]; rfl
  rw[sB hc]
  refine (cE m x (-1) (aQ x) (bQ x) 0 (by decide) (bE hx) (bZ hx) (by decide)).e ?_
  exact a_ (show aR x.i.form≠0 by omega) (ah rfl)
 refine⟨fun h80=>?_,fun h80=>?_⟩
 ·have hc:aR x.i.form=8:=by rw[show x.i.form=80 from h80]; rfl
  rw[sB hc]
  refine (cE m x (-1) (aQ x) (bQ x) 0 (by decide) (bE hx) (bZ hx) (by decide)).e ?_
  exact a_ (show aR x.i.form≠0 by omega) (ah rfl)
 ·have hc:aR x.i.form=0:=by unfold aR; rw[if_neg (by omega),if_neg (by omega),if_neg (by omega),if_neg (by omega),if_neg (by omega),if_neg (by omega),if_neg (by omega),if_neg (by omega)]
  rw[yo hc]
  exact a_ (show ¬ aR x.i.form≠0 from fun h=>h hc) (ah rfl)
def aT (f:Int):Int :=
 if f=8\/f=60\/f=76 then 1 else if f=27\/f=61\/f=77 then 2 else if f=12\/f=50\/f=66 then 3 else if f=24\/f=52\/f=68 then 4 else if f=13\/f=54\/f=70 then 5 else if f=26\/f=51\/f=67 then 6 else if f=53\/f=69 then 7 else if f=20\/f=62\/f=78 then 8 else if f=63\/f=79 then 9 else 0
def ch (x:XS):XS :=
 if aT x.i.form=1 then cQ x x.i.rd (bQ x) (cV x) else if aT x.i.form=2 then cQ x x.i.rd (dU (bQ x)) (cV x) else if aT x.i.form=3 then cQ x x.i.rd (bits .and .u32 (aQ x) (bQ x)) (cV x) else if aT x.i.form=4 then cQ x x.i.rd (bits .or .u32 (aQ x) (bQ x)) (cV x) else if aT x.i.form=5 then cQ x x.i.rd (bits .xor .u32 (aQ x) (bQ x)) (cV x) else if aT x.i.form=6 then cQ x x.i.rd (bits .andNot .u32 (aQ x) (bQ x)) (cV x) else if aT x.i.form=7 then cQ x x.i.rd (bits .or .u32 (aQ x) (dU (bQ x))) (cV x) else if aT x.i.form=8 then cQ x (-1) (bits .and .u32 (aQ x) (bQ x)) (cV x) else if aT x.i.form=9 then cQ x (-1) (bits .xor .u32 (aQ x) (bQ x)) (cV x) else x
theorem mS {x:XS} (h:aT x.i.form=1):ch x=cQ x x.i.rd (bQ x) (cV x):=by unfold ch; rw[if_pos h]
theorem mT {x:XS} (h:aT x.i.form=2):ch x=cQ x x.i.rd (dU (bQ x)) (cV x):=by unfold ch; rw[if_neg (by omega),if_pos h]
theorem mU {x:XS} (h:aT x.i.form=3):ch x=cQ x x.i.rd (bits .and .u32 (aQ x) (bQ x)) (cV x):=by unfold ch; rw[if_neg (by omega),if_neg (by omega),if_pos h]
theorem mV {x:XS} (h:aT x.i.form=4):ch x=cQ x x.i.rd (bits .or .u32 (aQ x) (bQ x)) (cV x):=by unfold ch; rw[if_neg (by omega),if_neg (by omega),if_neg (by omega),if_pos h]
theorem mW {x:XS} (h:aT x.i.form=5):ch x=cQ x x.i.rd (bits .xor .u32 (aQ x) (bQ x)) (cV x):=by unfold ch; rw[if_neg (by omega),if_neg (by omega),if_neg (by omega),if_neg (by omega),if_pos h]
theorem mX {x:XS} (h:aT x.i.form=6):ch x=cQ x x.i.rd (bits .andNot .u32 (aQ x) (bQ x)) (cV x):=by unfold ch; rw[if_neg (by omega),if_neg (by omega),if_neg (by omega),if_neg (by omega),if_neg (by omega),if_pos h]
theorem qG {x:XS} (h:aT x.i.form=7):ch x=cQ x x.i.rd (bits .or .u32 (aQ x) (dU (bQ x))) (cV x):=by unfold ch; rw[if_neg (by omega),if_neg (by omega),if_neg (by omega),if_neg (by omega),if_neg (by omega),if_neg (by omega),if_pos h]
theorem mY {x:XS} (h:aT x.i.form=8):ch x=cQ x (-1) (bits .and .u32 (aQ x) (bQ x)) (cV x):=by unfold ch; rw[if_neg (by omega),if_neg (by omega),if_neg (by omega),if_neg (by omega),if_neg (by omega),if_neg (by omega),if_neg (by omega),if_pos h]
theorem qH {x:XS} (h:aT x.i.form=9):ch x=cQ x (-1) (bits .xor .u32 (aQ x) (bQ x)) (cV x):=by unfold ch; rw[if_neg (by omega),if_neg (by omega),if_neg (by omega),if_neg (by omega),if_neg (by omega),if_neg (by omega),if_neg (by omega),if_neg (by omega),if_pos h]
theorem qI {x:XS} (h:aT x.i.form=0):ch x=x:=by unfold ch; rw[if_neg (by omega),if_neg (by omega),if_neg (by omega),if_neg (by omega),if_neg (by omega),if_neg (by omega),if_neg (by omega),if_neg (by omega),if_neg (by omega)]
theorem z3 (m:MS) (x:XS) (hx:kq x):Spec gT 81 [.ptr 3 0] (fS m x) [] fun y S'=>y = .bool (aT x.i.form≠0)/\S'=fS m (ch x):=by
 refine Spec.iJ (Spec.enter an P81 100 Tryz.func81 rfl (by kernel_rfl) ?_)
 refine (uG m x hx).e ?_
 refine (qF m x hx).e ?_
 refine⟨fun h8=>?_,fun h8=>?_⟩
 ·have hc:aT x.i.form=1:=by rw[show x.i.form=8 from h8]; rfl
  rw[mS hc]
  refine (bV m x x.i.rd (bQ x) (cV x) hx.rd.2).e ?_
  exact a_ (show aT x.i.form≠0 by omega) (ah rfl)
 refine⟨fun h60=>?_,fun h60=>?_⟩
 ·have hc:aT x.i.form=1:=by rw[show x.i.form=60 from h60]; rfl
  rw[mS hc]
  refine (bV m x x.i.rd (bQ x) (cV x) hx.rd.2).e ?_
  exact a_ (show aT x.i.form≠0 by omega) (ah rfl)
 refine⟨fun h76=>?_,fun h76=>?_⟩
 ·have hc:aT x.i.form=1:=by rw[show x.i.form=76 from h76]; rfl
  rw[mS hc]
  refine (bV m x x.i.rd (bQ x) (cV x) hx.rd.2).e ?_
  exact a_ (show aT x.i.form≠0 by omega) (ah rfl)
 refine⟨fun h27=>?_,fun h27=>?_⟩
 ·have hc:aT x.i.form=2:=by rw[show x.i.form=27 from h27]; rfl
  rw[mT hc]
  refine (bV m x x.i.rd (dU (bQ x)) (cV x) hx.rd.2).e ?_
  exact a_ (show aT x.i.form≠0 by omega) (ah rfl)
 refine⟨fun h61=>?_,fun h61=>?_⟩
 ·have hc:aT x.i.form=2:=by rw[show x.i.form=61 from h61]; rfl
  rw[mT hc]
  refine (bV m x x.i.rd (dU (bQ x)) (cV x) hx.rd.2).e ?_
  exact a_ (show aT x.i.form≠0 by omega) (ah rfl)
 refine⟨fun h77=>?_,fun h77=>?_⟩
 ·have hc:aT x.i.form=2:=by rw[show x.i.form=77 from h77]; rfl
  rw[mT hc]
  refine (bV m x x.i.rd (dU (bQ x)) (cV x) hx.rd.2).e ?_
  exact a_ (show aT x.i.form≠0 by omega) (ah rfl)
 refine⟨fun h12=>?_,fun h12=>?_⟩
 ·have hc:aT x.i.form=3:=by rw[show x.i.form=12 from h12]; rfl
  rw[mU hc]
  refine (bV m x x.i.rd (bits .and .u32 (aQ x) (bQ x)) (cV x) hx.rd.2).e ?_
  exact a_ (show aT x.i.form≠0 by omega) (ah rfl)
 refine⟨fun h50=>?_,fun h50=>?_⟩
 ·have hc:aT x.i.form=3:=by rw[show x.i.form=50 from h50]; rfl
  rw[mU hc]
  refine (bV m x x.i.rd (bits .and .u32 (aQ x) (bQ x)) (cV x) hx.rd.2).e ?_
  exact a_ (show aT x.i.form≠0 by omega) (ah rfl)
 refine⟨fun h66=>?_,fun h66=>?_⟩
 ·have hc:aT x.i.form=3:=by rw[show x.i.form=66 from h66]; rfl
  rw[mU hc]
  refine (bV m x x.i.rd (bits .and .u32 (aQ x) (bQ x)) (cV x) hx.rd.2).e ?_
  exact a_ (show aT x.i.form≠0 by omega) (ah rfl)
 refine⟨fun Ya=>?_,fun Ya=>?_⟩
 ·have hc:aT x.i.form=4:=by rw[show x.i.form=24 from Ya]; rfl
  rw[mV hc]
  refine (bV m x x.i.rd (bits .or .u32 (aQ x) (bQ x)) (cV x) hx.rd.2).e ?_
  exact a_ (show aT x.i.form≠0 by omega) (ah rfl)
 refine⟨fun h52=>?_,fun h52=>?_⟩
 ·have hc:aT x.i.form=4:=by rw[show x.i.form=52 from h52]; rfl
  rw[mV hc]
  refine (bV m x x.i.rd (bits .or .u32 (aQ x) (bQ x)) (cV x) hx.rd.2).e ?_
  exact a_ (show aT x.i.form≠0 by omega) (ah rfl)
 refine⟨fun h68=>?_,fun h68=>?_⟩
 ·have hc:aT x.i.form=4:=by rw[show x.i.form=68 from h68]; rfl
  rw[mV hc]
  refine (bV m x x.i.rd (bits .or .u32 (aQ x) (bQ x)) (cV x) hx.rd.2).e ?_
  exact a_ (show aT x.i.form≠0 by omega) (ah rfl)
 refine⟨fun h13=>?_,fun h13=>?_⟩
 ·have hc:aT x.i.form=5:=by rw[show x.i.form=13 from h13]; rfl
  rw[mW hc]
  refine (bV m x x.i.rd (bits .xor .u32 (aQ x) (bQ x)) (cV x) hx.rd.2).e ?_
  exact a_ (show aT x.i.form≠0 by omega) (ah rfl)
 refine⟨fun h54=>?_,fun h54=>?_⟩
 ·have hc:aT x.i.form=5:=by rw[show x.i.form=54 from h54]; rfl
  rw[mW hc]
  refine (bV m x x.i.rd (bits .xor .u32 (aQ x) (bQ x)) (cV x) hx.rd.2).e ?_
  exact a_ (show aT x.i.form≠0 by omega) (ah rfl)
 refine⟨fun h70=>?_,fun h70=>?_⟩
 ·have hc:aT x.i.form=5:=by rw[show x.i.form=70 from h70]; rfl
  rw[mW hc]
  refine (bV m x x.i.rd (bits .xor .u32 (aQ x) (bQ x)) (cV x) hx.rd.2).e ?_
  exact a_ (show aT x.i.form≠0 by omega) (ah rfl)
 refine⟨fun h26=>?_,fun h26=>?_⟩
 ·have hc:aT x.i.form=6:=by rw[show x.i.form=26 from h26]; rfl
  rw[mX hc]
  refine (bV m x x.i.rd (bits .andNot .u32 (aQ x) (bQ x)) (cV x) hx.rd.2).e ?_
  exact a_ (show aT x.i.form≠0 by omega) (ah rfl)
 refine⟨fun h51=>?_,fun h51=>?_⟩
 ·have hc:aT x.i.form=6:=by rw[show x.i.form=51 from h51]; rfl
  rw[mX hc]
  refine (bV m x x.i.rd (bits .andNot .u32 (aQ x) (bQ x)) (cV x) hx.rd.2).e ?_
  exact a_ (show aT x.i.form≠0 by omega) (ah rfl)
 refine⟨fun h67=>?_,fun h67=>?_⟩
 ·have hc:aT x.i.form=6:=by rw[show x.i.form=67 from h67]; rfl
  rw[mX hc]
  refine (bV m x x.i.rd (bits .andNot .u32 (aQ x) (bQ x)) (cV x) hx.rd.2).e ?_
  exact a_ (show aT x.i.form≠0 by omega) (ah rfl)
 refine⟨fun h53=>?_,fun h53=>?_⟩
 ·have hc:aT x.i.form=7:=by rw[show x.i.form=53 from h53]; rfl
  rw[qG hc]
  refine (bV m x x.i.rd (bits .or .u32 (aQ x) (dU (bQ x))) (cV x) hx.rd.2).e ?_
  exact a_ (show aT x.i.form≠0 by omega) (ah rfl)
 refine⟨fun h69=>?_,fun h69=>?_⟩
 ·have hc:aT x.i.form=7:=by rw[show x.i.form=69 from h69]; rfl
  rw[qG hc]
  refine (bV m x x.i.rd (bits .or .u32 (aQ x) (dU (bQ x))) (cV x) hx.rd.2).e ?_
  exact a_ (show aT x.i.form≠0 by omega) (ah rfl)
 refine⟨fun h20=>?_,fun h20=>?_⟩
 ·have hc:aT x.i.form=8:=by rw[show x.i.form=20 from h20]; rfl
  rw[mY hc]
  refine (bV m x (-1) (bits .and .u32 (aQ x) (bQ x)) (cV x) (by decide)).e ?_
  exact a_ (show aT x.i.form≠0 by omega) (ah rfl)
 refine⟨fun h62=>?_,fun h62=>?_⟩
 ·have hc:aT x.i.form=8:=by rw[show x.i.form=62 from h62]; rfl
  rw[mY hc]
  refine (bV m x (-1) (bits .and .u32 (aQ x) (bQ x)) (cV x) (by decide)).e ?_
  exact a_ (show aT x.i.form≠0 by omega) (ah rfl)
 refine⟨fun h78=>?_,fun h78=>?_⟩
 ·have hc:aT x.i.form=8:=by rw[show x.i.form=78 from h78]; rfl
  rw[mY hc]
  refine (bV m x (-1) (bits .and .u32 (aQ x) (bQ x)) (cV x) (by decide)).e ?_
  exact a_ (show aT x.i.form≠0 by omega) (ah rfl)
 refine⟨fun h63=>?_,fun h63=>?_⟩
 ·have hc:aT x.i.form=9:=by rw[show x.i.form=63 from h63]; rfl
  rw[qH hc]
  refine (bV m x (-1) (bits .xor .u32 (aQ x) (bQ x)) (cV x) (by decide)).e ?_
  exact a_ (show aT x.i.form≠0 by omega) (ah rfl)
 refine⟨fun h79=>?_,fun h79=>?_⟩
 ·have hc:aT x.i.form=9:=by rw[show x.i.form=79 from h79]; rfl
  rw[qH hc]
  refine (bV m x (-1) (bits .xor .u32 (aQ x) (bQ x)) (cV x) (by decide)).e ?_
  exact a_ (show aT x.i.form≠0 by omega) (ah rfl)
 ·have hc:aT x.i.form=0:=by unfold aT; rw[if_neg (by omega),if_neg (by omega),if_neg (by omega),if_neg (by omega),if_neg (by omega),if_neg (by omega),if_neg (by omega),if_neg (by omega),if_neg (by omega)]
  rw[qI hc]
  exact a_ (show ¬ aT x.i.form≠0 from fun h=>h hc) (ah rfl)
def sC (x:XS):Int:=bits .and .u32 (au x x.i.rm) 255
theorem ez {x:XS} (h:kq x):0<=sC x/\sC x<=255:=by
 unfold sC
 have b:=bH h x.i.rm
 rw[Rm.bY _ b.1 b.2]; omega
def cA (f:Int):Int :=
 if f=1\/f=2\/f=3 then 1 else if f=14\/f=15\/f=16 then 2 else if f=19 then 3 else if f=88\/f=89\/f=90\/f=91 then 4 else 0
def dp (x:XS):XS :=
 if cA x.i.form=1 then gH x (x.i.form - 1) (au x x.i.rm) x.i.az else if cA x.i.form=2 then gH x (x.i.form - 14) (au x x.i.rd) (sC x) else if cA x.i.form=3 then gH x 3 (au x x.i.rd) (sC x) else if cA x.i.form=4 then gH x (x.i.form - 88) (au x x.i.rn) (sC x) else x
theorem mZ {x:XS} (h:cA x.i.form=1):dp x=gH x (x.i.form - 1) (au x x.i.rm) x.i.az:=by unfold dp; rw[if_pos h]
theorem m4 {x:XS} (h:cA x.i.form=2):dp x=gH x (x.i.form - 14) (au x x.i.rd) (sC x):=by unfold dp; rw[if_neg (by omega),if_pos h]
theorem z4 {x:XS} (h:cA x.i.form=3):dp x=gH x 3 (au x x.i.rd) (sC x):=by unfold dp; rw[if_neg (by omega),if_neg (by omega),if_pos h]
theorem kg {x:XS} (h:cA x.i.form=4):dp x=gH x (x.i.form - 88) (au x x.i.rn) (sC x):=by unfold dp; rw[if_neg (by omega),if_neg (by omega),if_neg (by omega),if_pos h]
theorem qJ {x:XS} (h:cA x.i.form=0):dp x=x:=by unfold dp; rw[if_neg (by omega),if_neg (by omega),if_neg (by omega),if_neg (by omega)]
theorem z5 (m:MS) (x:XS) (hx:kq x):Spec gT 82 [.ptr 3 0] (fS m x) [] fun y S'=>y = .bool (cA x.i.form≠0)/\S'=fS m (dp x):=by
 refine Spec.iJ (Spec.enter an P82 100 Tryz.func82 rfl (by kernel_rfl) ?_)
 have Jn:=ez hx
 refine (bA m x x.i.rm hx.rm.1 hx.rm.2).e ?_
 refine li ?_ (show _<=sC x/\sC x<=_ by omega)
 refine⟨fun h1=>?_,fun h1=>?_⟩
 ·have hc:cA x.i.form=1:=by rw[show x.i.form=1 from h1]; rfl
  rw[mZ hc]
  refine li ?_ (show _<=x.i.form - 1/\x.i.form - 1<=_ by omega)
  refine (bA m x x.i.rm hx.rm.1 hx.rm.2).e ?_
  have hl:=hx.low (by omega)
  refine (dC m x (x.i.form - 1) (au x x.i.rm) x.i.az hx (by omega) (by omega) hl.1 (by omega) (bH hx _)).e ?_
  exact a_ (show cA x.i.form≠0 by omega) (ah rfl)
 refine⟨fun h2=>?_,fun h2=>?_⟩
 ·have hc:cA x.i.form=1:=by rw[show x.i.form=2 from h2]; rfl
  rw[mZ hc]
  refine li ?_ (show _<=x.i.form - 1/\x.i.form - 1<=_ by omega)
  refine (bA m x x.i.rm hx.rm.1 hx.rm.2).e ?_
  have hl:=hx.low (by omega)
  refine (dC m x (x.i.form - 1) (au x x.i.rm) x.i.az hx (by omega) (by omega) hl.1 (by omega) (bH hx _)).e ?_
  exact a_ (show cA x.i.form≠0 by omega) (ah rfl)
 refine⟨fun h3=>?_,fun h3=>?_⟩
 ·have hc:cA x.i.form=1:=by rw[show x.i.form=3 from h3]; rfl
  rw[mZ hc]
  refine li ?_ (show _<=x.i.form - 1/\x.i.form - 1<=_ by omega)
  refine (bA m x x.i.rm hx.rm.1 hx.rm.2).e ?_
  have hl:=hx.low (by omega)
  refine (dC m x (x.i.form - 1) (au x x.i.rm) x.i.az hx (by omega) (by omega) hl.1 (by omega) (bH hx _)).e ?_
  exact a_ (show cA x.i.form≠0 by omega) (ah rfl)
 refine⟨fun h14=>?_,fun h14=>?_⟩
 ·have hc:cA x.i.form=2:=by rw[show x.i.form=14 from h14]; rfl
  rw[m4 hc]
  refine li ?_ (show _<=x.i.form - 14/\x.i.form - 14<=_ by omega)
  refine (bA m x x.i.rd hx.rd.1 hx.rd.2).e ?_
  refine (dC m x (x.i.form - 14) (au x x.i.rd) (sC x) hx (by omega) (by omega) (ez hx).1 (ez hx).2 (bH hx _)).e ?_
  exact a_ (show cA x.i.form≠0 by omega) (ah rfl)
 refine⟨fun QU=>?_,fun QU=>?_⟩
 ·have hc:cA x.i.form=2:=by rw[show x.i.form=15 from QU]; rfl
  rw[m4 hc]
  refine li ?_ (show _<=x.i.form - 14/\x.i.form - 14<=_ by omega)
  refine (bA m x x.i.rd hx.rd.1 hx.rd.2).e ?_
  refine (dC m x (x.i.form - 14) (au x x.i.rd) (sC x) hx (by omega) (by omega) (ez hx).1 (ez hx).2 (bH hx _)).e ?_
  exact a_ (show cA x.i.form≠0 by omega) (ah rfl)
 refine⟨fun h16=>?_,fun h16=>?_⟩
 ·have hc:cA x.i.form=2:=by rw[show x.i.form=16 from h16]; rfl
  rw[m4 hc]
  refine li ?_ (show _<=x.i.form - 14/\x.i.form - 14<=_ by omega)
  refine (bA m x x.i.rd hx.rd.1 hx.rd.2).e ?_
  refine (dC m x (x.i.form - 14) (au x x.i.rd) (sC x) hx (by omega) (by omega) (ez hx).1 (ez hx).2 (bH hx _)).e ?_
  exact a_ (show cA x.i.form≠0 by omega) (ah rfl)
 refine⟨fun h19=>?_,fun h19=>?_⟩
 ·have hc:cA x.i.form=3:=by rw[show x.i.form=19 from h19]; rfl
  rw[z4 hc]
  refine (bA m x x.i.rd hx.rd.1 hx.rd.2).e ?_
  refine (dC m x 3 (au x x.i.rd) (sC x) hx (by omega) (by omega) (ez hx).1 (ez hx).2 (bH hx _)).e ?_
  exact a_ (show cA x.i.form≠0 by omega) (ah rfl)
 refine⟨fun h88=>?_,fun h88=>?_⟩
 ·have hc:cA x.i.form=4:=by rw[show x.i.form=88 from h88]; rfl
  rw[kg hc]
  refine li ?_ (show _<=x.i.form - 88/\x.i.form - 88<=_ by omega)
  refine (bA m x x.i.rn hx.rn.1 hx.rn.2).e ?_
  refine (dC m x (x.i.form - 88) (au x x.i.rn) (sC x) hx (by omega) (by omega) (ez hx).1 (ez hx).2 (bH hx _)).e ?_
  exact a_ (show cA x.i.form≠0 by omega) (ah rfl)
 refine⟨fun h89=>?_,fun h89=>?_⟩
 ·have hc:cA x.i.form=4:=by rw[show x.i.form=89 from h89]; rfl
  rw[kg hc]
  refine li ?_ (show _<=x.i.form - 88/\x.i.form - 88<=_ by omega)
  refine (bA m x x.i.rn hx.rn.1 hx.rn.2).e ?_
  refine (dC m x (x.i.form - 88) (au x x.i.rn) (sC x) hx (by omega) (by omega) (ez hx).1 (ez hx).2 (bH hx _)).e ?_
  exact a_ (show cA x.i.form≠0 by omega) (ah rfl)
 refine⟨fun h90=>?_,fun h90=>?_⟩
 ·have hc:cA x.i.form=4:=by rw[show x.i.form=90 from h90]; rfl
  rw[kg hc]
  refine li ?_ (show _<=x.i.form - 88/\x.i.form - 88<=_ by omega)
  refine (bA m x x.i.rn hx.rn.1 hx.rn.2).e ?_
  refine (dC m x (x.i.form - 88) (au x x.i.rn) (sC x) hx (by omega) (by omega) (ez hx).1 (ez hx).2 (bH hx _)).e ?_
  exact a_ (show cA x.i.form≠0 by omega) (ah rfl)
 refine⟨fun h91=>?_,fun h91=>?_⟩
 ·have hc:cA x.i.form=4:=by rw[show x.i.form=91 from h91]; rfl
  rw[kg hc]
  refine li ?_ (show _<=x.i.form - 88/\x.i.form - 88<=_ by omega)
  refine (bA m x x.i.rn hx.rn.1 hx.rn.2).e ?_
  refine (dC m x (x.i.form - 88) (au x x.i.rn) (sC x) hx (by omega) (by omega) (ez hx).1 (ez hx).2 (bH hx _)).e ?_
  exact a_ (show cA x.i.form≠0 by omega) (ah rfl)
 ·have hc:cA x.i.form=0:=by unfold cA; rw[if_neg (by omega),if_neg (by omega),if_neg (by omega),if_neg (by omega)]
  rw[qJ hc]
  exact a_ (show ¬ cA x.i.form≠0 from fun h=>h hc) (ah rfl)
def aW (s:RS) (c:Int):Prop :=
 (c=0/\s.Z=1)\/(c=1/\¬ s.Z=1)\/(c=2/\s.C=1)\/(c=3/\¬ s.C=1)\/(c=4/\s.N=1)\/(c=5/\¬ s.N=1)\/(c=6/\s.V=1)\/(c=7/\¬ s.V=1) \/
 (c=8/\s.C=1/\s.Z=0)\/(c=9/\¬ (s.C=1/\s.Z=0))\/(c=10/\s.N=s.V)\/(c=11/\¬ s.N=s.V)\/(c=12/\s.Z=0/\s.N=s.V)\/(c=13/\¬ (s.Z=0/\s.N=s.V))
instance (s:RS) (c:Int):Decidable (aW s c):=by unfold aW; infer_instance
theorem dV {p q:Prop} (h:p↔q):jj (.bool p) (.bool q):=h
theorem ft {q:Prop} (h:q):jj .tt (.bool q):=h
theorem eY {q:Prop} (h:¬ q):jj .ff (.bool q):=h
theorem dW {f:FuncId} {a r:PV} {c K:Int} (e:c=K) (h:ai gT f [a,.lit .i64 K] r) (ha:jj a a):ai gT f [a,.int .i64 c] r:=by
 subst e
 exact Spec.args h ⟨ha,show vi (.int .i64 c) (.lit .i64 c) from rfl,trivial⟩
theorem dX (s:RS):jj (ph s) (ph s):=mf (l:=PO s) rfl
theorem z6 (s:RS) (c:Int) (h:c < 0\/13 < c):ai gT 120 [ph s,.int .i64 c] (.bool (aW s c)):=by
 have hn:¬ aW s c:=by unfold aW; omega
 refine Spec.enter an kR 100 Tryz.func120 rfl (by kernel_rfl) ?_
 refine And.intro (by decide) (.inr ?_)
 repeat' ((try (conv=>whnf)); first
  | (refine aD ?_; exact eY hn)
  | (refine (And.intro (fun _=>?_) (fun _=>?_):(_->_)/\(_->_))<;>(first|(exfalso; first|contradiction|omega)|skip)))
theorem HB (s:RS):ai gT 120 [ph s,.lit .i64 0] (.bool (aW s 0)):=by
 refine Spec.enter an kR 100 Tryz.func120 rfl (by kernel_rfl) ?_
 repeat' ((try (conv=>whnf)); first
  | (refine aD ?_; first|(refine dV ?_; simp[aW, *]; done)|(refine ft ?_; simp[aW, *]; done)|(refine eY ?_; simp[aW, *]; done))
  | (refine (And.intro (fun _=>?_) (fun _=>?_):(_->_)/\(_->_))<;>(first|(exfalso; contradiction)|skip)))
theorem HD (s:RS):ai gT 120 [ph s,.lit .i64 1] (.bool (aW s 1)):=by
 refine Spec.enter an kR 100 Tryz.func120 rfl (by kernel_rfl) ?_
 repeat' ((try (conv=>whnf)); first
  | (refine aD ?_; first|(refine dV ?_; simp[aW, *]; done)|(refine ft ?_; simp[aW, *]; done)|(refine eY ?_; simp[aW, *]; done))
  | (refine (And.intro (fun _=>?_) (fun _=>?_):(_->_)/\(_->_))<;>(first|(exfalso; contradiction)|skip)))
theorem HE (s:RS):ai gT 120 [ph s,.lit .i64 2] (.bool (aW s 2)):=by
 refine Spec.enter an kR 100 Tryz.func120 rfl (by kernel_rfl) ?_
 repeat' ((try (conv=>whnf)); first
  | (refine aD ?_; first|(refine dV ?_; simp[aW, *]; done)|(refine ft ?_; simp[aW, *]; done)|(refine eY ?_; simp[aW, *]; done))
  | (refine (And.intro (fun _=>?_) (fun _=>?_):(_->_)/\(_->_))<;>(first|(exfalso; contradiction)|skip)))
theorem HF (s:RS):ai gT 120 [ph s,.lit .i64 3] (.bool (aW s 3)):=by
 refine Spec.enter an kR 100 Tryz.func120 rfl (by kernel_rfl) ?_
 repeat' ((try (conv=>whnf)); first
  | (refine aD ?_; first|(refine dV ?_; simp[aW, *]; done)|(refine ft ?_; simp[aW, *]; done)|(refine eY ?_; simp[aW, *]; done))
  | (refine (And.intro (fun _=>?_) (fun _=>?_):(_->_)/\(_->_))<;>(first|(exfalso; contradiction)|skip)))
theorem HH (s:RS):ai gT 120 [ph s,.lit .i64 4] (.bool (aW s 4)):=by
 refine Spec.enter an kR 100 Tryz.func120 rfl (by kernel_rfl) ?_
 repeat' ((try (conv=>whnf)); first
  | (refine aD ?_; first|(refine dV ?_; simp[aW, *]; done)|(refine ft ?_; simp[aW, *]; done)|(refine eY ?_; simp[aW, *]; done))
  | (refine (And.intro (fun _=>?_) (fun _=>?_):(_->_)/\(_->_))<;>(first|(exfalso; contradiction)|skip)))
theorem HI (s:RS):ai gT 120 [ph s,.lit .i64 5] (.bool (aW s 5)):=by
 refine Spec.enter an kR 100 Tryz.func120 rfl (by kernel_rfl) ?_
 repeat' ((try (conv=>whnf)); first
  | (refine aD ?_; first|(refine dV ?_; simp[aW, *]; done)|(refine ft ?_; simp[aW, *]; done)|(refine eY ?_; simp[aW, *]; done))
  | (refine (And.intro (fun _=>?_) (fun _=>?_):(_->_)/\(_->_))<;>(first|(exfalso; contradiction)|skip)))
theorem HJ (s:RS):ai gT 120 [ph s,.lit .i64 6] (.bool (aW s 6)):=by
 refine Spec.enter an kR 100 Tryz.func120 rfl (by kernel_rfl) ?_
 repeat' ((try (conv=>whnf)); first
  | (refine aD ?_; first|(refine dV ?_; simp[aW, *]; done)|(refine ft ?_; simp[aW, *]; done)|(refine eY ?_; simp[aW, *]; done))
  | (refine (And.intro (fun _=>?_) (fun _=>?_):(_->_)/\(_->_))<;>(first|(exfalso; contradiction)|skip)))
theorem HK (s:RS):ai gT 120 [ph s,.lit .i64 7] (.bool (aW s 7)):=by
 refine Spec.enter an kR 100 Tryz.func120 rfl (by kernel_rfl) ?_
 repeat' ((try (conv=>whnf)); first
  | (refine aD ?_; first|(refine dV ?_; simp[aW, *]; done)|(refine ft ?_; simp[aW, *]; done)|(refine eY ?_; simp[aW, *]; done))
  | (refine (And.intro (fun _=>?_) (fun _=>?_):(_->_)/\(_->_))<;>(first|(exfalso; contradiction)|skip)))
theorem HL (s:RS):ai gT 120 [ph s,.lit .i64 8] (.bool (aW s 8)):=by
 refine Spec.enter an kR 100 Tryz.func120 rfl (by kernel_rfl) ?_
 repeat' ((try (conv=>whnf)); first
  | (refine aD ?_; first|(refine dV ?_; simp[aW, *]; done)|(refine ft ?_; simp[aW, *]; done)|(refine eY ?_; simp[aW, *]; done))
  | (refine (And.intro (fun _=>?_) (fun _=>?_):(_->_)/\(_->_))<;>(first|(exfalso; contradiction)|skip)))
theorem HM (s:RS):ai gT 120 [ph s,.lit .i64 9] (.bool (aW s 9)):=by
 refine Spec.enter an kR 100 Tryz.func120 rfl (by kernel_rfl) ?_
 repeat' ((try (conv=>whnf)); first
  | (refine aD ?_; first|(refine dV ?_; simp[aW, *]; done)|(refine ft ?_; simp[aW, *]; done)|(refine eY ?_; simp[aW, *]; done))
  | (refine (And.intro (fun _=>?_) (fun _=>?_):(_->_)/\(_->_))<;>(first|(exfalso; contradiction)|skip)))
theorem DQ (s:RS):ai gT 120 [ph s,.lit .i64 10] (.bool (aW s 10)):=by
 refine Spec.enter an kR 100 Tryz.func120 rfl (by kernel_rfl) ?_
 repeat' ((try (conv=>whnf)); first
  | (refine aD ?_; first|(refine dV ?_; simp[aW, *]; done)|(refine ft ?_; simp[aW, *]; done)|(refine eY ?_; simp[aW, *]; done))
  | (refine (And.intro (fun _=>?_) (fun _=>?_):(_->_)/\(_->_))<;>(first|(exfalso; contradiction)|skip)))
theorem DS (s:RS):ai gT 120 [ph s,.lit .i64 11] (.bool (aW s 11)):=by
 refine Spec.enter an kR 100 Tryz.func120 rfl (by kernel_rfl) ?_
 repeat' ((try (conv=>whnf)); first
  | (refine aD ?_; first|(refine dV ?_; simp[aW, *]; done)|(refine ft ?_; simp[aW, *]; done)|(refine eY ?_; simp[aW, *]; done))
  | (refine (And.intro (fun _=>?_) (fun _=>?_):(_->_)/\(_->_))<;>(first|(exfalso; contradiction)|skip)))
theorem DT (s:RS):ai gT 120 [ph s,.lit .i64 12] (.bool (aW s 12)):=by
 refine Spec.enter an kR 100 Tryz.func120 rfl (by kernel_rfl) ?_
 repeat' ((try (conv=>whnf)); first
  | (refine aD ?_; first|(refine dV ?_; simp[aW, *]; done)|(refine ft ?_; simp[aW, *]; done)|(refine eY ?_; simp[aW, *]; done))
  | (refine (And.intro (fun _=>?_) (fun _=>?_):(_->_)/\(_->_))<;>(first|(exfalso; contradiction)|skip)))
theorem DU (s:RS):ai gT 120 [ph s,.lit .i64 13] (.bool (aW s 13)):=by
 refine Spec.enter an kR 100 Tryz.func120 rfl (by kernel_rfl) ?_
 repeat' ((try (conv=>whnf)); first
  | (refine aD ?_; first|(refine dV ?_; simp[aW, *]; done)|(refine ft ?_; simp[aW, *]; done)|(refine eY ?_; simp[aW, *]; done))
  | (refine (And.intro (fun _=>?_) (fun _=>?_):(_->_)/\(_->_))<;>(first|(exfalso; contradiction)|skip)))
theorem pn (s:RS) (c:Int):ai gT 120 [ph s,.int .i64 c] (.bool (aW s c)):=by
 by_cases h:c < 0\/13 < c
 ·exact z6 s c h
 ·have hc:c=0\/c=1\/c=2\/c=3\/c=4\/c=5\/c=6\/c=7\/c=8\/c=9\/c=10\/c=11\/c=12\/c=13:=by omega
  rcases hc with rfl|rfl|rfl|rfl|rfl|rfl|rfl|rfl|rfl|rfl|rfl|rfl|rfl|rfl
  
  ·exact dW rfl (HB s) (dX s)
  ·exact dW rfl (HD s) (dX s)
  ·exact dW rfl (HE s) (dX s)
  ·exact dW rfl (HF s) (dX s)
  ·exact dW rfl (HH s) (dX s)
  ·exact dW rfl (HI s) (dX s)
  ·exact dW rfl (HJ s) (dX s)
  ·exact dW rfl (HK s) (dX s)
  ·exact dW rfl (HL s) (dX s)
  ·exact dW rfl (HM s) (dX s)
  ·exact dW rfl (DQ s) (dX s)
  ·exact dW rfl (DS s) (dX s)
  ·exact dW rfl (DT s) (dX s)
  ·exact dW rfl (DU s) (dX s)
def fG (r v:Int):Int:=if r=13 then bits .andNot .u32 v 3 else v
theorem po (r v:Int):ai gT 119 [.int .i64 r,.int .u32 v] (.int .u32 (fG r v)):=by
 refine Spec.enter an XF 100 Tryz.func119 rfl (by kernel_rfl) ?_
 refine⟨fun h=>?_,fun h=>?_⟩
 ·exact aD (show bits .andNot .u32 v 3=fG r v by unfold fG; rw[if_pos h])
 ·exact aD (show v=fG r v by unfold fG; rw[if_neg h])
def iB (x:XS) (v:Int):XS:=if bits .or .u32 v 1=4294967295 then { x with kind:=1,code:=0 } else cD x 15 (bits .andNot .u32 v 1)
theorem yp (m:MS) (x:XS) (v:Int):Spec gT 109 [.ptr 3 0,.int .u32 v] (fS m x) [] fun y S'=>y = .tup []/\S'=fS m (iB x v):=by
 refine Spec.iJ (Spec.enter an Xw 100 Tryz.func109 rfl (by kernel_rfl) ?_)
 refine⟨fun h=>?_,fun h=>?_⟩
 ·have e:iB x v = { x with kind:=1,code:=0 }:=by unfold iB; rw[if_pos h]
  rw[e]
  exact rS
 ·have e:iB x v=cD x 15 (bits .andNot .u32 v 1):=by unfold iB; rw[if_neg h]
  rw[e]
  refine (bU m x 15 (bits .andNot .u32 v 1) (by decide) (by decide)).e ?_
  exact rS
def pq (x:XS) (lo hi:Int):XS:=cD (cD x x.i.rd lo) x.i.ra hi
theorem yq (m:MS) (x:XS) (lo hi:Int) (hx:kq x):Spec gT 117 [.ptr 3 0,.int .u32 lo,.int .u32 hi] (fS m x) [] fun y S'=>y = .tup []/\S'=fS m (pq x lo hi):=by
 refine Spec.iJ (Spec.enter an XE 100 Tryz.func117 rfl (by kernel_rfl) ?_)
 refine (bU m x x.i.rd lo hx.rd.1 hx.rd.2).e ?_
 refine (bU m (cD x x.i.rd lo) x.i.ra hi hx.ra.1 hx.ra.2).e ?_
 exact rS
def bJ (f:Int):Int :=
 if f=28 then 1 else if f=30 then 2 else if f=48 then 3 else if f=49 then 4 else if f=82 then 5 else if f=83 then 6 else if f=39 then 7 else if f=40 then 8 else if f=41 then 9 else if f=44 then 10 else 0
def cu (x:XS):XS :=
 if bJ x.i.form=1 then cD x x.i.rd (fG x.i.rd (IntKind.u32.wrap (au x x.i.rd+au x x.i.rm))) else if bJ x.i.form=2 then cD x x.i.rd (fG x.i.rd (au x x.i.rm)) else if bJ x.i.form=3 then cD x x.i.rd (IntKind.u32.wrap x.i.az) else if bJ x.i.form=4 then cD x x.i.rd (bits .or .u32 (bits .and .u32 (au x x.i.rd) 65535) (IntKind.u32.wrap (IntKind.u32.wrap x.i.az*Ev.aO .u32 16))) else if bJ x.i.form=5 then cD x x.i.rd (IntKind.u32.wrap (au x x.i.rn+IntKind.u32.wrap x.i.az)) else if bJ x.i.form=6 then cD x x.i.rd (IntKind.u32.wrap (au x x.i.rn - IntKind.u32.wrap x.i.az)) else if bJ x.i.form=7 then cD x x.i.rd (IntKind.u32.wrap (au x 13+IntKind.u32.wrap x.i.az)) else if bJ x.i.form=8 then cD x 13 (IntKind.u32.wrap (au x 13+IntKind.u32.wrap x.i.az)) else if bJ x.i.form=9 then cD x 13 (IntKind.u32.wrap (au x 13 - IntKind.u32.wrap x.i.az)) else if bJ x.i.form=10 then x else x
theorem DV {x:XS} (h:bJ x.i.form=1):cu x=cD x x.i.rd (fG x.i.rd (IntKind.u32.wrap (au x x.i.rd+au x x.i.rm))):=by unfold cu; rw[if_pos h]
theorem DW {x:XS} (h:bJ x.i.form=2):cu x=cD x x.i.rd (fG x.i.rd (au x x.i.rm)):=by unfold cu; rw[if_neg (by omega),if_pos h]
theorem DX {x:XS} (h:bJ x.i.form=3):cu x=cD x x.i.rd (IntKind.u32.wrap x.i.az):=by unfold cu; rw[if_neg (by omega),if_neg (by omega),if_pos h]
theorem DY {x:XS} (h:bJ x.i.form=4):cu x=cD x x.i.rd (bits .or .u32 (bits .and .u32 (au x x.i.rd) 65535) (IntKind.u32.wrap (IntKind.u32.wrap x.i.az*Ev.aO .u32 16))):=by unfold cu; rw[if_neg (by omega),if_neg (by omega),if_neg (by omega),if_pos h]
theorem DZ {x:XS} (h:bJ x.i.form=5):cu x=cD x x.i.rd (IntKind.u32.wrap (au x x.i.rn+IntKind.u32.wrap x.i.az)):=by unfold cu; rw[if_neg (by omega),if_neg (by omega),if_neg (by omega),if_neg (by omega),if_pos h]
theorem D0 {x:XS} (h:bJ x.i.form=6):cu x=cD x x.i.rd (IntKind.u32.wrap (au x x.i.rn - IntKind.u32.wrap x.i.az)):=by unfold cu; rw[if_neg (by omega),if_neg (by omega),if_neg (by omega),if_neg (by omega),if_neg (by omega),if_pos h]
theorem D1 {x:XS} (h:bJ x.i.form=7):cu x=cD x x.i.rd (IntKind.u32.wrap (au x 13+IntKind.u32.wrap x.i.az)):=by unfold cu; rw[if_neg (by omega),if_neg (by omega),if_neg (by omega),if_neg (by omega),if_neg (by omega),if_neg (by omega),if_pos h]
theorem D2 {x:XS} (h:bJ x.i.form=8):cu x=cD x 13 (IntKind.u32.wrap (au x 13+IntKind.u32.wrap x.i.az)):=by unfold cu; rw[if_neg (by omega),if_neg (by omega),if_neg (by omega),if_neg (by omega),if_neg (by omega),if_neg (by omega),if_neg (by omega),if_pos h]
theorem D3 {x:XS} (h:bJ x.i.form=9):cu x=cD x 13 (IntKind.u32.wrap (au x 13 - IntKind.u32.wrap x.i.az)):=by unfold cu; rw[if_neg (by omega),if_neg (by omega),if_neg (by omega),if_neg (by omega),if_neg (by omega),if_neg (by omega),if_neg (by omega),if_neg (by omega),if_pos h]
theorem z7 {x:XS} (h:bJ x.i.form=10):cu x=x:=by unfold cu; rw[if_neg (by omega),if_neg (by omega),if_neg (by omega),if_neg (by omega),if_neg (by omega),if_neg (by omega),if_neg (by omega),if_neg (by omega),if_neg (by omega),if_pos h]
theorem uH {x:XS} (h:bJ x.i.form=0):cu x=x:=by unfold cu; rw[if_neg (by omega),if_neg (by omega),if_neg (by omega),if_neg (by omega),if_neg (by omega),if_neg (by omega),if_neg (by omega),if_neg (by omega),if_neg (by omega),if_neg (by omega)]
theorem D4 (m:MS) (x:XS) (hx:kq x):Spec gT 84 [.ptr 3 0] (fS m x) [] fun y S'=>y = .bool (bJ x.i.form≠0)/\S'=fS m (cu x):=by
 refine Spec.iJ (Spec.enter an P84 100 Tryz.func84 rfl (by kernel_rfl) ?_)
 refine .inr ?_
 refine⟨fun ki=>?_,fun ki=>?_⟩
 ·have hc:bJ x.i.form=1:=by rw[show x.i.form=28 from ki]; rfl
  rw[DV hc]
  refine (bA m x x.i.rd hx.rd.1 hx.rd.2).e ?_
  refine (bA m x x.i.rm hx.rm.1 hx.rm.2).e ?_
  refine .inr ?_
  refine (po x.i.rd (IntKind.u32.wrap (au x x.i.rd+au x x.i.rm))).u ?_
  refine (bU m x x.i.rd (fG x.i.rd (IntKind.u32.wrap (au x x.i.rd+au x x.i.rm))) hx.rd.1 hx.rd.2).e ?_
  exact a_ (show bJ x.i.form≠0 by omega) (ah rfl)
 refine⟨fun h30=>?_,fun h30=>?_⟩
 ·have hc:bJ x.i.form=2:=by rw[show x.i.form=30 from h30]; rfl
  rw[DW hc]
  refine (bA m x x.i.rm hx.rm.1 hx.rm.2).e ?_
  refine (po x.i.rd (au x x.i.rm)).u ?_
  refine (bU m x x.i.rd (fG x.i.rd (au x x.i.rm)) hx.rd.1 hx.rd.2).e ?_
  exact a_ (show bJ x.i.form≠0 by omega) (ah rfl)
 refine⟨fun p4=>?_,fun p4=>?_⟩
 ·have hc:bJ x.i.form=3:=by rw[show x.i.form=48 from p4]; rfl
  rw[DX hc]
  refine (bU m x x.i.rd (IntKind.u32.wrap x.i.az) hx.rd.1 hx.rd.2).e ?_
  exact a_ (show bJ x.i.form≠0 by omega) (ah rfl)
 refine⟨fun h49=>?_,fun h49=>?_⟩
 ·have hc:bJ x.i.form=4:=by rw[show x.i.form=49 from h49]; rfl
  rw[DY hc]
  refine⟨by decide,.inr ?_⟩
  refine (bA m x x.i.rd hx.rd.1 hx.rd.2).e ?_
  refine (bU m x x.i.rd (bits .or .u32 (bits .and .u32 (au x x.i.rd) 65535) (IntKind.u32.wrap (IntKind.u32.wrap x.i.az*Ev.aO .u32 16))) hx.rd.1 hx.rd.2).e ?_
  exact a_ (show bJ x.i.form≠0 by omega) (ah rfl)
 refine⟨fun h82=>?_,fun h82=>?_⟩
 ·have hc:bJ x.i.form=5:=by rw[show x.i.form=82 from h82]; rfl
  rw[DZ hc]
  refine (bA m x x.i.rn hx.rn.1 hx.rn.2).e ?_
  refine .inr ?_
  refine (bU m x x.i.rd (IntKind.u32.wrap (au x x.i.rn+IntKind.u32.wrap x.i.az)) hx.rd.1 hx.rd.2).e ?_
  exact a_ (show bJ x.i.form≠0 by omega) (ah rfl)
 refine⟨fun h83=>?_,fun h83=>?_⟩
 ·have hc:bJ x.i.form=6:=by rw[show x.i.form=83 from h83]; rfl
  rw[D0 hc]
  refine (bA m x x.i.rn hx.rn.1 hx.rn.2).e ?_
  refine .inr ?_
  refine (bU m x x.i.rd (IntKind.u32.wrap (au x x.i.rn - IntKind.u32.wrap x.i.az)) hx.rd.1 hx.rd.2).e ?_
  exact a_ (show bJ x.i.form≠0 by omega) (ah rfl)
 refine⟨fun h39=>?_,fun h39=>?_⟩
 ·have hc:bJ x.i.form=7:=by rw[show x.i.form=39 from h39]; rfl
  rw[D1 hc]
  refine (bA m x 13 (by decide) (by decide)).e ?_
  refine .inr ?_
  refine (bU m x x.i.rd (IntKind.u32.wrap (au x 13+IntKind.u32.wrap x.i.az)) hx.rd.1 hx.rd.2).e ?_
  exact a_ (show bJ x.i.form≠0 by omega) (ah rfl)
 refine⟨fun h40=>?_,fun h40=>?_⟩
 ·have hc:bJ x.i.form=8:=by rw[show x.i.form=40 from h40]; rfl
  rw[D2 hc]
  refine (bA m x 13 (by decide) (by decide)).e ?_
  refine .inr ?_
  refine (bU m x 13 (IntKind.u32.wrap (au x 13+IntKind.u32.wrap x.i.az)) (by decide) (by decide)).e ?_
  exact a_ (show bJ x.i.form≠0 by omega) (ah rfl)
 refine⟨fun h41=>?_,fun h41=>?_⟩
 ·have hc:bJ x.i.form=9:=by rw[show x.i.form=41 from h41]; rfl
  rw[D3 hc]
  refine (bA m x 13 (by decide) (by decide)).e ?_
  refine .inr ?_
  refine (bU m x 13 (IntKind.u32.wrap (au x 13 - IntKind.u32.wrap x.i.az)) (by decide) (by decide)).e ?_
  exact a_ (show bJ x.i.form≠0 by omega) (ah rfl)
 refine⟨fun h44=>?_,fun h44=>?_⟩
 ·have hc:bJ x.i.form=10:=by rw[show x.i.form=44 from h44]; rfl
  rw[z7 hc]
  exact a_ (show bJ x.i.form≠0 by omega) (ah rfl)
 ·have hc:bJ x.i.form=0:=by unfold bJ; rw[if_neg (by omega),if_neg (by omega),if_neg (by omega),if_neg (by omega),if_neg (by omega),if_neg (by omega),if_neg (by omega),if_neg (by omega),if_neg (by omega),if_neg (by omega)]
  rw[uH hc]
  exact a_ (show ¬ bJ x.i.form≠0 from fun h=>h hc) (ah rfl)
theorem D5 (x:XS):bO (au x x.i.rn*au x x.i.rm % 4294967296):=by unfold bO; omega
theorem JV {x:XS} (h:kq x):bO (au x x.i.rn*au x x.i.rm / 4294967296):=by
 have a:=bH h x.i.rn
 have b:=bH h x.i.rm
 unfold bO at a b ⊢
 have h1:0<=au x x.i.rn*au x x.i.rm:=Int.mul_nonneg a.1 b.1
 have h2:au x x.i.rn*au x x.i.rm<=4294967295*4294967295:=Int.mul_le_mul a.2 b.2 b.1 (by decide)
 omega
def bF (f:Int):Int :=
 if f=25 then 1 else if f=92 then 2 else if f=93 then 3 else if f=94 then 4 else if f=95 then 5 else if f=96 then 6 else if f=97 then 7 else if f=98 then 8 else 0
def dQ (x:XS):XS :=
 if bF x.i.form=1 then cD (nY x (IntKind.u32.wrap (au x x.i.rd*au x x.i.rm))) x.i.rd (IntKind.u32.wrap (au x x.i.rd*au x x.i.rm)) else if bF x.i.form=2 then cD x x.i.rd (au x x.i.rn*au x x.i.rm % 4294967296) else if bF x.i.form=3 then cD x x.i.rd (IntKind.u32.wrap ((au x x.i.rn*au x x.i.rm % 4294967296)+au x x.i.ra)) else if bF x.i.form=4 then cD x x.i.rd (IntKind.u32.wrap (au x x.i.ra - (au x x.i.rn*au x x.i.rm % 4294967296))) else if bF x.i.form=5 then pq x (au x x.i.rn*au x x.i.rm % 4294967296) (au x x.i.rn*au x x.i.rm / 4294967296) else if bF x.i.form=6 then pq x (Rm.fy (au x x.i.rn*au x x.i.rm % 4294967296) (au x x.i.rd) 0) (Rm.fy (au x x.i.rn*au x x.i.rm / 4294967296) (au x x.i.ra) (Rm.jD (au x x.i.rn*au x x.i.rm % 4294967296) (au x x.i.rd) 0)) else if bF x.i.form=7 then cD { x with a:=au x x.i.rn,b:=au x x.i.rm } x.i.rd (IntKind.u32.wrap (au x x.i.rn / max (au x x.i.rm) 1*min (au x x.i.rm) 1)) else if bF x.i.form=8 then cD x x.i.rd (IntKind.u32.wrap (32 - (Lib.bitLen (au x x.i.rm).toNat:Int))) else x
theorem HN {x:XS} (h:bF x.i.form=1):dQ x=cD (nY x (IntKind.u32.wrap (au x x.i.rd*au x x.i.rm))) x.i.rd (IntKind.u32.wrap (au x x.i.rd*au x x.i.rm)):=by unfold dQ; rw[if_pos h]
theorem HO {x:XS} (h:bF x.i.form=2):dQ x=cD x x.i.rd (au x x.i.rn*au x x.i.rm % 4294967296):=by unfold dQ; rw[if_neg (by omega),if_pos h]
theorem HP {x:XS} (h:bF x.i.form=3):dQ x=cD x x.i.rd (IntKind.u32.wrap ((au x x.i.rn*au x x.i.rm % 4294967296)+au x x.i.ra)):=by unfold dQ; rw[if_neg (by omega),if_neg (by omega),if_pos h]
theorem HQ {x:XS} (h:bF x.i.form=4):dQ x=cD x x.i.rd (IntKind.u32.wrap (au x x.i.ra - (au x x.i.rn*au x x.i.rm % 4294967296))):=by unfold dQ; rw[if_neg (by omega),if_neg (by omega),if_neg (by omega),if_pos h]
theorem HR {x:XS} (h:bF x.i.form=5):dQ x=pq x (au x x.i.rn*au x x.i.rm % 4294967296) (au x x.i.rn*au x x.i.rm / 4294967296):=by unfold dQ; rw[if_neg (by omega),if_neg (by omega),if_neg (by omega),if_neg (by omega),if_pos h]
theorem HS {x:XS} (h:bF x.i.form=6):dQ x=pq x (Rm.fy (au x x.i.rn*au x x.i.rm % 4294967296) (au x x.i.rd) 0) (Rm.fy (au x x.i.rn*au x x.i.rm / 4294967296) (au x x.i.ra) (Rm.jD (au x x.i.rn*au x x.i.rm % 4294967296) (au x x.i.rd) 0)):=by unfold dQ; rw[if_neg (by omega),if_neg (by omega),if_neg (by omega),if_neg (by omega),if_neg (by omega),if_pos h]
theorem HT {x:XS} (h:bF x.i.form=7):dQ x=cD { x with a:=au x x.i.rn,b:=au x x.i.rm } x.i.rd (IntKind.u32.wrap (au x x.i.rn / max (au x x.i.rm) 1*min (au x x.i.rm) 1)):=by unfold dQ; rw[if_neg (by omega),if_neg (by omega),if_neg (by omega),if_neg (by omega),if_neg (by omega),if_neg (by omega),if_pos h]
theorem HU {x:XS} (h:bF x.i.form=8):dQ x=cD x x.i.rd (IntKind.u32.wrap (32 - (Lib.bitLen (au x x.i.rm).toNat:Int))):=by unfold dQ; rw[if_neg (by omega),if_neg (by omega),if_neg (by omega),if_neg (by omega),if_neg (by omega),if_neg (by omega),if_neg (by omega),if_pos h]
theorem yr {x:XS} (h:bF x.i.form=0):dQ x=x:=by unfold dQ; rw[if_neg (by omega),if_neg (by omega),if_neg (by omega),if_neg (by omega),if_neg (by omega),if_neg (by omega),if_neg (by omega),if_neg (by omega)]
theorem uI (m:MS) (x:XS) (hx:kq x):Spec gT 83 [.ptr 3 0] (fS m x) [] fun y S'=>y = .bool (bF x.i.form≠0)/\S'=fS m (dQ x):=by
 refine Spec.iJ (Spec.enter an P83 100 Tryz.func83 rfl (by kernel_rfl) ?_)
 have Hh:=D5 x
 have JT:=JV hx
 refine (bA m x x.i.rn hx.rn.1 hx.rn.2).e ?_
 refine (bA m x x.i.rm hx.rm.1 hx.rm.2).e ?_
 refine (zZ (au x x.i.rn) (au x x.i.rm) (bH hx _) (bH hx _)).u ?_
 refine⟨fun h25=>?_,fun h25=>?_⟩
 ·have hc:bF x.i.form=1:=by rw[show x.i.form=25 from h25]; rfl
  rw[HN hc]
  refine (bA m x x.i.rd hx.rd.1 hx.rd.2).e ?_
  refine .inr ?_
  refine (DP m x (IntKind.u32.wrap (au x x.i.rd*au x x.i.rm))).e ?_
  refine (bU m (nY x (IntKind.u32.wrap (au x x.i.rd*au x x.i.rm))) x.i.rd (IntKind.u32.wrap (au x x.i.rd*au x x.i.rm)) hx.rd.1 hx.rd.2).e ?_
  exact a_ (show bF x.i.form≠0 by omega) (ah rfl)
 refine⟨fun h92=>?_,fun h92=>?_⟩
 ·have hc:bF x.i.form=2:=by rw[show x.i.form=92 from h92]; rfl
  rw[HO hc]
  refine (bU m x x.i.rd (au x x.i.rn*au x x.i.rm % 4294967296) hx.rd.1 hx.rd.2).e ?_
  exact a_ (show bF x.i.form≠0 by omega) (ah rfl)
 refine⟨fun T9=>?_,fun T9=>?_⟩
 ·have hc:bF x.i.form=3:=by rw[show x.i.form=93 from T9]; rfl
  rw[HP hc]
  refine (bA m x x.i.ra hx.ra.1 hx.ra.2).e ?_
  refine .inr ?_
  refine (bU m x x.i.rd (IntKind.u32.wrap ((au x x.i.rn*au x x.i.rm % 4294967296)+au x x.i.ra)) hx.rd.1 hx.rd.2).e ?_
  exact a_ (show bF x.i.form≠0 by omega) (ah rfl)
 refine⟨fun T'=>?_,fun T'=>?_⟩
 ·have hc:bF x.i.form=4:=by rw[show x.i.form=94 from T']; rfl
  rw[HQ hc]
  refine (bA m x x.i.ra hx.ra.1 hx.ra.2).e ?_
  refine .inr ?_
  refine (bU m x x.i.rd (IntKind.u32.wrap (au x x.i.ra - (au x x.i.rn*au x x.i.rm % 4294967296))) hx.rd.1 hx.rd.2).e ?_
  exact a_ (show bF x.i.form≠0 by omega) (ah rfl)
 refine⟨fun h95=>?_,fun h95=>?_⟩
 ·have hc:bF x.i.form=5:=by rw[show x.i.form=95 from h95]; rfl
  rw[HR hc]
  refine (yq m x (au x x.i.rn*au x x.i.rm % 4294967296) (au x x.i.rn*au x x.i.rm / 4294967296) hx).e ?_
  exact a_ (show bF x.i.form≠0 by omega) (ah rfl)
 refine⟨fun h96=>?_,fun h96=>?_⟩
 ·have hc:bF x.i.form=6:=by rw[show x.i.form=96 from h96]; rfl
  rw[HS hc]
  refine (bA m x x.i.rd hx.rd.1 hx.rd.2).e ?_
  refine (pj (au x x.i.rn*au x x.i.rm % 4294967296) (au x x.i.rd) 0 Hh (bH hx _) (by decide)).u ?_
  refine (bA m x x.i.ra hx.ra.1 hx.ra.2).e ?_
  refine (pj (au x x.i.rn*au x x.i.rm / 4294967296) (au x x.i.ra) (Rm.jD (au x x.i.rn*au x x.i.rm % 4294967296) (au x x.i.rd) 0) JT (bH hx _) (Rm.xN (au x x.i.rn*au x x.i.rm % 4294967296) (au x x.i.rd) 0 (by decide) Hh.1 Hh.2 (bH hx _).1 (bH hx _).2).1).u ?_
  refine (yq m x (Rm.fy (au x x.i.rn*au x x.i.rm % 4294967296) (au x x.i.rd) 0) (Rm.fy (au x x.i.rn*au x x.i.rm / 4294967296) (au x x.i.ra) (Rm.jD (au x x.i.rn*au x x.i.rm % 4294967296) (au x x.i.rd) 0)) hx).e ?_
  exact a_ (show bF x.i.form≠0 by omega) (ah rfl)
 refine⟨fun T_=>?_,fun T_=>?_⟩
 ·have hc:bF x.i.form=7:=by rw[show x.i.form=97 from T_]; rfl
  rw[HT hc]
  refine⟨show max (au x x.i.rm) 1≠0 by omega,.inl ⟨(bH hx x.i.rn).1,show au x x.i.rn<=4294967295 from (bH hx x.i.rn).2,show (0:Int) < max (au x x.i.rm) 1 by omega,?_⟩⟩
  refine .inr ?_
  refine (bU m { x with a:=au x x.i.rn,b:=au x x.i.rm } x.i.rd (IntKind.u32.wrap (au x x.i.rn / max (au x x.i.rm) 1*min (au x x.i.rm) 1)) hx.rd.1 hx.rd.2).e ?_
  exact a_ (show bF x.i.form≠0 by omega) (ah rfl)
 refine⟨fun h98=>?_,fun h98=>?_⟩
 ·have hc:bF x.i.form=8:=by rw[show x.i.form=98 from h98]; rfl
  rw[HU hc]
  refine (Hw (au x x.i.rm) (bH hx _)).u ?_
  refine .inr ?_
  refine (bU m x x.i.rd (IntKind.u32.wrap (32 - (Lib.bitLen (au x x.i.rm).toNat:Int))) hx.rd.1 hx.rd.2).e ?_
  exact a_ (show bF x.i.form≠0 by omega) (ah rfl)
 ·have hc:bF x.i.form=0:=by unfold bF; rw[if_neg (by omega),if_neg (by omega),if_neg (by omega),if_neg (by omega),if_neg (by omega),if_neg (by omega),if_neg (by omega),if_neg (by omega)]
  rw[yr hc]
  exact a_ (show ¬ bF x.i.form≠0 from fun h=>h hc) (ah rfl)
end Go.Proofs.YtlgkljpgagfndaaGreatDoor.Pw

/- What this claim is proved with: no condition. -/
import Derived.Test.YtlgkljpgagfndaaGreatDoorNv21
set_option maxRecDepth 100000
set_option maxHeartbeats 4000000
set_option linter.unusedVariables false
set_option linter.unusedSimpArgs false
namespace Go.Proofs.YtlgkljpgagfndaaGreatDoor.Pw
open Go Go.RowKit
def aX (f:Int):Int :=
 if f=4\/f=6\/f=10\/f=55\/f=71 then 1 else if f=5\/f=7\/f=11\/f=58\/f=74 then 2 else if f=17\/f=56\/f=72 then 3 else if f=18\/f=57\/f=73 then 4 else if f=21 then 5 else if f=59\/f=75 then 6 else if f=9\/f=22\/f=29\/f=65\/f=81 then 7 else if f=23\/f=64\/f=80 then 8 else 0
def eR (x:XS):XS :=
 if aX x.i.form=1 then fB x x.i.rd (aW x) (bV x) 0 else if aX x.i.form=2 then fB x x.i.rd (aW x) (dA (bV x)) 1 else if aX x.i.form=3 then fB x x.i.rd (aW x) (bV x) x.s.C else if aX x.i.form=4 then fB x x.i.rd (aW x) (dA (bV x)) x.s.C else if aX x.i.form=5 then fB x x.i.rd 0 (dA (bV x)) 1 else if aX x.i.form=6 then fB x x.i.rd (bV x) (dA (aW x)) 1 else if aX x.i.form=7 then fB x (-1) (aW x) (dA (bV x)) 1 else if aX x.i.form=8 then fB x (-1) (aW x) (bV x) 0 else x
theorem nX {x:XS} (h:aX x.i.form=1):eR x=fB x x.i.rd (aW x) (bV x) 0:=by unfold eR; rw[if_pos h]
theorem nY {x:XS} (h:aX x.i.form=2):eR x=fB x x.i.rd (aW x) (dA (bV x)) 1:=by unfold eR; rw[if_neg (by omega),if_pos h]
theorem vr {x:XS} (h:aX x.i.form=3):eR x=fB x x.i.rd (aW x) (bV x) x.s.C:=by unfold eR; rw[if_neg (by omega),if_neg (by omega),if_pos h]
theorem vt {x:XS} (h:aX x.i.form=4):eR x=fB x x.i.rd (aW x) (dA (bV x)) x.s.C:=by unfold eR; rw[if_neg (by omega),if_neg (by omega),if_neg (by omega),if_pos h]
theorem L0 {x:XS} (h:aX x.i.form=5):eR x=fB x x.i.rd 0 (dA (bV x)) 1:=by unfold eR; rw[if_neg (by omega),if_neg (by omega),if_neg (by omega),if_neg (by omega),if_pos h]
theorem Bk {x:XS} (h:aX x.i.form=6):eR x=fB x x.i.rd (bV x) (dA (aW x)) 1:=by unfold eR; rw[if_neg (by omega),if_neg (by omega),if_neg (by omega),if_neg (by omega),if_neg (by omega),if_pos h]
theorem nZ {x:XS} (h:aX x.i.form=7):eR x=fB x (-1) (aW x) (dA (bV x)) 1:=by unfold eR; rw[if_neg (by omega),if_neg (by omega),if_neg (by omega),if_neg (by omega),if_neg (by omega),if_neg (by omega),if_pos h]
theorem vu {x:XS} (h:aX x.i.form=8):eR x=fB x (-1) (aW x) (bV x) 0:=by unfold eR; rw[if_neg (by omega),if_neg (by omega),if_neg (by omega),if_neg (by omega),if_neg (by omega),if_neg (by omega),if_neg (by omega),if_pos h]
theorem Bl {x:XS} (h:aX x.i.form=0):eR x=x:=by unfold eR; rw[if_neg (by omega),if_neg (by omega),if_neg (by omega),if_neg (by omega),if_neg (by omega),if_neg (by omega),if_neg (by omega),if_neg (by omega)]
theorem L1 (m:MS) (x:XS) (hx:lY x):Spec gT 80 [.ptr 3 0] (gU m x) [] fun y S'=>y = .bool (aX x.i.form≠0)/\S'=gU m (eR x):=by
 refine Spec.jS (Spec.enter al P80 100 Tryz.func80 rfl (by kernel_rfl) ?_)
 refine (xQ m x hx).e ?_
 refine (tV m x hx).e ?_
 refine⟨fun h4=>?_,fun h4=>?_⟩
 ·have hc:aX x.i.form=1:=by rw[show x.i.form=4 from h4]; rfl
  rw[nX hc]
  refine (cW m x x.i.rd (aW x) (bV x) 0 hx.rd.2 (bJ hx) (ck hx) (by decide)).e ?_
  exact bm (show aX x.i.form≠0 by omega) (aj rfl)
 refine⟨fun h6=>?_,fun h6=>?_⟩
 ·have hc:aX x.i.form=1:=by rw[show x.i.form=6 from h6]; rfl
  rw[nX hc]
  refine (cW m x x.i.rd (aW x) (bV x) 0 hx.rd.2 (bJ hx) (ck hx) (by decide)).e ?_
  exact bm (show aX x.i.form≠0 by omega) (aj rfl)
 refine⟨fun cV=>?_,fun cV=>?_⟩
 ·have hc:aX x.i.form=1:=by rw[show x.i.form=10 from cV]; rfl
  rw[nX hc]
  refine (cW m x x.i.rd (aW x) (bV x) 0 hx.rd.2 (bJ hx) (ck hx) (by decide)).e ?_
  exact bm (show aX x.i.form≠0 by omega) (aj rfl)
 refine⟨fun h55=>?_,fun h55=>?_⟩
 ·have hc:aX x.i.form=1:=by rw[show x.i.form=55 from h55]; rfl
  rw[nX hc]
  refine (cW m x x.i.rd (aW x) (bV x) 0 hx.rd.2 (bJ hx) (ck hx) (by decide)).e ?_
  exact bm (show aX x.i.form≠0 by omega) (aj rfl)
 refine⟨fun h71=>?_,fun h71=>?_⟩
 ·have hc:aX x.i.form=1:=by rw[show x.i.form=71 from h71]; rfl
  rw[nX hc]
  refine (cW m x x.i.rd (aW x) (bV x) 0 hx.rd.2 (bJ hx) (ck hx) (by decide)).e ?_
  exact bm (show aX x.i.form≠0 by omega) (aj rfl)
 refine⟨fun h5=>?_,fun h5=>?_⟩
 ·have hc:aX x.i.form=2:=by rw[show x.i.form=5 from h5]; rfl
  rw[nY hc]
  refine (cW m x x.i.rd (aW x) (dA (bV x)) 1 hx.rd.2 (bJ hx) (dm (ck hx)) (by decide)).e ?_
  exact bm (show aX x.i.form≠0 by omega) (aj rfl)
 refine⟨fun h7=>?_,fun h7=>?_⟩
 ·have hc:aX x.i.form=2:=by rw[show x.i.form=7 from h7]; rfl
  rw[nY hc]
  refine (cW m x x.i.rd (aW x) (dA (bV x)) 1 hx.rd.2 (bJ hx) (dm (ck hx)) (by decide)).e ?_
  exact bm (show aX x.i.form≠0 by omega) (aj rfl)
 refine⟨fun h11=>?_,fun h11=>?_⟩
 ·have hc:aX x.i.form=2:=by rw[show x.i.form=11 from h11]; rfl
  rw[nY hc]
  refine (cW m x x.i.rd (aW x) (dA (bV x)) 1 hx.rd.2 (bJ hx) (dm (ck hx)) (by decide)).e ?_
  exact bm (show aX x.i.form≠0 by omega) (aj rfl)
 refine⟨fun h58=>?_,fun h58=>?_⟩
 ·have hc:aX x.i.form=2:=by rw[show x.i.form=58 from h58]; rfl
  rw[nY hc]
  refine (cW m x x.i.rd (aW x) (dA (bV x)) 1 hx.rd.2 (bJ hx) (dm (ck hx)) (by decide)).e ?_
  exact bm (show aX x.i.form≠0 by omega) (aj rfl)
 refine⟨fun h74=>?_,fun h74=>?_⟩
 ·have hc:aX x.i.form=2:=by rw[show x.i.form=74 from h74]; rfl
  rw[nY hc]
  refine (cW m x x.i.rd (aW x) (dA (bV x)) 1 hx.rd.2 (bJ hx) (dm (ck hx)) (by decide)).e ?_
  exact bm (show aX x.i.form≠0 by omega) (aj rfl)
 refine⟨fun Vg=>?_,fun Vg=>?_⟩
 ·have hc:aX x.i.form=3:=by rw[show x.i.form=17 from Vg]; rfl
  rw[vr hc]
  refine (cW m x x.i.rd (aW x) (bV x) x.s.C hx.rd.2 (bJ hx) (ck hx) hx.c.1).e ?_
  exact bm (show aX x.i.form≠0 by omega) (aj rfl)
 refine⟨fun h56=>?_,fun h56=>?_⟩
 ·have hc:aX x.i.form=3:=by rw[show x.i.form=56 from h56]; rfl
  rw[vr hc]
  refine (cW m x x.i.rd (aW x) (bV x) x.s.C hx.rd.2 (bJ hx) (ck hx) hx.c.1).e ?_
  exact bm (show aX x.i.form≠0 by omega) (aj rfl)
 refine⟨fun h72=>?_,fun h72=>?_⟩
 ·have hc:aX x.i.form=3:=by rw[show x.i.form=72 from h72]; rfl
  rw[vr hc]
  refine (cW m x x.i.rd (aW x) (bV x) x.s.C hx.rd.2 (bJ hx) (ck hx) hx.c.1).e ?_
  exact bm (show aX x.i.form≠0 by omega) (aj rfl)
 refine⟨fun h18=>?_,fun h18=>?_⟩
 ·have hc:aX x.i.form=4:=by rw[show x.i.form=18 from h18]; rfl
  rw[vt hc]
  refine (cW m x x.i.rd (aW x) (dA (bV x)) x.s.C hx.rd.2 (bJ hx) (dm (ck hx)) hx.c.1).e ?_
  exact bm (show aX x.i.form≠0 by omega) (aj rfl)
 refine⟨fun h57=>?_,fun h57=>?_⟩
 ·have hc:aX x.i.form=4:=by rw[show x.i.form=57 from h57]; rfl
  rw[vt hc]
  refine (cW m x x.i.rd (aW x) (dA (bV x)) x.s.C hx.rd.2 (bJ hx) (dm (ck hx)) hx.c.1).e ?_
  exact bm (show aX x.i.form≠0 by omega) (aj rfl)
 refine⟨fun h73=>?_,fun h73=>?_⟩
 ·have hc:aX x.i.form=4:=by rw[show x.i.form=73 from h73]; rfl
  rw[vt hc]
  refine (cW m x x.i.rd (aW x) (dA (bV x)) x.s.C hx.rd.2 (bJ hx) (dm (ck hx)) hx.c.1).e ?_
  exact bm (show aX x.i.form≠0 by omega) (aj rfl)
 refine⟨fun h21=>?_,fun h21=>?_⟩
 ·have hc:aX x.i.form=5:=by rw[show x.i.form=21 from h21]; rfl
  rw[L0 hc]
  refine (cW m x x.i.rd 0 (dA (bV x)) 1 hx.rd.2 (by unfold a_; omega) (dm (ck hx)) (by decide)).e ?_
  exact bm (show aX x.i.form≠0 by omega) (aj rfl)
 refine⟨fun h59=>?_,fun h59=>?_⟩
 ·have hc:aX x.i.form=6:=by rw[show x.i.form=59 from h59]; rfl
  rw[Bk hc]
  refine (cW m x x.i.rd (bV x) (dA (aW x)) 1 hx.rd.2 (ck hx) (dm (bJ hx)) (by decide)).e ?_
  exact bm (show aX x.i.form≠0 by omega) (aj rfl)
 refine⟨fun h75=>?_,fun h75=>?_⟩
 ·have hc:aX x.i.form=6:=by rw[show x.i.form=75 from h75]; rfl
  rw[Bk hc]
  refine (cW m x x.i.rd (bV x) (dA (aW x)) 1 hx.rd.2 (ck hx) (dm (bJ hx)) (by decide)).e ?_
  exact bm (show aX x.i.form≠0 by omega) (aj rfl)
 refine⟨fun h9=>?_,fun h9=>?_⟩
 ·have hc:aX x.i.form=7:=by rw[show x.i.form=9 from h9]; rfl
  rw[nZ hc]
  refine (cW m x (-1) (aW x) (dA (bV x)) 1 (by decide) (bJ hx) (dm (ck hx)) (by decide)).e ?_
  exact bm (show aX x.i.form≠0 by omega) (aj rfl)
 refine⟨fun h22=>?_,fun h22=>?_⟩
 ·have hc:aX x.i.form=7:=by rw[show x.i.form=22 from h22]; rfl
  rw[nZ hc]
  refine (cW m x (-1) (aW x) (dA (bV x)) 1 (by decide) (bJ hx) (dm (ck hx)) (by decide)).e ?_
  exact bm (show aX x.i.form≠0 by omega) (aj rfl)
 refine⟨fun h29=>?_,fun h29=>?_⟩
 ·have hc:aX x.i.form=7:=by rw[show x.i.form=29 from h29]; rfl
  rw[nZ hc]
  refine (cW m x (-1) (aW x) (dA (bV x)) 1 (by decide) (bJ hx) (dm (ck hx)) (by decide)).e ?_
  exact bm (show aX x.i.form≠0 by omega) (aj rfl)
 refine⟨fun h65=>?_,fun h65=>?_⟩
 ·have hc:aX x.i.form=7:=by rw[show x.i.form=65 from h65]; rfl
  rw[nZ hc]
  refine (cW m x (-1) (aW x) (dA (bV x)) 1 (by decide) (bJ hx) (dm (ck hx)) (by decide)).e ?_
  exact bm (show aX x.i.form≠0 by omega) (aj rfl)
 refine⟨fun h81=>?_,fun h81=>?_⟩
 ·have hc:aX x.i.form=7:=by rw[show x.i.form=81 from h81]; rfl
  rw[nZ hc]
  refine (cW m x (-1) (aW x) (dA (bV x)) 1 (by decide) (bJ hx) (dm (ck hx)) (by decide)).e ?_
  exact bm (show aX x.i.form≠0 by omega) (aj rfl)
 refine⟨fun h23=>?_,fun h23=>?_⟩
 ·have hc:aX x.i.form=8:=by rw[show x.i.form=23 from h23]; rfl
  rw[vu hc]
  refine (cW m x (-1) (aW x) (bV x) 0 (by decide) (bJ hx) (ck hx) (by decide)).e ?_
  exact bm (show aX x.i.form≠0 by omega) (aj rfl)
 refine⟨fun h64=>?_,fun h64=>?_⟩
 ·have hc:aX x.i.form=8:=by rw[show x.i.form=64 from h64]; rfl
  rw[vu hc]
  refine (cW m x (-1) (aW x) (bV x) 0 (by decide) (bJ hx) (ck hx) (by decide)).e ?_
  exact bm (show aX x.i.form≠0 by omega) (aj rfl)
 refine⟨fun h80=>?_,fun h80=>?_⟩
 ·have hc:aX x.i.form=8:=by rw[show x.i.form=80 from h80]; rfl
  rw[vu hc]
  refine (cW m x (-1) (aW x) (bV x) 0 (by decide) (bJ hx) (ck hx) (by decide)).e ?_
  exact bm (show aX x.i.form≠0 by omega) (aj rfl)
 ·have hc:aX x.i.form=0:=by unfold aX; rw[if_neg (by omega),if_neg (by omega),if_neg (by omega),if_neg (by omega),if_neg (by omega),if_neg (by omega),if_neg (by omega),if_neg (by omega)]
  rw[Bl hc]
  exact bm (show ¬ aX x.i.form≠0 from fun h=>h hc) (aj rfl)
def aY (f:Int):Int :=
 if f=8\/f=60\/f=76 then 1 else if f=27\/f=61\/f=77 then 2 else if f=12\/f=50\/f=66 then 3 else if f=24\/f=52\/f=68 then 4 else if f=13\/f=54\/f=70 then 5 else if f=26\/f=51\/f=67 then 6 else if f=53\/f=69 then 7 else if f=20\/f=62\/f=78 then 8 else if f=63\/f=79 then 9 else 0
def cA (x:XS):XS :=
 if aY x.i.form=1 then bX x x.i.rd (bV x) (dp x) else if aY x.i.form=2 then bX x x.i.rd (dA (bV x)) (dp x) else if aY x.i.form=3 then bX x x.i.rd (bits .and .u32 (aW x) (bV x)) (dp x) else if aY x.i.form=4 then bX x x.i.rd (bits .or .u32 (aW x) (bV x)) (dp x) else if aY x.i.form=5 then bX x x.i.rd (bits .xor .u32 (aW x) (bV x)) (dp x) else if aY x.i.form=6 then bX x x.i.rd (bits .andNot .u32 (aW x) (bV x)) (dp x) else if aY x.i.form=7 then bX x x.i.rd (bits .or .u32 (aW x) (dA (bV x))) (dp x) else if aY x.i.form=8 then bX x (-1) (bits .and .u32 (aW x) (bV x)) (dp x) else if aY x.i.form=9 then bX x (-1) (bits .xor .u32 (aW x) (bV x)) (dp x) else x
theorem oX {x:XS} (h:aY x.i.form=1):cA x=bX x x.i.rd (bV x) (dp x):=by unfold cA; rw[if_pos h]
theorem oY {x:XS} (h:aY x.i.form=2):cA x=bX x x.i.rd (dA (bV x)) (dp x):=by unfold cA; rw[if_neg (by omega),if_pos h]
theorem oZ {x:XS} (h:aY x.i.form=3):cA x=bX x x.i.rd (bits .and .u32 (aW x) (bV x)) (dp x):=by unfold cA; rw[if_neg (by omega),if_neg (by omega),if_pos h]
theorem o1 {x:XS} (h:aY x.i.form=4):cA x=bX x x.i.rd (bits .or .u32 (aW x) (bV x)) (dp x):=by unfold cA; rw[if_neg (by omega),if_neg (by omega),if_neg (by omega),if_pos h]
theorem o4 {x:XS} (h:aY x.i.form=5):cA x=bX x x.i.rd (bits .xor .u32 (aW x) (bV x)) (dp x):=by unfold cA; rw[if_neg (by omega),if_neg (by omega),if_neg (by omega),if_neg (by omega),if_pos h]
theorem o5 {x:XS} (h:aY x.i.form=6):cA x=bX x x.i.rd (bits .andNot .u32 (aW x) (bV x)) (dp x):=by unfold cA; rw[if_neg (by omega),if_neg (by omega),if_neg (by omega),if_neg (by omega),if_neg (by omega),if_pos h]
theorem tW {x:XS} (h:aY x.i.form=7):cA x=bX x x.i.rd (bits .or .u32 (aW x) (dA (bV x))) (dp x):=by unfold cA; rw[if_neg (by omega),if_neg (by omega),if_neg (by omega),if_neg (by omega),if_neg (by omega),if_neg (by omega),if_pos h]
theorem o6 {x:XS} (h:aY x.i.form=8):cA x=bX x (-1) (bits .and .u32 (aW x) (bV x)) (dp x):=by unfold cA; rw[if_neg (by omega),if_neg (by omega),if_neg (by omega),if_neg (by omega),if_neg (by omega),if_neg (by omega),if_neg (by omega),if_pos h]
theorem tX {x:XS} (h:aY x.i.form=9):cA x=bX x (-1) (bits .xor .u32 (aW x) (bV x)) (dp x):=by unfold cA; rw[if_neg (by omega),if_neg (by omega),if_neg (by omega),if_neg (by omega),if_neg (by omega),if_neg (by omega),if_neg (by omega),if_neg (by omega),if_pos h]
theorem tY {x:XS} (h:aY x.i.form=0):cA x=x:=by unfold cA; rw[if_neg (by omega),if_neg (by omega),if_neg (by omega),if_neg (by omega),if_neg (by omega),if_neg (by omega),if_neg (by omega),if_neg (by omega),if_neg (by omega)]
theorem DD (m:MS) (x:XS) (hx:lY x):Spec gT 81 [.ptr 3 0] (gU m x) [] fun y S'=>y = .bool (aY x.i.form≠0)/\S'=gU m (cA x):=by
 refine Spec.jS (Spec.enter al P81 100 Tryz.func81 rfl (by kernel_rfl) ?_)
 refine (xQ m x hx).e ?_
 refine (tV m x hx).e ?_
 refine⟨fun h8=>?_,fun h8=>?_⟩
 ·have hc:aY x.i.form=1:=by rw[show x.i.form=8 from h8]; rfl
  rw[oX hc]
  refine (cd m x x.i.rd (bV x) (dp x) hx.rd.2).e ?_
  exact bm (show aY x.i.form≠0 by omega) (aj rfl)
 refine⟨fun h60=>?_,fun h60=>?_⟩
 ·have hc:aY x.i.form=1:=by rw[show x.i.form=60 from h60]; rfl
  rw[oX hc]
  refine (cd m x x.i.rd (bV x) (dp x) hx.rd.2).e ?_
  exact bm (show aY x.i.form≠0 by omega) (aj rfl)
 refine⟨fun h76=>?_,fun h76=>?_⟩
 ·have hc:aY x.i.form=1:=by rw[show x.i.form=76 from h76]; rfl
  rw[oX hc]
  refine (cd m x x.i.rd (bV x) (dp x) hx.rd.2).e ?_
  exact bm (show aY x.i.form≠0 by omega) (aj rfl)
 refine⟨fun h27=>?_,fun h27=>?_⟩
 ·have hc:aY x.i.form=2:=by rw[show x.i.form=27 from h27]; rfl
  rw[oY hc]
  refine (cd m x x.i.rd (dA (bV x)) (dp x) hx.rd.2).e ?_
  exact bm (show aY x.i.form≠0 by omega) (aj rfl)
 refine⟨fun h61=>?_,fun h61=>?_⟩
 ·have hc:aY x.i.form=2:=by rw[show x.i.form=61 from h61]; rfl
  rw[oY hc]
  refine (cd m x x.i.rd (dA (bV x)) (dp x) hx.rd.2).e ?_
  exact bm (show aY x.i.form≠0 by omega) (aj rfl)
 refine⟨fun h77=>?_,fun h77=>?_⟩
 ·have hc:aY x.i.form=2:=by rw[show x.i.form=77 from h77]; rfl
  rw[oY hc]
  refine (cd m x x.i.rd (dA (bV x)) (dp x) hx.rd.2).e ?_
  exact bm (show aY x.i.form≠0 by omega) (aj rfl)
 refine⟨fun h12=>?_,fun h12=>?_⟩
 ·have hc:aY x.i.form=3:=by rw[show x.i.form=12 from h12]; rfl
  rw[oZ hc]
  refine (cd m x x.i.rd (bits .and .u32 (aW x) (bV x)) (dp x) hx.rd.2).e ?_
  exact bm (show aY x.i.form≠0 by omega) (aj rfl)
 refine⟨fun h50=>?_,fun h50=>?_⟩
 ·have hc:aY x.i.form=3:=by rw[show x.i.form=50 from h50]; rfl
  rw[oZ hc]
  refine (cd m x x.i.rd (bits .and .u32 (aW x) (bV x)) (dp x) hx.rd.2).e ?_
  exact bm (show aY x.i.form≠0 by omega) (aj rfl)
 refine⟨fun h66=>?_,fun h66=>?_⟩
 ·have hc:aY x.i.form=3:=by rw[show x.i.form=66 from h66]; rfl
  rw[oZ hc]
  refine (cd m x x.i.rd (bits .and .u32 (aW x) (bV x)) (dp x) hx.rd.2).e ?_
  exact bm (show aY x.i.form≠0 by omega) (aj rfl)
 refine⟨fun h24=>?_,fun h24=>?_⟩
 ·have hc:aY x.i.form=4:=by rw[show x.i.form=24 from h24]; rfl
  rw[o1 hc]
  refine (cd m x x.i.rd (bits .or .u32 (aW x) (bV x)) (dp x) hx.rd.2).e ?_
  exact bm (show aY x.i.form≠0 by omega) (aj rfl)
 refine⟨fun h52=>?_,fun h52=>?_⟩
 ·have hc:aY x.i.form=4:=by rw[show x.i.form=52 from h52]; rfl
  rw[o1 hc]
  refine (cd m x x.i.rd (bits .or .u32 (aW x) (bV x)) (dp x) hx.rd.2).e ?_
  exact bm (show aY x.i.form≠0 by omega) (aj rfl)
 refine⟨fun h68=>?_,fun h68=>?_⟩
 ·have hc:aY x.i.form=4:=by rw[show x.i.form=68 from h68]; rfl
  rw[o1 hc]
  refine (cd m x x.i.rd (bits .or .u32 (aW x) (bV x)) (dp x) hx.rd.2).e ?_
  exact bm (show aY x.i.form≠0 by omega) (aj rfl)
 refine⟨fun Y1=>?_,fun Y1=>?_⟩
 ·have hc:aY x.i.form=5:=by rw[show x.i.form=13 from Y1]; rfl
  rw[o4 hc]
  refine (cd m x x.i.rd (bits .xor .u32 (aW x) (bV x)) (dp x) hx.rd.2).e ?_
  exact bm (show aY x.i.form≠0 by omega) (aj rfl)
 refine⟨fun h54=>?_,fun h54=>?_⟩
 ·have hc:aY x.i.form=5:=by rw[show x.i.form=54 from h54]; rfl
  rw[o4 hc]
  refine (cd m x x.i.rd (bits .xor .u32 (aW x) (bV x)) (dp x) hx.rd.2).e ?_
  exact bm (show aY x.i.form≠0 by omega) (aj rfl)
 refine⟨fun h70=>?_,fun h70=>?_⟩
 ·have hc:aY x.i.form=5:=by rw[show x.i.form=70 from h70]; rfl
  rw[o4 hc]
  refine (cd m x x.i.rd (bits .xor .u32 (aW x) (bV x)) (dp x) hx.rd.2).e ?_
  exact bm (show aY x.i.form≠0 by omega) (aj rfl)
 refine⟨fun h26=>?_,fun h26=>?_⟩
 ·have hc:aY x.i.form=6:=by rw[show x.i.form=26 from h26]; rfl
  rw[o5 hc]
  refine (cd m x x.i.rd (bits .andNot .u32 (aW x) (bV x)) (dp x) hx.rd.2).e ?_
  exact bm (show aY x.i.form≠0 by omega) (aj rfl)
 refine⟨fun h51=>?_,fun h51=>?_⟩
 ·have hc:aY x.i.form=6:=by rw[show x.i.form=51 from h51]; rfl
  rw[o5 hc]
  refine (cd m x x.i.rd (bits .andNot .u32 (aW x) (bV x)) (dp x) hx.rd.2).e ?_
  exact bm (show aY x.i.form≠0 by omega) (aj rfl)
 refine⟨fun h67=>?_,fun h67=>?_⟩
 ·have hc:aY x.i.form=6:=by rw[show x.i.form=67 from h67]; rfl
  rw[o5 hc]
  refine (cd m x x.i.rd (bits .andNot .u32 (aW x) (bV x)) (dp x) hx.rd.2).e ?_
  exact bm (show aY x.i.form≠0 by omega) (aj rfl)
 refine⟨fun h53=>?_,fun h53=>?_⟩
 ·have hc:aY x.i.form=7:=by rw[show x.i.form=53 from h53]; rfl
  rw[tW hc]
  refine (cd m x x.i.rd (bits .or .u32 (aW x) (dA (bV x))) (dp x) hx.rd.2).e ?_
  exact bm (show aY x.i.form≠0 by omega) (aj rfl)
 refine⟨fun h69=>?_,fun h69=>?_⟩
 ·have hc:aY x.i.form=7:=by rw[show x.i.form=69 from h69]; rfl
  rw[tW hc]
  refine (cd m x x.i.rd (bits .or .u32 (aW x) (dA (bV x))) (dp x) hx.rd.2).e ?_
  exact bm (show aY x.i.form≠0 by omega) (aj rfl)
 refine⟨fun h20=>?_,fun h20=>?_⟩
 ·have hc:aY x.i.form=8:=by rw[show x.i.form=20 from h20]; rfl
  rw[o6 hc]
  refine (cd m x (-1) (bits .and .u32 (aW x) (bV x)) (dp x) (by decide)).e ?_
  exact bm (show aY x.i.form≠0 by omega) (aj rfl)
 refine⟨fun h62=>?_,fun h62=>?_⟩
 ·have hc:aY x.i.form=8:=by rw[show x.i.form=62 from h62]; rfl
  rw[o6 hc]
  refine (cd m x (-1) (bits .and .u32 (aW x) (bV x)) (dp x) (by decide)).e ?_
  exact bm (show aY x.i.form≠0 by omega) (aj rfl)
 refine⟨fun h78=>?_,fun h78=>?_⟩
 ·have hc:aY x.i.form=8:=by rw[show x.i.form=78 from h78]; rfl
  rw[o6 hc]
  refine (cd m x (-1) (bits .and .u32 (aW x) (bV x)) (dp x) (by decide)).e ?_
  exact bm (show aY x.i.form≠0 by omega) (aj rfl)
 refine⟨fun h63=>?_,fun h63=>?_⟩
 ·have hc:aY x.i.form=9:=by rw[show x.i.form=63 from h63]; rfl
  rw[tX hc]
  refine (cd m x (-1) (bits .xor .u32 (aW x) (bV x)) (dp x) (by decide)).e ?_
  exact bm (show aY x.i.form≠0 by omega) (aj rfl)
 refine⟨fun h79=>?_,fun h79=>?_⟩
 ·have hc:aY x.i.form=9:=by rw[show x.i.form=79 from h79]; rfl
  rw[tX hc]
  refine (cd m x (-1) (bits .xor .u32 (aW x) (bV x)) (dp x) (by decide)).e ?_
  exact bm (show aY x.i.form≠0 by omega) (aj rfl)
 ·have hc:aY x.i.form=0:=by unfold aY; rw[if_neg (by omega),if_neg (by omega),if_neg (by omega),if_neg (by omega),if_neg (by omega),if_neg (by omega),if_neg (by omega),if_neg (by omega),if_neg (by omega)]
  rw[tY hc]
  exact bm (show ¬ aY x.i.form≠0 from fun h=>h hc) (aj rfl)
def vv (x:XS):Int:=bits .and .u32 (an x x.i.rm) 255
theorem ft {x:XS} (h:lY x):0<=vv x/\vv x<=255:=by
 unfold vv
 have b:=bM h x.i.rm
 rw[Rm.cj _ b.1 b.2]; omega
def cT (f:Int):Int :=
 if f=1\/f=2\/f=3 then 1 else if f=14\/f=15\/f=16 then 2 else if f=19 then 3 else if f=88\/f=89\/f=90\/f=91 then 4 else 0
def dW (x:XS):XS :=
 if cT x.i.form=1 then iK x (x.i.form - 1) (an x x.i.rm) x.i.az else if cT x.i.form=2 then iK x (x.i.form - 14) (an x x.i.rd) (vv x) else if cT x.i.form=3 then iK x 3 (an x x.i.rd) (vv x) else if cT x.i.form=4 then iK x (x.i.form - 88) (an x x.i.rn) (vv x) else x
theorem o7 {x:XS} (h:cT x.i.form=1):dW x=iK x (x.i.form - 1) (an x x.i.rm) x.i.az:=by unfold dW; rw[if_pos h]
theorem o8 {x:XS} (h:cT x.i.form=2):dW x=iK x (x.i.form - 14) (an x x.i.rd) (vv x):=by unfold dW; rw[if_neg (by omega),if_pos h]
theorem DE {x:XS} (h:cT x.i.form=3):dW x=iK x 3 (an x x.i.rd) (vv x):=by unfold dW; rw[if_neg (by omega),if_neg (by omega),if_pos h]
theorem lN {x:XS} (h:cT x.i.form=4):dW x=iK x (x.i.form - 88) (an x x.i.rn) (vv x):=by unfold dW; rw[if_neg (by omega),if_neg (by omega),if_neg (by omega),if_pos h]
theorem tZ {x:XS} (h:cT x.i.form=0):dW x=x:=by unfold dW; rw[if_neg (by omega),if_neg (by omega),if_neg (by omega),if_neg (by omega)]
theorem DF (m:MS) (x:XS) (hx:lY x):Spec gT 82 [.ptr 3 0] (gU m x) [] fun y S'=>y = .bool (cT x.i.form≠0)/\S'=gU m (dW x):=by
 refine Spec.jS (Spec.enter al P82 100 Tryz.func82 rfl (by kernel_rfl) ?_)
 have Nc:=ft hx
 refine (bF m x x.i.rm hx.rm.1 hx.rm.2).e ?_
 refine li ?_ (show _<=vv x/\vv x<=_ by omega)
 refine⟨fun h1=>?_,fun h1=>?_⟩
 ·have hc:cT x.i.form=1:=by rw[show x.i.form=1 from h1]; rfl
  rw[o7 hc]
  refine li ?_ (show _<=x.i.form - 1/\x.i.form - 1<=_ by omega)
  refine (bF m x x.i.rm hx.rm.1 hx.rm.2).e ?_
  have hl:=hx.low (by omega)
  refine (eH m x (x.i.form - 1) (an x x.i.rm) x.i.az hx (by omega) (by omega) hl.1 (by omega) (bM hx _)).e ?_
  exact bm (show cT x.i.form≠0 by omega) (aj rfl)
 refine⟨fun h2=>?_,fun h2=>?_⟩
 ·have hc:cT x.i.form=1:=by rw[show x.i.form=2 from h2]; rfl
  rw[o7 hc]
  refine li ?_ (show _<=x.i.form - 1/\x.i.form - 1<=_ by omega)
  refine (bF m x x.i.rm hx.rm.1 hx.rm.2).e ?_
  have hl:=hx.low (by omega)
  refine (eH m x (x.i.form - 1) (an x x.i.rm) x.i.az hx (by omega) (by omega) hl.1 (by omega) (bM hx _)).e ?_
  exact bm (show cT x.i.form≠0 by omega) (aj rfl)
 refine⟨fun h3=>?_,fun h3=>?_⟩
 ·have hc:cT x.i.form=1:=by rw[show x.i.form=3 from h3]; rfl
  rw[o7 hc]
  refine li ?_ (show _<=x.i.form - 1/\x.i.form - 1<=_ by omega)
  refine (bF m x x.i.rm hx.rm.1 hx.rm.2).e ?_
  have hl:=hx.low (by omega)
  refine (eH m x (x.i.form - 1) (an x x.i.rm) x.i.az hx (by omega) (by omega) hl.1 (by omega) (bM hx _)).e ?_
  exact bm (show cT x.i.form≠0 by omega) (aj rfl)
 refine⟨fun h14=>?_,fun h14=>?_⟩
 ·have hc:cT x.i.form=2:=by rw[show x.i.form=14 from h14]; rfl
  rw[o8 hc]
  refine li ?_ (show _<=x.i.form - 14/\x.i.form - 14<=_ by omega)
  refine (bF m x x.i.rd hx.rd.1 hx.rd.2).e ?_
  refine (eH m x (x.i.form - 14) (an x x.i.rd) (vv x) hx (by omega) (by omega) (ft hx).1 (ft hx).2 (bM hx _)).e ?_
  exact bm (show cT x.i.form≠0 by omega) (aj rfl)
 refine⟨fun Vj=>?_,fun Vj=>?_⟩
 ·have hc:cT x.i.form=2:=by rw[show x.i.form=15 from Vj]; rfl
  rw[o8 hc]
  refine li ?_ (show _<=x.i.form - 14/\x.i.form - 14<=_ by omega)
  refine (bF m x x.i.rd hx.rd.1 hx.rd.2).e ?_
  refine (eH m x (x.i.form - 14) (an x x.i.rd) (vv x) hx (by omega) (by omega) (ft hx).1 (ft hx).2 (bM hx _)).e ?_
  exact bm (show cT x.i.form≠0 by omega) (aj rfl)
 refine⟨fun h16=>?_,fun h16=>?_⟩
 ·have hc:cT x.i.form=2:=by rw[show x.i.form=16 from h16]; rfl
  rw[o8 hc]
  refine li ?_ (show _<=x.i.form - 14/\x.i.form - 14<=_ by omega)
  refine (bF m x x.i.rd hx.rd.1 hx.rd.2).e ?_
  refine (eH m x (x.i.form - 14) (an x x.i.rd) (vv x) hx (by omega) (by omega) (ft hx).1 (ft hx).2 (bM hx _)).e ?_
  exact bm (show cT x.i.form≠0 by omega) (aj rfl)
 refine⟨fun h19=>?_,fun h19=>?_⟩
 ·have hc:cT x.i.form=3:=by rw[show x.i.form=19 from h19]; rfl
  rw[DE hc]
  refine (bF m x x.i.rd hx.rd.1 hx.rd.2).e ?_
  refine (eH m x 3 (an x x.i.rd) (vv x) hx (by omega) (by omega) (ft hx).1 (ft hx).2 (bM hx _)).e ?_
  exact bm (show cT x.i.form≠0 by omega) (aj rfl)
 refine⟨fun h88=>?_,fun h88=>?_⟩
 ·have hc:cT x.i.form=4:=by rw[show x.i.form=88 from h88]; rfl
  rw[lN hc]
  refine li ?_ (show _<=x.i.form - 88/\x.i.form - 88<=_ by omega)
  refine (bF m x x.i.rn hx.rn.1 hx.rn.2).e ?_
  refine (eH m x (x.i.form - 88) (an x x.i.rn) (vv x) hx (by omega) (by omega) (ft hx).1 (ft hx).2 (bM hx _)).e ?_
  exact bm (show cT x.i.form≠0 by omega) (aj rfl)
 refine⟨fun h89=>?_,fun h89=>?_⟩
 ·have hc:cT x.i.form=4:=by rw[show x.i.form=89 from h89]; rfl
  rw[lN hc]
  refine li ?_ (show _<=x.i.form - 88/\x.i.form - 88<=_ by omega)
  refine (bF m x x.i.rn hx.rn.1 hx.rn.2).e ?_
  refine (eH m x (x.i.form - 88) (an x x.i.rn) (vv x) hx (by omega) (by omega) (ft hx).1 (ft hx).2 (bM hx _)).e ?_
  exact bm (show cT x.i.form≠0 by omega) (aj rfl)
 refine⟨fun h90=>?_,fun h90=>?_⟩
 ·have hc:cT x.i.form=4:=by rw[show x.i.form=90 from h90]; rfl
  rw[lN hc]
  refine li ?_ (show _<=x.i.form - 88/\x.i.form - 88<=_ by omega)
  refine (bF m x x.i.rn hx.rn.1 hx.rn.2).e ?_
  refine (eH m x (x.i.form - 88) (an x x.i.rn) (vv x) hx (by omega) (by omega) (ft hx).1 (ft hx).2 (bM hx _)).e ?_
  exact bm (show cT x.i.form≠0 by omega) (aj rfl)
 refine⟨fun h91=>?_,fun h91=>?_⟩
 ·have hc:cT x.i.form=4:=by rw[show x.i.form=91 from h91]; rfl
  rw[lN hc]
  refine li ?_ (show _<=x.i.form - 88/\x.i.form - 88<=_ by omega)
  refine (bF m x x.i.rn hx.rn.1 hx.rn.2).e ?_
  refine (eH m x (x.i.form - 88) (an x x.i.rn) (vv x) hx (by omega) (by omega) (ft hx).1 (ft hx).2 (bM hx _)).e ?_
  exact bm (show cT x.i.form≠0 by omega) (aj rfl)
 ·have hc:cT x.i.form=0:=by unfold cT; rw[if_neg (by omega),if_neg (by omega),if_neg (by omega),if_neg (by omega)]
  rw[tZ hc]
  exact bm (show ¬ cT x.i.form≠0 from fun h=>h hc) (aj rfl)
def bf (s:RS) (c:Int):Prop :=
 (c=0/\s.Z=1)\/(c=1/\¬ s.Z=1)\/(c=2/\s.C=1)\/(c=3/\¬ s.C=1)\/(c=4/\s.N=1)\/(c=5/\¬ s.N=1)\/(c=6/\s.V=1)\/(c=7/\¬ s.V=1) \/
 (c=8/\s.C=1/\s.Z=0)\/(c=9/\¬ (s.C=1/\s.Z=0))\/(c=10/\s.N=s.V)\/(c=11/\¬ s.N=s.V)\/(c=12/\s.Z=0/\s.N=s.V)\/(c=13/\¬ (s.Z=0/\s.N=s.V))
instance (s:RS) (c:Int):Decidable (bf s c):=by unfold bf; infer_instance
theorem e9 {p q:Prop} (h:p↔q):kt (.bool p) (.bool q):=h
theorem fC {q:Prop} (h:q):kt .tt (.bool q):=h
theorem fD {q:Prop} (h:¬ q):kt .ff (.bool q):=h
theorem e_ {f:FuncId} {a r:PV} {c K:Int} (e:c=K) (h:ai gT f [a,.lit .i64 K] r) (ha:kt a a):ai gT f [a,.int .i64 c] r:=by
 subst e
 exact Spec.args h ⟨ha,show yt (.int .i64 c) (.lit .i64 c) from rfl,trivial⟩
theorem fe (s:RS):kt (tS s) (tS s):=nW (l:=DB s) rfl
theorem DG (s:RS) (c:Int) (h:c < 0\/13 < c):ai gT 120 [tS s,.int .i64 c] (.bool (bf s c)):=by
 have hn:¬ bf s c:=by unfold bf; omega
 refine Spec.enter al mB 100 Tryz.func120 rfl (by kernel_rfl) ?_
 refine And.intro (by decide) (.inr ?_)
 repeat' ((try (conv=>whnf)); first
  | (refine aw ?_; exact fD hn)
  | (refine (And.intro (fun _=>?_) (fun _=>?_):(_->_)/\(_->_))<;>(first|(exfalso; first|contradiction|omega)|skip)))
theorem L2 (s:RS):ai gT 120 [tS s,.lit .i64 0] (.bool (bf s 0)):=by
 refine Spec.enter al mB 100 Tryz.func120 rfl (by kernel_rfl) ?_
 repeat' ((try (conv=>whnf)); first
  | (refine aw ?_; first|(refine e9 ?_; simp[bf, *]; done)|(refine fC ?_; simp[bf, *]; done)|(refine fD ?_; simp[bf, *]; done))
  | (refine (And.intro (fun _=>?_) (fun _=>?_):(_->_)/\(_->_))<;>(first|(exfalso; contradiction)|skip)))
theorem L3 (s:RS):ai gT 120 [tS s,.lit .i64 1] (.bool (bf s 1)):=by
 refine Spec.enter al mB 100 Tryz.func120 rfl (by kernel_rfl) ?_
 repeat' ((try (conv=>whnf)); first
  | (refine aw ?_; first|(refine e9 ?_; simp[bf, *]; done)|(refine fC ?_; simp[bf, *]; done)|(refine fD ?_; simp[bf, *]; done))
  | (refine (And.intro (fun _=>?_) (fun _=>?_):(_->_)/\(_->_))<;>(first|(exfalso; contradiction)|skip)))
theorem L4 (s:RS):ai gT 120 [tS s,.lit .i64 2] (.bool (bf s 2)):=by
 refine Spec.enter al mB 100 Tryz.func120 rfl (by kernel_rfl) ?_
 repeat' ((try (conv=>whnf)); first
  | (refine aw ?_; first|(refine e9 ?_; simp[bf, *]; done)|(refine fC ?_; simp[bf, *]; done)|(refine fD ?_; simp[bf, *]; done))
  | (refine (And.intro (fun _=>?_) (fun _=>?_):(_->_)/\(_->_))<;>(first|(exfalso; contradiction)|skip)))
theorem L5 (s:RS):ai gT 120 [tS s,.lit .i64 3] (.bool (bf s 3)):=by
 refine Spec.enter al mB 100 Tryz.func120 rfl (by kernel_rfl) ?_
 repeat' ((try (conv=>whnf)); first
  | (refine aw ?_; first|(refine e9 ?_; simp[bf, *]; done)|(refine fC ?_; simp[bf, *]; done)|(refine fD ?_; simp[bf, *]; done))
  | (refine (And.intro (fun _=>?_) (fun _=>?_):(_->_)/\(_->_))<;>(first|(exfalso; contradiction)|skip)))
theorem L6 (s:RS):ai gT 120 [tS s,.lit .i64 4] (.bool (bf s 4)):=by
 refine Spec.enter al mB 100 Tryz.func120 rfl (by kernel_rfl) ?_
 repeat' ((try (conv=>whnf)); first
  | (refine aw ?_; first|(refine e9 ?_; simp[bf, *]; done)|(refine fC ?_; simp[bf, *]; done)|(refine fD ?_; simp[bf, *]; done))
  | (refine (And.intro (fun _=>?_) (fun _=>?_):(_->_)/\(_->_))<;>(first|(exfalso; contradiction)|skip)))
theorem L7 (s:RS):ai gT 120 [tS s,.lit .i64 5] (.bool (bf s 5)):=by
 refine Spec.enter al mB 100 Tryz.func120 rfl (by kernel_rfl) ?_
 repeat' ((try (conv=>whnf)); first
  | (refine aw ?_; first|(refine e9 ?_; simp[bf, *]; done)|(refine fC ?_; simp[bf, *]; done)|(refine fD ?_; simp[bf, *]; done))
  | (refine (And.intro (fun _=>?_) (fun _=>?_):(_->_)/\(_->_))<;>(first|(exfalso; contradiction)|skip)))
theorem L8 (s:RS):ai gT 120 [tS s,.lit .i64 6] (.bool (bf s 6)):=by
 refine Spec.enter al mB 100 Tryz.func120 rfl (by kernel_rfl) ?_
 repeat' ((try (conv=>whnf)); first
  | (refine aw ?_; first|(refine e9 ?_; simp[bf, *]; done)|(refine fC ?_; simp[bf, *]; done)|(refine fD ?_; simp[bf, *]; done))
  | (refine (And.intro (fun _=>?_) (fun _=>?_):(_->_)/\(_->_))<;>(first|(exfalso; contradiction)|skip)))
theorem L9 (s:RS):ai gT 120 [tS s,.lit .i64 7] (.bool (bf s 7)):=by
 refine Spec.enter al mB 100 Tryz.func120 rfl (by kernel_rfl) ?_
 repeat' ((try (conv=>whnf)); first
  | (refine aw ?_; first|(refine e9 ?_; simp[bf, *]; done)|(refine fC ?_; simp[bf, *]; done)|(refine fD ?_; simp[bf, *]; done))
  | (refine (And.intro (fun _=>?_) (fun _=>?_):(_->_)/\(_->_))<;>(first|(exfalso; contradiction)|skip)))
theorem L' (s:RS):ai gT 120 [tS s,.lit .i64 8] (.bool (bf s 8)):=by
 refine Spec.enter al mB 100 Tryz.func120 rfl (by kernel_rfl) ?_
 repeat' ((try (conv=>whnf)); first
  | (refine aw ?_; first|(refine e9 ?_; simp[bf, *]; done)|(refine fC ?_; simp[bf, *]; done)|(refine fD ?_; simp[bf, *]; done))
  | (refine (And.intro (fun _=>?_) (fun _=>?_):(_->_)/\(_->_))<;>(first|(exfalso; contradiction)|skip)))
theorem L_ (s:RS):ai gT 120 [tS s,.lit .i64 9] (.bool (bf s 9)):=by
 refine Spec.enter al mB 100 Tryz.func120 rfl (by kernel_rfl) ?_
 repeat' ((try (conv=>whnf)); first
  | (refine aw ?_; first|(refine e9 ?_; simp[bf, *]; done)|(refine fC ?_; simp[bf, *]; done)|(refine fD ?_; simp[bf, *]; done))
  | (refine (And.intro (fun _=>?_) (fun _=>?_):(_->_)/\(_->_))<;>(first|(exfalso; contradiction)|skip)))
theorem Hv (s:RS):ai gT 120 [tS s,.lit .i64 10] (.bool (bf s 10)):=by
 refine Spec.enter al mB 100 Tryz.func120 rfl (by kernel_rfl) ?_
 repeat' ((try (conv=>whnf)); first
  | (refine aw ?_; first|(refine e9 ?_; simp[bf, *]; done)|(refine fC ?_; simp[bf, *]; done)|(refine fD ?_; simp[bf, *]; done))
  | (refine (And.intro (fun _=>?_) (fun _=>?_):(_->_)/\(_->_))<;>(first|(exfalso; contradiction)|skip)))
theorem Hw (s:RS):ai gT 120 [tS s,.lit .i64 11] (.bool (bf s 11)):=by
 refine Spec.enter al mB 100 Tryz.func120 rfl (by kernel_rfl) ?_
 repeat' ((try (conv=>whnf)); first
  | (refine aw ?_; first|(refine e9 ?_; simp[bf, *]; done)|(refine fC ?_; simp[bf, *]; done)|(refine fD ?_; simp[bf, *]; done))
  | (refine (And.intro (fun _=>?_) (fun _=>?_):(_->_)/\(_->_))<;>(first|(exfalso; contradiction)|skip)))
theorem Hx (s:RS):ai gT 120 [tS s,.lit .i64 12] (.bool (bf s 12)):=by
 refine Spec.enter al mB 100 Tryz.func120 rfl (by kernel_rfl) ?_
 repeat' ((try (conv=>whnf)); first
  | (refine aw ?_; first|(refine e9 ?_; simp[bf, *]; done)|(refine fC ?_; simp[bf, *]; done)|(refine fD ?_; simp[bf, *]; done))
  | (refine (And.intro (fun _=>?_) (fun _=>?_):(_->_)/\(_->_))<;>(first|(exfalso; contradiction)|skip)))
theorem Hy (s:RS):ai gT 120 [tS s,.lit .i64 13] (.bool (bf s 13)):=by
 refine Spec.enter al mB 100 Tryz.func120 rfl (by kernel_rfl) ?_
 repeat' ((try (conv=>whnf)); first
  | (refine aw ?_; first|(refine e9 ?_; simp[bf, *]; done)|(refine fC ?_; simp[bf, *]; done)|(refine fD ?_; simp[bf, *]; done))
  | (refine (And.intro (fun _=>?_) (fun _=>?_):(_->_)/\(_->_))<;>(first|(exfalso; contradiction)|skip)))
theorem rN (s:RS) (c:Int):ai gT 120 [tS s,.int .i64 c] (.bool (bf s c)):=by
 by_cases h:c < 0\/13 < c
 ·exact DG s c h
 ·have hc:c=0\/c=1\/c=2\/c=3\/c=4\/c=5\/c=6\/c=7\/c=8\/c=9\/c=10\/c=11\/c=12\/c=13:=by omega
  rcases hc with rfl|rfl|rfl|rfl|rfl|rfl|rfl|rfl|rfl|rfl|rfl|rfl|rfl|rfl
  
  ·exact e_ rfl (L2 s) (fe s)
  ·exact e_ rfl (L3 s) (fe s)
  ·exact e_ rfl (L4 s) (fe s)
  ·exact e_ rfl (L5 s) (fe s)
  ·exact e_ rfl (L6 s) (fe s)
  ·exact e_ rfl (L7 s) (fe s)
  ·exact e_ rfl (L8 s) (fe s)
  ·exact e_ rfl (L9 s) (fe s)
  ·exact e_ rfl (L' s) (fe s)
  ·exact e_ rfl (L_ s) (fe s)
  ·exact e_ rfl (Hv s) (fe s)
  ·exact e_ rfl (Hw s) (fe s)
  ·exact e_ rfl (Hx s) (fe s)
  ·exact e_ rfl (Hy s) (fe s)
def gF (r v:Int):Int:=if r=13 then bits .andNot .u32 v 3 else v
theorem rO (r v:Int):ai gT 119 [.int .i64 r,.int .u32 v] (.int .u32 (gF r v)):=by
 refine Spec.enter al P119 100 Tryz.func119 rfl (by kernel_rfl) ?_
 refine⟨fun h=>?_,fun h=>?_⟩
 ·exact aw (show bits .andNot .u32 v 3=gF r v by unfold gF; rw[if_pos h])
 ·exact aw (show v=gF r v by unfold gF; rw[if_neg h])
def jL (x:XS) (v:Int):XS:=if bits .or .u32 v 1=4294967295 then { x with kind:=1,code:=0 } else cG x 15 (bits .andNot .u32 v 1)
theorem Bm (m:MS) (x:XS) (v:Int):Spec gT 109 [.ptr 3 0,.int .u32 v] (gU m x) [] fun y S'=>y = .tup []/\S'=gU m (jL x v):=by
 refine Spec.jS (Spec.enter al P109 100 Tryz.func109 rfl (by kernel_rfl) ?_)
 refine⟨fun h=>?_,fun h=>?_⟩
 ·have e:jL x v = { x with kind:=1,code:=0 }:=by unfold jL; rw[if_pos h]
  rw[e]
  exact rS
 ·have e:jL x v=cG x 15 (bits .andNot .u32 v 1):=by unfold jL; rw[if_neg h]
  rw[e]
  refine (bU m x 15 (bits .andNot .u32 v 1) (by decide) (by decide)).e ?_
  exact rS
def rP (x:XS) (lo hi:Int):XS:=cG (cG x x.i.rd lo) x.i.ra hi
theorem Bn (m:MS) (x:XS) (lo hi:Int) (hx:lY x):Spec gT 117 [.ptr 3 0,.int .u32 lo,.int .u32 hi] (gU m x) [] fun y S'=>y = .tup []/\S'=gU m (rP x lo hi):=by
 refine Spec.jS (Spec.enter al P117 100 Tryz.func117 rfl (by kernel_rfl) ?_)
 refine (bU m x x.i.rd lo hx.rd.1 hx.rd.2).e ?_
 refine (bU m (cG x x.i.rd lo) x.i.ra hi hx.ra.1 hx.ra.2).e ?_
 exact rS
def bP (f:Int):Int :=
 if f=28 then 1 else if f=30 then 2 else if f=48 then 3 else if f=49 then 4 else if f=82 then 5 else if f=83 then 6 else if f=39 then 7 else if f=40 then 8 else if f=41 then 9 else if f=44 then 10 else 0
def cP (x:XS):XS :=
 if bP x.i.form=1 then cG x x.i.rd (gF x.i.rd (IntKind.u32.wrap (an x x.i.rd+an x x.i.rm))) else if bP x.i.form=2 then cG x x.i.rd (gF x.i.rd (an x x.i.rm)) else if bP x.i.form=3 then cG x x.i.rd (IntKind.u32.wrap x.i.az) else if bP x.i.form=4 then cG x x.i.rd (bits .or .u32 (bits .and .u32 (an x x.i.rd) 65535) (IntKind.u32.wrap (IntKind.u32.wrap x.i.az*Ev.aV .u32 16))) else if bP x.i.form=5 then cG x x.i.rd (IntKind.u32.wrap (an x x.i.rn+IntKind.u32.wrap x.i.az)) else if bP x.i.form=6 then cG x x.i.rd (IntKind.u32.wrap (an x x.i.rn - IntKind.u32.wrap x.i.az)) else if bP x.i.form=7 then cG x x.i.rd (IntKind.u32.wrap (an x 13+IntKind.u32.wrap x.i.az)) else if bP x.i.form=8 then cG x 13 (IntKind.u32.wrap (an x 13+IntKind.u32.wrap x.i.az)) else if bP x.i.form=9 then cG x 13 (IntKind.u32.wrap (an x 13 - IntKind.u32.wrap x.i.az)) else if bP x.i.form=10 then x else x
theorem Hz {x:XS} (h:bP x.i.form=1):cP x=cG x x.i.rd (gF x.i.rd (IntKind.u32.wrap (an x x.i.rd+an x x.i.rm))):=by unfold cP; rw[if_pos h]
theorem HA {x:XS} (h:bP x.i.form=2):cP x=cG x x.i.rd (gF x.i.rd (an x x.i.rm)):=by unfold cP; rw[if_neg (by omega),if_pos h]
theorem HB {x:XS} (h:bP x.i.form=3):cP x=cG x x.i.rd (IntKind.u32.wrap x.i.az):=by unfold cP; rw[if_neg (by omega),if_neg (by omega),if_pos h]
theorem HE {x:XS} (h:bP x.i.form=4):cP x=cG x x.i.rd (bits .or .u32 (bits .and .u32 (an x x.i.rd) 65535) (IntKind.u32.wrap (IntKind.u32.wrap x.i.az*Ev.aV .u32 16))):=by unfold cP; rw[if_neg (by omega),if_neg (by omega),if_neg (by omega),if_pos h]
theorem HF {x:XS} (h:bP x.i.form=5):cP x=cG x x.i.rd (IntKind.u32.wrap (an x x.i.rn+IntKind.u32.wrap x.i.az)):=by unfold cP; rw[if_neg (by omega),if_neg (by omega),if_neg (by omega),if_neg (by omega),if_pos h]
theorem HH {x:XS} (h:bP x.i.form=6):cP x=cG x x.i.rd (IntKind.u32.wrap (an x x.i.rn - IntKind.u32.wrap x.i.az)):=by unfold cP; rw[if_neg (by omega),if_neg (by omega),if_neg (by omega),if_neg (by omega),if_neg (by omega),if_pos h]
theorem HI {x:XS} (h:bP x.i.form=7):cP x=cG x x.i.rd (IntKind.u32.wrap (an x 13+IntKind.u32.wrap x.i.az)):=by unfold cP; rw[if_neg (by omega),if_neg (by omega),if_neg (by omega),if_neg (by omega),if_neg (by omega),if_neg (by omega),if_pos h]
theorem HJ {x:XS} (h:bP x.i.form=8):cP x=cG x 13 (IntKind.u32.wrap (an x 13+IntKind.u32.wrap x.i.az)):=by unfold cP; rw[if_neg (by omega),if_neg (by omega),if_neg (by omega),if_neg (by omega),if_neg (by omega),if_neg (by omega),if_neg (by omega),if_pos h]
theorem HK {x:XS} (h:bP x.i.form=9):cP x=cG x 13 (IntKind.u32.wrap (an x 13 - IntKind.u32.wrap x.i.az)):=by unfold cP; rw[if_neg (by omega),if_neg (by omega),if_neg (by omega),if_neg (by omega),if_neg (by omega),if_neg (by omega),if_neg (by omega),if_neg (by omega),if_pos h]
theorem DH {x:XS} (h:bP x.i.form=10):cP x=x:=by unfold cP; rw[if_neg (by omega),if_neg (by omega),if_neg (by omega),if_neg (by omega),if_neg (by omega),if_neg (by omega),if_neg (by omega),if_neg (by omega),if_neg (by omega),if_pos h]
theorem xS {x:XS} (h:bP x.i.form=0):cP x=x:=by unfold cP; rw[if_neg (by omega),if_neg (by omega),if_neg (by omega),if_neg (by omega),if_neg (by omega),if_neg (by omega),if_neg (by omega),if_neg (by omega),if_neg (by omega),if_neg (by omega)]
theorem HL (m:MS) (x:XS) (hx:lY x):Spec gT 84 [.ptr 3 0] (gU m x) [] fun y S'=>y = .bool (bP x.i.form≠0)/\S'=gU m (cP x):=by
 refine Spec.jS (Spec.enter al P84 100 Tryz.func84 rfl (by kernel_rfl) ?_)
 refine .inr ?_
 refine⟨fun kz=>?_,fun kz=>?_⟩
 ·have hc:bP x.i.form=1:=by rw[show x.i.form=28 from kz]; rfl
  rw[Hz hc]
  refine (bF m x x.i.rd hx.rd.1 hx.rd.2).e ?_
  refine (bF m x x.i.rm hx.rm.1 hx.rm.2).e ?_
  refine .inr ?_
  refine (rO x.i.rd (IntKind.u32.wrap (an x x.i.rd+an x x.i.rm))).u ?_
  refine (bU m x x.i.rd (gF x.i.rd (IntKind.u32.wrap (an x x.i.rd+an x x.i.rm))) hx.rd.1 hx.rd.2).e ?_
  exact bm (show bP x.i.form≠0 by omega) (aj rfl)
 refine⟨fun HM=>?_,fun HM=>?_⟩
 ·have hc:bP x.i.form=2:=by rw[show x.i.form=30 from HM]; rfl
  rw[HA hc]
  refine (bF m x x.i.rm hx.rm.1 hx.rm.2).e ?_
  refine (rO x.i.rd (an x x.i.rm)).u ?_
  refine (bU m x x.i.rd (gF x.i.rd (an x x.i.rm)) hx.rd.1 hx.rd.2).e ?_
  exact bm (show bP x.i.form≠0 by omega) (aj rfl)
 refine⟨fun sU=>?_,fun sU=>?_⟩
 ·have hc:bP x.i.form=3:=by rw[show x.i.form=48 from sU]; rfl
  rw[HB hc]
  refine (bU m x x.i.rd (IntKind.u32.wrap x.i.az) hx.rd.1 hx.rd.2).e ?_
  exact bm (show bP x.i.form≠0 by omega) (aj rfl)
 refine⟨fun h49=>?_,fun h49=>?_⟩
 ·have hc:bP x.i.form=4:=by rw[show x.i.form=49 from h49]; rfl
  rw[HE hc]
  refine⟨by decide,.inr ?_⟩
  refine (bF m x x.i.rd hx.rd.1 hx.rd.2).e ?_
  refine (bU m x x.i.rd (bits .or .u32 (bits .and .u32 (an x x.i.rd) 65535) (IntKind.u32.wrap (IntKind.u32.wrap x.i.az*Ev.aV .u32 16))) hx.rd.1 hx.rd.2).e ?_
  exact bm (show bP x.i.form≠0 by omega) (aj rfl)
 refine⟨fun h82=>?_,fun h82=>?_⟩
 ·have hc:bP x.i.form=5:=by rw[show x.i.form=82 from h82]; rfl
  rw[HF hc]
  refine (bF m x x.i.rn hx.rn.1 hx.rn.2).e ?_
  refine .inr ?_
  refine (bU m x x.i.rd (IntKind.u32.wrap (an x x.i.rn+IntKind.u32.wrap x.i.az)) hx.rd.1 hx.rd.2).e ?_
  exact bm (show bP x.i.form≠0 by omega) (aj rfl)
 refine⟨fun h83=>?_,fun h83=>?_⟩
 ·have hc:bP x.i.form=6:=by rw[show x.i.form=83 from h83]; rfl
  rw[HH hc]
  refine (bF m x x.i.rn hx.rn.1 hx.rn.2).e ?_
  refine .inr ?_
  refine (bU m x x.i.rd (IntKind.u32.wrap (an x x.i.rn - IntKind.u32.wrap x.i.az)) hx.rd.1 hx.rd.2).e ?_
  exact bm (show bP x.i.form≠0 by omega) (aj rfl)
 refine⟨fun h39=>?_,fun h39=>?_⟩
 ·have hc:bP x.i.form=7:=by rw[show x.i.form=39 from h39]; rfl
  rw[HI hc]
  refine (bF m x 13 (by decide) (by decide)).e ?_
  refine .inr ?_
  refine (bU m x x.i.rd (IntKind.u32.wrap (an x 13+IntKind.u32.wrap x.i.az)) hx.rd.1 hx.rd.2).e ?_
  exact bm (show bP x.i.form≠0 by omega) (aj rfl)
 refine⟨fun h40=>?_,fun h40=>?_⟩
 ·have hc:bP x.i.form=8:=by rw[show x.i.form=40 from h40]; rfl
  rw[HJ hc]
  refine (bF m x 13 (by decide) (by decide)).e ?_
  refine .inr ?_
  refine (bU m x 13 (IntKind.u32.wrap (an x 13+IntKind.u32.wrap x.i.az)) (by decide) (by decide)).e ?_
  exact bm (show bP x.i.form≠0 by omega) (aj rfl)
 refine⟨fun h41=>?_,fun h41=>?_⟩
 ·have hc:bP x.i.form=9:=by rw[show x.i.form=41 from h41]; rfl
  rw[HK hc]
  refine (bF m x 13 (by decide) (by decide)).e ?_
  refine .inr ?_
  refine (bU m x 13 (IntKind.u32.wrap (an x 13 - IntKind.u32.wrap x.i.az)) (by decide) (by decide)).e ?_
  exact bm (show bP x.i.form≠0 by omega) (aj rfl)
 refine⟨fun h44=>?_,fun h44=>?_⟩
 ·have hc:bP x.i.form=10:=by rw[show x.i.form=44 from h44]; rfl
  rw[DH hc]
  exact bm (show bP x.i.form≠0 by omega) (aj rfl)
 ·have hc:bP x.i.form=0:=by unfold bP; rw[if_neg (by omega),if_neg (by omega),if_neg (by omega),if_neg (by omega),if_neg (by omega),if_neg (by omega),if_neg (by omega),if_neg (by omega),if_neg (by omega),if_neg (by omega)]
  rw[xS hc]
  exact bm (show ¬ bP x.i.form≠0 from fun h=>h hc) (aj rfl)
theorem HN (x:XS):a_ (an x x.i.rn*an x x.i.rm % 4294967296):=by unfold a_; omega
theorem NR {x:XS} (h:lY x):a_ (an x x.i.rn*an x x.i.rm / 4294967296):=by
 have a:=bM h x.i.rn
 have b:=bM h x.i.rm
 unfold a_ at a b ⊢
 have h1:0<=an x x.i.rn*an x x.i.rm:=Int.mul_nonneg a.1 b.1
 have h2:an x x.i.rn*an x x.i.rm<=4294967295*4294967295:=Int.mul_le_mul a.2 b.2 b.1 (by decide)
 omega
def bK (f:Int):Int :=
 if f=25 then 1 else if f=92 then 2 else if f=93 then 3 else if f=94 then 4 else if f=95 then 5 else if f=96 then 6 else if f=97 then 7 else if f=98 then 8 else 0
def eS (x:XS):XS :=
 if bK x.i.form=1 then cG (qf x (IntKind.u32.wrap (an x x.i.rd*an x x.i.rm))) x.i.rd (IntKind.u32.wrap (an x x.i.rd*an x x.i.rm)) else if bK x.i.form=2 then cG x x.i.rd (an x x.i.rn*an x x.i.rm % 4294967296) else if bK x.i.form=3 then cG x x.i.rd (IntKind.u32.wrap ((an x x.i.rn*an x x.i.rm % 4294967296)+an x x.i.ra)) else if bK x.i.form=4 then cG x x.i.rd (IntKind.u32.wrap (an x x.i.ra - (an x x.i.rn*an x x.i.rm % 4294967296))) else if bK x.i.form=5 then rP x (an x x.i.rn*an x x.i.rm % 4294967296) (an x x.i.rn*an x x.i.rm / 4294967296) else if bK x.i.form=6 then rP x (Rm.fh (an x x.i.rn*an x x.i.rm % 4294967296) (an x x.i.rd) 0) (Rm.fh (an x x.i.rn*an x x.i.rm / 4294967296) (an x x.i.ra) (Rm.iR (an x x.i.rn*an x x.i.rm % 4294967296) (an x x.i.rd) 0)) else if bK x.i.form=7 then cG { x with a:=an x x.i.rn,b:=an x x.i.rm } x.i.rd (IntKind.u32.wrap (an x x.i.rn / max (an x x.i.rm) 1*min (an x x.i.rm) 1)) else if bK x.i.form=8 then cG x x.i.rd (IntKind.u32.wrap (32 - (Lib.bitLen (an x x.i.rm).toNat:Int))) else x
theorem Ma {x:XS} (h:bK x.i.form=1):eS x=cG (qf x (IntKind.u32.wrap (an x x.i.rd*an x x.i.rm))) x.i.rd (IntKind.u32.wrap (an x x.i.rd*an x x.i.rm)):=by unfold eS; rw[if_pos h]
theorem Mb {x:XS} (h:bK x.i.form=2):eS x=cG x x.i.rd (an x x.i.rn*an x x.i.rm % 4294967296):=by unfold eS; rw[if_neg (by omega),if_pos h]
theorem Mc {x:XS} (h:bK x.i.form=3):eS x=cG x x.i.rd (IntKind.u32.wrap ((an x x.i.rn*an x x.i.rm % 4294967296)+an x x.i.ra)):=by unfold eS; rw[if_neg (by omega),if_neg (by omega),if_pos h]
theorem Me {x:XS} (h:bK x.i.form=4):eS x=cG x x.i.rd (IntKind.u32.wrap (an x x.i.ra - (an x x.i.rn*an x x.i.rm % 4294967296))):=by unfold eS; rw[if_neg (by omega),if_neg (by omega),if_neg (by omega),if_pos h]
theorem Mf {x:XS} (h:bK x.i.form=5):eS x=rP x (an x x.i.rn*an x x.i.rm % 4294967296) (an x x.i.rn*an x x.i.rm / 4294967296):=by unfold eS; rw[if_neg (by omega),if_neg (by omega),if_neg (by omega),if_neg (by omega),if_pos h]
theorem Mg {x:XS} (h:bK x.i.form=6):eS x=rP x (Rm.fh (an x x.i.rn*an x x.i.rm % 4294967296) (an x x.i.rd) 0) (Rm.fh (an x x.i.rn*an x x.i.rm / 4294967296) (an x x.i.ra) (Rm.iR (an x x.i.rn*an x x.i.rm % 4294967296) (an x x.i.rd) 0)):=by unfold eS; rw[if_neg (by omega),if_neg (by omega),if_neg (by omega),if_neg (by omega),if_neg (by omega),if_pos h]
theorem Mh {x:XS} (h:bK x.i.form=7):eS x=cG { x with a:=an x x.i.rn,b:=an x x.i.rm } x.i.rd (IntKind.u32.wrap (an x x.i.rn / max (an x x.i.rm) 1*min (an x x.i.rm) 1)):=by unfold eS; rw[if_neg (by omega),if_neg (by omega),if_neg (by omega),if_neg (by omega),if_neg (by omega),if_neg (by omega),if_pos h]
theorem Mi {x:XS} (h:bK x.i.form=8):eS x=cG x x.i.rd (IntKind.u32.wrap (32 - (Lib.bitLen (an x x.i.rm).toNat:Int))):=by unfold eS; rw[if_neg (by omega),if_neg (by omega),if_neg (by omega),if_neg (by omega),if_neg (by omega),if_neg (by omega),if_neg (by omega),if_pos h]
theorem Bo {x:XS} (h:bK x.i.form=0):eS x=x:=by unfold eS; rw[if_neg (by omega),if_neg (by omega),if_neg (by omega),if_neg (by omega),if_neg (by omega),if_neg (by omega),if_neg (by omega),if_neg (by omega)]
theorem xT (m:MS) (x:XS) (hx:lY x):Spec gT 83 [.ptr 3 0] (gU m x) [] fun y S'=>y = .bool (bK x.i.form≠0)/\S'=gU m (eS x):=by
 refine Spec.jS (Spec.enter al P83 100 Tryz.func83 rfl (by kernel_rfl) ?_)
 have LJ:=HN x
 have NP:=NR hx
 refine (bF m x x.i.rn hx.rn.1 hx.rn.2).e ?_
 refine (bF m x x.i.rm hx.rm.1 hx.rm.2).e ?_
 refine (DC (an x x.i.rn) (an x x.i.rm) (bM hx _) (bM hx _)).u ?_
 refine⟨fun h25=>?_,fun h25=>?_⟩
 ·have hc:bK x.i.form=1:=by rw[show x.i.form=25 from h25]; rfl
  rw[Ma hc]
  refine (bF m x x.i.rd hx.rd.1 hx.rd.2).e ?_
  refine .inr ?_
  refine (Hu m x (IntKind.u32.wrap (an x x.i.rd*an x x.i.rm))).e ?_
  refine (bU m (qf x (IntKind.u32.wrap (an x x.i.rd*an x x.i.rm))) x.i.rd (IntKind.u32.wrap (an x x.i.rd*an x x.i.rm)) hx.rd.1 hx.rd.2).e ?_
  exact bm (show bK x.i.form≠0 by omega) (aj rfl)
 refine⟨fun h92=>?_,fun h92=>?_⟩
 ·have hc:bK x.i.form=2:=by rw[show x.i.form=92 from h92]; rfl
  rw[Mb hc]
  refine (bU m x x.i.rd (an x x.i.rn*an x x.i.rm % 4294967296) hx.rd.1 hx.rd.2).e ?_
  exact bm (show bK x.i.form≠0 by omega) (aj rfl)
 refine⟨fun Y2=>?_,fun Y2=>?_⟩
 ·have hc:bK x.i.form=3:=by rw[show x.i.form=93 from Y2]; rfl
  rw[Mc hc]
  refine (bF m x x.i.ra hx.ra.1 hx.ra.2).e ?_
  refine .inr ?_
  refine (bU m x x.i.rd (IntKind.u32.wrap ((an x x.i.rn*an x x.i.rm % 4294967296)+an x x.i.ra)) hx.rd.1 hx.rd.2).e ?_
  exact bm (show bK x.i.form≠0 by omega) (aj rfl)
 refine⟨fun Y3=>?_,fun Y3=>?_⟩
 ·have hc:bK x.i.form=4:=by rw[show x.i.form=94 from Y3]; rfl
  rw[Me hc]
  refine (bF m x x.i.ra hx.ra.1 hx.ra.2).e ?_
  refine .inr ?_
  refine (bU m x x.i.rd (IntKind.u32.wrap (an x x.i.ra - (an x x.i.rn*an x x.i.rm % 4294967296))) hx.rd.1 hx.rd.2).e ?_
  exact bm (show bK x.i.form≠0 by omega) (aj rfl)
 refine⟨fun h95=>?_,fun h95=>?_⟩
 ·have hc:bK x.i.form=5:=by rw[show x.i.form=95 from h95]; rfl
  rw[Mf hc]
  refine (Bn m x (an x x.i.rn*an x x.i.rm % 4294967296) (an x x.i.rn*an x x.i.rm / 4294967296) hx).e ?_
  exact bm (show bK x.i.form≠0 by omega) (aj rfl)
 refine⟨fun h96=>?_,fun h96=>?_⟩
 ·have hc:bK x.i.form=6:=by rw[show x.i.form=96 from h96]; rfl
  rw[Mg hc]
  refine (bF m x x.i.rd hx.rd.1 hx.rd.2).e ?_
  refine (rL (an x x.i.rn*an x x.i.rm % 4294967296) (an x x.i.rd) 0 LJ (bM hx _) (by decide)).u ?_
  refine (bF m x x.i.ra hx.ra.1 hx.ra.2).e ?_
  refine (rL (an x x.i.rn*an x x.i.rm / 4294967296) (an x x.i.ra) (Rm.iR (an x x.i.rn*an x x.i.rm % 4294967296) (an x x.i.rd) 0) NP (bM hx _) (Rm.AJ (an x x.i.rn*an x x.i.rm % 4294967296) (an x x.i.rd) 0 (by decide) LJ.1 LJ.2 (bM hx _).1 (bM hx _).2).1).u ?_
  refine (Bn m x (Rm.fh (an x x.i.rn*an x x.i.rm % 4294967296) (an x x.i.rd) 0) (Rm.fh (an x x.i.rn*an x x.i.rm / 4294967296) (an x x.i.ra) (Rm.iR (an x x.i.rn*an x x.i.rm % 4294967296) (an x x.i.rd) 0)) hx).e ?_
  exact bm (show bK x.i.form≠0 by omega) (aj rfl)
 refine⟨fun Y4=>?_,fun Y4=>?_⟩
 ·have hc:bK x.i.form=7:=by rw[show x.i.form=97 from Y4]; rfl
  rw[Mh hc]
  refine⟨show max (an x x.i.rm) 1≠0 by omega,.inl ⟨(bM hx x.i.rn).1,show an x x.i.rn<=4294967295 from (bM hx x.i.rn).2,show (0:Int) < max (an x x.i.rm) 1 by omega,?_⟩⟩
  refine .inr ?_
  refine (bU m { x with a:=an x x.i.rn,b:=an x x.i.rm } x.i.rd (IntKind.u32.wrap (an x x.i.rn / max (an x x.i.rm) 1*min (an x x.i.rm) 1)) hx.rd.1 hx.rd.2).e ?_
  exact bm (show bK x.i.form≠0 by omega) (aj rfl)
 refine⟨fun h98=>?_,fun h98=>?_⟩
 ·have hc:bK x.i.form=8:=by rw[show x.i.form=98 from h98]; rfl
  rw[Mi hc]
  refine (LZ (an x x.i.rm) (bM hx _)).u ?_
  refine .inr ?_
  refine (bU m x x.i.rd (IntKind.u32.wrap (32 - (Lib.bitLen (an x x.i.rm).toNat:Int))) hx.rd.1 hx.rd.2).e ?_
  exact bm (show bK x.i.form≠0 by omega) (aj rfl)
 ·have hc:bK x.i.form=0:=by unfold bK; rw[if_neg (by omega),if_neg (by omega),if_neg (by omega),if_neg (by omega),if_neg (by omega),if_neg (by omega),if_neg (by omega),if_neg (by omega)]
  rw[Bo hc]
  exact bm (show ¬ bK x.i.form≠0 from fun h=>h hc) (aj rfl)
end Go.Proofs.YtlgkljpgagfndaaGreatDoor.Pw

/- What this claim is proved with: no condition. -/
import Derived.Test.YtnbngokbamifbaaGreatDoorNr25
set_option maxRecDepth 100000
set_option maxHeartbeats 4000000
set_option linter.unusedVariables false
set_option linter.unusedSimpArgs false
namespace Go.Proofs.YtnbngokbamifbaaGreatDoor.Pw
open Go Go.RowKit
def aK (f:Int):Int :=
 if f=4\/f=6\/f=10\/f=55\/f=71 then 1 else if f=5\/f=7\/f=11\/f=58\/f=74 then 2 else if f=17\/f=56\/f=72 then 3 else if f=18\/f=57\/f=73 then 4 else if f=21 then 5 else if f=59\/f=75 then 6 else if f=9\/f=22\/f=29\/f=65\/f=81 then 7 else if f=23\/f=64\/f=80 then 8 else 0
def fk (x:XS):XS :=
 if aK x.i.form=1 then dD x x.i.rd (aL x) (aU x) 0 else if aK x.i.form=2 then dD x x.i.rd (aL x) (cF (aU x)) 1 else if aK x.i.form=3 then dD x x.i.rd (aL x) (aU x) x.s.C else if aK x.i.form=4 then dD x x.i.rd (aL x) (cF (aU x)) x.s.C else if aK x.i.form=5 then dD x x.i.rd 0 (cF (aU x)) 1 else if aK x.i.form=6 then dD x x.i.rd (aU x) (cF (aL x)) 1 else if aK x.i.form=7 then dD x (-1) (aL x) (cF (aU x)) 1 else if aK x.i.form=8 then dD x (-1) (aL x) (aU x) 0 else x
theorem mH {x:XS} (h:aK x.i.form=1):fk x=dD x x.i.rd (aL x) (aU x) 0:=by unfold fk; rw[if_pos h]
theorem mI {x:XS} (h:aK x.i.form=2):fk x=dD x x.i.rd (aL x) (cF (aU x)) 1:=by unfold fk; rw[if_neg (by omega),if_pos h]
theorem rq {x:XS} (h:aK x.i.form=3):fk x=dD x x.i.rd (aL x) (aU x) x.s.C:=by unfold fk; rw[if_neg (by omega),if_neg (by omega),if_pos h]
theorem rr {x:XS} (h:aK x.i.form=4):fk x=dD x x.i.rd (aL x) (cF (aU x)) x.s.C:=by unfold fk; rw[if_neg (by omega),if_neg (by omega),if_neg (by omega),if_pos h]
theorem De {x:XS} (h:aK x.i.form=5):fk x=dD x x.i.rd 0 (cF (aU x)) 1:=by unfold fk; rw[if_neg (by omega),if_neg (by omega),if_neg (by omega),if_neg (by omega),if_pos h]
theorem xe {x:XS} (h:aK x.i.form=6):fk x=dD x x.i.rd (aU x) (cF (aL x)) 1:=by unfold fk; rw[if_neg (by omega),if_neg (by omega),if_neg (by omega),if_neg (by omega),if_neg (by omega),if_pos h]
theorem mJ {x:XS} (h:aK x.i.form=7):fk x=dD x (-1) (aL x) (cF (aU x)) 1:=by unfold fk; rw[if_neg (by omega),if_neg (by omega),if_neg (by omega),if_neg (by omega),if_neg (by omega),if_neg (by omega),if_pos h]
theorem ry {x:XS} (h:aK x.i.form=8):fk x=dD x (-1) (aL x) (aU x) 0:=by unfold fk; rw[if_neg (by omega),if_neg (by omega),if_neg (by omega),if_neg (by omega),if_neg (by omega),if_neg (by omega),if_neg (by omega),if_pos h]
theorem Df {x:XS} (h:aK x.i.form=0):fk x=x:=by unfold fk; rw[if_neg (by omega),if_neg (by omega),if_neg (by omega),if_neg (by omega),if_neg (by omega),if_neg (by omega),if_neg (by omega),if_neg (by omega)]
theorem Nf (m:MS) (x:XS) (hx:iX x):Spec gT 93 [.ptr 3 0] (hZ m x) [] fun y S'=>y = .bool (aK x.i.form≠0)/\S'=hZ m (fk x):=by
 refine Spec.kB (Spec.enter ar P93 100 Tryz.func93 rfl (by kernel_rfl) ?_)
 refine (zz m x hx).e ?_
 refine (u9 m x hx).e ?_
 refine⟨fun h4=>?_,fun h4=>?_⟩
 ·have hc:aK x.i.form=1:=by rw[show x.i.form=4 from h4]; rfl
  rw[mH hc]
  refine (c8 m x x.i.rd (aL x) (aU x) 0 hx.rd.2 (bL hx) (cf hx) (by decide)).e ?_
  exact bj (show aK x.i.form≠0 by omega) (ak rfl)
 refine⟨fun h6=>?_,fun h6=>?_⟩
 ·have hc:aK x.i.form=1:=by rw[show x.i.form=6 from h6]; rfl
  rw[mH hc]
  refine (c8 m x x.i.rd (aL x) (aU x) 0 hx.rd.2 (bL hx) (cf hx) (by decide)).e ?_
  exact bj (show aK x.i.form≠0 by omega) (ak rfl)
 refine⟨fun cY=>?_,fun cY=>?_⟩
 ·have hc:aK x.i.form=1:=by rw[show x.i.form=10 from cY]; rfl
  rw[mH hc]
  refine (c8 m x x.i.rd (aL x) (aU x) 0 hx.rd.2 (bL hx) (cf hx) (by decide)).e ?_
  exact bj (show aK x.i.form≠0 by omega) (ak rfl)
 refine⟨fun h55=>?_,fun h55=>?_⟩
 ·have hc:aK x.i.form=1:=by rw[show x.i.form=55 from h55]; rfl
  rw[mH hc]
  refine (c8 m x x.i.rd (aL x) (aU x) 0 hx.rd.2 (bL hx) (cf hx) (by decide)).e ?_
  exact bj (show aK x.i.form≠0 by omega) (ak rfl)
 refine⟨fun h71=>?_,fun h71=>?_⟩
 ·have hc:aK x.i.form=1:=by rw[show x.i.form=71 from h71]; rfl
  rw[mH hc]
  refine (c8 m x x.i.rd (aL x) (aU x) 0 hx.rd.2 (bL hx) (cf hx) (by decide)).e ?_
  exact bj (show aK x.i.form≠0 by omega) (ak rfl)
 refine⟨fun h5=>?_,fun h5=>?_⟩
 ·have hc:aK x.i.form=2:=by rw[show x.i.form=5 from h5]; rfl
  rw[mI hc]
  refine (c8 m x x.i.rd (aL x) (cF (aU x)) 1 hx.rd.2 (bL hx) (cV (cf hx)) (by decide)).e ?_
  exact bj (show aK x.i.form≠0 by omega) (ak rfl)
 refine⟨fun h7=>?_,fun h7=>?_⟩
 ·have hc:aK x.i.form=2:=by rw[show x.i.form=7 from h7]; rfl
  rw[mI hc]
  refine (c8 m x x.i.rd (aL x) (cF (aU x)) 1 hx.rd.2 (bL hx) (cV (cf hx)) (by decide)).e ?_
  exact bj (show aK x.i.form≠0 by omega) (ak rfl)
 refine⟨fun h11=>?_,fun h11=>?_⟩
 ·have hc:aK x.i.form=2:=by rw[show x.i.form=11 from h11]; rfl
  rw[mI hc]
  refine (c8 m x x.i.rd (aL x) (cF (aU x)) 1 hx.rd.2 (bL hx) (cV (cf hx)) (by decide)).e ?_
  exact bj (show aK x.i.form≠0 by omega) (ak rfl)
 refine⟨fun h58=>?_,fun h58=>?_⟩
 ·have hc:aK x.i.form=2:=by rw[show x.i.form=58 from h58]; rfl
  rw[mI hc]
  refine (c8 m x x.i.rd (aL x) (cF (aU x)) 1 hx.rd.2 (bL hx) (cV (cf hx)) (by decide)).e ?_
  exact bj (show aK x.i.form≠0 by omega) (ak rfl)
 refine⟨fun h74=>?_,fun h74=>?_⟩
 ·have hc:aK x.i.form=2:=by rw[show x.i.form=74 from h74]; rfl
  rw[mI hc]
  refine (c8 m x x.i.rd (aL x) (cF (aU x)) 1 hx.rd.2 (bL hx) (cV (cf hx)) (by decide)).e ?_
  exact bj (show aK x.i.form≠0 by omega) (ak rfl)
 refine⟨fun We=>?_,fun We=>?_⟩
 ·have hc:aK x.i.form=3:=by rw[show x.i.form=17 from We]; rfl
  rw[rq hc]
  refine (c8 m x x.i.rd (aL x) (aU x) x.s.C hx.rd.2 (bL hx) (cf hx) hx.c.1).e ?_
  exact bj (show aK x.i.form≠0 by omega) (ak rfl)
 refine⟨fun h56=>?_,fun h56=>?_⟩
 ·have hc:aK x.i.form=3:=by rw[show x.i.form=56 from h56]; rfl
  rw[rq hc]
  refine (c8 m x x.i.rd (aL x) (aU x) x.s.C hx.rd.2 (bL hx) (cf hx) hx.c.1).e ?_
  exact bj (show aK x.i.form≠0 by omega) (ak rfl)
 refine⟨fun h72=>?_,fun h72=>?_⟩
 ·have hc:aK x.i.form=3:=by rw[show x.i.form=72 from h72]; rfl
  rw[rq hc]
  refine (c8 m x x.i.rd (aL x) (aU x) x.s.C hx.rd.2 (bL hx) (cf hx) hx.c.1).e ?_
  exact bj (show aK x.i.form≠0 by omega) (ak rfl)
 refine⟨fun Ng=>?_,fun Ng=>?_⟩
 ·have hc:aK x.i.form=4:=by rw[show x.i.form=18 from Ng]; rfl
  rw[rr hc]
  refine (c8 m x x.i.rd (aL x) (cF (aU x)) x.s.C hx.rd.2 (bL hx) (cV (cf hx)) hx.c.1).e ?_
  exact bj (show aK x.i.form≠0 by omega) (ak rfl)
 refine⟨fun h57=>?_,fun h57=>?_⟩
 ·have hc:aK x.i.form=4:=by rw[show x.i.form=57 from h57]; rfl
  rw[rr hc]
  refine (c8 m x x.i.rd (aL x) (cF (aU x)) x.s.C hx.rd.2 (bL hx) (cV (cf hx)) hx.c.1).e ?_
  exact bj (show aK x.i.form≠0 by omega) (ak rfl)
 refine⟨fun h73=>?_,fun h73=>?_⟩
 ·have hc:aK x.i.form=4:=by rw[show x.i.form=73 from h73]; rfl
  rw[rr hc]
  refine (c8 m x x.i.rd (aL x) (cF (aU x)) x.s.C hx.rd.2 (bL hx) (cV (cf hx)) hx.c.1).e ?_
  exact bj (show aK x.i.form≠0 by omega) (ak rfl)
 refine⟨fun h21=>?_,fun h21=>?_⟩
 ·have hc:aK x.i.form=5:=by rw[show x.i.form=21 from h21]; rfl
  rw[De hc]
  refine (c8 m x x.i.rd 0 (cF (aU x)) 1 hx.rd.2 (by unfold aP; omega) (cV (cf hx)) (by decide)).e ?_
  exact bj (show aK x.i.form≠0 by omega) (ak rfl)
 refine⟨fun h59=>?_,fun h59=>?_⟩
 ·have hc:aK x.i.form=6:=by rw[show x.i.form=59 from h59]; rfl
  rw[xe hc]
  refine (c8 m x x.i.rd (aU x) (cF (aL x)) 1 hx.rd.2 (cf hx) (cV (bL hx)) (by decide)).e ?_
  exact bj (show aK x.i.form≠0 by omega) (ak rfl)
 refine⟨fun h75=>?_,fun h75=>?_⟩
 ·have hc:aK x.i.form=6:=by rw[show x.i.form=75 from h75]; rfl
  rw[xe hc]
  refine (c8 m x x.i.rd (aU x) (cF (aL x)) 1 hx.rd.2 (cf hx) (cV (bL hx)) (by decide)).e ?_
  exact bj (show aK x.i.form≠0 by omega) (ak rfl)
 refine⟨fun h9=>?_,fun h9=>?_⟩
 ·have hc:aK x.i.form=7:=by rw[show x.i.form=9 from h9]; rfl
  rw[mJ hc]
  refine (c8 m x (-1) (aL x) (cF (aU x)) 1 (by decide) (bL hx) (cV (cf hx)) (by decide)).e ?_
  exact bj (show aK x.i.form≠0 by omega) (ak rfl)
 refine⟨fun h22=>?_,fun h22=>?_⟩
 ·have hc:aK x.i.form=7:=by rw[show x.i.form=22 from h22]; rfl
  rw[mJ hc]
  refine (c8 m x (-1) (aL x) (cF (aU x)) 1 (by decide) (bL hx) (cV (cf hx)) (by decide)).e ?_
  exact bj (show aK x.i.form≠0 by omega) (ak rfl)
 refine⟨fun h29=>?_,fun h29=>?_⟩
 ·have hc:aK x.i.form=7:=by rw[show x.i.form=29 from h29]; rfl
  rw[mJ hc]
  refine (c8 m x (-1) (aL x) (cF (aU x)) 1 (by decide) (bL hx) (cV (cf hx)) (by decide)).e ?_
  exact bj (show aK x.i.form≠0 by omega) (ak rfl)
 refine⟨fun h65=>?_,fun h65=>?_⟩
 ·have hc:aK x.i.form=7:=by rw[show x.i.form=65 from h65]; rfl
  rw[mJ hc]
  refine (c8 m x (-1) (aL x) (cF (aU x)) 1 (by decide) (bL hx) (cV (cf hx)) (by decide)).e ?_
  exact bj (show aK x.i.form≠0 by omega) (ak rfl)
 refine⟨fun h81=>?_,fun h81=>?_⟩
 ·have hc:aK x.i.form=7:=by rw[show x.i.form=81 from h81]; rfl
  rw[mJ hc]
  refine (c8 m x (-1) (aL x) (cF (aU x)) 1 (by decide) (bL hx) (cV (cf hx)) (by decide)).e ?_
  exact bj (show aK x.i.form≠0 by omega) (ak rfl)
 refine⟨fun Wl=>?_,fun Wl=>?_⟩
 ·have hc:aK x.i.form=8:=by rw[show x.i.form=23 from Wl]; rfl
  rw[ry hc]
  refine (c8 m x (-1) (aL x) (aU x) 0 (by decide) (bL hx) (cf hx) (by decide)).e ?_
  exact bj (show aK x.i.form≠0 by omega) (ak rfl)
 refine⟨fun h64=>?_,fun h64=>?_⟩
 ·have hc:aK x.i.form=8:=by rw[show x.i.form=64 from h64]; rfl
  rw[ry hc]
  refine (c8 m x (-1) (aL x) (aU x) 0 (by decide) (bL hx) (cf hx) (by decide)).e ?_
  exact bj (show aK x.i.form≠0 by omega) (ak rfl)
 refine⟨fun h80=>?_,fun h80=>?_⟩
 ·have hc:aK x.i.form=8:=by rw[show x.i.form=80 from h80]; rfl
  rw[ry hc]
  refine (c8 m x (-1) (aL x) (aU x) 0 (by decide) (bL hx) (cf hx) (by decide)).e ?_
  exact bj (show aK x.i.form≠0 by omega) (ak rfl)
 ·have hc:aK x.i.form=0:=by unfold aK; rw[if_neg (by omega),if_neg (by omega),if_neg (by omega),if_neg (by omega),if_neg (by omega),if_neg (by omega),if_neg (by omega),if_neg (by omega)]
  rw[Df hc]
  exact bj (show ¬ aK x.i.form≠0 from fun h=>h hc) (ak rfl)
def aM (f:Int):Int :=
 if f=8\/f=60\/f=76 then 1 else if f=27\/f=61\/f=77 then 2 else if f=12\/f=50\/f=66 then 3 else if f=24\/f=52\/f=68 then 4 else if f=13\/f=54\/f=70 then 5 else if f=26\/f=51\/f=67 then 6 else if f=53\/f=69 then 7 else if f=20\/f=62\/f=78 then 8 else if f=63\/f=79 then 9 else 0
def cJ (x:XS):XS :=
 if aM x.i.form=1 then bK x x.i.rd (aU x) (cB x) else if aM x.i.form=2 then bK x x.i.rd (cF (aU x)) (cB x) else if aM x.i.form=3 then bK x x.i.rd (bits .and .u32 (aL x) (aU x)) (cB x) else if aM x.i.form=4 then bK x x.i.rd (bits .or .u32 (aL x) (aU x)) (cB x) else if aM x.i.form=5 then bK x x.i.rd (bits .xor .u32 (aL x) (aU x)) (cB x) else if aM x.i.form=6 then bK x x.i.rd (bits .andNot .u32 (aL x) (aU x)) (cB x) else if aM x.i.form=7 then bK x x.i.rd (bits .or .u32 (aL x) (cF (aU x))) (cB x) else if aM x.i.form=8 then bK x (-1) (bits .and .u32 (aL x) (aU x)) (cB x) else if aM x.i.form=9 then bK x (-1) (bits .xor .u32 (aL x) (aU x)) (cB x) else x
theorem mK {x:XS} (h:aM x.i.form=1):cJ x=bK x x.i.rd (aU x) (cB x):=by unfold cJ; rw[if_pos h]
theorem mL {x:XS} (h:aM x.i.form=2):cJ x=bK x x.i.rd (cF (aU x)) (cB x):=by unfold cJ; rw[if_neg (by omega),if_pos h]
theorem mM {x:XS} (h:aM x.i.form=3):cJ x=bK x x.i.rd (bits .and .u32 (aL x) (aU x)) (cB x):=by unfold cJ; rw[if_neg (by omega),if_neg (by omega),if_pos h]
theorem mN {x:XS} (h:aM x.i.form=4):cJ x=bK x x.i.rd (bits .or .u32 (aL x) (aU x)) (cB x):=by unfold cJ; rw[if_neg (by omega),if_neg (by omega),if_neg (by omega),if_pos h]
theorem mO {x:XS} (h:aM x.i.form=5):cJ x=bK x x.i.rd (bits .xor .u32 (aL x) (aU x)) (cB x):=by unfold cJ; rw[if_neg (by omega),if_neg (by omega),if_neg (by omega),if_neg (by omega),if_pos h]
theorem mQ {x:XS} (h:aM x.i.form=6):cJ x=bK x x.i.rd (bits .andNot .u32 (aL x) (aU x)) (cB x):=by unfold cJ; rw[if_neg (by omega),if_neg (by omega),if_neg (by omega),if_neg (by omega),if_neg (by omega),if_pos h]
theorem pO {x:XS} (h:aM x.i.form=7):cJ x=bK x x.i.rd (bits .or .u32 (aL x) (cF (aU x))) (cB x):=by unfold cJ; rw[if_neg (by omega),if_neg (by omega),if_neg (by omega),if_neg (by omega),if_neg (by omega),if_neg (by omega),if_pos h]
theorem mR {x:XS} (h:aM x.i.form=8):cJ x=bK x (-1) (bits .and .u32 (aL x) (aU x)) (cB x):=by unfold cJ; rw[if_neg (by omega),if_neg (by omega),if_neg (by omega),if_neg (by omega),if_neg (by omega),if_neg (by omega),if_neg (by omega),if_pos h]
theorem pP {x:XS} (h:aM x.i.form=9):cJ x=bK x (-1) (bits .xor .u32 (aL x) (aU x)) (cB x):=by unfold cJ; rw[if_neg (by omega),if_neg (by omega),if_neg (by omega),if_neg (by omega),if_neg (by omega),if_neg (by omega),if_neg (by omega),if_neg (by omega),if_pos h]
theorem u_ {x:XS} (h:aM x.i.form=0):cJ x=x:=by unfold cJ; rw[if_neg (by omega),if_neg (by omega),if_neg (by omega),if_neg (by omega),if_neg (by omega),if_neg (by omega),if_neg (by omega),if_neg (by omega),if_neg (by omega)]
theorem Fg (m:MS) (x:XS) (hx:iX x):Spec gT 94 [.ptr 3 0] (hZ m x) [] fun y S'=>y = .bool (aM x.i.form≠0)/\S'=hZ m (cJ x):=by
 refine Spec.kB (Spec.enter ar P94 100 Tryz.func94 rfl (by kernel_rfl) ?_)
 refine (zz m x hx).e ?_
 refine (u9 m x hx).e ?_
 refine⟨fun h8=>?_,fun h8=>?_⟩
 ·have hc:aM x.i.form=1:=by rw[show x.i.form=8 from h8]; rfl
  rw[mK hc]
  refine (cb m x x.i.rd (aU x) (cB x) hx.rd.2).e ?_
  exact bj (show aM x.i.form≠0 by omega) (ak rfl)
 refine⟨fun h60=>?_,fun h60=>?_⟩
 ·have hc:aM x.i.form=1:=by rw[show x.i.form=60 from h60]; rfl
  rw[mK hc]
  refine (cb m x x.i.rd (aU x) (cB x) hx.rd.2).e ?_
  exact bj (show aM x.i.form≠0 by omega) (ak rfl)
 refine⟨fun h76=>?_,fun h76=>?_⟩
 ·have hc:aM x.i.form=1:=by rw[show x.i.form=76 from h76]; rfl
  rw[mK hc]
  refine (cb m x x.i.rd (aU x) (cB x) hx.rd.2).e ?_
  exact bj (show aM x.i.form≠0 by omega) (ak rfl)
 refine⟨fun h27=>?_,fun h27=>?_⟩
 ·have hc:aM x.i.form=2:=by rw[show x.i.form=27 from h27]; rfl
  rw[mL hc]
  refine (cb m x x.i.rd (cF (aU x)) (cB x) hx.rd.2).e ?_
  exact bj (show aM x.i.form≠0 by omega) (ak rfl)
 refine⟨fun h61=>?_,fun h61=>?_⟩
 ·have hc:aM x.i.form=2:=by rw[show x.i.form=61 from h61]; rfl
  rw[mL hc]
  refine (cb m x x.i.rd (cF (aU x)) (cB x) hx.rd.2).e ?_
  exact bj (show aM x.i.form≠0 by omega) (ak rfl)
 refine⟨fun h77=>?_,fun h77=>?_⟩
 ·have hc:aM x.i.form=2:=by rw[show x.i.form=77 from h77]; rfl
  rw[mL hc]
  refine (cb m x x.i.rd (cF (aU x)) (cB x) hx.rd.2).e ?_
  exact bj (show aM x.i.form≠0 by omega) (ak rfl)
 refine⟨fun h12=>?_,fun h12=>?_⟩
 ·have hc:aM x.i.form=3:=by rw[show x.i.form=12 from h12]; rfl
  rw[mM hc]
  refine (cb m x x.i.rd (bits .and .u32 (aL x) (aU x)) (cB x) hx.rd.2).e ?_
  exact bj (show aM x.i.form≠0 by omega) (ak rfl)
 refine⟨fun h50=>?_,fun h50=>?_⟩
 ·have hc:aM x.i.form=3:=by rw[show x.i.form=50 from h50]; rfl
  rw[mM hc]
  refine (cb m x x.i.rd (bits .and .u32 (aL x) (aU x)) (cB x) hx.rd.2).e ?_
  exact bj (show aM x.i.form≠0 by omega) (ak rfl)
 refine⟨fun h66=>?_,fun h66=>?_⟩
 ·have hc:aM x.i.form=3:=by rw[show x.i.form=66 from h66]; rfl
  rw[mM hc]
  refine (cb m x x.i.rd (bits .and .u32 (aL x) (aU x)) (cB x) hx.rd.2).e ?_
  exact bj (show aM x.i.form≠0 by omega) (ak rfl)
 refine⟨fun Wm=>?_,fun Wm=>?_⟩
 ·have hc:aM x.i.form=4:=by rw[show x.i.form=24 from Wm]; rfl
  rw[mN hc]
  refine (cb m x x.i.rd (bits .or .u32 (aL x) (aU x)) (cB x) hx.rd.2).e ?_
  exact bj (show aM x.i.form≠0 by omega) (ak rfl)
 refine⟨fun h52=>?_,fun h52=>?_⟩
 ·have hc:aM x.i.form=4:=by rw[show x.i.form=52 from h52]; rfl
  rw[mN hc]
  refine (cb m x x.i.rd (bits .or .u32 (aL x) (aU x)) (cB x) hx.rd.2).e ?_
  exact bj (show aM x.i.form≠0 by omega) (ak rfl)
 refine⟨fun h68=>?_,fun h68=>?_⟩
 ·have hc:aM x.i.form=4:=by rw[show x.i.form=68 from h68]; rfl
  rw[mN hc]
  refine (cb m x x.i.rd (bits .or .u32 (aL x) (aU x)) (cB x) hx.rd.2).e ?_
  exact bj (show aM x.i.form≠0 by omega) (ak rfl)
 refine⟨fun Kg=>?_,fun Kg=>?_⟩
 ·have hc:aM x.i.form=5:=by rw[show x.i.form=13 from Kg]; rfl
  rw[mO hc]
  refine (cb m x x.i.rd (bits .xor .u32 (aL x) (aU x)) (cB x) hx.rd.2).e ?_
  exact bj (show aM x.i.form≠0 by omega) (ak rfl)
 refine⟨fun h54=>?_,fun h54=>?_⟩
 ·have hc:aM x.i.form=5:=by rw[show x.i.form=54 from h54]; rfl
  rw[mO hc]
  refine (cb m x x.i.rd (bits .xor .u32 (aL x) (aU x)) (cB x) hx.rd.2).e ?_
  exact bj (show aM x.i.form≠0 by omega) (ak rfl)
 refine⟨fun h70=>?_,fun h70=>?_⟩
 ·have hc:aM x.i.form=5:=by rw[show x.i.form=70 from h70]; rfl
  rw[mO hc]
  refine (cb m x x.i.rd (bits .xor .u32 (aL x) (aU x)) (cB x) hx.rd.2).e ?_
  exact bj (show aM x.i.form≠0 by omega) (ak rfl)
 refine⟨fun h26=>?_,fun h26=>?_⟩
 ·have hc:aM x.i.form=6:=by rw[show x.i.form=26 from h26]; rfl
  rw[mQ hc]
  refine (cb m x x.i.rd (bits .andNot .u32 (aL x) (aU x)) (cB x) hx.rd.2).e ?_
  exact bj (show aM x.i.form≠0 by omega) (ak rfl)
 refine⟨fun h51=>?_,fun h51=>?_⟩
 ·have hc:aM x.i.form=6:=by rw[show x.i.form=51 from h51]; rfl
  rw[mQ hc]
  refine (cb m x x.i.rd (bits .andNot .u32 (aL x) (aU x)) (cB x) hx.rd.2).e ?_
  exact bj (show aM x.i.form≠0 by omega) (ak rfl)
 refine⟨fun h67=>?_,fun h67=>?_⟩
 ·have hc:aM x.i.form=6:=by rw[show x.i.form=67 from h67]; rfl
  rw[mQ hc]
  refine (cb m x x.i.rd (bits .andNot .u32 (aL x) (aU x)) (cB x) hx.rd.2).e ?_
  exact bj (show aM x.i.form≠0 by omega) (ak rfl)
 refine⟨fun h53=>?_,fun h53=>?_⟩
 ·have hc:aM x.i.form=7:=by rw[show x.i.form=53 from h53]; rfl
  rw[pO hc]
  refine (cb m x x.i.rd (bits .or .u32 (aL x) (cF (aU x))) (cB x) hx.rd.2).e ?_
  exact bj (show aM x.i.form≠0 by omega) (ak rfl)
 refine⟨fun h69=>?_,fun h69=>?_⟩
 ·have hc:aM x.i.form=7:=by rw[show x.i.form=69 from h69]; rfl
  rw[pO hc]
  refine (cb m x x.i.rd (bits .or .u32 (aL x) (cF (aU x))) (cB x) hx.rd.2).e ?_
  exact bj (show aM x.i.form≠0 by omega) (ak rfl)
 refine⟨fun Wn=>?_,fun Wn=>?_⟩
 ·have hc:aM x.i.form=8:=by rw[show x.i.form=20 from Wn]; rfl
  rw[mR hc]
  refine (cb m x (-1) (bits .and .u32 (aL x) (aU x)) (cB x) (by decide)).e ?_
  exact bj (show aM x.i.form≠0 by omega) (ak rfl)
 refine⟨fun h62=>?_,fun h62=>?_⟩
 ·have hc:aM x.i.form=8:=by rw[show x.i.form=62 from h62]; rfl
  rw[mR hc]
  refine (cb m x (-1) (bits .and .u32 (aL x) (aU x)) (cB x) (by decide)).e ?_
  exact bj (show aM x.i.form≠0 by omega) (ak rfl)
 refine⟨fun h78=>?_,fun h78=>?_⟩
 ·have hc:aM x.i.form=8:=by rw[show x.i.form=78 from h78]; rfl
  rw[mR hc]
  refine (cb m x (-1) (bits .and .u32 (aL x) (aU x)) (cB x) (by decide)).e ?_
  exact bj (show aM x.i.form≠0 by omega) (ak rfl)
 refine⟨fun h63=>?_,fun h63=>?_⟩
 ·have hc:aM x.i.form=9:=by rw[show x.i.form=63 from h63]; rfl
  rw[pP hc]
  refine (cb m x (-1) (bits .xor .u32 (aL x) (aU x)) (cB x) (by decide)).e ?_
  exact bj (show aM x.i.form≠0 by omega) (ak rfl)
 refine⟨fun h79=>?_,fun h79=>?_⟩
 ·have hc:aM x.i.form=9:=by rw[show x.i.form=79 from h79]; rfl
  rw[pP hc]
  refine (cb m x (-1) (bits .xor .u32 (aL x) (aU x)) (cB x) (by decide)).e ?_
  exact bj (show aM x.i.form≠0 by omega) (ak rfl)
 ·have hc:aM x.i.form=0:=by unfold aM; rw[if_neg (by omega),if_neg (by omega),if_neg (by omega),if_neg (by omega),if_neg (by omega),if_neg (by omega),if_neg (by omega),if_neg (by omega),if_neg (by omega)]
  rw[u_ hc]
  exact bj (show ¬ aM x.i.form≠0 from fun h=>h hc) (ak rfl)
def va (x:XS):Int:=bits .and .u32 (al x x.i.rm) 255
theorem fm {x:XS} (h:iX x):0<=va x/\va x<=255:=by
 unfold va
 have b:=aX h x.i.rm
 rw[Rm.pE _ b.1 b.2]; omega
def bW (f:Int):Int :=
 if f=1\/f=2\/f=3 then 1 else if f=14\/f=15\/f=16 then 2 else if f=19 then 3 else if f=88\/f=89\/f=90\/f=91 then 4 else 0
def cm (x:XS):XS :=
 if bW x.i.form=1 then fj x (x.i.form - 1) (al x x.i.rm) x.i.av else if bW x.i.form=2 then fj x (x.i.form - 14) (al x x.i.rd) (va x) else if bW x.i.form=3 then fj x 3 (al x x.i.rd) (va x) else if bW x.i.form=4 then fj x (x.i.form - 88) (al x x.i.rn) (va x) else x
theorem pQ {x:XS} (h:bW x.i.form=1):cm x=fj x (x.i.form - 1) (al x x.i.rm) x.i.av:=by unfold cm; rw[if_pos h]
theorem pR {x:XS} (h:bW x.i.form=2):cm x=fj x (x.i.form - 14) (al x x.i.rd) (va x):=by unfold cm; rw[if_neg (by omega),if_pos h]
theorem Fh {x:XS} (h:bW x.i.form=3):cm x=fj x 3 (al x x.i.rd) (va x):=by unfold cm; rw[if_neg (by omega),if_neg (by omega),if_pos h]
theorem mS {x:XS} (h:bW x.i.form=4):cm x=fj x (x.i.form - 88) (al x x.i.rn) (va x):=by unfold cm; rw[if_neg (by omega),if_neg (by omega),if_neg (by omega),if_pos h]
theorem vb {x:XS} (h:bW x.i.form=0):cm x=x:=by unfold cm; rw[if_neg (by omega),if_neg (by omega),if_neg (by omega),if_neg (by omega)]
theorem Fi (m:MS) (x:XS) (hx:iX x):Spec gT 95 [.ptr 3 0] (hZ m x) [] fun y S'=>y = .bool (bW x.i.form≠0)/\S'=hZ m (cm x):=by
 refine Spec.kB (Spec.enter ar P95 100 Tryz.func95 rfl (by kernel_rfl) ?_)
 have Ol:=fm hx
 refine (bH m x x.i.rm hx.rm.1 hx.rm.2).e ?_
 refine li ?_ (show _<=va x/\va x<=_ by omega)
 refine⟨fun h1=>?_,fun h1=>?_⟩
 ·have hc:bW x.i.form=1:=by rw[show x.i.form=1 from h1]; rfl
  rw[pQ hc]
  refine li ?_ (show _<=x.i.form - 1/\x.i.form - 1<=_ by omega)
  refine (bH m x x.i.rm hx.rm.1 hx.rm.2).e ?_
  have hl:=hx.low (by omega)
  refine (dV m x (x.i.form - 1) (al x x.i.rm) x.i.av hx (by omega) (by omega) hl.1 (by omega) (aX hx _)).e ?_
  exact bj (show bW x.i.form≠0 by omega) (ak rfl)
 refine⟨fun h2=>?_,fun h2=>?_⟩
 ·have hc:bW x.i.form=1:=by rw[show x.i.form=2 from h2]; rfl
  rw[pQ hc]
  refine li ?_ (show _<=x.i.form - 1/\x.i.form - 1<=_ by omega)
  refine (bH m x x.i.rm hx.rm.1 hx.rm.2).e ?_
  have hl:=hx.low (by omega)
  refine (dV m x (x.i.form - 1) (al x x.i.rm) x.i.av hx (by omega) (by omega) hl.1 (by omega) (aX hx _)).e ?_
  exact bj (show bW x.i.form≠0 by omega) (ak rfl)
 refine⟨fun h3=>?_,fun h3=>?_⟩
 ·have hc:bW x.i.form=1:=by rw[show x.i.form=3 from h3]; rfl
  rw[pQ hc]
  refine li ?_ (show _<=x.i.form - 1/\x.i.form - 1<=_ by omega)
  refine (bH m x x.i.rm hx.rm.1 hx.rm.2).e ?_
  have hl:=hx.low (by omega)
  refine (dV m x (x.i.form - 1) (al x x.i.rm) x.i.av hx (by omega) (by omega) hl.1 (by omega) (aX hx _)).e ?_
  exact bj (show bW x.i.form≠0 by omega) (ak rfl)
 refine⟨fun Wo=>?_,fun Wo=>?_⟩
 ·have hc:bW x.i.form=2:=by rw[show x.i.form=14 from Wo]; rfl
  rw[pR hc]
  refine li ?_ (show _<=x.i.form - 14/\x.i.form - 14<=_ by omega)
  refine (bH m x x.i.rd hx.rd.1 hx.rd.2).e ?_
  refine (dV m x (x.i.form - 14) (al x x.i.rd) (va x) hx (by omega) (by omega) (fm hx).1 (fm hx).2 (aX hx _)).e ?_
  exact bj (show bW x.i.form≠0 by omega) (ak rfl)
 refine⟨fun Ad=>?_,fun Ad=>?_⟩
 ·have hc:bW x.i.form=2:=by rw[show x.i.form=15 from Ad]; rfl
  rw[pR hc]
  refine li ?_ (show _<=x.i.form - 14/\x.i.form - 14<=_ by omega)
  refine (bH m x x.i.rd hx.rd.1 hx.rd.2).e ?_
  refine (dV m x (x.i.form - 14) (al x x.i.rd) (va x) hx (by omega) (by omega) (fm hx).1 (fm hx).2 (aX hx _)).e ?_
  exact bj (show bW x.i.form≠0 by omega) (ak rfl)
 refine⟨fun Wp=>?_,fun Wp=>?_⟩
 ·have hc:bW x.i.form=2:=by rw[show x.i.form=16 from Wp]; rfl
  rw[pR hc]
  refine li ?_ (show _<=x.i.form - 14/\x.i.form - 14<=_ by omega)
  refine (bH m x x.i.rd hx.rd.1 hx.rd.2).e ?_
  refine (dV m x (x.i.form - 14) (al x x.i.rd) (va x) hx (by omega) (by omega) (fm hx).1 (fm hx).2 (aX hx _)).e ?_
  exact bj (show bW x.i.form≠0 by omega) (ak rfl)
 refine⟨fun h19=>?_,fun h19=>?_⟩
 ·have hc:bW x.i.form=3:=by rw[show x.i.form=19 from h19]; rfl
  rw[Fh hc]
  refine (bH m x x.i.rd hx.rd.1 hx.rd.2).e ?_
  refine (dV m x 3 (al x x.i.rd) (va x) hx (by omega) (by omega) (fm hx).1 (fm hx).2 (aX hx _)).e ?_
  exact bj (show bW x.i.form≠0 by omega) (ak rfl)
 refine⟨fun h88=>?_,fun h88=>?_⟩
 ·have hc:bW x.i.form=4:=by rw[show x.i.form=88 from h88]; rfl
  rw[mS hc]
  refine li ?_ (show _<=x.i.form - 88/\x.i.form - 88<=_ by omega)
  refine (bH m x x.i.rn hx.rn.1 hx.rn.2).e ?_
  refine (dV m x (x.i.form - 88) (al x x.i.rn) (va x) hx (by omega) (by omega) (fm hx).1 (fm hx).2 (aX hx _)).e ?_
  exact bj (show bW x.i.form≠0 by omega) (ak rfl)
 refine⟨fun h89=>?_,fun h89=>?_⟩
 ·have hc:bW x.i.form=4:=by rw[show x.i.form=89 from h89]; rfl
  rw[mS hc]
  refine li ?_ (show _<=x.i.form - 88/\x.i.form - 88<=_ by omega)
  refine (bH m x x.i.rn hx.rn.1 hx.rn.2).e ?_
  refine (dV m x (x.i.form - 88) (al x x.i.rn) (va x) hx (by omega) (by omega) (fm hx).1 (fm hx).2 (aX hx _)).e ?_
  exact bj (show bW x.i.form≠0 by omega) (ak rfl)
 refine⟨fun h90=>?_,fun h90=>?_⟩
 ·have hc:bW x.i.form=4:=by rw[show x.i.form=90 from h90]; rfl
  rw[mS hc]
  refine li ?_ (show _<=x.i.form - 88/\x.i.form - 88<=_ by omega)
  refine (bH m x x.i.rn hx.rn.1 hx.rn.2).e ?_
  refine (dV m x (x.i.form - 88) (al x x.i.rn) (va x) hx (by omega) (by omega) (fm hx).1 (fm hx).2 (aX hx _)).e ?_
  exact bj (show bW x.i.form≠0 by omega) (ak rfl)
 refine⟨fun h91=>?_,fun h91=>?_⟩
 ·have hc:bW x.i.form=4:=by rw[show x.i.form=91 from h91]; rfl
  rw[mS hc]
  refine li ?_ (show _<=x.i.form - 88/\x.i.form - 88<=_ by omega)
  refine (bH m x x.i.rn hx.rn.1 hx.rn.2).e ?_
  refine (dV m x (x.i.form - 88) (al x x.i.rn) (va x) hx (by omega) (by omega) (fm hx).1 (fm hx).2 (aX hx _)).e ?_
  exact bj (show bW x.i.form≠0 by omega) (ak rfl)
 ·have hc:bW x.i.form=0:=by unfold bW; rw[if_neg (by omega),if_neg (by omega),if_neg (by omega),if_neg (by omega)]
  rw[vb hc]
  exact bj (show ¬ bW x.i.form≠0 from fun h=>h hc) (ak rfl)
def aR (s:RS) (c:Int):Prop :=
 (c=0/\s.Z=1)\/(c=1/\¬ s.Z=1)\/(c=2/\s.C=1)\/(c=3/\¬ s.C=1)\/(c=4/\s.N=1)\/(c=5/\¬ s.N=1)\/(c=6/\s.V=1)\/(c=7/\¬ s.V=1) \/
 (c=8/\s.C=1/\s.Z=0)\/(c=9/\¬ (s.C=1/\s.Z=0))\/(c=10/\s.N=s.V)\/(c=11/\¬ s.N=s.V)\/(c=12/\s.Z=0/\s.N=s.V)\/(c=13/\¬ (s.Z=0/\s.N=s.V))
instance (s:RS) (c:Int):Decidable (aR s c):=by unfold aR; infer_instance
theorem en {p q:Prop} (h:p↔q):ki (.bool p) (.bool q):=h
theorem dW {q:Prop} (h:q):ki .tt (.bool q):=h
theorem er {q:Prop} (h:¬ q):ki .ff (.bool q):=h
theorem eJ {f:FuncId} {a r:PV} {c K:Int} (e:c=K) (h:ah gT f [a,.lit .i64 K] r) (ha:ki a a):ah gT f [a,.int .i64 c] r:=by
 subst e
 exact Spec.args h ⟨ha,show z9 (.int .i64 c) (.lit .i64 c) from rfl,trivial⟩
theorem eN (s:RS):ki (pf s) (pf s):=fH (l:=MR s) rfl
theorem Fj (s:RS) (c:Int) (h:c < 0\/13 < c):ah gT 14 [pf s,.int .i64 c] (.bool (aR s c)):=by
 have hn:¬ aR s c:=by unfold aR; omega
 refine Spec.enter ar AN 100 Tryz.func14 rfl (by kernel_rfl) ?_
 refine And.intro (by decide) (.inr ?_)
 repeat' ((try (conv=>whnf)); first
  | (refine ao ?_; exact er hn)
  | (refine (And.intro (fun _=>?_) (fun _=>?_):(_->_)/\(_->_))<;>(first|(exfalso; first|contradiction|omega)|skip)))
theorem Nh (s:RS):ah gT 14 [pf s,.lit .i64 0] (.bool (aR s 0)):=by
 refine Spec.enter ar AN 100 Tryz.func14 rfl (by kernel_rfl) ?_
 repeat' ((try (conv=>whnf)); first
  | (refine ao ?_; first|(refine en ?_; simp[aR, *]; done)|(refine dW ?_; simp[aR, *]; done)|(refine er ?_; simp[aR, *]; done))
  | (refine (And.intro (fun _=>?_) (fun _=>?_):(_->_)/\(_->_))<;>(first|(exfalso; contradiction)|skip)))
theorem Ni (s:RS):ah gT 14 [pf s,.lit .i64 1] (.bool (aR s 1)):=by
 refine Spec.enter ar AN 100 Tryz.func14 rfl (by kernel_rfl) ?_
 repeat' ((try (conv=>whnf)); first
  | (refine ao ?_; first|(refine en ?_; simp[aR, *]; done)|(refine dW ?_; simp[aR, *]; done)|(refine er ?_; simp[aR, *]; done))
  | (refine (And.intro (fun _=>?_) (fun _=>?_):(_->_)/\(_->_))<;>(first|(exfalso; contradiction)|skip)))
theorem Nj (s:RS):ah gT 14 [pf s,.lit .i64 2] (.bool (aR s 2)):=by
 refine Spec.enter ar AN 100 Tryz.func14 rfl (by kernel_rfl) ?_
 repeat' ((try (conv=>whnf)); first
  | (refine ao ?_; first|(refine en ?_; simp[aR, *]; done)|(refine dW ?_; simp[aR, *]; done)|(refine er ?_; simp[aR, *]; done))
  | (refine (And.intro (fun _=>?_) (fun _=>?_):(_->_)/\(_->_))<;>(first|(exfalso; contradiction)|skip)))
theorem Nk (s:RS):ah gT 14 [pf s,.lit .i64 3] (.bool (aR s 3)):=by
 refine Spec.enter ar AN 100 Tryz.func14 rfl (by kernel_rfl) ?_
 repeat' ((try (conv=>whnf)); first
  | (refine ao ?_; first|(refine en ?_; simp[aR, *]; done)|(refine dW ?_; simp[aR, *]; done)|(refine er ?_; simp[aR, *]; done))
  | (refine (And.intro (fun _=>?_) (fun _=>?_):(_->_)/\(_->_))<;>(first|(exfalso; contradiction)|skip)))
theorem Nl (s:RS):ah gT 14 [pf s,.lit .i64 4] (.bool (aR s 4)):=by
 refine Spec.enter ar AN 100 Tryz.func14 rfl (by kernel_rfl) ?_
 repeat' ((try (conv=>whnf)); first
  | (refine ao ?_; first|(refine en ?_; simp[aR, *]; done)|(refine dW ?_; simp[aR, *]; done)|(refine er ?_; simp[aR, *]; done))
  | (refine (And.intro (fun _=>?_) (fun _=>?_):(_->_)/\(_->_))<;>(first|(exfalso; contradiction)|skip)))
theorem Nm (s:RS):ah gT 14 [pf s,.lit .i64 5] (.bool (aR s 5)):=by
 refine Spec.enter ar AN 100 Tryz.func14 rfl (by kernel_rfl) ?_
 repeat' ((try (conv=>whnf)); first
  | (refine ao ?_; first|(refine en ?_; simp[aR, *]; done)|(refine dW ?_; simp[aR, *]; done)|(refine er ?_; simp[aR, *]; done))
  | (refine (And.intro (fun _=>?_) (fun _=>?_):(_->_)/\(_->_))<;>(first|(exfalso; contradiction)|skip)))
theorem Nn (s:RS):ah gT 14 [pf s,.lit .i64 6] (.bool (aR s 6)):=by
 refine Spec.enter ar AN 100 Tryz.func14 rfl (by kernel_rfl) ?_
 repeat' ((try (conv=>whnf)); first
  | (refine ao ?_; first|(refine en ?_; simp[aR, *]; done)|(refine dW ?_; simp[aR, *]; done)|(refine er ?_; simp[aR, *]; done))
  | (refine (And.intro (fun _=>?_) (fun _=>?_):(_->_)/\(_->_))<;>(first|(exfalso; contradiction)|skip)))
theorem No (s:RS):ah gT 14 [pf s,.lit .i64 7] (.bool (aR s 7)):=by
 refine Spec.enter ar AN 100 Tryz.func14 rfl (by kernel_rfl) ?_
 repeat' ((try (conv=>whnf)); first
  | (refine ao ?_; first|(refine en ?_; simp[aR, *]; done)|(refine dW ?_; simp[aR, *]; done)|(refine er ?_; simp[aR, *]; done))
  | (refine (And.intro (fun _=>?_) (fun _=>?_):(_->_)/\(_->_))<;>(first|(exfalso; contradiction)|skip)))
theorem Np (s:RS):ah gT 14 [pf s,.lit .i64 8] (.bool (aR s 8)):=by
 refine Spec.enter ar AN 100 Tryz.func14 rfl (by kernel_rfl) ?_
 repeat' ((try (conv=>whnf)); first
  | (refine ao ?_; first|(refine en ?_; simp[aR, *]; done)|(refine dW ?_; simp[aR, *]; done)|(refine er ?_; simp[aR, *]; done))
  | (refine (And.intro (fun _=>?_) (fun _=>?_):(_->_)/\(_->_))<;>(first|(exfalso; contradiction)|skip)))
theorem Nq (s:RS):ah gT 14 [pf s,.lit .i64 9] (.bool (aR s 9)):=by
 refine Spec.enter ar AN 100 Tryz.func14 rfl (by kernel_rfl) ?_
 repeat' ((try (conv=>whnf)); first
  | (refine ao ?_; first|(refine en ?_; simp[aR, *]; done)|(refine dW ?_; simp[aR, *]; done)|(refine er ?_; simp[aR, *]; done))
  | (refine (And.intro (fun _=>?_) (fun _=>?_):(_->_)/\(_->_))<;>(first|(exfalso; contradiction)|skip)))
theorem IX (s:RS):ah gT 14 [pf s,.lit .i64 10] (.bool (aR s 10)):=by
 refine Spec.enter ar AN 100 Tryz.func14 rfl (by kernel_rfl) ?_
 repeat' ((try (conv=>whnf)); first
  | (refine ao ?_; first|(refine en ?_; simp[aR, *]; done)|(refine dW ?_; simp[aR, *]; done)|(refine er ?_; simp[aR, *]; done))
  | (refine (And.intro (fun _=>?_) (fun _=>?_):(_->_)/\(_->_))<;>(first|(exfalso; contradiction)|skip)))
theorem IY (s:RS):ah gT 14 [pf s,.lit .i64 11] (.bool (aR s 11)):=by
 refine Spec.enter ar AN 100 Tryz.func14 rfl (by kernel_rfl) ?_
 repeat' ((try (conv=>whnf)); first
  | (refine ao ?_; first|(refine en ?_; simp[aR, *]; done)|(refine dW ?_; simp[aR, *]; done)|(refine er ?_; simp[aR, *]; done))
  | (refine (And.intro (fun _=>?_) (fun _=>?_):(_->_)/\(_->_))<;>(first|(exfalso; contradiction)|skip)))
theorem IZ (s:RS):ah gT 14 [pf s,.lit .i64 12] (.bool (aR s 12)):=by
 refine Spec.enter ar AN 100 Tryz.func14 rfl (by kernel_rfl) ?_
 repeat' ((try (conv=>whnf)); first
  | (refine ao ?_; first|(refine en ?_; simp[aR, *]; done)|(refine dW ?_; simp[aR, *]; done)|(refine er ?_; simp[aR, *]; done))
  | (refine (And.intro (fun _=>?_) (fun _=>?_):(_->_)/\(_->_))<;>(first|(exfalso; contradiction)|skip)))
theorem I_ (s:RS):ah gT 14 [pf s,.lit .i64 13] (.bool (aR s 13)):=by
 refine Spec.enter ar AN 100 Tryz.func14 rfl (by kernel_rfl) ?_
 repeat' ((try (conv=>whnf)); first
  | (refine ao ?_; first|(refine en ?_; simp[aR, *]; done)|(refine dW ?_; simp[aR, *]; done)|(refine er ?_; simp[aR, *]; done))
  | (refine (And.intro (fun _=>?_) (fun _=>?_):(_->_)/\(_->_))<;>(first|(exfalso; contradiction)|skip)))
theorem tp (s:RS) (c:Int):ah gT 14 [pf s,.int .i64 c] (.bool (aR s c)):=by
 by_cases h:c < 0\/13 < c
 ·exact Fj s c h
 ·have hc:c=0\/c=1\/c=2\/c=3\/c=4\/c=5\/c=6\/c=7\/c=8\/c=9\/c=10\/c=11\/c=12\/c=13:=by omega
  rcases hc with rfl|rfl|rfl|rfl|rfl|rfl|rfl|rfl|rfl|rfl|rfl|rfl|rfl|rfl
  
  ·exact eJ rfl (Nh s) (eN s)
  ·exact eJ rfl (Ni s) (eN s)
  ·exact eJ rfl (Nj s) (eN s)
  ·exact eJ rfl (Nk s) (eN s)
  ·exact eJ rfl (Nl s) (eN s)
  ·exact eJ rfl (Nm s) (eN s)
  ·exact eJ rfl (Nn s) (eN s)
  ·exact eJ rfl (No s) (eN s)
  ·exact eJ rfl (Np s) (eN s)
  ·exact eJ rfl (Nq s) (eN s)
  ·exact eJ rfl (IX s) (eN s)
  ·exact eJ rfl (IY s) (eN s)
  ·exact eJ rfl (IZ s) (eN s)
  ·exact eJ rfl (I_ s) (eN s)
def dM (r v:Int):Int:=if r=13 then bits .andNot .u32 v 3 else v
theorem tq (r v:Int):ah gT 147 [.int .i64 r,.int .u32 v] (.int .u32 (dM r v)):=by
 refine Spec.enter ar P147 100 Tryz.func147 rfl (by kernel_rfl) ?_
 refine⟨fun h=>?_,fun h=>?_⟩
 ·exact ao (show bits .andNot .u32 v 3=dM r v by unfold dM; rw[if_pos h])
 ·exact ao (show v=dM r v by unfold dM; rw[if_neg h])
def fo (x:XS) (v:Int):XS:=if bits .or .u32 v 1=4294967295 then { x with kind:=1,code:=0 } else cg x 15 (bits .andNot .u32 v 1)
theorem Dg (m:MS) (x:XS) (v:Int):Spec gT 136 [.ptr 3 0,.int .u32 v] (hZ m x) [] fun y S'=>y = .tup []/\S'=hZ m (fo x v):=by
 refine Spec.kB (Spec.enter ar P136 100 Tryz.func136 rfl (by kernel_rfl) ?_)
 refine⟨fun h=>?_,fun h=>?_⟩
 ·have e:fo x v = { x with kind:=1,code:=0 }:=by unfold fo; rw[if_pos h]
  rw[e]
  exact rS
 ·have e:fo x v=cg x 15 (bits .andNot .u32 v 1):=by unfold fo; rw[if_neg h]
  rw[e]
  refine (bT m x 15 (bits .andNot .u32 v 1) (by decide) (by decide)).e ?_
  exact rS
def qq (x:XS) (lo hi:Int):XS:=cg (cg x x.i.rd lo) x.i.ra hi
theorem Dh (m:MS) (x:XS) (lo hi:Int) (hx:iX x):Spec gT 144 [.ptr 3 0,.int .u32 lo,.int .u32 hi] (hZ m x) [] fun y S'=>y = .tup []/\S'=hZ m (qq x lo hi):=by
 refine Spec.kB (Spec.enter ar P144 100 Tryz.func144 rfl (by kernel_rfl) ?_)
 refine (bT m x x.i.rd lo hx.rd.1 hx.rd.2).e ?_
 refine (bT m (cg x x.i.rd lo) x.i.ra hi hx.ra.1 hx.ra.2).e ?_
 exact rS
def br (f:Int):Int :=
 if f=28 then 1 else if f=30 then 2 else if f=48 then 3 else if f=49 then 4 else if f=82 then 5 else if f=83 then 6 else if f=39 then 7 else if f=40 then 8 else if f=41 then 9 else if f=44 then 10 else 0
def ch (x:XS):XS :=
 if br x.i.form=1 then cg x x.i.rd (dM x.i.rd (IntKind.u32.wrap (al x x.i.rd+al x x.i.rm))) else if br x.i.form=2 then cg x x.i.rd (dM x.i.rd (al x x.i.rm)) else if br x.i.form=3 then cg x x.i.rd (IntKind.u32.wrap x.i.av) else if br x.i.form=4 then cg x x.i.rd (bits .or .u32 (bits .and .u32 (al x x.i.rd) 65535) (IntKind.u32.wrap (IntKind.u32.wrap x.i.av*Ev.aD .u32 16))) else if br x.i.form=5 then cg x x.i.rd (IntKind.u32.wrap (al x x.i.rn+IntKind.u32.wrap x.i.av)) else if br x.i.form=6 then cg x x.i.rd (IntKind.u32.wrap (al x x.i.rn - IntKind.u32.wrap x.i.av)) else if br x.i.form=7 then cg x x.i.rd (IntKind.u32.wrap (al x 13+IntKind.u32.wrap x.i.av)) else if br x.i.form=8 then cg x 13 (IntKind.u32.wrap (al x 13+IntKind.u32.wrap x.i.av)) else if br x.i.form=9 then cg x 13 (IntKind.u32.wrap (al x 13 - IntKind.u32.wrap x.i.av)) else if br x.i.form=10 then x else x
theorem zA {x:XS} (h:br x.i.form=1):ch x=cg x x.i.rd (dM x.i.rd (IntKind.u32.wrap (al x x.i.rd+al x x.i.rm))):=by unfold ch; rw[if_pos h]
theorem zB {x:XS} (h:br x.i.form=2):ch x=cg x x.i.rd (dM x.i.rd (al x x.i.rm)):=by unfold ch; rw[if_neg (by omega),if_pos h]
theorem zC {x:XS} (h:br x.i.form=3):ch x=cg x x.i.rd (IntKind.u32.wrap x.i.av):=by unfold ch; rw[if_neg (by omega),if_neg (by omega),if_pos h]
theorem zD {x:XS} (h:br x.i.form=4):ch x=cg x x.i.rd (bits .or .u32 (bits .and .u32 (al x x.i.rd) 65535) (IntKind.u32.wrap (IntKind.u32.wrap x.i.av*Ev.aD .u32 16))):=by unfold ch; rw[if_neg (by omega),if_neg (by omega),if_neg (by omega),if_pos h]
theorem zE {x:XS} (h:br x.i.form=5):ch x=cg x x.i.rd (IntKind.u32.wrap (al x x.i.rn+IntKind.u32.wrap x.i.av)):=by unfold ch; rw[if_neg (by omega),if_neg (by omega),if_neg (by omega),if_neg (by omega),if_pos h]
theorem zF {x:XS} (h:br x.i.form=6):ch x=cg x x.i.rd (IntKind.u32.wrap (al x x.i.rn - IntKind.u32.wrap x.i.av)):=by unfold ch; rw[if_neg (by omega),if_neg (by omega),if_neg (by omega),if_neg (by omega),if_neg (by omega),if_pos h]
theorem zG {x:XS} (h:br x.i.form=7):ch x=cg x x.i.rd (IntKind.u32.wrap (al x 13+IntKind.u32.wrap x.i.av)):=by unfold ch; rw[if_neg (by omega),if_neg (by omega),if_neg (by omega),if_neg (by omega),if_neg (by omega),if_neg (by omega),if_pos h]
theorem zH {x:XS} (h:br x.i.form=8):ch x=cg x 13 (IntKind.u32.wrap (al x 13+IntKind.u32.wrap x.i.av)):=by unfold ch; rw[if_neg (by omega),if_neg (by omega),if_neg (by omega),if_neg (by omega),if_neg (by omega),if_neg (by omega),if_neg (by omega),if_pos h]
theorem zI {x:XS} (h:br x.i.form=9):ch x=cg x 13 (IntKind.u32.wrap (al x 13 - IntKind.u32.wrap x.i.av)):=by unfold ch; rw[if_neg (by omega),if_neg (by omega),if_neg (by omega),if_neg (by omega),if_neg (by omega),if_neg (by omega),if_neg (by omega),if_neg (by omega),if_pos h]
theorem vc {x:XS} (h:br x.i.form=10):ch x=x:=by unfold ch; rw[if_neg (by omega),if_neg (by omega),if_neg (by omega),if_neg (by omega),if_neg (by omega),if_neg (by omega),if_neg (by omega),if_neg (by omega),if_neg (by omega),if_pos h]
theorem l8 {x:XS} (h:br x.i.form=0):ch x=x:=by unfold ch; rw[if_neg (by omega),if_neg (by omega),if_neg (by omega),if_neg (by omega),if_neg (by omega),if_neg (by omega),if_neg (by omega),if_neg (by omega),if_neg (by omega),if_neg (by omega)]
theorem Ja (m:MS) (x:XS) (hx:iX x):Spec gT 97 [.ptr 3 0] (hZ m x) [] fun y S'=>y = .bool (br x.i.form≠0)/\S'=hZ m (ch x):=by
 refine Spec.kB (Spec.enter ar P97 100 Tryz.func97 rfl (by kernel_rfl) ?_)
 refine .inr ?_
 refine⟨fun h28=>?_,fun h28=>?_⟩
 ·have hc:br x.i.form=1:=by rw[show x.i.form=28 from h28]; rfl
  rw[zA hc]
  refine (bH m x x.i.rd hx.rd.1 hx.rd.2).e ?_
  refine (bH m x x.i.rm hx.rm.1 hx.rm.2).e ?_
  refine .inr ?_
  refine (tq x.i.rd (IntKind.u32.wrap (al x x.i.rd+al x x.i.rm))).u ?_
  refine (bT m x x.i.rd (dM x.i.rd (IntKind.u32.wrap (al x x.i.rd+al x x.i.rm))) hx.rd.1 hx.rd.2).e ?_
  exact bj (show br x.i.form≠0 by omega) (ak rfl)
 refine⟨fun h30=>?_,fun h30=>?_⟩
 ·have hc:br x.i.form=2:=by rw[show x.i.form=30 from h30]; rfl
  rw[zB hc]
  refine (bH m x x.i.rm hx.rm.1 hx.rm.2).e ?_
  refine (tq x.i.rd (al x x.i.rm)).u ?_
  refine (bT m x x.i.rd (dM x.i.rd (al x x.i.rm)) hx.rd.1 hx.rd.2).e ?_
  exact bj (show br x.i.form≠0 by omega) (ak rfl)
 refine⟨fun Ac=>?_,fun Ac=>?_⟩
 ·have hc:br x.i.form=3:=by rw[show x.i.form=48 from Ac]; rfl
  rw[zC hc]
  refine (bT m x x.i.rd (IntKind.u32.wrap x.i.av) hx.rd.1 hx.rd.2).e ?_
  exact bj (show br x.i.form≠0 by omega) (ak rfl)
 refine⟨fun h49=>?_,fun h49=>?_⟩
 ·have hc:br x.i.form=4:=by rw[show x.i.form=49 from h49]; rfl
  rw[zD hc]
  refine⟨by decide,.inr ?_⟩
  refine (bH m x x.i.rd hx.rd.1 hx.rd.2).e ?_
  refine (bT m x x.i.rd (bits .or .u32 (bits .and .u32 (al x x.i.rd) 65535) (IntKind.u32.wrap (IntKind.u32.wrap x.i.av*Ev.aD .u32 16))) hx.rd.1 hx.rd.2).e ?_
  exact bj (show br x.i.form≠0 by omega) (ak rfl)
 refine⟨fun h82=>?_,fun h82=>?_⟩
 ·have hc:br x.i.form=5:=by rw[show x.i.form=82 from h82]; rfl
  rw[zE hc]
  refine (bH m x x.i.rn hx.rn.1 hx.rn.2).e ?_
  refine .inr ?_
  refine (bT m x x.i.rd (IntKind.u32.wrap (al x x.i.rn+IntKind.u32.wrap x.i.av)) hx.rd.1 hx.rd.2).e ?_
  exact bj (show br x.i.form≠0 by omega) (ak rfl)
 refine⟨fun h83=>?_,fun h83=>?_⟩
 ·have hc:br x.i.form=6:=by rw[show x.i.form=83 from h83]; rfl
  rw[zF hc]
  refine (bH m x x.i.rn hx.rn.1 hx.rn.2).e ?_
  refine .inr ?_
  refine (bT m x x.i.rd (IntKind.u32.wrap (al x x.i.rn - IntKind.u32.wrap x.i.av)) hx.rd.1 hx.rd.2).e ?_
  exact bj (show br x.i.form≠0 by omega) (ak rfl)
 refine⟨fun h39=>?_,fun h39=>?_⟩
 ·have hc:br x.i.form=7:=by rw[show x.i.form=39 from h39]; rfl
  rw[zG hc]
  refine (bH m x 13 (by decide) (by decide)).e ?_
  refine .inr ?_
  refine (bT m x x.i.rd (IntKind.u32.wrap (al x 13+IntKind.u32.wrap x.i.av)) hx.rd.1 hx.rd.2).e ?_
  exact bj (show br x.i.form≠0 by omega) (ak rfl)
 refine⟨fun h40=>?_,fun h40=>?_⟩
 ·have hc:br x.i.form=8:=by rw[show x.i.form=40 from h40]; rfl
  rw[zH hc]
  refine (bH m x 13 (by decide) (by decide)).e ?_
  refine .inr ?_
  refine (bT m x 13 (IntKind.u32.wrap (al x 13+IntKind.u32.wrap x.i.av)) (by decide) (by decide)).e ?_
  exact bj (show br x.i.form≠0 by omega) (ak rfl)
 refine⟨fun h41=>?_,fun h41=>?_⟩
 ·have hc:br x.i.form=9:=by rw[show x.i.form=41 from h41]; rfl
  rw[zI hc]
  refine (bH m x 13 (by decide) (by decide)).e ?_
  refine .inr ?_
  refine (bT m x 13 (IntKind.u32.wrap (al x 13 - IntKind.u32.wrap x.i.av)) (by decide) (by decide)).e ?_
  exact bj (show br x.i.form≠0 by omega) (ak rfl)
 refine⟨fun ZU=>?_,fun ZU=>?_⟩
 ·have hc:br x.i.form=10:=by rw[show x.i.form=44 from ZU]; rfl
  rw[vc hc]
  exact bj (show br x.i.form≠0 by omega) (ak rfl)
 ·have hc:br x.i.form=0:=by unfold br; rw[if_neg (by omega),if_neg (by omega),if_neg (by omega),if_neg (by omega),if_neg (by omega),if_neg (by omega),if_neg (by omega),if_neg (by omega),if_neg (by omega),if_neg (by omega)]
  rw[l8 hc]
  exact bj (show ¬ br x.i.form≠0 from fun h=>h hc) (ak rfl)
theorem Jb (x:XS):aP (al x x.i.rn*al x x.i.rm % 4294967296):=by unfold aP; omega
theorem Pt {x:XS} (h:iX x):aP (al x x.i.rn*al x x.i.rm / 4294967296):=by
 have a:=aX h x.i.rn
 have b:=aX h x.i.rm
 unfold aP at a b ⊢
 have h1:0<=al x x.i.rn*al x x.i.rm:=Int.mul_nonneg a.1 b.1
 have h2:al x x.i.rn*al x x.i.rm<=4294967295*4294967295:=Int.mul_le_mul a.2 b.2 b.1 (by decide)
 omega
def bg (f:Int):Int :=
 if f=25 then 1 else if f=92 then 2 else if f=93 then 3 else if f=94 then 4 else if f=95 then 5 else if f=96 then 6 else if f=97 then 7 else if f=98 then 8 else 0
def dm (x:XS):XS :=
 if bg x.i.form=1 then cg (lg x (IntKind.u32.wrap (al x x.i.rd*al x x.i.rm))) x.i.rd (IntKind.u32.wrap (al x x.i.rd*al x x.i.rm)) else if bg x.i.form=2 then cg x x.i.rd (al x x.i.rn*al x x.i.rm % 4294967296) else if bg x.i.form=3 then cg x x.i.rd (IntKind.u32.wrap ((al x x.i.rn*al x x.i.rm % 4294967296)+al x x.i.ra)) else if bg x.i.form=4 then cg x x.i.rd (IntKind.u32.wrap (al x x.i.ra - (al x x.i.rn*al x x.i.rm % 4294967296))) else if bg x.i.form=5 then qq x (al x x.i.rn*al x x.i.rm % 4294967296) (al x x.i.rn*al x x.i.rm / 4294967296) else if bg x.i.form=6 then qq x (Rm.eD (al x x.i.rn*al x x.i.rm % 4294967296) (al x x.i.rd) 0) (Rm.eD (al x x.i.rn*al x x.i.rm / 4294967296) (al x x.i.ra) (Rm.iB (al x x.i.rn*al x x.i.rm % 4294967296) (al x x.i.rd) 0)) else if bg x.i.form=7 then cg { x with a:=al x x.i.rn,b:=al x x.i.rm } x.i.rd (IntKind.u32.wrap (al x x.i.rn / max (al x x.i.rm) 1*min (al x x.i.rm) 1)) else if bg x.i.form=8 then cg x x.i.rd (IntKind.u32.wrap (32 - (Lib.bitLen (al x x.i.rm).toNat:Int))) else x
theorem Di {x:XS} (h:bg x.i.form=1):dm x=cg (lg x (IntKind.u32.wrap (al x x.i.rd*al x x.i.rm))) x.i.rd (IntKind.u32.wrap (al x x.i.rd*al x x.i.rm)):=by unfold dm; rw[if_pos h]
theorem Dj {x:XS} (h:bg x.i.form=2):dm x=cg x x.i.rd (al x x.i.rn*al x x.i.rm % 4294967296):=by unfold dm; rw[if_neg (by omega),if_pos h]
theorem Dk {x:XS} (h:bg x.i.form=3):dm x=cg x x.i.rd (IntKind.u32.wrap ((al x x.i.rn*al x x.i.rm % 4294967296)+al x x.i.ra)):=by unfold dm; rw[if_neg (by omega),if_neg (by omega),if_pos h]
theorem Dl {x:XS} (h:bg x.i.form=4):dm x=cg x x.i.rd (IntKind.u32.wrap (al x x.i.ra - (al x x.i.rn*al x x.i.rm % 4294967296))):=by unfold dm; rw[if_neg (by omega),if_neg (by omega),if_neg (by omega),if_pos h]
theorem Dm {x:XS} (h:bg x.i.form=5):dm x=qq x (al x x.i.rn*al x x.i.rm % 4294967296) (al x x.i.rn*al x x.i.rm / 4294967296):=by unfold dm; rw[if_neg (by omega),if_neg (by omega),if_neg (by omega),if_neg (by omega),if_pos h]
theorem Dn {x:XS} (h:bg x.i.form=6):dm x=qq x (Rm.eD (al x x.i.rn*al x x.i.rm % 4294967296) (al x x.i.rd) 0) (Rm.eD (al x x.i.rn*al x x.i.rm / 4294967296) (al x x.i.ra) (Rm.iB (al x x.i.rn*al x x.i.rm % 4294967296) (al x x.i.rd) 0)):=by unfold dm; rw[if_neg (by omega),if_neg (by omega),if_neg (by omega),if_neg (by omega),if_neg (by omega),if_pos h]
theorem Dp {x:XS} (h:bg x.i.form=7):dm x=cg { x with a:=al x x.i.rn,b:=al x x.i.rm } x.i.rd (IntKind.u32.wrap (al x x.i.rn / max (al x x.i.rm) 1*min (al x x.i.rm) 1)):=by unfold dm; rw[if_neg (by omega),if_neg (by omega),if_neg (by omega),if_neg (by omega),if_neg (by omega),if_neg (by omega),if_pos h]
theorem Dq {x:XS} (h:bg x.i.form=8):dm x=cg x x.i.rd (IntKind.u32.wrap (32 - (Lib.bitLen (al x x.i.rm).toNat:Int))):=by unfold dm; rw[if_neg (by omega),if_neg (by omega),if_neg (by omega),if_neg (by omega),if_neg (by omega),if_neg (by omega),if_neg (by omega),if_pos h]
theorem rz {x:XS} (h:bg x.i.form=0):dm x=x:=by unfold dm; rw[if_neg (by omega),if_neg (by omega),if_neg (by omega),if_neg (by omega),if_neg (by omega),if_neg (by omega),if_neg (by omega),if_neg (by omega)]
theorem zJ (m:MS) (x:XS) (hx:iX x):Spec gT 96 [.ptr 3 0] (hZ m x) [] fun y S'=>y = .bool (bg x.i.form≠0)/\S'=hZ m (dm x):=by
 refine Spec.kB (Spec.enter ar P96 100 Tryz.func96 rfl (by kernel_rfl) ?_)
 have MK:=Jb x
 have Po:=Pt hx
 refine (bH m x x.i.rn hx.rn.1 hx.rn.2).e ?_
 refine (bH m x x.i.rm hx.rm.1 hx.rm.2).e ?_
 refine (E9 (al x x.i.rn) (al x x.i.rm) (aX hx _) (aX hx _)).u ?_
 refine⟨fun h25=>?_,fun h25=>?_⟩
 ·have hc:bg x.i.form=1:=by rw[show x.i.form=25 from h25]; rfl
  rw[Di hc]
  refine (bH m x x.i.rd hx.rd.1 hx.rd.2).e ?_
  refine .inr ?_
  refine (IP m x (IntKind.u32.wrap (al x x.i.rd*al x x.i.rm))).e ?_
  refine (bT m (lg x (IntKind.u32.wrap (al x x.i.rd*al x x.i.rm))) x.i.rd (IntKind.u32.wrap (al x x.i.rd*al x x.i.rm)) hx.rd.1 hx.rd.2).e ?_
  exact bj (show bg x.i.form≠0 by omega) (ak rfl)
 refine⟨fun h92=>?_,fun h92=>?_⟩
 ·have hc:bg x.i.form=2:=by rw[show x.i.form=92 from h92]; rfl
  rw[Dj hc]
  refine (bT m x x.i.rd (al x x.i.rn*al x x.i.rm % 4294967296) hx.rd.1 hx.rd.2).e ?_
  exact bj (show bg x.i.form≠0 by omega) (ak rfl)
 refine⟨fun ZV=>?_,fun ZV=>?_⟩
 ·have hc:bg x.i.form=3:=by rw[show x.i.form=93 from ZV]; rfl
  rw[Dk hc]
  refine (bH m x x.i.ra hx.ra.1 hx.ra.2).e ?_
  refine .inr ?_
  refine (bT m x x.i.rd (IntKind.u32.wrap ((al x x.i.rn*al x x.i.rm % 4294967296)+al x x.i.ra)) hx.rd.1 hx.rd.2).e ?_
  exact bj (show bg x.i.form≠0 by omega) (ak rfl)
 refine⟨fun ZW=>?_,fun ZW=>?_⟩
 ·have hc:bg x.i.form=4:=by rw[show x.i.form=94 from ZW]; rfl
  rw[Dl hc]
  refine (bH m x x.i.ra hx.ra.1 hx.ra.2).e ?_
  refine .inr ?_
  refine (bT m x x.i.rd (IntKind.u32.wrap (al x x.i.ra - (al x x.i.rn*al x x.i.rm % 4294967296))) hx.rd.1 hx.rd.2).e ?_
  exact bj (show bg x.i.form≠0 by omega) (ak rfl)
 refine⟨fun h95=>?_,fun h95=>?_⟩
 ·have hc:bg x.i.form=5:=by rw[show x.i.form=95 from h95]; rfl
  rw[Dm hc]
  refine (Dh m x (al x x.i.rn*al x x.i.rm % 4294967296) (al x x.i.rn*al x x.i.rm / 4294967296) hx).e ?_
  exact bj (show bg x.i.form≠0 by omega) (ak rfl)
 refine⟨fun h96=>?_,fun h96=>?_⟩
 ·have hc:bg x.i.form=6:=by rw[show x.i.form=96 from h96]; rfl
  rw[Dn hc]
  refine (bH m x x.i.rd hx.rd.1 hx.rd.2).e ?_
  refine (th (al x x.i.rn*al x x.i.rm % 4294967296) (al x x.i.rd) 0 MK (aX hx _) (by decide)).u ?_
  refine (bH m x x.i.ra hx.ra.1 hx.ra.2).e ?_
  refine (th (al x x.i.rn*al x x.i.rm / 4294967296) (al x x.i.ra) (Rm.iB (al x x.i.rn*al x x.i.rm % 4294967296) (al x x.i.rd) 0) Po (aX hx _) (Rm.Ck (al x x.i.rn*al x x.i.rm % 4294967296) (al x x.i.rd) 0 (by decide) MK.1 MK.2 (aX hx _).1 (aX hx _).2).1).u ?_
  refine (Dh m x (Rm.eD (al x x.i.rn*al x x.i.rm % 4294967296) (al x x.i.rd) 0) (Rm.eD (al x x.i.rn*al x x.i.rm / 4294967296) (al x x.i.ra) (Rm.iB (al x x.i.rn*al x x.i.rm % 4294967296) (al x x.i.rd) 0)) hx).e ?_
  exact bj (show bg x.i.form≠0 by omega) (ak rfl)
 refine⟨fun ZX=>?_,fun ZX=>?_⟩
 ·have hc:bg x.i.form=7:=by rw[show x.i.form=97 from ZX]; rfl
  rw[Dp hc]
  refine⟨show max (al x x.i.rm) 1≠0 by omega,.inl ⟨(aX hx x.i.rn).1,show al x x.i.rn<=4294967295 from (aX hx x.i.rn).2,show (0:Int) < max (al x x.i.rm) 1 by omega,?_⟩⟩
  refine .inr ?_
  refine (bT m { x with a:=al x x.i.rn,b:=al x x.i.rm } x.i.rd (IntKind.u32.wrap (al x x.i.rn / max (al x x.i.rm) 1*min (al x x.i.rm) 1)) hx.rd.1 hx.rd.2).e ?_
  exact bj (show bg x.i.form≠0 by omega) (ak rfl)
 refine⟨fun h98=>?_,fun h98=>?_⟩
 ·have hc:bg x.i.form=8:=by rw[show x.i.form=98 from h98]; rfl
  rw[Dq hc]
  refine (M6 (al x x.i.rm) (aX hx _)).u ?_
  refine .inr ?_
  refine (bT m x x.i.rd (IntKind.u32.wrap (32 - (Lib.bitLen (al x x.i.rm).toNat:Int))) hx.rd.1 hx.rd.2).e ?_
  exact bj (show bg x.i.form≠0 by omega) (ak rfl)
 ·have hc:bg x.i.form=0:=by unfold bg; rw[if_neg (by omega),if_neg (by omega),if_neg (by omega),if_neg (by omega),if_neg (by omega),if_neg (by omega),if_neg (by omega),if_neg (by omega)]
  rw[rz hc]
  exact bj (show ¬ bg x.i.form≠0 from fun h=>h hc) (ak rfl)
def aO (f:Int):Int :=
 if f=32 then 1 else if f=34\/f=33 then 2 else if f=36\/f=35\/f=85\/f=84 then 3 else if f=38\/f=37 then 4 else if f=87\/f=86 then 5 else 0
def fI (x:XS):Int :=
 if aO x.i.form=1 then (IntKind.u32.wrap (bits .andNot .u32 (al x 15) 3+(IntKind.u32.wrap x.i.av))) else if aO x.i.form=2 then (IntKind.u32.wrap (al x x.i.rn+al x x.i.rm)) else if aO x.i.form=3 then (IntKind.u32.wrap (al x x.i.rn+(IntKind.u32.wrap x.i.av))) else if aO x.i.form=4 then (IntKind.u32.wrap (al x 13+(IntKind.u32.wrap x.i.av))) else if aO x.i.form=5 then (IntKind.u32.wrap (al x x.i.rn+IntKind.u32.wrap (al x x.i.rm*Ev.aD .u32 x.i.bG))) else 0
theorem Jc {x:XS} (h:aO x.i.form=1):fI x=(IntKind.u32.wrap (bits .andNot .u32 (al x 15) 3+(IntKind.u32.wrap x.i.av))):=by unfold fI; rw[if_pos h]
theorem xf {x:XS} (h:aO x.i.form=2):fI x=(IntKind.u32.wrap (al x x.i.rn+al x x.i.rm)):=by unfold fI; rw[if_neg (by omega),if_pos h]
theorem l9 {x:XS} (h:aO x.i.form=3):fI x=(IntKind.u32.wrap (al x x.i.rn+(IntKind.u32.wrap x.i.av))):=by unfold fI; rw[if_neg (by omega),if_neg (by omega),if_pos h]
theorem xg {x:XS} (h:aO x.i.form=4):fI x=(IntKind.u32.wrap (al x 13+(IntKind.u32.wrap x.i.av))):=by unfold fI; rw[if_neg (by omega),if_neg (by omega),if_neg (by omega),if_pos h]
theorem xh {x:XS} (h:aO x.i.form=5):fI x=(IntKind.u32.wrap (al x x.i.rn+IntKind.u32.wrap (al x x.i.rm*Ev.aD .u32 x.i.bG))):=by unfold fI; rw[if_neg (by omega),if_neg (by omega),if_neg (by omega),if_neg (by omega),if_pos h]
theorem Jd {x:XS} (h:aO x.i.form=0):fI x=0:=by unfold fI; rw[if_neg (by omega),if_neg (by omega),if_neg (by omega),if_neg (by omega),if_neg (by omega)]
theorem By (m:MS) (x:XS) (hx:iX x):Spec gT 89 [.ptr 3 0] (hZ m x) [] fun y S'=>y = .tup [.int .u32 (fI x),.bool (aO x.i.form≠0)]/\S'=hZ m x:=by
 refine Spec.kB (Spec.enter ar P89 100 Tryz.func89 rfl (by kernel_rfl) ?_)
 refine .inr ?_
 refine⟨fun Eg=>?_,fun Eg=>?_⟩
 ·have hc:aO x.i.form=1:=by rw[show x.i.form=32 from Eg]; rfl
  rw[Jc hc]
  refine (bH m x 15 (by decide) (by decide)).e ?_
  refine .inr ?_
  exact bj (And.intro rfl (And.intro (show aO x.i.form≠0 by omega) trivial)) (ak rfl)
 refine⟨fun Nr=>?_,fun Nr=>?_⟩
 ·have hc:aO x.i.form=2:=by rw[show x.i.form=34 from Nr]; rfl
  rw[xf hc]
  refine (bH m x x.i.rn hx.rn.1 hx.rn.2).e ?_
  refine (bH m x x.i.rm hx.rm.1 hx.rm.2).e ?_
  refine .inr ?_
  exact bj (And.intro rfl (And.intro (show aO x.i.form≠0 by omega) trivial)) (ak rfl)
 refine⟨fun Ns=>?_,fun Ns=>?_⟩
 ·have hc:aO x.i.form=2:=by rw[show x.i.form=33 from Ns]; rfl
  rw[xf hc]
  refine (bH m x x.i.rn hx.rn.1 hx.rn.2).e ?_
  refine (bH m x x.i.rm hx.rm.1 hx.rm.2).e ?_
  refine .inr ?_
  exact bj (And.intro rfl (And.intro (show aO x.i.form≠0 by omega) trivial)) (ak rfl)
 refine⟨fun Nt=>?_,fun Nt=>?_⟩
 ·have hc:aO x.i.form=3:=by rw[show x.i.form=36 from Nt]; rfl
  rw[l9 hc]
  refine (bH m x x.i.rn hx.rn.1 hx.rn.2).e ?_
  refine .inr ?_
  exact bj (And.intro rfl (And.intro (show aO x.i.form≠0 by omega) trivial)) (ak rfl)
 refine⟨fun Nu=>?_,fun Nu=>?_⟩
 ·have hc:aO x.i.form=3:=by rw[show x.i.form=35 from Nu]; rfl
  rw[l9 hc]
  refine (bH m x x.i.rn hx.rn.1 hx.rn.2).e ?_
  refine .inr ?_
  exact bj (And.intro rfl (And.intro (show aO x.i.form≠0 by omega) trivial)) (ak rfl)
 refine⟨fun Nv=>?_,fun Nv=>?_⟩
 ·have hc:aO x.i.form=3:=by rw[show x.i.form=85 from Nv]; rfl
  rw[l9 hc]
  refine (bH m x x.i.rn hx.rn.1 hx.rn.2).e ?_
  refine .inr ?_
  exact bj (And.intro rfl (And.intro (show aO x.i.form≠0 by omega) trivial)) (ak rfl)
 refine⟨fun Nw=>?_,fun Nw=>?_⟩
 ·have hc:aO x.i.form=3:=by rw[show x.i.form=84 from Nw]; rfl
  rw[l9 hc]
  refine (bH m x x.i.rn hx.rn.1 hx.rn.2).e ?_
  refine .inr ?_
  exact bj (And.intro rfl (And.intro (show aO x.i.form≠0 by omega) trivial)) (ak rfl)
 refine⟨fun Nx=>?_,fun Nx=>?_⟩
 ·have hc:aO x.i.form=4:=by rw[show x.i.form=38 from Nx]; rfl
  rw[xg hc]
  refine (bH m x 13 (by decide) (by decide)).e ?_
  refine .inr ?_
  exact bj (And.intro rfl (And.intro (show aO x.i.form≠0 by omega) trivial)) (ak rfl)
 refine⟨fun Ny=>?_,fun Ny=>?_⟩
 ·have hc:aO x.i.form=4:=by rw[show x.i.form=37 from Ny]; rfl
  rw[xg hc]
  refine (bH m x 13 (by decide) (by decide)).e ?_
  refine .inr ?_
  exact bj (And.intro rfl (And.intro (show aO x.i.form≠0 by omega) trivial)) (ak rfl)
 refine⟨fun Nz=>?_,fun Nz=>?_⟩
 ·have hc:aO x.i.form=5:=by rw[show x.i.form=87 from Nz]; rfl
  rw[xh hc]
  refine (bH m x x.i.rn hx.rn.1 hx.rn.2).e ?_
  refine (bH m x x.i.rm hx.rm.1 hx.rm.2).e ?_
  refine⟨(hx.idx (by omega)).1,.inr ?_⟩
  refine .inr ?_
  exact bj (And.intro rfl (And.intro (show aO x.i.form≠0 by omega) trivial)) (ak rfl)
 refine⟨fun NA=>?_,fun NA=>?_⟩
 ·have hc:aO x.i.form=5:=by rw[show x.i.form=86 from NA]; rfl
  rw[xh hc]
  refine (bH m x x.i.rn hx.rn.1 hx.rn.2).e ?_
  refine (bH m x x.i.rm hx.rm.1 hx.rm.2).e ?_
  refine⟨(hx.idx (by omega)).1,.inr ?_⟩
  refine .inr ?_
  exact bj (And.intro rfl (And.intro (show aO x.i.form≠0 by omega) trivial)) (ak rfl)
 ·have hc:aO x.i.form=0:=by unfold aO; rw[if_neg (by omega),if_neg (by omega),if_neg (by omega),if_neg (by omega),if_neg (by omega)]
  rw[Jd hc]
  exact bj (And.intro rfl (And.intro (show ¬ aO x.i.form≠0 from fun h=>h hc) trivial)) (ak rfl)
end Go.Proofs.YtnbngokbamifbaaGreatDoor.Pw

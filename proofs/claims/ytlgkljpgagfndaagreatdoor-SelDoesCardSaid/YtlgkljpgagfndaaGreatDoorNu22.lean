/- What this claim is proved with: no condition. -/
import Derived.Test.YtlgkljpgagfndaaGreatDoorNu21
set_option maxRecDepth 100000
set_option maxHeartbeats 4000000
set_option linter.unusedVariables false
set_option linter.unusedSimpArgs false
namespace Go.Proofs.YtlgkljpgagfndaaGreatDoor.Pw
open Go Go.RowKit
def aX (f:Int):Int :=
 if f=4\/f=6\/f=10\/f=55\/f=71 then 1 else if f=5\/f=7\/f=11\/f=58\/f=74 then 2 else if f=17\/f=56\/f=72 then 3 else if f=18\/f=57\/f=73 then 4 else if f=21 then 5 else if f=59\/f=75 then 6 else if f=9\/f=22\/f=29\/f=65\/f=81 then 7 else if f=23\/f=64\/f=80 then 8 else 0
def fg (x:XS):XS :=
 if aX x.i.form=1 then fm x x.i.rd (aW x) (bX x) 0 else if aX x.i.form=2 then fm x x.i.rd (aW x) (dt (bX x)) 1 else if aX x.i.form=3 then fm x x.i.rd (aW x) (bX x) x.s.C else if aX x.i.form=4 then fm x x.i.rd (aW x) (dt (bX x)) x.s.C else if aX x.i.form=5 then fm x x.i.rd 0 (dt (bX x)) 1 else if aX x.i.form=6 then fm x x.i.rd (bX x) (dt (aW x)) 1 else if aX x.i.form=7 then fm x (-1) (aW x) (dt (bX x)) 1 else if aX x.i.form=8 then fm x (-1) (aW x) (bX x) 0 else x
theorem oO {x:XS} (h:aX x.i.form=1):fg x=fm x x.i.rd (aW x) (bX x) 0:=by unfold fg; rw[if_pos h]
theorem oP {x:XS} (h:aX x.i.form=2):fg x=fm x x.i.rd (aW x) (dt (bX x)) 1:=by unfold fg; rw[if_neg (by omega),if_pos h]
theorem wB {x:XS} (h:aX x.i.form=3):fg x=fm x x.i.rd (aW x) (bX x) x.s.C:=by unfold fg; rw[if_neg (by omega),if_neg (by omega),if_pos h]
theorem wC {x:XS} (h:aX x.i.form=4):fg x=fm x x.i.rd (aW x) (dt (bX x)) x.s.C:=by unfold fg; rw[if_neg (by omega),if_neg (by omega),if_neg (by omega),if_pos h]
theorem MT {x:XS} (h:aX x.i.form=5):fg x=fm x x.i.rd 0 (dt (bX x)) 1:=by unfold fg; rw[if_neg (by omega),if_neg (by omega),if_neg (by omega),if_neg (by omega),if_pos h]
theorem Ck {x:XS} (h:aX x.i.form=6):fg x=fm x x.i.rd (bX x) (dt (aW x)) 1:=by unfold fg; rw[if_neg (by omega),if_neg (by omega),if_neg (by omega),if_neg (by omega),if_neg (by omega),if_pos h]
theorem oQ {x:XS} (h:aX x.i.form=7):fg x=fm x (-1) (aW x) (dt (bX x)) 1:=by unfold fg; rw[if_neg (by omega),if_neg (by omega),if_neg (by omega),if_neg (by omega),if_neg (by omega),if_neg (by omega),if_pos h]
theorem wD {x:XS} (h:aX x.i.form=8):fg x=fm x (-1) (aW x) (bX x) 0:=by unfold fg; rw[if_neg (by omega),if_neg (by omega),if_neg (by omega),if_neg (by omega),if_neg (by omega),if_neg (by omega),if_neg (by omega),if_pos h]
theorem Cl {x:XS} (h:aX x.i.form=0):fg x=x:=by unfold fg; rw[if_neg (by omega),if_neg (by omega),if_neg (by omega),if_neg (by omega),if_neg (by omega),if_neg (by omega),if_neg (by omega),if_neg (by omega)]
theorem MU (m:MS) (x:XS) (hx:mC x):Spec gT 80 [.ptr 3 0] (iq m x) [] fun y S'=>y = .bool (aX x.i.form≠0)/\S'=iq m (fg x):=by
 refine Spec.jP (Spec.enter al P80 100 Tryz.func80 rfl (by kernel_rfl) ?_)
 refine (yK m x hx).e ?_
 refine (uN m x hx).e ?_
 refine⟨fun h4=>?_,fun h4=>?_⟩
 ·have hc:aX x.i.form=1:=by rw[show x.i.form=4 from h4]; rfl
  rw[oO hc]
  refine (c8 m x x.i.rd (aW x) (bX x) 0 hx.rd.2 (bJ hx) (ck hx) (by decide)).e ?_
  exact bo (show aX x.i.form≠0 by omega) (aj rfl)
 refine⟨fun h6=>?_,fun h6=>?_⟩
 ·have hc:aX x.i.form=1:=by rw[show x.i.form=6 from h6]; rfl
  rw[oO hc]
  refine (c8 m x x.i.rd (aW x) (bX x) 0 hx.rd.2 (bJ hx) (ck hx) (by decide)).e ?_
  exact bo (show aX x.i.form≠0 by omega) (aj rfl)
 refine⟨fun cZ=>?_,fun cZ=>?_⟩
 ·have hc:aX x.i.form=1:=by rw[show x.i.form=10 from cZ]; rfl
  rw[oO hc]
  refine (c8 m x x.i.rd (aW x) (bX x) 0 hx.rd.2 (bJ hx) (ck hx) (by decide)).e ?_
  exact bo (show aX x.i.form≠0 by omega) (aj rfl)
 refine⟨fun h55=>?_,fun h55=>?_⟩
 ·have hc:aX x.i.form=1:=by rw[show x.i.form=55 from h55]; rfl
  rw[oO hc]
  refine (c8 m x x.i.rd (aW x) (bX x) 0 hx.rd.2 (bJ hx) (ck hx) (by decide)).e ?_
  exact bo (show aX x.i.form≠0 by omega) (aj rfl)
 refine⟨fun h71=>?_,fun h71=>?_⟩
 ·have hc:aX x.i.form=1:=by rw[show x.i.form=71 from h71]; rfl
  rw[oO hc]
  refine (c8 m x x.i.rd (aW x) (bX x) 0 hx.rd.2 (bJ hx) (ck hx) (by decide)).e ?_
  exact bo (show aX x.i.form≠0 by omega) (aj rfl)
 refine⟨fun h5=>?_,fun h5=>?_⟩
 ·have hc:aX x.i.form=2:=by rw[show x.i.form=5 from h5]; rfl
  rw[oP hc]
  refine (c8 m x x.i.rd (aW x) (dt (bX x)) 1 hx.rd.2 (bJ hx) (dx (ck hx)) (by decide)).e ?_
  exact bo (show aX x.i.form≠0 by omega) (aj rfl)
 refine⟨fun h7=>?_,fun h7=>?_⟩
 ·have hc:aX x.i.form=2:=by rw[show x.i.form=7 from h7]; rfl
  rw[oP hc]
  refine (c8 m x x.i.rd (aW x) (dt (bX x)) 1 hx.rd.2 (bJ hx) (dx (ck hx)) (by decide)).e ?_
  exact bo (show aX x.i.form≠0 by omega) (aj rfl)
 refine⟨fun h11=>?_,fun h11=>?_⟩
 ·have hc:aX x.i.form=2:=by rw[show x.i.form=11 from h11]; rfl
  rw[oP hc]
  refine (c8 m x x.i.rd (aW x) (dt (bX x)) 1 hx.rd.2 (bJ hx) (dx (ck hx)) (by decide)).e ?_
  exact bo (show aX x.i.form≠0 by omega) (aj rfl)
 refine⟨fun h58=>?_,fun h58=>?_⟩
 ·have hc:aX x.i.form=2:=by rw[show x.i.form=58 from h58]; rfl
  rw[oP hc]
  refine (c8 m x x.i.rd (aW x) (dt (bX x)) 1 hx.rd.2 (bJ hx) (dx (ck hx)) (by decide)).e ?_
  exact bo (show aX x.i.form≠0 by omega) (aj rfl)
 refine⟨fun h74=>?_,fun h74=>?_⟩
 ·have hc:aX x.i.form=2:=by rw[show x.i.form=74 from h74]; rfl
  rw[oP hc]
  refine (c8 m x x.i.rd (aW x) (dt (bX x)) 1 hx.rd.2 (bJ hx) (dx (ck hx)) (by decide)).e ?_
  exact bo (show aX x.i.form≠0 by omega) (aj rfl)
 refine⟨fun WX=>?_,fun WX=>?_⟩
 ·have hc:aX x.i.form=3:=by rw[show x.i.form=17 from WX]; rfl
  rw[wB hc]
  refine (c8 m x x.i.rd (aW x) (bX x) x.s.C hx.rd.2 (bJ hx) (ck hx) hx.c.1).e ?_
  exact bo (show aX x.i.form≠0 by omega) (aj rfl)
 refine⟨fun h56=>?_,fun h56=>?_⟩
 ·have hc:aX x.i.form=3:=by rw[show x.i.form=56 from h56]; rfl
  rw[wB hc]
  refine (c8 m x x.i.rd (aW x) (bX x) x.s.C hx.rd.2 (bJ hx) (ck hx) hx.c.1).e ?_
  exact bo (show aX x.i.form≠0 by omega) (aj rfl)
 refine⟨fun h72=>?_,fun h72=>?_⟩
 ·have hc:aX x.i.form=3:=by rw[show x.i.form=72 from h72]; rfl
  rw[wB hc]
  refine (c8 m x x.i.rd (aW x) (bX x) x.s.C hx.rd.2 (bJ hx) (ck hx) hx.c.1).e ?_
  exact bo (show aX x.i.form≠0 by omega) (aj rfl)
 refine⟨fun h18=>?_,fun h18=>?_⟩
 ·have hc:aX x.i.form=4:=by rw[show x.i.form=18 from h18]; rfl
  rw[wC hc]
  refine (c8 m x x.i.rd (aW x) (dt (bX x)) x.s.C hx.rd.2 (bJ hx) (dx (ck hx)) hx.c.1).e ?_
  exact bo (show aX x.i.form≠0 by omega) (aj rfl)
 refine⟨fun h57=>?_,fun h57=>?_⟩
 ·have hc:aX x.i.form=4:=by rw[show x.i.form=57 from h57]; rfl
  rw[wC hc]
  refine (c8 m x x.i.rd (aW x) (dt (bX x)) x.s.C hx.rd.2 (bJ hx) (dx (ck hx)) hx.c.1).e ?_
  exact bo (show aX x.i.form≠0 by omega) (aj rfl)
 refine⟨fun h73=>?_,fun h73=>?_⟩
 ·have hc:aX x.i.form=4:=by rw[show x.i.form=73 from h73]; rfl
  rw[wC hc]
  refine (c8 m x x.i.rd (aW x) (dt (bX x)) x.s.C hx.rd.2 (bJ hx) (dx (ck hx)) hx.c.1).e ?_
  exact bo (show aX x.i.form≠0 by omega) (aj rfl)
 refine⟨fun h21=>?_,fun h21=>?_⟩
 ·have hc:aX x.i.form=5:=by rw[show x.i.form=21 from h21]; rfl
  rw[MT hc]
  refine (c8 m x x.i.rd 0 (dt (bX x)) 1 hx.rd.2 (by unfold aY; omega) (dx (ck hx)) (by decide)).e ?_
  exact bo (show aX x.i.form≠0 by omega) (aj rfl)
 refine⟨fun h59=>?_,fun h59=>?_⟩
 ·have hc:aX x.i.form=6:=by rw[show x.i.form=59 from h59]; rfl
  rw[Ck hc]
  refine (c8 m x x.i.rd (bX x) (dt (aW x)) 1 hx.rd.2 (ck hx) (dx (bJ hx)) (by decide)).e ?_
  exact bo (show aX x.i.form≠0 by omega) (aj rfl)
 refine⟨fun h75=>?_,fun h75=>?_⟩
 ·have hc:aX x.i.form=6:=by rw[show x.i.form=75 from h75]; rfl
  rw[Ck hc]
  refine (c8 m x x.i.rd (bX x) (dt (aW x)) 1 hx.rd.2 (ck hx) (dx (bJ hx)) (by decide)).e ?_
  exact bo (show aX x.i.form≠0 by omega) (aj rfl)
 refine⟨fun h9=>?_,fun h9=>?_⟩
 ·have hc:aX x.i.form=7:=by rw[show x.i.form=9 from h9]; rfl
  rw[oQ hc]
  refine (c8 m x (-1) (aW x) (dt (bX x)) 1 (by decide) (bJ hx) (dx (ck hx)) (by decide)).e ?_
  exact bo (show aX x.i.form≠0 by omega) (aj rfl)
 refine⟨fun h22=>?_,fun h22=>?_⟩
 ·have hc:aX x.i.form=7:=by rw[show x.i.form=22 from h22]; rfl
  rw[oQ hc]
  refine (c8 m x (-1) (aW x) (dt (bX x)) 1 (by decide) (bJ hx) (dx (ck hx)) (by decide)).e ?_
  exact bo (show aX x.i.form≠0 by omega) (aj rfl)
 refine⟨fun h29=>?_,fun h29=>?_⟩
 ·have hc:aX x.i.form=7:=by rw[show x.i.form=29 from h29]; rfl
  rw[oQ hc]
  refine (c8 m x (-1) (aW x) (dt (bX x)) 1 (by decide) (bJ hx) (dx (ck hx)) (by decide)).e ?_
  exact bo (show aX x.i.form≠0 by omega) (aj rfl)
 refine⟨fun h65=>?_,fun h65=>?_⟩
 ·have hc:aX x.i.form=7:=by rw[show x.i.form=65 from h65]; rfl
  rw[oQ hc]
  refine (c8 m x (-1) (aW x) (dt (bX x)) 1 (by decide) (bJ hx) (dx (ck hx)) (by decide)).e ?_
  exact bo (show aX x.i.form≠0 by omega) (aj rfl)
 refine⟨fun h81=>?_,fun h81=>?_⟩
 ·have hc:aX x.i.form=7:=by rw[show x.i.form=81 from h81]; rfl
  rw[oQ hc]
  refine (c8 m x (-1) (aW x) (dt (bX x)) 1 (by decide) (bJ hx) (dx (ck hx)) (by decide)).e ?_
  exact bo (show aX x.i.form≠0 by omega) (aj rfl)
 refine⟨fun h23=>?_,fun h23=>?_⟩
 ·have hc:aX x.i.form=8:=by rw[show x.i.form=23 from h23]; rfl
  rw[wD hc]
  refine (c8 m x (-1) (aW x) (bX x) 0 (by decide) (bJ hx) (ck hx) (by decide)).e ?_
  exact bo (show aX x.i.form≠0 by omega) (aj rfl)
 refine⟨fun h64=>?_,fun h64=>?_⟩
 ·have hc:aX x.i.form=8:=by rw[show x.i.form=64 from h64]; rfl
  rw[wD hc]
  refine (c8 m x (-1) (aW x) (bX x) 0 (by decide) (bJ hx) (ck hx) (by decide)).e ?_
  exact bo (show aX x.i.form≠0 by omega) (aj rfl)
 refine⟨fun h80=>?_,fun h80=>?_⟩
 ·have hc:aX x.i.form=8:=by rw[show x.i.form=80 from h80]; rfl
  rw[wD hc]
  refine (c8 m x (-1) (aW x) (bX x) 0 (by decide) (bJ hx) (ck hx) (by decide)).e ?_
  exact bo (show aX x.i.form≠0 by omega) (aj rfl)
 ·have hc:aX x.i.form=0:=by unfold aX; rw[if_neg (by omega),if_neg (by omega),if_neg (by omega),if_neg (by omega),if_neg (by omega),if_neg (by omega),if_neg (by omega),if_neg (by omega)]
  rw[Cl hc]
  exact bo (show ¬ aX x.i.form≠0 from fun h=>h hc) (aj rfl)
def aZ (f:Int):Int :=
 if f=8\/f=60\/f=76 then 1 else if f=27\/f=61\/f=77 then 2 else if f=12\/f=50\/f=66 then 3 else if f=24\/f=52\/f=68 then 4 else if f=13\/f=54\/f=70 then 5 else if f=26\/f=51\/f=67 then 6 else if f=53\/f=69 then 7 else if f=20\/f=62\/f=78 then 8 else if f=63\/f=79 then 9 else 0
def cA (x:XS):XS :=
 if aZ x.i.form=1 then bZ x x.i.rd (bX x) (dz x) else if aZ x.i.form=2 then bZ x x.i.rd (dt (bX x)) (dz x) else if aZ x.i.form=3 then bZ x x.i.rd (bits .and .u32 (aW x) (bX x)) (dz x) else if aZ x.i.form=4 then bZ x x.i.rd (bits .or .u32 (aW x) (bX x)) (dz x) else if aZ x.i.form=5 then bZ x x.i.rd (bits .xor .u32 (aW x) (bX x)) (dz x) else if aZ x.i.form=6 then bZ x x.i.rd (bits .andNot .u32 (aW x) (bX x)) (dz x) else if aZ x.i.form=7 then bZ x x.i.rd (bits .or .u32 (aW x) (dt (bX x))) (dz x) else if aZ x.i.form=8 then bZ x (-1) (bits .and .u32 (aW x) (bX x)) (dz x) else if aZ x.i.form=9 then bZ x (-1) (bits .xor .u32 (aW x) (bX x)) (dz x) else x
theorem pC {x:XS} (h:aZ x.i.form=1):cA x=bZ x x.i.rd (bX x) (dz x):=by unfold cA; rw[if_pos h]
theorem pD {x:XS} (h:aZ x.i.form=2):cA x=bZ x x.i.rd (dt (bX x)) (dz x):=by unfold cA; rw[if_neg (by omega),if_pos h]
theorem pE {x:XS} (h:aZ x.i.form=3):cA x=bZ x x.i.rd (bits .and .u32 (aW x) (bX x)) (dz x):=by unfold cA; rw[if_neg (by omega),if_neg (by omega),if_pos h]
theorem pF {x:XS} (h:aZ x.i.form=4):cA x=bZ x x.i.rd (bits .or .u32 (aW x) (bX x)) (dz x):=by unfold cA; rw[if_neg (by omega),if_neg (by omega),if_neg (by omega),if_pos h]
theorem pG {x:XS} (h:aZ x.i.form=5):cA x=bZ x x.i.rd (bits .xor .u32 (aW x) (bX x)) (dz x):=by unfold cA; rw[if_neg (by omega),if_neg (by omega),if_neg (by omega),if_neg (by omega),if_pos h]
theorem pH {x:XS} (h:aZ x.i.form=6):cA x=bZ x x.i.rd (bits .andNot .u32 (aW x) (bX x)) (dz x):=by unfold cA; rw[if_neg (by omega),if_neg (by omega),if_neg (by omega),if_neg (by omega),if_neg (by omega),if_pos h]
theorem uO {x:XS} (h:aZ x.i.form=7):cA x=bZ x x.i.rd (bits .or .u32 (aW x) (dt (bX x))) (dz x):=by unfold cA; rw[if_neg (by omega),if_neg (by omega),if_neg (by omega),if_neg (by omega),if_neg (by omega),if_neg (by omega),if_pos h]
theorem pI {x:XS} (h:aZ x.i.form=8):cA x=bZ x (-1) (bits .and .u32 (aW x) (bX x)) (dz x):=by unfold cA; rw[if_neg (by omega),if_neg (by omega),if_neg (by omega),if_neg (by omega),if_neg (by omega),if_neg (by omega),if_neg (by omega),if_pos h]
theorem uP {x:XS} (h:aZ x.i.form=9):cA x=bZ x (-1) (bits .xor .u32 (aW x) (bX x)) (dz x):=by unfold cA; rw[if_neg (by omega),if_neg (by omega),if_neg (by omega),if_neg (by omega),if_neg (by omega),if_neg (by omega),if_neg (by omega),if_neg (by omega),if_pos h]
theorem uQ {x:XS} (h:aZ x.i.form=0):cA x=x:=by unfold cA; rw[if_neg (by omega),if_neg (by omega),if_neg (by omega),if_neg (by omega),if_neg (by omega),if_neg (by omega),if_neg (by omega),if_neg (by omega),if_neg (by omega)]
theorem D8 (m:MS) (x:XS) (hx:mC x):Spec gT 81 [.ptr 3 0] (iq m x) [] fun y S'=>y = .bool (aZ x.i.form≠0)/\S'=iq m (cA x):=by
 refine Spec.jP (Spec.enter al P81 100 Tryz.func81 rfl (by kernel_rfl) ?_)
 refine (yK m x hx).e ?_
 refine (uN m x hx).e ?_
 refine⟨fun h8=>?_,fun h8=>?_⟩
 ·have hc:aZ x.i.form=1:=by rw[show x.i.form=8 from h8]; rfl
  rw[pC hc]
  refine (cd m x x.i.rd (bX x) (dz x) hx.rd.2).e ?_
  exact bo (show aZ x.i.form≠0 by omega) (aj rfl)
 refine⟨fun h60=>?_,fun h60=>?_⟩
 ·have hc:aZ x.i.form=1:=by rw[show x.i.form=60 from h60]; rfl
  rw[pC hc]
  refine (cd m x x.i.rd (bX x) (dz x) hx.rd.2).e ?_
  exact bo (show aZ x.i.form≠0 by omega) (aj rfl)
 refine⟨fun h76=>?_,fun h76=>?_⟩
 ·have hc:aZ x.i.form=1:=by rw[show x.i.form=76 from h76]; rfl
  rw[pC hc]
  refine (cd m x x.i.rd (bX x) (dz x) hx.rd.2).e ?_
  exact bo (show aZ x.i.form≠0 by omega) (aj rfl)
 refine⟨fun h27=>?_,fun h27=>?_⟩
 ·have hc:aZ x.i.form=2:=by rw[show x.i.form=27 from h27]; rfl
  rw[pD hc]
  refine (cd m x x.i.rd (dt (bX x)) (dz x) hx.rd.2).e ?_
  exact bo (show aZ x.i.form≠0 by omega) (aj rfl)
 refine⟨fun h61=>?_,fun h61=>?_⟩
 ·have hc:aZ x.i.form=2:=by rw[show x.i.form=61 from h61]; rfl
  rw[pD hc]
  refine (cd m x x.i.rd (dt (bX x)) (dz x) hx.rd.2).e ?_
  exact bo (show aZ x.i.form≠0 by omega) (aj rfl)
 refine⟨fun h77=>?_,fun h77=>?_⟩
 ·have hc:aZ x.i.form=2:=by rw[show x.i.form=77 from h77]; rfl
  rw[pD hc]
  refine (cd m x x.i.rd (dt (bX x)) (dz x) hx.rd.2).e ?_
  exact bo (show aZ x.i.form≠0 by omega) (aj rfl)
 refine⟨fun h12=>?_,fun h12=>?_⟩
 ·have hc:aZ x.i.form=3:=by rw[show x.i.form=12 from h12]; rfl
  rw[pE hc]
  refine (cd m x x.i.rd (bits .and .u32 (aW x) (bX x)) (dz x) hx.rd.2).e ?_
  exact bo (show aZ x.i.form≠0 by omega) (aj rfl)
 refine⟨fun h50=>?_,fun h50=>?_⟩
 ·have hc:aZ x.i.form=3:=by rw[show x.i.form=50 from h50]; rfl
  rw[pE hc]
  refine (cd m x x.i.rd (bits .and .u32 (aW x) (bX x)) (dz x) hx.rd.2).e ?_
  exact bo (show aZ x.i.form≠0 by omega) (aj rfl)
 refine⟨fun h66=>?_,fun h66=>?_⟩
 ·have hc:aZ x.i.form=3:=by rw[show x.i.form=66 from h66]; rfl
  rw[pE hc]
  refine (cd m x x.i.rd (bits .and .u32 (aW x) (bX x)) (dz x) hx.rd.2).e ?_
  exact bo (show aZ x.i.form≠0 by omega) (aj rfl)
 refine⟨fun h24=>?_,fun h24=>?_⟩
 ·have hc:aZ x.i.form=4:=by rw[show x.i.form=24 from h24]; rfl
  rw[pF hc]
  refine (cd m x x.i.rd (bits .or .u32 (aW x) (bX x)) (dz x) hx.rd.2).e ?_
  exact bo (show aZ x.i.form≠0 by omega) (aj rfl)
 refine⟨fun h52=>?_,fun h52=>?_⟩
 ·have hc:aZ x.i.form=4:=by rw[show x.i.form=52 from h52]; rfl
  rw[pF hc]
  refine (cd m x x.i.rd (bits .or .u32 (aW x) (bX x)) (dz x) hx.rd.2).e ?_
  exact bo (show aZ x.i.form≠0 by omega) (aj rfl)
 refine⟨fun h68=>?_,fun h68=>?_⟩
 ·have hc:aZ x.i.form=4:=by rw[show x.i.form=68 from h68]; rfl
  rw[pF hc]
  refine (cd m x x.i.rd (bits .or .u32 (aW x) (bX x)) (dz x) hx.rd.2).e ?_
  exact bo (show aZ x.i.form≠0 by omega) (aj rfl)
 refine⟨fun h13=>?_,fun h13=>?_⟩
 ·have hc:aZ x.i.form=5:=by rw[show x.i.form=13 from h13]; rfl
  rw[pG hc]
  refine (cd m x x.i.rd (bits .xor .u32 (aW x) (bX x)) (dz x) hx.rd.2).e ?_
  exact bo (show aZ x.i.form≠0 by omega) (aj rfl)
 refine⟨fun h54=>?_,fun h54=>?_⟩
 ·have hc:aZ x.i.form=5:=by rw[show x.i.form=54 from h54]; rfl
  rw[pG hc]
  refine (cd m x x.i.rd (bits .xor .u32 (aW x) (bX x)) (dz x) hx.rd.2).e ?_
  exact bo (show aZ x.i.form≠0 by omega) (aj rfl)
 refine⟨fun h70=>?_,fun h70=>?_⟩
 ·have hc:aZ x.i.form=5:=by rw[show x.i.form=70 from h70]; rfl
  rw[pG hc]
  refine (cd m x x.i.rd (bits .xor .u32 (aW x) (bX x)) (dz x) hx.rd.2).e ?_
  exact bo (show aZ x.i.form≠0 by omega) (aj rfl)
 refine⟨fun h26=>?_,fun h26=>?_⟩
 ·have hc:aZ x.i.form=6:=by rw[show x.i.form=26 from h26]; rfl
  rw[pH hc]
  refine (cd m x x.i.rd (bits .andNot .u32 (aW x) (bX x)) (dz x) hx.rd.2).e ?_
  exact bo (show aZ x.i.form≠0 by omega) (aj rfl)
 refine⟨fun h51=>?_,fun h51=>?_⟩
 ·have hc:aZ x.i.form=6:=by rw[show x.i.form=51 from h51]; rfl
  rw[pH hc]
  refine (cd m x x.i.rd (bits .andNot .u32 (aW x) (bX x)) (dz x) hx.rd.2).e ?_
  exact bo (show aZ x.i.form≠0 by omega) (aj rfl)
 refine⟨fun h67=>?_,fun h67=>?_⟩
 ·have hc:aZ x.i.form=6:=by rw[show x.i.form=67 from h67]; rfl
  rw[pH hc]
  refine (cd m x x.i.rd (bits .andNot .u32 (aW x) (bX x)) (dz x) hx.rd.2).e ?_
  exact bo (show aZ x.i.form≠0 by omega) (aj rfl)
 refine⟨fun h53=>?_,fun h53=>?_⟩
 ·have hc:aZ x.i.form=7:=by rw[show x.i.form=53 from h53]; rfl
  rw[uO hc]
  refine (cd m x x.i.rd (bits .or .u32 (aW x) (dt (bX x))) (dz x) hx.rd.2).e ?_
  exact bo (show aZ x.i.form≠0 by omega) (aj rfl)
 refine⟨fun h69=>?_,fun h69=>?_⟩
 ·have hc:aZ x.i.form=7:=by rw[show x.i.form=69 from h69]; rfl
  rw[uO hc]
  refine (cd m x x.i.rd (bits .or .u32 (aW x) (dt (bX x))) (dz x) hx.rd.2).e ?_
  exact bo (show aZ x.i.form≠0 by omega) (aj rfl)
 refine⟨fun h20=>?_,fun h20=>?_⟩
 ·have hc:aZ x.i.form=8:=by rw[show x.i.form=20 from h20]; rfl
  rw[pI hc]
  refine (cd m x (-1) (bits .and .u32 (aW x) (bX x)) (dz x) (by decide)).e ?_
  exact bo (show aZ x.i.form≠0 by omega) (aj rfl)
 refine⟨fun h62=>?_,fun h62=>?_⟩
 ·have hc:aZ x.i.form=8:=by rw[show x.i.form=62 from h62]; rfl
  rw[pI hc]
  refine (cd m x (-1) (bits .and .u32 (aW x) (bX x)) (dz x) (by decide)).e ?_
  exact bo (show aZ x.i.form≠0 by omega) (aj rfl)
 refine⟨fun h78=>?_,fun h78=>?_⟩
 ·have hc:aZ x.i.form=8:=by rw[show x.i.form=78 from h78]; rfl
  rw[pI hc]
  refine (cd m x (-1) (bits .and .u32 (aW x) (bX x)) (dz x) (by decide)).e ?_
  exact bo (show aZ x.i.form≠0 by omega) (aj rfl)
 refine⟨fun h63=>?_,fun h63=>?_⟩
 ·have hc:aZ x.i.form=9:=by rw[show x.i.form=63 from h63]; rfl
  rw[uP hc]
  refine (cd m x (-1) (bits .xor .u32 (aW x) (bX x)) (dz x) (by decide)).e ?_
  exact bo (show aZ x.i.form≠0 by omega) (aj rfl)
 refine⟨fun h79=>?_,fun h79=>?_⟩
 ·have hc:aZ x.i.form=9:=by rw[show x.i.form=79 from h79]; rfl
  rw[uP hc]
  refine (cd m x (-1) (bits .xor .u32 (aW x) (bX x)) (dz x) (by decide)).e ?_
  exact bo (show aZ x.i.form≠0 by omega) (aj rfl)
 ·have hc:aZ x.i.form=0:=by unfold aZ; rw[if_neg (by omega),if_neg (by omega),if_neg (by omega),if_neg (by omega),if_neg (by omega),if_neg (by omega),if_neg (by omega),if_neg (by omega),if_neg (by omega)]
  rw[uQ hc]
  exact bo (show ¬ aZ x.i.form≠0 from fun h=>h hc) (aj rfl)
def wE (x:XS):Int:=bits .and .u32 (ao x x.i.rm) 255
theorem fG {x:XS} (h:mC x):0<=wE x/\wE x<=255:=by
 unfold wE
 have b:=bM h x.i.rm
 rw[Rm.ch _ b.1 b.2]; omega
def cU (f:Int):Int :=
 if f=1\/f=2\/f=3 then 1 else if f=14\/f=15\/f=16 then 2 else if f=19 then 3 else if f=88\/f=89\/f=90\/f=91 then 4 else 0
def dZ (x:XS):XS :=
 if cU x.i.form=1 then jc x (x.i.form - 1) (ao x x.i.rm) x.i.ay else if cU x.i.form=2 then jc x (x.i.form - 14) (ao x x.i.rd) (wE x) else if cU x.i.form=3 then jc x 3 (ao x x.i.rd) (wE x) else if cU x.i.form=4 then jc x (x.i.form - 88) (ao x x.i.rn) (wE x) else x
theorem pJ {x:XS} (h:cU x.i.form=1):dZ x=jc x (x.i.form - 1) (ao x x.i.rm) x.i.ay:=by unfold dZ; rw[if_pos h]
theorem pK {x:XS} (h:cU x.i.form=2):dZ x=jc x (x.i.form - 14) (ao x x.i.rd) (wE x):=by unfold dZ; rw[if_neg (by omega),if_pos h]
theorem D9 {x:XS} (h:cU x.i.form=3):dZ x=jc x 3 (ao x x.i.rd) (wE x):=by unfold dZ; rw[if_neg (by omega),if_neg (by omega),if_pos h]
theorem mq {x:XS} (h:cU x.i.form=4):dZ x=jc x (x.i.form - 88) (ao x x.i.rn) (wE x):=by unfold dZ; rw[if_neg (by omega),if_neg (by omega),if_neg (by omega),if_pos h]
theorem uR {x:XS} (h:cU x.i.form=0):dZ x=x:=by unfold dZ; rw[if_neg (by omega),if_neg (by omega),if_neg (by omega),if_neg (by omega)]
theorem D' (m:MS) (x:XS) (hx:mC x):Spec gT 82 [.ptr 3 0] (iq m x) [] fun y S'=>y = .bool (cU x.i.form≠0)/\S'=iq m (dZ x):=by
 refine Spec.jP (Spec.enter al P82 100 Tryz.func82 rfl (by kernel_rfl) ?_)
 have OJ:=fG hx
 refine (bH m x x.i.rm hx.rm.1 hx.rm.2).e ?_
 refine li ?_ (show _<=wE x/\wE x<=_ by omega)
 refine⟨fun h1=>?_,fun h1=>?_⟩
 ·have hc:cU x.i.form=1:=by rw[show x.i.form=1 from h1]; rfl
  rw[pJ hc]
  refine li ?_ (show _<=x.i.form - 1/\x.i.form - 1<=_ by omega)
  refine (bH m x x.i.rm hx.rm.1 hx.rm.2).e ?_
  have hl:=hx.low (by omega)
  refine (eS m x (x.i.form - 1) (ao x x.i.rm) x.i.ay hx (by omega) (by omega) hl.1 (by omega) (bM hx _)).e ?_
  exact bo (show cU x.i.form≠0 by omega) (aj rfl)
 refine⟨fun h2=>?_,fun h2=>?_⟩
 ·have hc:cU x.i.form=1:=by rw[show x.i.form=2 from h2]; rfl
  rw[pJ hc]
  refine li ?_ (show _<=x.i.form - 1/\x.i.form - 1<=_ by omega)
  refine (bH m x x.i.rm hx.rm.1 hx.rm.2).e ?_
  have hl:=hx.low (by omega)
  refine (eS m x (x.i.form - 1) (ao x x.i.rm) x.i.ay hx (by omega) (by omega) hl.1 (by omega) (bM hx _)).e ?_
  exact bo (show cU x.i.form≠0 by omega) (aj rfl)
 refine⟨fun h3=>?_,fun h3=>?_⟩
 ·have hc:cU x.i.form=1:=by rw[show x.i.form=3 from h3]; rfl
  rw[pJ hc]
  refine li ?_ (show _<=x.i.form - 1/\x.i.form - 1<=_ by omega)
  refine (bH m x x.i.rm hx.rm.1 hx.rm.2).e ?_
  have hl:=hx.low (by omega)
  refine (eS m x (x.i.form - 1) (ao x x.i.rm) x.i.ay hx (by omega) (by omega) hl.1 (by omega) (bM hx _)).e ?_
  exact bo (show cU x.i.form≠0 by omega) (aj rfl)
 refine⟨fun h14=>?_,fun h14=>?_⟩
 ·have hc:cU x.i.form=2:=by rw[show x.i.form=14 from h14]; rfl
  rw[pK hc]
  refine li ?_ (show _<=x.i.form - 14/\x.i.form - 14<=_ by omega)
  refine (bH m x x.i.rd hx.rd.1 hx.rd.2).e ?_
  refine (eS m x (x.i.form - 14) (ao x x.i.rd) (wE x) hx (by omega) (by omega) (fG hx).1 (fG hx).2 (bM hx _)).e ?_
  exact bo (show cU x.i.form≠0 by omega) (aj rfl)
 refine⟨fun W6=>?_,fun W6=>?_⟩
 ·have hc:cU x.i.form=2:=by rw[show x.i.form=15 from W6]; rfl
  rw[pK hc]
  refine li ?_ (show _<=x.i.form - 14/\x.i.form - 14<=_ by omega)
  refine (bH m x x.i.rd hx.rd.1 hx.rd.2).e ?_
  refine (eS m x (x.i.form - 14) (ao x x.i.rd) (wE x) hx (by omega) (by omega) (fG hx).1 (fG hx).2 (bM hx _)).e ?_
  exact bo (show cU x.i.form≠0 by omega) (aj rfl)
 refine⟨fun h16=>?_,fun h16=>?_⟩
 ·have hc:cU x.i.form=2:=by rw[show x.i.form=16 from h16]; rfl
  rw[pK hc]
  refine li ?_ (show _<=x.i.form - 14/\x.i.form - 14<=_ by omega)
  refine (bH m x x.i.rd hx.rd.1 hx.rd.2).e ?_
  refine (eS m x (x.i.form - 14) (ao x x.i.rd) (wE x) hx (by omega) (by omega) (fG hx).1 (fG hx).2 (bM hx _)).e ?_
  exact bo (show cU x.i.form≠0 by omega) (aj rfl)
 refine⟨fun h19=>?_,fun h19=>?_⟩
 ·have hc:cU x.i.form=3:=by rw[show x.i.form=19 from h19]; rfl
  rw[D9 hc]
  refine (bH m x x.i.rd hx.rd.1 hx.rd.2).e ?_
  refine (eS m x 3 (ao x x.i.rd) (wE x) hx (by omega) (by omega) (fG hx).1 (fG hx).2 (bM hx _)).e ?_
  exact bo (show cU x.i.form≠0 by omega) (aj rfl)
 refine⟨fun h88=>?_,fun h88=>?_⟩
 ·have hc:cU x.i.form=4:=by rw[show x.i.form=88 from h88]; rfl
  rw[mq hc]
  refine li ?_ (show _<=x.i.form - 88/\x.i.form - 88<=_ by omega)
  refine (bH m x x.i.rn hx.rn.1 hx.rn.2).e ?_
  refine (eS m x (x.i.form - 88) (ao x x.i.rn) (wE x) hx (by omega) (by omega) (fG hx).1 (fG hx).2 (bM hx _)).e ?_
  exact bo (show cU x.i.form≠0 by omega) (aj rfl)
 refine⟨fun h89=>?_,fun h89=>?_⟩
 ·have hc:cU x.i.form=4:=by rw[show x.i.form=89 from h89]; rfl
  rw[mq hc]
  refine li ?_ (show _<=x.i.form - 88/\x.i.form - 88<=_ by omega)
  refine (bH m x x.i.rn hx.rn.1 hx.rn.2).e ?_
  refine (eS m x (x.i.form - 88) (ao x x.i.rn) (wE x) hx (by omega) (by omega) (fG hx).1 (fG hx).2 (bM hx _)).e ?_
  exact bo (show cU x.i.form≠0 by omega) (aj rfl)
 refine⟨fun h90=>?_,fun h90=>?_⟩
 ·have hc:cU x.i.form=4:=by rw[show x.i.form=90 from h90]; rfl
  rw[mq hc]
  refine li ?_ (show _<=x.i.form - 88/\x.i.form - 88<=_ by omega)
  refine (bH m x x.i.rn hx.rn.1 hx.rn.2).e ?_
  refine (eS m x (x.i.form - 88) (ao x x.i.rn) (wE x) hx (by omega) (by omega) (fG hx).1 (fG hx).2 (bM hx _)).e ?_
  exact bo (show cU x.i.form≠0 by omega) (aj rfl)
 refine⟨fun h91=>?_,fun h91=>?_⟩
 ·have hc:cU x.i.form=4:=by rw[show x.i.form=91 from h91]; rfl
  rw[mq hc]
  refine li ?_ (show _<=x.i.form - 88/\x.i.form - 88<=_ by omega)
  refine (bH m x x.i.rn hx.rn.1 hx.rn.2).e ?_
  refine (eS m x (x.i.form - 88) (ao x x.i.rn) (wE x) hx (by omega) (by omega) (fG hx).1 (fG hx).2 (bM hx _)).e ?_
  exact bo (show cU x.i.form≠0 by omega) (aj rfl)
 ·have hc:cU x.i.form=0:=by unfold cU; rw[if_neg (by omega),if_neg (by omega),if_neg (by omega),if_neg (by omega)]
  rw[uR hc]
  exact bo (show ¬ cU x.i.form≠0 from fun h=>h hc) (aj rfl)
def aT (s:RS) (c:Int):Prop :=
 (c=0/\s.Z=1)\/(c=1/\¬ s.Z=1)\/(c=2/\s.C=1)\/(c=3/\¬ s.C=1)\/(c=4/\s.N=1)\/(c=5/\¬ s.N=1)\/(c=6/\s.V=1)\/(c=7/\¬ s.V=1) \/
 (c=8/\s.C=1/\s.Z=0)\/(c=9/\¬ (s.C=1/\s.Z=0))\/(c=10/\s.N=s.V)\/(c=11/\¬ s.N=s.V)\/(c=12/\s.Z=0/\s.N=s.V)\/(c=13/\¬ (s.Z=0/\s.N=s.V))
instance (s:RS) (c:Int):Decidable (aT s c):=by unfold aT; infer_instance
theorem eX {p q:Prop} (h:p↔q):kZ (.bool p) (.bool q):=h
theorem fo {q:Prop} (h:q):kZ .tt (.bool q):=h
theorem eY {q:Prop} (h:¬ q):kZ .ff (.bool q):=h
theorem fq {f:FuncId} {a r:PV} {c K:Int} (e:c=K) (h:ai gT f [a,.lit .i64 K] r) (ha:kZ a a):ai gT f [a,.int .i64 c] r:=by
 subst e
 exact Spec.args h ⟨ha,show zw (.int .i64 c) (.lit .i64 c) from rfl,trivial⟩
theorem ft (s:RS):kZ (qy s) (qy s):=oN (l:=AO s) rfl
theorem D_ (s:RS) (c:Int) (h:c < 0\/13 < c):ai gT 120 [qy s,.int .i64 c] (.bool (aT s c)):=by
 have hn:¬ aT s c:=by unfold aT; omega
 refine Spec.enter al na 100 Tryz.func120 rfl (by kernel_rfl) ?_
 refine And.intro (by decide) (.inr ?_)
 repeat' ((try (conv=>whnf)); first
  | (refine ax ?_; exact eY hn)
  | (refine (And.intro (fun _=>?_) (fun _=>?_):(_->_)/\(_->_))<;>(first|(exfalso; first|contradiction|omega)|skip)))
theorem MV (s:RS):ai gT 120 [qy s,.lit .i64 0] (.bool (aT s 0)):=by
 refine Spec.enter al na 100 Tryz.func120 rfl (by kernel_rfl) ?_
 repeat' ((try (conv=>whnf)); first
  | (refine ax ?_; first|(refine eX ?_; simp[aT, *]; done)|(refine fo ?_; simp[aT, *]; done)|(refine eY ?_; simp[aT, *]; done))
  | (refine (And.intro (fun _=>?_) (fun _=>?_):(_->_)/\(_->_))<;>(first|(exfalso; contradiction)|skip)))
theorem MW (s:RS):ai gT 120 [qy s,.lit .i64 1] (.bool (aT s 1)):=by
 refine Spec.enter al na 100 Tryz.func120 rfl (by kernel_rfl) ?_
 repeat' ((try (conv=>whnf)); first
  | (refine ax ?_; first|(refine eX ?_; simp[aT, *]; done)|(refine fo ?_; simp[aT, *]; done)|(refine eY ?_; simp[aT, *]; done))
  | (refine (And.intro (fun _=>?_) (fun _=>?_):(_->_)/\(_->_))<;>(first|(exfalso; contradiction)|skip)))
theorem MX (s:RS):ai gT 120 [qy s,.lit .i64 2] (.bool (aT s 2)):=by
 refine Spec.enter al na 100 Tryz.func120 rfl (by kernel_rfl) ?_
 repeat' ((try (conv=>whnf)); first
  | (refine ax ?_; first|(refine eX ?_; simp[aT, *]; done)|(refine fo ?_; simp[aT, *]; done)|(refine eY ?_; simp[aT, *]; done))
  | (refine (And.intro (fun _=>?_) (fun _=>?_):(_->_)/\(_->_))<;>(first|(exfalso; contradiction)|skip)))
theorem MY (s:RS):ai gT 120 [qy s,.lit .i64 3] (.bool (aT s 3)):=by
 refine Spec.enter al na 100 Tryz.func120 rfl (by kernel_rfl) ?_
 repeat' ((try (conv=>whnf)); first
  | (refine ax ?_; first|(refine eX ?_; simp[aT, *]; done)|(refine fo ?_; simp[aT, *]; done)|(refine eY ?_; simp[aT, *]; done))
  | (refine (And.intro (fun _=>?_) (fun _=>?_):(_->_)/\(_->_))<;>(first|(exfalso; contradiction)|skip)))
theorem MZ (s:RS):ai gT 120 [qy s,.lit .i64 4] (.bool (aT s 4)):=by
 refine Spec.enter al na 100 Tryz.func120 rfl (by kernel_rfl) ?_
 repeat' ((try (conv=>whnf)); first
  | (refine ax ?_; first|(refine eX ?_; simp[aT, *]; done)|(refine fo ?_; simp[aT, *]; done)|(refine eY ?_; simp[aT, *]; done))
  | (refine (And.intro (fun _=>?_) (fun _=>?_):(_->_)/\(_->_))<;>(first|(exfalso; contradiction)|skip)))
theorem M0 (s:RS):ai gT 120 [qy s,.lit .i64 5] (.bool (aT s 5)):=by
 refine Spec.enter al na 100 Tryz.func120 rfl (by kernel_rfl) ?_
 repeat' ((try (conv=>whnf)); first
  | (refine ax ?_; first|(refine eX ?_; simp[aT, *]; done)|(refine fo ?_; simp[aT, *]; done)|(refine eY ?_; simp[aT, *]; done))
  | (refine (And.intro (fun _=>?_) (fun _=>?_):(_->_)/\(_->_))<;>(first|(exfalso; contradiction)|skip)))
theorem M1 (s:RS):ai gT 120 [qy s,.lit .i64 6] (.bool (aT s 6)):=by
 refine Spec.enter al na 100 Tryz.func120 rfl (by kernel_rfl) ?_
 repeat' ((try (conv=>whnf)); first
  | (refine ax ?_; first|(refine eX ?_; simp[aT, *]; done)|(refine fo ?_; simp[aT, *]; done)|(refine eY ?_; simp[aT, *]; done))
  | (refine (And.intro (fun _=>?_) (fun _=>?_):(_->_)/\(_->_))<;>(first|(exfalso; contradiction)|skip)))
theorem M3 (s:RS):ai gT 120 [qy s,.lit .i64 7] (.bool (aT s 7)):=by
 refine Spec.enter al na 100 Tryz.func120 rfl (by kernel_rfl) ?_
 repeat' ((try (conv=>whnf)); first
  | (refine ax ?_; first|(refine eX ?_; simp[aT, *]; done)|(refine fo ?_; simp[aT, *]; done)|(refine eY ?_; simp[aT, *]; done))
  | (refine (And.intro (fun _=>?_) (fun _=>?_):(_->_)/\(_->_))<;>(first|(exfalso; contradiction)|skip)))
theorem M4 (s:RS):ai gT 120 [qy s,.lit .i64 8] (.bool (aT s 8)):=by
 refine Spec.enter al na 100 Tryz.func120 rfl (by kernel_rfl) ?_
 repeat' ((try (conv=>whnf)); first
  | (refine ax ?_; first|(refine eX ?_; simp[aT, *]; done)|(refine fo ?_; simp[aT, *]; done)|(refine eY ?_; simp[aT, *]; done))
  | (refine (And.intro (fun _=>?_) (fun _=>?_):(_->_)/\(_->_))<;>(first|(exfalso; contradiction)|skip)))
theorem M5 (s:RS):ai gT 120 [qy s,.lit .i64 9] (.bool (aT s 9)):=by
 refine Spec.enter al na 100 Tryz.func120 rfl (by kernel_rfl) ?_
 repeat' ((try (conv=>whnf)); first
  | (refine ax ?_; first|(refine eX ?_; simp[aT, *]; done)|(refine fo ?_; simp[aT, *]; done)|(refine eY ?_; simp[aT, *]; done))
  | (refine (And.intro (fun _=>?_) (fun _=>?_):(_->_)/\(_->_))<;>(first|(exfalso; contradiction)|skip)))
theorem IE (s:RS):ai gT 120 [qy s,.lit .i64 10] (.bool (aT s 10)):=by
 refine Spec.enter al na 100 Tryz.func120 rfl (by kernel_rfl) ?_
 repeat' ((try (conv=>whnf)); first
  | (refine ax ?_; first|(refine eX ?_; simp[aT, *]; done)|(refine fo ?_; simp[aT, *]; done)|(refine eY ?_; simp[aT, *]; done))
  | (refine (And.intro (fun _=>?_) (fun _=>?_):(_->_)/\(_->_))<;>(first|(exfalso; contradiction)|skip)))
theorem IF (s:RS):ai gT 120 [qy s,.lit .i64 11] (.bool (aT s 11)):=by
 refine Spec.enter al na 100 Tryz.func120 rfl (by kernel_rfl) ?_
 repeat' ((try (conv=>whnf)); first
  | (refine ax ?_; first|(refine eX ?_; simp[aT, *]; done)|(refine fo ?_; simp[aT, *]; done)|(refine eY ?_; simp[aT, *]; done))
  | (refine (And.intro (fun _=>?_) (fun _=>?_):(_->_)/\(_->_))<;>(first|(exfalso; contradiction)|skip)))
theorem IG (s:RS):ai gT 120 [qy s,.lit .i64 12] (.bool (aT s 12)):=by
 refine Spec.enter al na 100 Tryz.func120 rfl (by kernel_rfl) ?_
 repeat' ((try (conv=>whnf)); first
  | (refine ax ?_; first|(refine eX ?_; simp[aT, *]; done)|(refine fo ?_; simp[aT, *]; done)|(refine eY ?_; simp[aT, *]; done))
  | (refine (And.intro (fun _=>?_) (fun _=>?_):(_->_)/\(_->_))<;>(first|(exfalso; contradiction)|skip)))
theorem IH (s:RS):ai gT 120 [qy s,.lit .i64 13] (.bool (aT s 13)):=by
 refine Spec.enter al na 100 Tryz.func120 rfl (by kernel_rfl) ?_
 repeat' ((try (conv=>whnf)); first
  | (refine ax ?_; first|(refine eX ?_; simp[aT, *]; done)|(refine fo ?_; simp[aT, *]; done)|(refine eY ?_; simp[aT, *]; done))
  | (refine (And.intro (fun _=>?_) (fun _=>?_):(_->_)/\(_->_))<;>(first|(exfalso; contradiction)|skip)))
theorem sH (s:RS) (c:Int):ai gT 120 [qy s,.int .i64 c] (.bool (aT s c)):=by
 by_cases h:c < 0\/13 < c
 ·exact D_ s c h
 ·have hc:c=0\/c=1\/c=2\/c=3\/c=4\/c=5\/c=6\/c=7\/c=8\/c=9\/c=10\/c=11\/c=12\/c=13:=by omega
  rcases hc with rfl|rfl|rfl|rfl|rfl|rfl|rfl|rfl|rfl|rfl|rfl|rfl|rfl|rfl
  
  ·exact fq rfl (MV s) (ft s)
  ·exact fq rfl (MW s) (ft s)
  ·exact fq rfl (MX s) (ft s)
  ·exact fq rfl (MY s) (ft s)
  ·exact fq rfl (MZ s) (ft s)
  ·exact fq rfl (M0 s) (ft s)
  ·exact fq rfl (M1 s) (ft s)
  ·exact fq rfl (M3 s) (ft s)
  ·exact fq rfl (M4 s) (ft s)
  ·exact fq rfl (M5 s) (ft s)
  ·exact fq rfl (IE s) (ft s)
  ·exact fq rfl (IF s) (ft s)
  ·exact fq rfl (IG s) (ft s)
  ·exact fq rfl (IH s) (ft s)
def gU (r v:Int):Int:=if r=13 then bits .andNot .u32 v 3 else v
theorem sI (r v:Int):ai gT 119 [.int .i64 r,.int .u32 v] (.int .u32 (gU r v)):=by
 refine Spec.enter al P119 100 Tryz.func119 rfl (by kernel_rfl) ?_
 refine⟨fun h=>?_,fun h=>?_⟩
 ·exact ax (show bits .andNot .u32 v 3=gU r v by unfold gU; rw[if_pos h])
 ·exact ax (show v=gU r v by unfold gU; rw[if_neg h])
def j' (x:XS) (v:Int):XS:=if bits .or .u32 v 1=4294967295 then { x with kind:=1,code:=0 } else cI x 15 (bits .andNot .u32 v 1)
theorem Cm (m:MS) (x:XS) (v:Int):Spec gT 109 [.ptr 3 0,.int .u32 v] (iq m x) [] fun y S'=>y = .tup []/\S'=iq m (j' x v):=by
 refine Spec.jP (Spec.enter al P109 100 Tryz.func109 rfl (by kernel_rfl) ?_)
 refine⟨fun h=>?_,fun h=>?_⟩
 ·have e:j' x v = { x with kind:=1,code:=0 }:=by unfold j'; rw[if_pos h]
  rw[e]
  exact rS
 ·have e:j' x v=cI x 15 (bits .andNot .u32 v 1):=by unfold j'; rw[if_neg h]
  rw[e]
  refine (bV m x 15 (bits .andNot .u32 v 1) (by decide) (by decide)).e ?_
  exact rS
def sL (x:XS) (lo hi:Int):XS:=cI (cI x x.i.rd lo) x.i.ra hi
theorem Cn (m:MS) (x:XS) (lo hi:Int) (hx:mC x):Spec gT 117 [.ptr 3 0,.int .u32 lo,.int .u32 hi] (iq m x) [] fun y S'=>y = .tup []/\S'=iq m (sL x lo hi):=by
 refine Spec.jP (Spec.enter al P117 100 Tryz.func117 rfl (by kernel_rfl) ?_)
 refine (bV m x x.i.rd lo hx.rd.1 hx.rd.2).e ?_
 refine (bV m (cI x x.i.rd lo) x.i.ra hi hx.ra.1 hx.ra.2).e ?_
 exact rS
def bP (f:Int):Int :=
 if f=28 then 1 else if f=30 then 2 else if f=48 then 3 else if f=49 then 4 else if f=82 then 5 else if f=83 then 6 else if f=39 then 7 else if f=40 then 8 else if f=41 then 9 else if f=44 then 10 else 0
def cQ (x:XS):XS :=
 if bP x.i.form=1 then cI x x.i.rd (gU x.i.rd (IntKind.u32.wrap (ao x x.i.rd+ao x x.i.rm))) else if bP x.i.form=2 then cI x x.i.rd (gU x.i.rd (ao x x.i.rm)) else if bP x.i.form=3 then cI x x.i.rd (IntKind.u32.wrap x.i.ay) else if bP x.i.form=4 then cI x x.i.rd (bits .or .u32 (bits .and .u32 (ao x x.i.rd) 65535) (IntKind.u32.wrap (IntKind.u32.wrap x.i.ay*Ev.aV .u32 16))) else if bP x.i.form=5 then cI x x.i.rd (IntKind.u32.wrap (ao x x.i.rn+IntKind.u32.wrap x.i.ay)) else if bP x.i.form=6 then cI x x.i.rd (IntKind.u32.wrap (ao x x.i.rn - IntKind.u32.wrap x.i.ay)) else if bP x.i.form=7 then cI x x.i.rd (IntKind.u32.wrap (ao x 13+IntKind.u32.wrap x.i.ay)) else if bP x.i.form=8 then cI x 13 (IntKind.u32.wrap (ao x 13+IntKind.u32.wrap x.i.ay)) else if bP x.i.form=9 then cI x 13 (IntKind.u32.wrap (ao x 13 - IntKind.u32.wrap x.i.ay)) else if bP x.i.form=10 then x else x
theorem II {x:XS} (h:bP x.i.form=1):cQ x=cI x x.i.rd (gU x.i.rd (IntKind.u32.wrap (ao x x.i.rd+ao x x.i.rm))):=by unfold cQ; rw[if_pos h]
theorem IJ {x:XS} (h:bP x.i.form=2):cQ x=cI x x.i.rd (gU x.i.rd (ao x x.i.rm)):=by unfold cQ; rw[if_neg (by omega),if_pos h]
theorem IK {x:XS} (h:bP x.i.form=3):cQ x=cI x x.i.rd (IntKind.u32.wrap x.i.ay):=by unfold cQ; rw[if_neg (by omega),if_neg (by omega),if_pos h]
theorem IL {x:XS} (h:bP x.i.form=4):cQ x=cI x x.i.rd (bits .or .u32 (bits .and .u32 (ao x x.i.rd) 65535) (IntKind.u32.wrap (IntKind.u32.wrap x.i.ay*Ev.aV .u32 16))):=by unfold cQ; rw[if_neg (by omega),if_neg (by omega),if_neg (by omega),if_pos h]
theorem IM {x:XS} (h:bP x.i.form=5):cQ x=cI x x.i.rd (IntKind.u32.wrap (ao x x.i.rn+IntKind.u32.wrap x.i.ay)):=by unfold cQ; rw[if_neg (by omega),if_neg (by omega),if_neg (by omega),if_neg (by omega),if_pos h]
theorem IP {x:XS} (h:bP x.i.form=6):cQ x=cI x x.i.rd (IntKind.u32.wrap (ao x x.i.rn - IntKind.u32.wrap x.i.ay)):=by unfold cQ; rw[if_neg (by omega),if_neg (by omega),if_neg (by omega),if_neg (by omega),if_neg (by omega),if_pos h]
theorem IQ {x:XS} (h:bP x.i.form=7):cQ x=cI x x.i.rd (IntKind.u32.wrap (ao x 13+IntKind.u32.wrap x.i.ay)):=by unfold cQ; rw[if_neg (by omega),if_neg (by omega),if_neg (by omega),if_neg (by omega),if_neg (by omega),if_neg (by omega),if_pos h]
theorem IS {x:XS} (h:bP x.i.form=8):cQ x=cI x 13 (IntKind.u32.wrap (ao x 13+IntKind.u32.wrap x.i.ay)):=by unfold cQ; rw[if_neg (by omega),if_neg (by omega),if_neg (by omega),if_neg (by omega),if_neg (by omega),if_neg (by omega),if_neg (by omega),if_pos h]
theorem IT {x:XS} (h:bP x.i.form=9):cQ x=cI x 13 (IntKind.u32.wrap (ao x 13 - IntKind.u32.wrap x.i.ay)):=by unfold cQ; rw[if_neg (by omega),if_neg (by omega),if_neg (by omega),if_neg (by omega),if_neg (by omega),if_neg (by omega),if_neg (by omega),if_neg (by omega),if_pos h]
theorem Ea {x:XS} (h:bP x.i.form=10):cQ x=x:=by unfold cQ; rw[if_neg (by omega),if_neg (by omega),if_neg (by omega),if_neg (by omega),if_neg (by omega),if_neg (by omega),if_neg (by omega),if_neg (by omega),if_neg (by omega),if_pos h]
theorem yL {x:XS} (h:bP x.i.form=0):cQ x=x:=by unfold cQ; rw[if_neg (by omega),if_neg (by omega),if_neg (by omega),if_neg (by omega),if_neg (by omega),if_neg (by omega),if_neg (by omega),if_neg (by omega),if_neg (by omega),if_neg (by omega)]
theorem IU (m:MS) (x:XS) (hx:mC x):Spec gT 84 [.ptr 3 0] (iq m x) [] fun y S'=>y = .bool (bP x.i.form≠0)/\S'=iq m (cQ x):=by
 refine Spec.jP (Spec.enter al P84 100 Tryz.func84 rfl (by kernel_rfl) ?_)
 refine .inr ?_
 refine⟨fun lp=>?_,fun lp=>?_⟩
 ·have hc:bP x.i.form=1:=by rw[show x.i.form=28 from lp]; rfl
  rw[II hc]
  refine (bH m x x.i.rd hx.rd.1 hx.rd.2).e ?_
  refine (bH m x x.i.rm hx.rm.1 hx.rm.2).e ?_
  refine .inr ?_
  refine (sI x.i.rd (IntKind.u32.wrap (ao x x.i.rd+ao x x.i.rm))).u ?_
  refine (bV m x x.i.rd (gU x.i.rd (IntKind.u32.wrap (ao x x.i.rd+ao x x.i.rm))) hx.rd.1 hx.rd.2).e ?_
  exact bo (show bP x.i.form≠0 by omega) (aj rfl)
 refine⟨fun Ph=>?_,fun Ph=>?_⟩
 ·have hc:bP x.i.form=2:=by rw[show x.i.form=30 from Ph]; rfl
  rw[IJ hc]
  refine (bH m x x.i.rm hx.rm.1 hx.rm.2).e ?_
  refine (sI x.i.rd (ao x x.i.rm)).u ?_
  refine (bV m x x.i.rd (gU x.i.rd (ao x x.i.rm)) hx.rd.1 hx.rd.2).e ?_
  exact bo (show bP x.i.form≠0 by omega) (aj rfl)
 refine⟨fun tV=>?_,fun tV=>?_⟩
 ·have hc:bP x.i.form=3:=by rw[show x.i.form=48 from tV]; rfl
  rw[IK hc]
  refine (bV m x x.i.rd (IntKind.u32.wrap x.i.ay) hx.rd.1 hx.rd.2).e ?_
  exact bo (show bP x.i.form≠0 by omega) (aj rfl)
 refine⟨fun h49=>?_,fun h49=>?_⟩
 ·have hc:bP x.i.form=4:=by rw[show x.i.form=49 from h49]; rfl
  rw[IL hc]
  refine⟨by decide,.inr ?_⟩
  refine (bH m x x.i.rd hx.rd.1 hx.rd.2).e ?_
  refine (bV m x x.i.rd (bits .or .u32 (bits .and .u32 (ao x x.i.rd) 65535) (IntKind.u32.wrap (IntKind.u32.wrap x.i.ay*Ev.aV .u32 16))) hx.rd.1 hx.rd.2).e ?_
  exact bo (show bP x.i.form≠0 by omega) (aj rfl)
 refine⟨fun h82=>?_,fun h82=>?_⟩
 ·have hc:bP x.i.form=5:=by rw[show x.i.form=82 from h82]; rfl
  rw[IM hc]
  refine (bH m x x.i.rn hx.rn.1 hx.rn.2).e ?_
  refine .inr ?_
  refine (bV m x x.i.rd (IntKind.u32.wrap (ao x x.i.rn+IntKind.u32.wrap x.i.ay)) hx.rd.1 hx.rd.2).e ?_
  exact bo (show bP x.i.form≠0 by omega) (aj rfl)
 refine⟨fun h83=>?_,fun h83=>?_⟩
 ·have hc:bP x.i.form=6:=by rw[show x.i.form=83 from h83]; rfl
  rw[IP hc]
  refine (bH m x x.i.rn hx.rn.1 hx.rn.2).e ?_
  refine .inr ?_
  refine (bV m x x.i.rd (IntKind.u32.wrap (ao x x.i.rn - IntKind.u32.wrap x.i.ay)) hx.rd.1 hx.rd.2).e ?_
  exact bo (show bP x.i.form≠0 by omega) (aj rfl)
 refine⟨fun h39=>?_,fun h39=>?_⟩
 ·have hc:bP x.i.form=7:=by rw[show x.i.form=39 from h39]; rfl
  rw[IQ hc]
  refine (bH m x 13 (by decide) (by decide)).e ?_
  refine .inr ?_
  refine (bV m x x.i.rd (IntKind.u32.wrap (ao x 13+IntKind.u32.wrap x.i.ay)) hx.rd.1 hx.rd.2).e ?_
  exact bo (show bP x.i.form≠0 by omega) (aj rfl)
 refine⟨fun h40=>?_,fun h40=>?_⟩
 ·have hc:bP x.i.form=8:=by rw[show x.i.form=40 from h40]; rfl
  rw[IS hc]
  refine (bH m x 13 (by decide) (by decide)).e ?_
  refine .inr ?_
  refine (bV m x 13 (IntKind.u32.wrap (ao x 13+IntKind.u32.wrap x.i.ay)) (by decide) (by decide)).e ?_
  exact bo (show bP x.i.form≠0 by omega) (aj rfl)
 refine⟨fun h41=>?_,fun h41=>?_⟩
 ·have hc:bP x.i.form=9:=by rw[show x.i.form=41 from h41]; rfl
  rw[IT hc]
  refine (bH m x 13 (by decide) (by decide)).e ?_
  refine .inr ?_
  refine (bV m x 13 (IntKind.u32.wrap (ao x 13 - IntKind.u32.wrap x.i.ay)) (by decide) (by decide)).e ?_
  exact bo (show bP x.i.form≠0 by omega) (aj rfl)
 refine⟨fun h44=>?_,fun h44=>?_⟩
 ·have hc:bP x.i.form=10:=by rw[show x.i.form=44 from h44]; rfl
  rw[Ea hc]
  exact bo (show bP x.i.form≠0 by omega) (aj rfl)
 ·have hc:bP x.i.form=0:=by unfold bP; rw[if_neg (by omega),if_neg (by omega),if_neg (by omega),if_neg (by omega),if_neg (by omega),if_neg (by omega),if_neg (by omega),if_neg (by omega),if_neg (by omega),if_neg (by omega)]
  rw[yL hc]
  exact bo (show ¬ bP x.i.form≠0 from fun h=>h hc) (aj rfl)
theorem IV (x:XS):aY (ao x x.i.rn*ao x x.i.rm % 4294967296):=by unfold aY; omega
theorem Pj {x:XS} (h:mC x):aY (ao x x.i.rn*ao x x.i.rm / 4294967296):=by
 have a:=bM h x.i.rn
 have b:=bM h x.i.rm
 unfold aY at a b ⊢
 have h1:0<=ao x x.i.rn*ao x x.i.rm:=Int.mul_nonneg a.1 b.1
 have h2:ao x x.i.rn*ao x x.i.rm<=4294967295*4294967295:=Int.mul_le_mul a.2 b.2 b.1 (by decide)
 omega
def bK (f:Int):Int :=
 if f=25 then 1 else if f=92 then 2 else if f=93 then 3 else if f=94 then 4 else if f=95 then 5 else if f=96 then 6 else if f=97 then 7 else if f=98 then 8 else 0
def fh (x:XS):XS :=
 if bK x.i.form=1 then cI (qQ x (IntKind.u32.wrap (ao x x.i.rd*ao x x.i.rm))) x.i.rd (IntKind.u32.wrap (ao x x.i.rd*ao x x.i.rm)) else if bK x.i.form=2 then cI x x.i.rd (ao x x.i.rn*ao x x.i.rm % 4294967296) else if bK x.i.form=3 then cI x x.i.rd (IntKind.u32.wrap ((ao x x.i.rn*ao x x.i.rm % 4294967296)+ao x x.i.ra)) else if bK x.i.form=4 then cI x x.i.rd (IntKind.u32.wrap (ao x x.i.ra - (ao x x.i.rn*ao x x.i.rm % 4294967296))) else if bK x.i.form=5 then sL x (ao x x.i.rn*ao x x.i.rm % 4294967296) (ao x x.i.rn*ao x x.i.rm / 4294967296) else if bK x.i.form=6 then sL x (Rm.fj (ao x x.i.rn*ao x x.i.rm % 4294967296) (ao x x.i.rd) 0) (Rm.fj (ao x x.i.rn*ao x x.i.rm / 4294967296) (ao x x.i.ra) (Rm.iG (ao x x.i.rn*ao x x.i.rm % 4294967296) (ao x x.i.rd) 0)) else if bK x.i.form=7 then cI { x with a:=ao x x.i.rn,b:=ao x x.i.rm } x.i.rd (IntKind.u32.wrap (ao x x.i.rn / max (ao x x.i.rm) 1*min (ao x x.i.rm) 1)) else if bK x.i.form=8 then cI x x.i.rd (IntKind.u32.wrap (32 - (Lib.bitLen (ao x x.i.rm).toNat:Int))) else x
theorem M6 {x:XS} (h:bK x.i.form=1):fh x=cI (qQ x (IntKind.u32.wrap (ao x x.i.rd*ao x x.i.rm))) x.i.rd (IntKind.u32.wrap (ao x x.i.rd*ao x x.i.rm)):=by unfold fh; rw[if_pos h]
theorem M7 {x:XS} (h:bK x.i.form=2):fh x=cI x x.i.rd (ao x x.i.rn*ao x x.i.rm % 4294967296):=by unfold fh; rw[if_neg (by omega),if_pos h]
theorem M8 {x:XS} (h:bK x.i.form=3):fh x=cI x x.i.rd (IntKind.u32.wrap ((ao x x.i.rn*ao x x.i.rm % 4294967296)+ao x x.i.ra)):=by unfold fh; rw[if_neg (by omega),if_neg (by omega),if_pos h]
theorem M9 {x:XS} (h:bK x.i.form=4):fh x=cI x x.i.rd (IntKind.u32.wrap (ao x x.i.ra - (ao x x.i.rn*ao x x.i.rm % 4294967296))):=by unfold fh; rw[if_neg (by omega),if_neg (by omega),if_neg (by omega),if_pos h]
theorem M' {x:XS} (h:bK x.i.form=5):fh x=sL x (ao x x.i.rn*ao x x.i.rm % 4294967296) (ao x x.i.rn*ao x x.i.rm / 4294967296):=by unfold fh; rw[if_neg (by omega),if_neg (by omega),if_neg (by omega),if_neg (by omega),if_pos h]
theorem M_ {x:XS} (h:bK x.i.form=6):fh x=sL x (Rm.fj (ao x x.i.rn*ao x x.i.rm % 4294967296) (ao x x.i.rd) 0) (Rm.fj (ao x x.i.rn*ao x x.i.rm / 4294967296) (ao x x.i.ra) (Rm.iG (ao x x.i.rn*ao x x.i.rm % 4294967296) (ao x x.i.rd) 0)):=by unfold fh; rw[if_neg (by omega),if_neg (by omega),if_neg (by omega),if_neg (by omega),if_neg (by omega),if_pos h]
theorem Na {x:XS} (h:bK x.i.form=7):fh x=cI { x with a:=ao x x.i.rn,b:=ao x x.i.rm } x.i.rd (IntKind.u32.wrap (ao x x.i.rn / max (ao x x.i.rm) 1*min (ao x x.i.rm) 1)):=by unfold fh; rw[if_neg (by omega),if_neg (by omega),if_neg (by omega),if_neg (by omega),if_neg (by omega),if_neg (by omega),if_pos h]
theorem Nb {x:XS} (h:bK x.i.form=8):fh x=cI x x.i.rd (IntKind.u32.wrap (32 - (Lib.bitLen (ao x x.i.rm).toNat:Int))):=by unfold fh; rw[if_neg (by omega),if_neg (by omega),if_neg (by omega),if_neg (by omega),if_neg (by omega),if_neg (by omega),if_neg (by omega),if_pos h]
theorem Co {x:XS} (h:bK x.i.form=0):fh x=x:=by unfold fh; rw[if_neg (by omega),if_neg (by omega),if_neg (by omega),if_neg (by omega),if_neg (by omega),if_neg (by omega),if_neg (by omega),if_neg (by omega)]
theorem yM (m:MS) (x:XS) (hx:mC x):Spec gT 83 [.ptr 3 0] (iq m x) [] fun y S'=>y = .bool (bK x.i.form≠0)/\S'=iq m (fh x):=by
 refine Spec.jP (Spec.enter al P83 100 Tryz.func83 rfl (by kernel_rfl) ?_)
 have MB:=IV x
 have Pg:=Pj hx
 refine (bH m x x.i.rn hx.rn.1 hx.rn.2).e ?_
 refine (bH m x x.i.rm hx.rm.1 hx.rm.2).e ?_
 refine (D7 (ao x x.i.rn) (ao x x.i.rm) (bM hx _) (bM hx _)).u ?_
 refine⟨fun h25=>?_,fun h25=>?_⟩
 ·have hc:bK x.i.form=1:=by rw[show x.i.form=25 from h25]; rfl
  rw[M6 hc]
  refine (bH m x x.i.rd hx.rd.1 hx.rd.2).e ?_
  refine .inr ?_
  refine (ID m x (IntKind.u32.wrap (ao x x.i.rd*ao x x.i.rm))).e ?_
  refine (bV m (qQ x (IntKind.u32.wrap (ao x x.i.rd*ao x x.i.rm))) x.i.rd (IntKind.u32.wrap (ao x x.i.rd*ao x x.i.rm)) hx.rd.1 hx.rd.2).e ?_
  exact bo (show bK x.i.form≠0 by omega) (aj rfl)
 refine⟨fun h92=>?_,fun h92=>?_⟩
 ·have hc:bK x.i.form=2:=by rw[show x.i.form=92 from h92]; rfl
  rw[M7 hc]
  refine (bV m x x.i.rd (ao x x.i.rn*ao x x.i.rm % 4294967296) hx.rd.1 hx.rd.2).e ?_
  exact bo (show bK x.i.form≠0 by omega) (aj rfl)
 refine⟨fun h93=>?_,fun h93=>?_⟩
 ·have hc:bK x.i.form=3:=by rw[show x.i.form=93 from h93]; rfl
  rw[M8 hc]
  refine (bH m x x.i.ra hx.ra.1 hx.ra.2).e ?_
  refine .inr ?_
  refine (bV m x x.i.rd (IntKind.u32.wrap ((ao x x.i.rn*ao x x.i.rm % 4294967296)+ao x x.i.ra)) hx.rd.1 hx.rd.2).e ?_
  exact bo (show bK x.i.form≠0 by omega) (aj rfl)
 refine⟨fun h94=>?_,fun h94=>?_⟩
 ·have hc:bK x.i.form=4:=by rw[show x.i.form=94 from h94]; rfl
  rw[M9 hc]
  refine (bH m x x.i.ra hx.ra.1 hx.ra.2).e ?_
  refine .inr ?_
  refine (bV m x x.i.rd (IntKind.u32.wrap (ao x x.i.ra - (ao x x.i.rn*ao x x.i.rm % 4294967296))) hx.rd.1 hx.rd.2).e ?_
  exact bo (show bK x.i.form≠0 by omega) (aj rfl)
 refine⟨fun h95=>?_,fun h95=>?_⟩
 ·have hc:bK x.i.form=5:=by rw[show x.i.form=95 from h95]; rfl
  rw[M' hc]
  refine (Cn m x (ao x x.i.rn*ao x x.i.rm % 4294967296) (ao x x.i.rn*ao x x.i.rm / 4294967296) hx).e ?_
  exact bo (show bK x.i.form≠0 by omega) (aj rfl)
 refine⟨fun h96=>?_,fun h96=>?_⟩
 ·have hc:bK x.i.form=6:=by rw[show x.i.form=96 from h96]; rfl
  rw[M_ hc]
  refine (bH m x x.i.rd hx.rd.1 hx.rd.2).e ?_
  refine (sF (ao x x.i.rn*ao x x.i.rm % 4294967296) (ao x x.i.rd) 0 MB (bM hx _) (by decide)).u ?_
  refine (bH m x x.i.ra hx.ra.1 hx.ra.2).e ?_
  refine (sF (ao x x.i.rn*ao x x.i.rm / 4294967296) (ao x x.i.ra) (Rm.iG (ao x x.i.rn*ao x x.i.rm % 4294967296) (ao x x.i.rd) 0) Pg (bM hx _) (Rm.BO (ao x x.i.rn*ao x x.i.rm % 4294967296) (ao x x.i.rd) 0 (by decide) MB.1 MB.2 (bM hx _).1 (bM hx _).2).1).u ?_
  refine (Cn m x (Rm.fj (ao x x.i.rn*ao x x.i.rm % 4294967296) (ao x x.i.rd) 0) (Rm.fj (ao x x.i.rn*ao x x.i.rm / 4294967296) (ao x x.i.ra) (Rm.iG (ao x x.i.rn*ao x x.i.rm % 4294967296) (ao x x.i.rd) 0)) hx).e ?_
  exact bo (show bK x.i.form≠0 by omega) (aj rfl)
 refine⟨fun h97=>?_,fun h97=>?_⟩
 ·have hc:bK x.i.form=7:=by rw[show x.i.form=97 from h97]; rfl
  rw[Na hc]
  refine⟨show max (ao x x.i.rm) 1≠0 by omega,.inl ⟨(bM hx x.i.rn).1,show ao x x.i.rn<=4294967295 from (bM hx x.i.rn).2,show (0:Int) < max (ao x x.i.rm) 1 by omega,?_⟩⟩
  refine .inr ?_
  refine (bV m { x with a:=ao x x.i.rn,b:=ao x x.i.rm } x.i.rd (IntKind.u32.wrap (ao x x.i.rn / max (ao x x.i.rm) 1*min (ao x x.i.rm) 1)) hx.rd.1 hx.rd.2).e ?_
  exact bo (show bK x.i.form≠0 by omega) (aj rfl)
 refine⟨fun h98=>?_,fun h98=>?_⟩
 ·have hc:bK x.i.form=8:=by rw[show x.i.form=98 from h98]; rfl
  rw[Nb hc]
  refine (MR (ao x x.i.rm) (bM hx _)).u ?_
  refine .inr ?_
  refine (bV m x x.i.rd (IntKind.u32.wrap (32 - (Lib.bitLen (ao x x.i.rm).toNat:Int))) hx.rd.1 hx.rd.2).e ?_
  exact bo (show bK x.i.form≠0 by omega) (aj rfl)
 ·have hc:bK x.i.form=0:=by unfold bK; rw[if_neg (by omega),if_neg (by omega),if_neg (by omega),if_neg (by omega),if_neg (by omega),if_neg (by omega),if_neg (by omega),if_neg (by omega)]
  rw[Co hc]
  exact bo (show ¬ bK x.i.form≠0 from fun h=>h hc) (aj rfl)
end Go.Proofs.YtlgkljpgagfndaaGreatDoor.Pw

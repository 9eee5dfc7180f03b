/- What this claim is proved with: no condition. -/
import Derived.Test.YtbnoodjnpooocaaGreatDoorNw24
import Derived.Test.YtbnoodjnpooocaaGreatDoorNw15
import Derived.KernelRfl
set_option linter.unusedVariables false
set_option linter.unusedSimpArgs false
namespace Go.Proofs.YtbnoodjnpooocaaGreatDoor.Pw
open Go
def lA:Code->Code
 | .seq a _=>a
 | c=>c
def iK:Code->Code
 | .seq _ b=>b
 | c=>c
def Yc:Code->Code
 | .block _ c=>c
 | c=>c
def rfA:Code->Code
 | .rangeFunc _ _ a _=>a
 | c=>c
def rfB:Code->Code
 | .rangeFunc _ _ _ b=>b
 | c=>c
noncomputable def YX:Code:=(Tryz.f13).body.getD .skip
noncomputable def Rh:Code:=nD 4 YX
noncomputable def Ri:Code:=Yc (iK (lA Rh))
def exB (b:aj):Bool:=b.live && bkB b.k .loc && Nat.beq b.ty 72 && Nat.beq b.size 1 && Sb b.m .w && o_ b.cs [wE]
def A6 (s:CS) (gv:PV):Bool:=match gv with
 | .clo f [.ptr l 0]=>Nat.beq f 42 && aK (s.dX l) exB
 | _=>false
def yK:PV:=.sl 1 [kB 240,kB 181,kB 130,kB 176,kB 0,kB 144,kB 0,kB 152,kB 1,kB 33,kB 66,kB 24,kB 1,kB 146,kB 1,kB 152,kB 2,kB 176,kB 240,kB 189,kB 1,kB 190,kB 2,kB 190]
def jJ:PV:=.agg [lp [102],kI 0,.sl 2 [.agg [kI 2,kI 0]],kI 2,kI 28,.sl 17 [.agg [kI 1,kI 0,kI 20,kI 0,kI (-1),kI 0,kI 0,kI 0,kU 0,.nil,kI 0,kU 0,.nil,.nil,.nil,.nil,.nil]],kI 1,kI 26,kI 2,kI 0,kI 0,kI 0,kU 0,.nil,kI 0,kU 0,.nil,.nil]
def nJ:PV:=.agg [yK,.sl 18 [jJ]]
theorem Yd:Rh = .seq (.seq (lA (lA Rh)) (.block 0 (.rangeFunc (.tmp 35) #[36] (rfA Ri) (rfB Ri)))) (iK Rh):=by kernel_rfl
set_option maxRecDepth 1000000 in
theorem Ye:(tp [pW] 0 .nil fun t=>yf CD (QJ CD 99) P13 (Tryz.f13).ntmps 4 (.tmp 35) 36 0 (rfA Ri) (rfB Ri) (lA (lA Rh)) (iK Rh) YX A6 (fun x s=>match x with
  | .exit _=>false
  | _=>xK CD s (Tryz.f13).results.toList fun r=>ye CD.cx s.h s.n 9 r fun y=>BS y (.tup [nJ,kI 0,kI 0])) ⟨t,.nil,0⟩)=true:=by kernel_rfl
end Go.Proofs.YtbnoodjnpooocaaGreatDoor.Pw

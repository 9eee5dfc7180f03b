/- What this claim is proved with: no condition. -/
import Derived.Test.YtbnoodjnpooocaaGreatDoorChecked
import Derived.Test.YtbnoodjnpooocaaGreatDoorNwNumsJ
import Derived.Below
import Derived.Deep.QuietTactic
import Derived.Deep.DeepCutAuto
import Derived.Lib.Strings
import Derived.Lib.Slices
import Derived.Lib.Small
import Derived.Lib.Walk
import Derived.Lib.BitFns
import Derived.RegionTactic
import Derived.Deep.RegionHeld3
set_option linter.unusedVariables false
set_option linter.unusedSimpArgs false
namespace Go.Proofs.YtbnoodjnpooocaaGreatDoor
open Go.RowKit
def cu (x:Int):Int:=x % 2+(x / 2 % 2+(x / 4 % 2+(x / 8 % 2+(x / 16 % 2+(x / 32 % 2+(x / 64 % 2+(x / 128 % 2+(x / 256 % 2+(x / 512 % 2+(x / 1024 % 2+(x / 2048 % 2+(x / 4096 % 2+(x / 8192 % 2+(x / 16384 % 2+x / 32768 % 2))))))))))))))
theorem KS:∀ n:Fin 256,Lib.pop8 (n.val:Int)=((n.val % 2+n.val / 2 % 2+n.val / 4 % 2+n.val / 8 % 2+n.val / 16 % 2+n.val / 32 % 2+n.val / 64 % 2+n.val / 128 % 2:Nat):Int):=by decide +kernel
theorem qF (b:Int) (h0:0<=b) (h1:b<=255):Lib.pop8 b=b % 2+b / 2 % 2+b / 4 % 2+b / 8 % 2+b / 16 % 2+b / 32 % 2+b / 64 % 2+b / 128 % 2:=by
 have e:=KS ⟨b.toNat,by omega⟩
 have hb:((b.toNat:Nat):Int)=b:=by omega
 rw[hb] at e
 rw[e]
 push_cast
 rw[hb]
theorem qG (x:Int) (h0:0<=x) (h1:x<=65535):0<=cu x/\cu x<=16:=by
 unfold cu
 have m:∀ y:Int,0<=y % 2/\y % 2<=1:=fun y=>by omega
 have b0:=m x; have b1:=m (x / 2); have b2:=m (x / 4); have b3:=m (x / 8); have b4:=m (x / 16); have b5:=m (x / 32); have b6:=m (x / 64); have b7:=m (x / 128)
 have b8:=m (x / 256); have b9:=m (x / 512); have b10:=m (x / 1024); have b11:=m (x / 2048); have b12:=m (x / 4096); have b13:=m (x / 8192); have b14:=m (x / 16384); have b15:=m (x / 32768)
 generalize x % 2=a0,x / 2 % 2=a1,x / 4 % 2=a2,x / 8 % 2=a3,x / 16 % 2=a4,x / 32 % 2=a5,x / 64 % 2=a6,x / 128 % 2=a7,x / 256 % 2=a8,x / 512 % 2=a9,x / 1024 % 2=R4,x / 2048 % 2=a11,x / 4096 % 2=a12,x / 8192 % 2=a13,x / 16384 % 2=a14,x / 32768 % 2=a15 at *
 omega
theorem Ei (b:Int) (h0:0<=b) (h1:b<=255):0<=Lib.pop8 b/\Lib.pop8 b<=8:=by
 rw[qF b h0 h1]
 generalize b / 2=c1,b / 4=c2,b / 8=c3,b / 16=c4,b / 32=c5,b / 64=c6,b / 128=c7
 omega
theorem XD (x:Int) (h0:0<=x) (h1:x<=65535):x / 256 % 256 % 2=x / 256 % 2:=by omega
theorem XE (x:Int) (h0:0<=x) (h1:x<=65535):x / 256 % 256 / 2 % 2=x / 512 % 2:=by omega
theorem XF (x:Int) (h0:0<=x) (h1:x<=65535):x / 256 % 256 / 4 % 2=x / 1024 % 2:=by omega
theorem XG (x:Int) (h0:0<=x) (h1:x<=65535):x / 256 % 256 / 8 % 2=x / 2048 % 2:=by omega
theorem O0 (x:Int) (h0:0<=x) (h1:x<=65535):x / 256 % 256 / 16 % 2=x / 4096 % 2:=by omega
theorem O1 (x:Int) (h0:0<=x) (h1:x<=65535):x / 256 % 256 / 32 % 2=x / 8192 % 2:=by omega
theorem O2 (x:Int) (h0:0<=x) (h1:x<=65535):x / 256 % 256 / 64 % 2=x / 16384 % 2:=by omega
theorem KT (x:Int) (h0:0<=x) (h1:x<=65535):x / 256 % 256 / 128 % 2=x / 32768 % 2:=by omega
theorem XH (x:Int) (h0:0<=x) (h1:x<=65535):x % 256 % 2=x % 2:=by omega
theorem XI (x:Int) (h0:0<=x) (h1:x<=65535):x % 256 / 2 % 2=x / 2 % 2:=by omega
theorem XJ (x:Int) (h0:0<=x) (h1:x<=65535):x % 256 / 4 % 2=x / 4 % 2:=by omega
theorem XK (x:Int) (h0:0<=x) (h1:x<=65535):x % 256 / 8 % 2=x / 8 % 2:=by omega
theorem O3 (x:Int) (h0:0<=x) (h1:x<=65535):x % 256 / 16 % 2=x / 16 % 2:=by omega
theorem O4 (x:Int) (h0:0<=x) (h1:x<=65535):x % 256 / 32 % 2=x / 32 % 2:=by omega
theorem O5 (x:Int) (h0:0<=x) (h1:x<=65535):x % 256 / 64 % 2=x / 64 % 2:=by omega
theorem KU (x:Int) (h0:0<=x) (h1:x<=65535):x % 256 / 128 % 2=x / 128 % 2:=by omega
theorem uq (n:Int) (a:0<=n) (b:n<=255):IntKind.u8.wrap n=n:=by
 simp only[IntKind.wrap,IntKind.signed,IntKind.bits]<;>simp<;>omega
theorem Gl (n:Int) (a:0<=n) (b:n<=255):IntKind.i64.wrap n=n:=by
 simp only[IntKind.wrap,IntKind.signed,IntKind.bits]<;>simp<;>omega
theorem O6 (x:Int) (h0:0<=x) (h1:x<=65535):IntKind.i64.wrap (IntKind.u8.wrap (IntKind.u8.wrap (IntKind.u8.wrap 0+Lib.pop8 (x / 256 % 256))+Lib.pop8 (x % 256)))=cu x:=by
 have hp:=Ei (x / 256 % 256) (by omega) (by omega)
 have hq:=Ei (x % 256) (by omega) (by omega)
 have e:Lib.pop8 (x / 256 % 256)+Lib.pop8 (x % 256)=cu x:=by
  rw[qF (x / 256 % 256) (by omega) (by omega),qF (x % 256) (by omega) (by omega)]
  rw[XD x h0 h1,XE x h0 h1,XF x h0 h1,XG x h0 h1,O0 x h0 h1,O1 x h0 h1,O2 x h0 h1,KT x h0 h1,XH x h0 h1,XI x h0 h1,XJ x h0 h1,XK x h0 h1,O3 x h0 h1,O4 x h0 h1,O5 x h0 h1,KU x h0 h1]
  unfold cu
  generalize x % 2=a0,x / 2 % 2=a1,x / 4 % 2=a2,x / 8 % 2=a3,x / 16 % 2=a4,x / 32 % 2=a5,x / 64 % 2=a6,x / 128 % 2=a7,x / 256 % 2=a8,x / 512 % 2=a9,x / 1024 % 2=R4,x / 2048 % 2=a11,x / 4096 % 2=a12,x / 8192 % 2=a13,x / 16384 % 2=a14,x / 32768 % 2=a15
  omega
 rw[uq 0 (by omega) (by omega),Int.zero_add]
 generalize Lib.pop8 (x / 256 % 256)=p at *
 generalize Lib.pop8 (x % 256)=q at *
 rw[uq p (by omega) (by omega),uq (p+q) (by omega) (by omega),Gl (p+q) (by omega) (by omega),e]
set_option maxHeartbeats 4000000 in
set_option maxRecDepth 100000 in
theorem Gm (x:Int) (w:World) (h0:0<=x) (h1:x<=65535) :
  Calls Tryz.prog 122 #[.int .u32 x] w fun e w'=>e = .returned (.int .i64 (cu x))/\Below w.heap.size w w':=by
 have f1:x / 16777216=0:=by omega
 have f2:x / 65536=0:=by omega
 have g0:bits .and .u32 0 255=0:=by decide
 have g1:bits .and .u32 (x / 256) 255=x / 256 % 256:=Rm.qB _ (by omega) (by omega)
 have g2:bits .and .u32 x 255=x % 256:=Rm.qB _ (by omega) (by omega)
 have r0:∀ w:World,(Instr.index 9 (.string Lib.pop8tab) (.int .u32 0)).run Tryz.prog w = .ok (.int .u8 0) w:=fun _=>by kernel_rfl
 go_enter Tryz.func122,Tryz.ntmps122
 go_wp2
 go_region_held3 (fun _=>True) (exact trivial) (fail)
 all_goals go_wp2
 all_goals
  go_ret
  exact⟨congrArg Ending.returned (congrArg (Value.int IntKind.i64) (O6 x h0 h1)),(Below.refl _ w).drew⟩
end Go.Proofs.YtbnoodjnpooocaaGreatDoor

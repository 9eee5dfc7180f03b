/- What this claim is proved with: no condition. -/
import Derived.Test.YtnbhdacpogplgaaGreatDoorPdAluA
set_option linter.unusedVariables false
set_option linter.unusedSimpArgs false
namespace Go.Proofs.YtnbhdacpogplgaaGreatDoor
open Go.RowKit
theorem HE (k:Int) (x:Nat) (w:World) (xg:0<=k) (Cz:k<=3) (hx:x < 4294967296) :
  Calls Tryz.prog 146 #[.int .i64 k,.int .u32 (x:Int)] w fun e w'=>e = .returned (.tuple #[.int .u32 ((Rm.iN k x:Nat):Int),.int .u32 ((Rm.j1 k x:Nat):Int)])/\w=w':=by
 have hk:k=0\/k=1\/k=2\/k=3:=by omega
 have e1:=Rm.XQ (x:Int) (by omega) (by omega)
 rcases hk with rfl|rfl|rfl|rfl
 ·go_enter Tryz.func146,Tryz.ntmps146
  go_wp2
  go_ret2
  exact⟨jC (by simp[Rm.iN]<;>omega) (by simp[Rm.j1]<;>omega),rfl⟩
 ·go_enter Tryz.func146,Tryz.ntmps146
  go_wp2
  go_ret2
  exact⟨jC (by simp[Rm.iN]<;>omega) (by simp[Rm.j1]<;>omega),rfl⟩
 ·go_enter Tryz.func146,Tryz.ntmps146
  go_wp2
  go_ret2
  exact⟨jC (by rw[Rm.D1 _ _ (by omega) (by omega) (by omega) (by omega)]; simp[Rm.iN]<;>omega) (by simp[Rm.j1]<;>omega),rfl⟩
 ·go_enter Tryz.func146,Tryz.ntmps146
  go_wp2
  go_ret2
  exact⟨jC (by rw[Rm.D1 _ _ (by omega) (by omega) (by omega) (by omega)]; simp[Rm.iN]<;>omega) (by simp[Rm.j1]<;>omega),rfl⟩
theorem Q0 (k x n c:Int) (w:World) (h:k < 0\/3 < k\/n < 0\/255 < n) :
  Calls Tryz.prog 135 #[.int .i64 k,.int .u32 x,.int .i64 n,.int .u32 c] w fun e w'=>e = .returned (.tuple #[.int .u32 0,.int .u32 0,.int .i64 11])/\w=w':=by
 by_cases h1:k < 0
 ·go_enter Tryz.func135,Tryz.ntmps135
  go_wp2
  go_ret3
  exact⟨rfl,rfl⟩
 ·by_cases h2:3 < k
  ·go_enter Tryz.func135,Tryz.ntmps135
   go_wp2
   go_ret3
   exact⟨rfl,rfl⟩
  ·by_cases h3:n < 0
   ·go_enter Tryz.func135,Tryz.ntmps135
    go_wp2
    go_ret3
    exact⟨rfl,rfl⟩
   ·have h4:255 < n:=by omega
    clear h
    go_enter Tryz.func135,Tryz.ntmps135
    go_wp2
    go_ret3
    exact⟨rfl,rfl⟩
theorem D2 (k x n c:Int) (w:World) (xg:0<=k) (Cz:k<=3) (jy:0<=n) (sY:n<=255) (XR:0<=x) (Ll:x<=4294967295) (pk:0<=c) :
  Calls Tryz.prog 135 #[.int .i64 k,.int .u32 x,.int .i64 n,.int .u32 c] w fun e w' =>
   e = .returned (.tuple #[.int .u32 ((Rm.HA k n.toNat x.toNat:Nat):Int),.int .u32 ((Rm.XP k n.toNat x.toNat (min c.toNat 1):Nat):Int),.int .i64 0])/\w=w':=by
 have hxn:x.toNat < 4294967296:=by omega
 have d1:decide (k < 0)=false:=by simpa using xg
 have d2:decide (3 < k)=false:=by simpa using Cz
 have d3:decide (n < 0)=false:=by simpa using jy
 have d4:decide (255 < n)=false:=by simpa using sY
 go_enter Tryz.func135,Tryz.ntmps135
 go_wp2
 go_loop [1,3,28] (fun a b i=>∃ j:Nat,(j:Int)<=n/\i = .int .i64 j/\a = .int .u32 ((Rm.HA k j x.toNat:Nat):Int)/\b = .int .u32 ((Rm.XP k j x.toNat (min c.toNat 1):Nat):Int)) (fun _ _ i=>(n - intOf i).toNat)
 case atStart=>exact⟨0,by omega,rfl,by congr 1; simp only[Rm.HA]; omega,by congr 1; simp only[Rm.XP]; omega⟩
 case round =>
  obtain⟨j,hj,rfl,rfl,rfl⟩:=hrel
  by_cases bG:(j:Int) < n
  ·have hl:=Rm.D0 k j x.toNat hxn
   go_wp2_with (go_at_call 146; refine (HE k _ _ xg Cz hl).mono ?_; rintro e w' ⟨rfl,rfl⟩)
   go_round
   case rel=>exact⟨j+1,by omega,by go_num,rfl,rfl⟩
   case measure=>simp[intOf]; omega
  ·go_wp2
   go_ret3
   have e:n.toNat=j:=by omega
   exact⟨by rw[e]; rfl,rfl⟩
end Go.Proofs.YtnbhdacpogplgaaGreatDoor

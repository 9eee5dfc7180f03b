/- What this claim is proved with: no condition. -/
import Derived.Test.YtnbhdacpogplgaaGreatDoorPvAluA
set_option linter.unusedVariables false
set_option linter.unusedSimpArgs false
namespace Go.Proofs.YtnbhdacpogplgaaGreatDoor
open Go.RowKit
theorem Qd (k:Int) (x:Nat) (w:World) (Ki:0<=k) (Gs:k<=3) (hx:x < 4294967296) :
  Calls Tryz.prog 146 #[.int .i64 k,.int .u32 (x:Int)] w fun e w'=>e = .returned (.tuple #[.int .u32 ((Rm.jn k x:Nat):Int),.int .u32 ((Rm.nR k x:Nat):Int)])/\w=w':=by
 have hk:k=0\/k=1\/k=2\/k=3:=by omega
 have e1:=Rm.and1 (x:Int) (by omega) (by omega)
 rcases hk with rfl|rfl|rfl|rfl
 ·go_enter Tryz.func146,Tryz.ntmps146
  go_wp2
  go_ret2
  exact⟨nd (by simp[Rm.jn]<;>omega) (by simp[Rm.nR]<;>omega),rfl⟩
 ·go_enter Tryz.func146,Tryz.ntmps146
  go_wp2
  go_ret2
  exact⟨nd (by simp[Rm.jn]<;>omega) (by simp[Rm.nR]<;>omega),rfl⟩
 ·go_enter Tryz.func146,Tryz.ntmps146
  go_wp2
  go_ret2
  exact⟨nd (by rw[Rm.L0 _ _ (by omega) (by omega) (by omega) (by omega)]; simp[Rm.jn]<;>omega) (by simp[Rm.nR]<;>omega),rfl⟩
 ·go_enter Tryz.func146,Tryz.ntmps146
  go_wp2
  go_ret2
  exact⟨nd (by rw[Rm.L0 _ _ (by omega) (by omega) (by omega) (by omega)]; simp[Rm.jn]<;>omega) (by simp[Rm.nR]<;>omega),rfl⟩
theorem shift_out (k x n c:Int) (w:World) (h:k < 0\/3 < k\/n < 0\/255 < n) :
  Calls Tryz.prog 135 #[.int .i64 k,.int .u32 x,.int .i64 n,.int .u32 c] w fun e w'=>e = .returned (.tuple #[.int .u32 0,.int .u32 0,.int .i64 11])/\w=w':=by
 by_cases h1:k < 0
 ·go_enter Tryz.func135,Tryz.ntmps135
  go_wp2
  go_ret3
  exact⟨rfl,rfl⟩
 ·by_cases h2:3 < k
  ·go_enter Tryz.func135,Tryz.ntmps135
   go_wp2
   go_ret3
   exact⟨rfl,rfl⟩
  ·by_cases h3:n < 0
   ·go_enter Tryz.func135,Tryz.ntmps135
    go_wp2
    go_ret3
    exact⟨rfl,rfl⟩
   ·have h4:255 < n:=by omega
    clear h
    go_enter Tryz.func135,Tryz.ntmps135
    go_wp2
    go_ret3
    exact⟨rfl,rfl⟩
theorem L1 (k x n c:Int) (w:World) (Ki:0<=k) (Gs:k<=3) (lh:0<=n) (yj:n<=255) (SS:0<=x) (LH:x<=4294967295) (tL:0<=c) :
  Calls Tryz.prog 135 #[.int .i64 k,.int .u32 x,.int .i64 n,.int .u32 c] w fun e w' =>
   e = .returned (.tuple #[.int .u32 ((Rm.LV k n.toNat x.toNat:Nat):Int),.int .u32 ((Rm.itC k n.toNat x.toNat (min c.toNat 1):Nat):Int),.int .i64 0])/\w=w':=by
 have hxn:x.toNat < 4294967296:=by omega
 have d1:decide (k < 0)=false:=by simpa using Ki
 have d2:decide (3 < k)=false:=by simpa using Gs
 have d3:decide (n < 0)=false:=by simpa using lh
 have d4:decide (255 < n)=false:=by simpa using yj
 go_enter Tryz.func135,Tryz.ntmps135
 go_wp2
 go_loop [1,3,28] (fun a b i=>∃ j:Nat,(j:Int)<=n/\i = .int .i64 j/\a = .int .u32 ((Rm.LV k j x.toNat:Nat):Int)/\b = .int .u32 ((Rm.itC k j x.toNat (min c.toNat 1):Nat):Int)) (fun _ _ i=>(n - intOf i).toNat)
 case atStart=>exact⟨0,by omega,rfl,by congr 1; simp only[Rm.LV]; omega,by congr 1; simp only[Rm.itC]; omega⟩
 case round =>
  obtain⟨j,hj,rfl,rfl,rfl⟩:=hrel
  by_cases ch:(j:Int) < n
  ·have hl:=Rm.EF k j x.toNat hxn
   go_wp2_with (go_at_call 146; refine (Qd k _ _ Ki Gs hl).mono ?_; rintro e w' ⟨rfl,rfl⟩)
   go_round
   case rel=>exact⟨j+1,by omega,by go_num,rfl,rfl⟩
   case measure=>simp[intOf]; omega
  ·go_wp2
   go_ret3
   have e:n.toNat=j:=by omega
   exact⟨by rw[e]; rfl,rfl⟩
end Go.Proofs.YtnbhdacpogplgaaGreatDoor

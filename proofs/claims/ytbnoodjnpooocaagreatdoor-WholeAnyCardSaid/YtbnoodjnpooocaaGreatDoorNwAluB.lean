/- What this claim is proved with: no condition. -/
import Derived.Test.YtbnoodjnpooocaaGreatDoorNwAluA
set_option linter.unusedVariables false
set_option linter.unusedSimpArgs false
namespace Go.Proofs.YtbnoodjnpooocaaGreatDoor
open Go.RowKit
theorem N9 (k:Int) (x:Nat) (w:World) (Dl:0<=k) (u5:k<=3) (hx:x < 4294967296) :
  Calls Tryz.prog 287 #[.int .i64 k,.int .u32 (x:Int)] w fun e w'=>e = .returned (.tuple #[.int .u32 ((Rm.Ai k x:Nat):Int),.int .u32 ((Rm.Aj k x:Nat):Int)])/\w=w':=by
 have hk:k=0\/k=1\/k=2\/k=3:=by omega
 have e1:=Rm.and1 (x:Int) (by omega) (by omega)
 rcases hk with rfl|rfl|rfl|rfl
 ·go_enter Tryz.func287,Tryz.ntmps287
  go_wp2
  go_ret2
  exact⟨iI (by simp[Rm.Ai]<;>omega) (by simp[Rm.Aj]<;>omega),rfl⟩
 ·go_enter Tryz.func287,Tryz.ntmps287
  go_wp2
  go_ret2
  exact⟨iI (by simp[Rm.Ai]<;>omega) (by simp[Rm.Aj]<;>omega),rfl⟩
 ·go_enter Tryz.func287,Tryz.ntmps287
  go_wp2
  go_ret2
  exact⟨iI (by rw[Rm.J3 _ _ (by omega) (by omega) (by omega) (by omega)]; simp[Rm.Ai]<;>omega) (by simp[Rm.Aj]<;>omega),rfl⟩
 ·go_enter Tryz.func287,Tryz.ntmps287
  go_wp2
  go_ret2
  exact⟨iI (by rw[Rm.J3 _ _ (by omega) (by omega) (by omega) (by omega)]; simp[Rm.Ai]<;>omega) (by simp[Rm.Aj]<;>omega),rfl⟩
theorem YM (k x n c:Int) (w:World) (h:k < 0\/3 < k\/n < 0\/255 < n) :
  Calls Tryz.prog 214 #[.int .i64 k,.int .u32 x,.int .i64 n,.int .u32 c] w fun e w'=>e = .returned (.tuple #[.int .u32 0,.int .u32 0,.int .i64 11])/\w=w':=by
 by_cases h1:k < 0
 ·go_enter Tryz.func214,Tryz.ntmps214
  go_wp2
  go_ret3
  exact⟨rfl,rfl⟩
 ·by_cases h2:3 < k
  ·go_enter Tryz.func214,Tryz.ntmps214
   go_wp2
   go_ret3
   exact⟨rfl,rfl⟩
  ·by_cases h3:n < 0
   ·go_enter Tryz.func214,Tryz.ntmps214
    go_wp2
    go_ret3
    exact⟨rfl,rfl⟩
   ·have h4:255 < n:=by omega
    clear h
    go_enter Tryz.func214,Tryz.ntmps214
    go_wp2
    go_ret3
    exact⟨rfl,rfl⟩
theorem Ak (k x n c:Int) (w:World) (Dl:0<=k) (u5:k<=3) (fS:0<=n) (lT:n<=255) (FB:0<=x) (Ff:x<=4294967295) (rZ:0<=c) :
  Calls Tryz.prog 214 #[.int .i64 k,.int .u32 x,.int .i64 n,.int .u32 c] w fun e w' =>
   e = .returned (.tuple #[.int .u32 ((Rm.N0 k n.toNat x.toNat:Nat):Int),.int .u32 ((Rm.itC k n.toNat x.toNat (min c.toNat 1):Nat):Int),.int .i64 0])/\w=w':=by
 have hxn:x.toNat < 4294967296:=by omega
 have d1:decide (k < 0)=false:=by simpa using Dl
 have d2:decide (3 < k)=false:=by simpa using u5
 have d3:decide (n < 0)=false:=by simpa using fS
 have d4:decide (255 < n)=false:=by simpa using lT
 go_enter Tryz.func214,Tryz.ntmps214
 go_wp2
 go_loop [1,3,28] (fun a b i=>∃ j:Nat,(j:Int)<=n/\i = .int .i64 j/\a = .int .u32 ((Rm.N0 k j x.toNat:Nat):Int)/\b = .int .u32 ((Rm.itC k j x.toNat (min c.toNat 1):Nat):Int)) (fun _ _ i=>(n - intOf i).toNat)
 case atStart=>exact⟨0,by omega,rfl,by congr 1; simp only[Rm.N0]; omega,by congr 1; simp only[Rm.itC]; omega⟩
 case round =>
  obtain⟨j,hj,rfl,rfl,rfl⟩:=hrel
  by_cases bZ:(j:Int) < n
  ·have hl:=Rm.yg k j x.toNat hxn
   go_wp2_with (go_at_call 287; refine (N9 k _ _ Dl u5 hl).mono ?_; rintro e w' ⟨rfl,rfl⟩)
   go_round
   case rel=>exact⟨j+1,by omega,by go_num,rfl,rfl⟩
   case measure=>simp[intOf]; omega
  ·go_wp2
   go_ret3
   have e:n.toNat=j:=by omega
   exact⟨by rw[e]; rfl,rfl⟩
end Go.Proofs.YtbnoodjnpooocaaGreatDoor

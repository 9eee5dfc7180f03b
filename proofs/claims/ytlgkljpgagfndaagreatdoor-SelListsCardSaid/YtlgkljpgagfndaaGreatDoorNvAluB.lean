/- What this claim is proved with: no condition. -/
import Derived.Test.YtlgkljpgagfndaaGreatDoorNvAluA
set_option linter.unusedVariables false
set_option linter.unusedSimpArgs false
namespace Go.Proofs.YtlgkljpgagfndaaGreatDoor
open Go.RowKit
theorem Ki (k:Int) (x:Nat) (w:World) (uQ:0<=k) (B_:k<=3) (hx:x < 4294967296) :
  Calls Tryz.prog 162 #[.int .i64 k,.int .u32 (x:Int)] w fun e w'=>e = .returned (.tuple #[.int .u32 ((Rm.mC k x:Nat):Int),.int .u32 ((Rm.q_ k x:Nat):Int)])/\w=w':=by
 have hk:k=0\/k=1\/k=2\/k=3:=by omega
 have e1:=Rm.and1 (x:Int) (by omega) (by omega)
 rcases hk with rfl|rfl|rfl|rfl
 ·go_enter Tryz.func162,Tryz.ntmps162
  go_wp2
  go_ret2
  exact⟨eQ (by simp[Rm.mC]<;>omega) (by simp[Rm.q_]<;>omega),rfl⟩
 ·go_enter Tryz.func162,Tryz.ntmps162
  go_wp2
  go_ret2
  exact⟨eQ (by simp[Rm.mC]<;>omega) (by simp[Rm.q_]<;>omega),rfl⟩
 ·go_enter Tryz.func162,Tryz.ntmps162
  go_wp2
  go_ret2
  exact⟨eQ (by rw[Rm.FN _ _ (by omega) (by omega) (by omega) (by omega)]; simp[Rm.mC]<;>omega) (by simp[Rm.q_]<;>omega),rfl⟩
 ·go_enter Tryz.func162,Tryz.ntmps162
  go_wp2
  go_ret2
  exact⟨eQ (by rw[Rm.FN _ _ (by omega) (by omega) (by omega) (by omega)]; simp[Rm.mC]<;>omega) (by simp[Rm.q_]<;>omega),rfl⟩
theorem Va (k x n c:Int) (w:World) (h:k < 0\/3 < k\/n < 0\/255 < n) :
  Calls Tryz.prog 148 #[.int .i64 k,.int .u32 x,.int .i64 n,.int .u32 c] w fun e w'=>e = .returned (.tuple #[.int .u32 0,.int .u32 0,.int .i64 11])/\w=w':=by
 by_cases h1:k < 0
 ·go_enter Tryz.func148,Tryz.ntmps148
  go_wp2
  go_ret3
  exact⟨rfl,rfl⟩
 ·by_cases h2:3 < k
  ·go_enter Tryz.func148,Tryz.ntmps148
   go_wp2
   go_ret3
   exact⟨rfl,rfl⟩
  ·by_cases h3:n < 0
   ·go_enter Tryz.func148,Tryz.ntmps148
    go_wp2
    go_ret3
    exact⟨rfl,rfl⟩
   ·have h4:255 < n:=by omega
    clear h
    go_enter Tryz.func148,Tryz.ntmps148
    go_wp2
    go_ret3
    exact⟨rfl,rfl⟩
theorem wV (k x n c:Int) (w:World) (uQ:0<=k) (B_:k<=3) (iQ:0<=n) (kp:n<=255) (du:0<=x) (dF:x<=4294967295) (qu:0<=c) :
  Calls Tryz.prog 148 #[.int .i64 k,.int .u32 x,.int .i64 n,.int .u32 c] w fun e w' =>
   e = .returned (.tuple #[.int .u32 ((Rm.qc k n.toNat x.toNat:Nat):Int),.int .u32 ((Rm.OU k n.toNat x.toNat (min c.toNat 1):Nat):Int),.int .i64 0])/\w=w':=by
 have Wi:x.toNat < 4294967296:=by omega
 have d1:decide (k < 0)=false:=by simpa using uQ
 have d2:decide (3 < k)=false:=by simpa using B_
 have d3:decide (n < 0)=false:=by simpa using iQ
 have d4:decide (255 < n)=false:=by simpa using kp
 go_enter Tryz.func148,Tryz.ntmps148
 go_wp2
 go_loop [1,3,28] (fun a b i=>∃ j:Nat,(j:Int)<=n/\i = .int .i64 j/\a = .int .u32 ((Rm.qc k j x.toNat:Nat):Int)/\b = .int .u32 ((Rm.OU k j x.toNat (min c.toNat 1):Nat):Int)) (fun _ _ i=>(n - intOf i).toNat)
 case atStart=>exact⟨0,by omega,rfl,by congr 1; simp only[Rm.qc]; omega,by congr 1; simp only[Rm.OU]; omega⟩
 case round =>
  obtain⟨j,hj,rfl,rfl,rfl⟩:=hrel
  by_cases cJ:(j:Int) < n
  ·have hl:=Rm.jh k j x.toNat Wi
   go_wp2_with (go_at_call 162; refine (Ki k _ _ uQ B_ hl).mono ?_; rintro e w' ⟨rfl,rfl⟩)
   go_round
   case rel=>exact⟨j+1,by omega,by go_num,rfl,rfl⟩
   case measure=>simp[intOf]; omega
  ·go_wp2
   go_ret3
   have e:n.toNat=j:=by omega
   exact⟨by rw[e]; rfl,rfl⟩
theorem mE (x n:Int) (w:World) (du:0<=x) (dF:x<=4294967295) :
  Calls Tryz.prog 133 #[.int .u32 x,.int .i64 n] w fun e w'=>e = .returned (.int .u32 ((Rm.cZ x.toNat n:Nat):Int))/\w=w':=by
 by_cases h:n < 0
 ·have hb:=Lib.hid (Rm.nF x.toNat n (.inl h))
  go_enter Tryz.func133,Tryz.ntmps133
  go_wp2
  go_ret
  exact⟨rb (by rw[hb.out]; rfl),rfl⟩
 ·by_cases h2:31 < n
  ·have hb:=Lib.hid (Rm.nF x.toNat n (.inr h2))
   go_enter Tryz.func133,Tryz.ntmps133
   go_wp2
   go_ret
   exact⟨rb (by rw[hb.out]; rfl),rfl⟩
  ·go_enter Tryz.func133,Tryz.ntmps133
   go_wp2
   go_loop [0,5] (fun a i=>∃ j y:Nat,(j:Int)<=n/\y<=4294967295/\Hid (y=x.toNat / 2 ^ j)/\i = .int .i64 j/\a = .int .u32 (y:Int)) (fun _ i=>(n - intOf i).toNat)
   case atStart=>exact⟨0,x.toNat,by omega,by omega,Lib.hid (by simp),rfl,by congr 1; omega⟩
   case round =>
    obtain⟨j,y,hj,hy,hY,rfl,rfl⟩:=hrel
    by_cases cJ:(j:Int) < n
    ·go_wp2
     go_round
     case rel=>exact⟨j+1,y / 2,by omega,by omega,Lib.hid (by rw[Nat.pow_succ,← Nat.div_div_eq_div_mul,hY.out]),by go_num,by congr 1⟩
     case measure=>simp[intOf]; omega
    ·go_wp2
     go_ret
     have e:n.toNat=j:=by omega
     refine⟨rb ?_,rfl⟩
     unfold Rm.cZ
     rw[if_neg (by omega),e,← hY.out]
     omega
theorem re (k i n:Int) (w:World) (hi0:0<=i) (hi1:i<=31) (iQ:0<=n) (kp:n<=255) :
  Calls Tryz.prog 134 #[.int .i64 k,.int .i64 i,.int .i64 n] w fun e w'=>e = .returned (.int .i64 (Rm.gZ k i n))/\w=w':=by
 by_cases h0:k=0
 ·subst h0
  go_enter Tryz.func134,Tryz.ntmps134
  go_wp2
  go_ret
  exact⟨rfl,rfl⟩
 ·by_cases h3:k=3
  ·subst h3
   go_enter Tryz.func134,Tryz.ntmps134
   go_wp2
   go_ret
   exact⟨rfl,rfl⟩
  ·have b0:(k == 0)=false:=by simpa using h0
   have b3:(k == 3)=false:=by simpa using h3
   by_cases hs:31 < i+n
   ·by_cases h2:k=2
    ·subst h2
     go_enter Tryz.func134,Tryz.ntmps134
     go_wp2
     go_ret
     exact⟨rb (by unfold Rm.gZ; rw[if_neg h0,if_neg h3,if_pos ⟨hs,rfl⟩]),rfl⟩
    ·have b2:(k == 2)=false:=by simpa using h2
     go_enter Tryz.func134,Tryz.ntmps134
     go_wp2
     go_ret
     exact⟨rb (by unfold Rm.gZ; rw[if_neg h0,if_neg h3,if_neg (by omega)]),rfl⟩
   ·go_enter Tryz.func134,Tryz.ntmps134
    go_wp2
    go_ret
    exact⟨rb (by unfold Rm.gZ; rw[if_neg h0,if_neg h3,if_neg (by omega)]),rfl⟩
theorem u1 (k x n c:Int) (w:World) (uQ:0<=k) (B_:k<=3) (iQ:0<=n) (kp:n<=255) (du:0<=x) (dF:x<=4294967295) (qu:0<=c) :
  Calls Tryz.prog 101 #[.int .i64 k,.int .u32 x,.int .i64 n,.int .u32 c] w fun e w' =>
   e = .returned (.tuple #[.int .u32 ((Rm.qc k n.toNat x.toNat:Nat):Int),.int .u32 ((Rm.OU k n.toNat x.toNat (min c.toNat 1):Nat):Int)])/\w=w':=by
 have Wi:x.toNat < 4294967296:=by omega
 have hk:k=0\/k=1\/k=2\/k=3:=by omega
 have hY:=Rm.jh k n.toNat x.toNat Wi
 have FP:=Lib.hid (Rm.oP k hk x.toNat Wi n.toNat)
 have hcar:=Lib.hid (fun m c=>Rm.FM k hk x.toNat Wi m c)
 go_enter Tryz.func101,Tryz.ntmps101
 go_wp2
 go_loop [10,11] (fun a i=>∃ (j:Int) (y:Nat),-1<=j/\j<=31/\y<=4294967295/\Hid (y=Rm.qc k n.toNat x.toNat / 2 ^ (j+1).toNat)/\i = .int .i64 j/\a = .int .u32 (y:Int)) (fun _ i=>(intOf i+1).toNat)
 case atStart=>exact⟨31,0,by omega,by omega,by omega,Lib.hid (by show 0=_ / 4294967296; omega),rfl,rfl⟩
 case round =>
  obtain⟨j,y,hj0,V_,hy,hyy,rfl,rfl⟩:=hrel
  by_cases cJ:0<=j
  ·have eI:=Rm.Ka x.toNat (Rm.gZ k j n)
   have hd:=Rm.B7 (Rm.qc k n.toNat x.toNat) j.toNat (by omega)
   have hb:=FP.out j cJ V_
   have e1:(j+1).toNat=j.toNat+1:=by omega
   have e2:((j.toNat:Nat):Int)=j:=by omega
   have e3:((n.toNat:Nat):Int)=n:=by omega
   have hl:Rm.qc k n.toNat x.toNat / 2 ^ j.toNat<=4294967295:=Nat.le_trans (Nat.div_le_self _ _) (by omega)
   rw[e2,hb,e3] at hd
   have h4:=hyy.out
   rw[e1] at h4
   rw[← h4] at hd
   obtain⟨z,hz⟩:∃ z,z=Rm.qc k n.toNat x.toNat / 2 ^ j.toNat:=⟨_,rfl⟩
   rw[← hz] at hd hl
   have HZ:=Lib.hid hz
   have HD:=Lib.hid hd
   have hd1:y*2+Rm.cZ x.toNat (Rm.gZ k j n)<=4294967295:=by omega
   clear hd hb h4 e1 e2 e3 hz hyy
   go_wp2_with (first|(go_at_call 134; refine (re k j n _ cJ V_ iQ kp).mono ?_; rintro e w' ⟨rfl,rfl⟩)|(go_at_call 133; refine (mE x _ _ du dF).mono ?_; rintro e w' ⟨rfl,rfl⟩))
   go_round
   case rel =>
    refine⟨j - 1,z,by omega,by omega,hl,Lib.hid ?_,rfl,?_⟩
    ·have e4:(j - 1+1).toNat=j.toNat:=by omega
     rw[e4]; exact HZ.out
    ·congr 1
     have h:=HD.out
     omega
   case measure=>simp[intOf]; omega
  ·have e:j = -1:=by omega
   subst e
   have hyv:y=Rm.qc k n.toNat x.toNat:=by have h:=hyy.out; simpa using h
   have HY:=Lib.hid hyv
   clear hyv hyy
   by_cases hz:n=0
   ·subst hz
    by_cases hc:c=0
    ·subst hc
     go_wp2
     go_ret2
     exact⟨eQ (congrArg (fun z:Nat=>(z:Int)) HY.out) rfl,rfl⟩
    ·have bc:(c != 0)=true:=by simpa using hc
     go_wp2
     go_ret2
     exact⟨eQ (congrArg (fun z:Nat=>(z:Int)) HY.out) (by show (1:Int)=((min c.toNat 1:Nat):Int); omega),rfl⟩
   ·have bz:(n == 0)=false:=by simpa using hz
    obtain⟨m,hm⟩:∃ m:Nat,n.toNat=m+1:=⟨n.toNat - 1,by omega⟩
    have lQ:n=(m:Int)+1:=by omega
    have Kj:=hcar.out m (min c.toNat 1)
    rw[← hm] at Kj
    by_cases h0:k=0
    ·rw[if_pos h0] at Kj
     have e5:(32:Int) - ((n.toNat:Nat):Int)=32 - n:=by omega
     rw[e5] at Kj
     have HC:=Lib.hid Kj
     clear Kj hm lQ e5
     subst h0
     go_wp2_with (go_at_call 133; refine (mE x _ _ du dF).mono ?_; rintro e w' ⟨rfl,rfl⟩)
     go_ret2
     exact⟨eQ (congrArg (fun z:Nat=>(z:Int)) HY.out) (by rw[HC.out]),rfl⟩
    ·have b0:(k == 0)=false:=by simpa using h0
     rw[if_neg h0] at Kj
     have e5:((m:Nat):Int)=n - 1:=by omega
     rw[e5] at Kj
     have HC:=Lib.hid Kj
     clear Kj hm lQ e5
     go_wp2_with (first|(go_at_call 134; refine (re k _ _ _ (by omega) (by omega) (by omega) (by omega)).mono ?_; rintro e w' ⟨rfl,rfl⟩)|(go_at_call 133; refine (mE x _ _ du dF).mono ?_; rintro e w' ⟨rfl,rfl⟩))
     go_ret2
     exact⟨eQ (congrArg (fun z:Nat=>(z:Int)) HY.out) (by rw[HC.out]),rfl⟩
end Go.Proofs.YtlgkljpgagfndaaGreatDoor

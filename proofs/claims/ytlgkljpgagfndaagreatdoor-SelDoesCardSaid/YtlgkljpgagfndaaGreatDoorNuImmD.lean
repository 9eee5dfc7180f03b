/- What this claim is proved with: no condition. -/
import Derived.Test.YtlgkljpgagfndaaGreatDoorNuImmB
import Derived.Test.YtlgkljpgagfndaaGreatDoorNuImmC
set_option linter.unusedVariables false
set_option linter.unusedSimpArgs false
namespace Go.Proofs.YtlgkljpgagfndaaGreatDoor
open Go.RowKit
namespace Rm
theorem LD (x:Int) (v:Int) (dA:0<=x) (dM:x<=4294967295) (h:qt x=some v):nz x=v/\k_ x=0:=by
 have hr:=BQ x dA dM
 rw[h] at hr
 cases he:rep x.toNat with
 | none=>rw[he] at hr; cases hr
 | some n =>
  rw[he] at hr
  have hd:dec x.toNat=some n:=by unfold dec; rw[he]
  unfold nz k_
  rw[hd]
  exact⟨by simpa using hr,rfl⟩
theorem yd (x:Int) (dA:0<=x) (dM:x<=4294967295) (h:qt x=none):dec x.toNat=mj x.toNat:=by
 have hr:=BQ x dA dM
 rw[h] at hr
 cases he:rep x.toNat with
 | none=>unfold dec; rw[he]
 | some n=>rw[he] at hr; cases hr
theorem v9 (x:Int) (s:Nat) (dA:0<=x) (dM:x<=4294967295) (h:qt x=none) (hs:40 - Lib.bitLen x.toNat=s) (hc:255 < rotl x.toNat s\/32<=s):nz x=0/\k_ x=20:=by
 have hd:dec x.toNat=none:=by rw[yd x dA dM h]; unfold mj; rw[hs,if_pos hc]
 unfold nz k_
 rw[hd]
 exact⟨rfl,rfl⟩
theorem v_ (x:Int) (s:Nat) (dA:0<=x) (dM:x<=4294967295) (h:qt x=none) (hs:40 - Lib.bitLen x.toNat=s) (hc:¬ (255 < rotl x.toNat s\/32<=s)):nz x=(s:Int)*128+(rotl x.toNat s:Int) % 128/\k_ x=0:=by
 have hd:dec x.toNat=some (s*128+rotl x.toNat s % 128):=by rw[yd x dA dM h]; unfold mj; rw[hs,if_neg hc]
 unfold nz k_
 rw[hd]
 exact⟨by simp,rfl⟩
end Rm
theorem Qx (x:Int) (w:World) (hF:vX w) (dA:0<=x) (dM:x<=4294967295) :
  Calls Tryz.prog 66 #[.int .u32 x] w fun e w'=>e = .returned (.tuple #[.int .i64 (Rm.nz x),.int .i64 (Rm.k_ x)])/\w=w':=by
 cases hr:Rm.qt x with
 | some v =>
  obtain⟨h1,h2⟩:=Rm.LD x v dA dM hr
  have hf:vY x=v:=by unfold vY; rw[hr]; rfl
  have hs:(Rm.qt x).isSome=true:=by rw[hr]; rfl
  have H1:=Lib.hid h1
  have H2:=Lib.hid h2
  clear h1 h2 hr
  go_enter Tryz.func66,Tryz.ntmps66
  go_wp2_with (go_at_call 97; refine (iH x _ hF dA dM).mono ?_; rintro e w' ⟨rfl,rfl⟩)
  go_ret2
  exact⟨fe H1.out.symm H2.out.symm,rfl⟩
 | none =>
  have hs:(Rm.qt x).isSome=false:=by rw[hr]; rfl
  have hL:=Rm.ij x.toNat (by omega)
  obtain⟨s,hk⟩:∃ s:Nat,40 - Lib.bitLen x.toNat=s:=⟨_,rfl⟩
  have e1:(32 - (Lib.bitLen x.toNat:Int))+8=(s:Int):=by omega
  have hs8:8<=s/\s<=40:=by omega
  have hy:=Rm.BP x.toNat s (by omega)
  by_cases hc:255 < Rm.rotl x.toNat s\/32<=s
  ·obtain⟨h1,h2⟩:=Rm.v9 x s dA dM hr hk hc
   have H1:=Lib.hid h1
   have H2:=Lib.hid h2
   have HC:=Lib.hid hc
   clear h1 h2 hr hk hc
   by_cases hb:255 < Rm.rotl x.toNat s
   ·go_enter Tryz.func66,Tryz.ntmps66
    go_wp2_with (first|(go_at_call 97; refine (iH x _ hF dA dM).mono ?_; rintro e w' ⟨rfl,rfl⟩)|(go_at_call 98; refine (oz x _ dA dM).mono ?_; rintro e w' ⟨rfl,rfl⟩)|(go_at_call 99; refine (se x _ _ dA dM (by omega) (by omega)).mono ?_; rintro e w' ⟨rfl,rfl⟩))
    go_ret2
    exact⟨fe H1.out.symm H2.out.symm,rfl⟩
   ·have eu:32<=s:=by rcases HC.out with h|h<;>omega
    go_enter Tryz.func66,Tryz.ntmps66
    go_wp2_with (first|(go_at_call 97; refine (iH x _ hF dA dM).mono ?_; rintro e w' ⟨rfl,rfl⟩)|(go_at_call 98; refine (oz x _ dA dM).mono ?_; rintro e w' ⟨rfl,rfl⟩)|(go_at_call 99; refine (se x _ _ dA dM (by omega) (by omega)).mono ?_; rintro e w' ⟨rfl,rfl⟩))
    go_ret2
    exact⟨fe H1.out.symm H2.out.symm,rfl⟩
  ·obtain⟨h1,h2⟩:=Rm.v_ x s dA dM hr hk hc
   have H1:=Lib.hid h1
   have H2:=Lib.hid h2
   have hb:¬ 255 < Rm.rotl x.toNat s:=by omega
   have eu:¬ 32<=s:=by omega
   have m1:=Rm.Df (Rm.rotl x.toNat s:Int) (by omega) (by omega)
   have m2:bits .or .i64 ((s:Int)*128) ((Rm.rotl x.toNat s:Int) % 128)=(s:Int)*128+(Rm.rotl x.toNat s:Int) % 128:=Rm.cO _ _ 7 (by omega) (by omega) (by omega) (by omega) (by omega) (by omega)
   clear h1 h2 hr hk hc
   go_enter Tryz.func66,Tryz.ntmps66
   go_wp2_with (first|(go_at_call 97; refine (iH x _ hF dA dM).mono ?_; rintro e w' ⟨rfl,rfl⟩)|(go_at_call 98; refine (oz x _ dA dM).mono ?_; rintro e w' ⟨rfl,rfl⟩)|(go_at_call 99; refine (se x _ _ dA dM (by omega) (by omega)).mono ?_; rintro e w' ⟨rfl,rfl⟩))
   go_ret2
   exact⟨fe H1.out.symm H2.out.symm,rfl⟩
end Go.Proofs.YtlgkljpgagfndaaGreatDoor

/- What this claim is proved with: no condition. -/
import Derived.Test.YtlgkljpgagfndaaGreatDoorNsImmB
import Derived.Test.YtlgkljpgagfndaaGreatDoorNsImmC
set_option linter.unusedVariables false
set_option linter.unusedSimpArgs false
namespace Go.Proofs.YtlgkljpgagfndaaGreatDoor
open Go.RowKit
namespace Rm
theorem Gq (x:Int) (v:Int) (dG:0<=x) (dF:x<=4294967295) (h:nH x=some v):nI x=v/\kx x=0:=by
 have hr:=xP x dG dF
 rw[h] at hr
 cases he:rep x.toNat with
 | none=>rw[he] at hr; cases hr
 | some n =>
  rw[he] at hr
  have hd:dec x.toNat=some n:=by unfold dec; rw[he]
  unfold nI kx
  rw[hd]
  exact⟨by simpa using hr,rfl⟩
theorem tW (x:Int) (dG:0<=x) (dF:x<=4294967295) (h:nH x=none):dec x.toNat=j_ x.toNat:=by
 have hr:=xP x dG dF
 rw[h] at hr
 cases he:rep x.toNat with
 | none=>unfold dec; rw[he]
 | some n=>rw[he] at hr; cases hr
theorem sa (x:Int) (s:Nat) (dG:0<=x) (dF:x<=4294967295) (h:nH x=none) (hs:40 - Lib.bitLen x.toNat=s) (hc:255 < rotl x.toNat s\/32<=s):nI x=0/\kx x=20:=by
 have hd:dec x.toNat=none:=by rw[tW x dG dF h]; unfold j_; rw[hs,if_pos hc]
 unfold nI kx
 rw[hd]
 exact⟨rfl,rfl⟩
theorem sc (x:Int) (s:Nat) (dG:0<=x) (dF:x<=4294967295) (h:nH x=none) (hs:40 - Lib.bitLen x.toNat=s) (hc:¬ (255 < rotl x.toNat s\/32<=s)):nI x=(s:Int)*128+(rotl x.toNat s:Int) % 128/\kx x=0:=by
 have hd:dec x.toNat=some (s*128+rotl x.toNat s % 128):=by rw[tW x dG dF h]; unfold j_; rw[hs,if_neg hc]
 unfold nI kx
 rw[hd]
 exact⟨by simp,rfl⟩
end Rm
theorem KY (x:Int) (w:World) (hF:rX w) (dG:0<=x) (dF:x<=4294967295) :
  Calls Tryz.prog 66 #[.int .u32 x] w fun e w'=>e = .returned (.tuple #[.int .i64 (Rm.nI x),.int .i64 (Rm.kx x)])/\w=w':=by
 cases hr:Rm.nH x with
 | some v =>
  obtain⟨h1,h2⟩:=Rm.Gq x v dG dF hr
  have hf:rY x=v:=by unfold rY; rw[hr]; rfl
  have hs:(Rm.nH x).isSome=true:=by rw[hr]; rfl
  have H1:=Lib.hid h1
  have H2:=Lib.hid h2
  clear h1 h2 hr
  go_enter Tryz.func66,Tryz.ntmps66
  go_wp2_with (go_at_call 97; refine (gh x _ hF dG dF).mono ?_; rintro e w' ⟨rfl,rfl⟩)
  go_ret2
  exact⟨eO H1.out.symm H2.out.symm,rfl⟩
 | none =>
  have hs:(Rm.nH x).isSome=false:=by rw[hr]; rfl
  have hL:=Rm.fO x.toNat (by omega)
  obtain⟨s,hk⟩:∃ s:Nat,40 - Lib.bitLen x.toNat=s:=⟨_,rfl⟩
  have e1:(32 - (Lib.bitLen x.toNat:Int))+8=(s:Int):=by omega
  have hs8:8<=s/\s<=40:=by omega
  have hy:=Rm.xO x.toNat s (by omega)
  by_cases hc:255 < Rm.rotl x.toNat s\/32<=s
  ·obtain⟨h1,h2⟩:=Rm.sa x s dG dF hr hk hc
   have H1:=Lib.hid h1
   have H2:=Lib.hid h2
   have HC:=Lib.hid hc
   clear h1 h2 hr hk hc
   by_cases hb:255 < Rm.rotl x.toNat s
   ·go_enter Tryz.func66,Tryz.ntmps66
    go_wp2_with (first|(go_at_call 97; refine (gh x _ hF dG dF).mono ?_; rintro e w' ⟨rfl,rfl⟩)|(go_at_call 98; refine (lZ x _ dG dF).mono ?_; rintro e w' ⟨rfl,rfl⟩)|(go_at_call 99; refine (o1 x _ _ dG dF (by omega) (by omega)).mono ?_; rintro e w' ⟨rfl,rfl⟩))
    go_ret2
    exact⟨eO H1.out.symm H2.out.symm,rfl⟩
   ·have dD:32<=s:=by rcases HC.out with h|h<;>omega
    go_enter Tryz.func66,Tryz.ntmps66
    go_wp2_with (first|(go_at_call 97; refine (gh x _ hF dG dF).mono ?_; rintro e w' ⟨rfl,rfl⟩)|(go_at_call 98; refine (lZ x _ dG dF).mono ?_; rintro e w' ⟨rfl,rfl⟩)|(go_at_call 99; refine (o1 x _ _ dG dF (by omega) (by omega)).mono ?_; rintro e w' ⟨rfl,rfl⟩))
    go_ret2
    exact⟨eO H1.out.symm H2.out.symm,rfl⟩
  ·obtain⟨h1,h2⟩:=Rm.sc x s dG dF hr hk hc
   have H1:=Lib.hid h1
   have H2:=Lib.hid h2
   have hb:¬ 255 < Rm.rotl x.toNat s:=by omega
   have dD:¬ 32<=s:=by omega
   have m1:=Rm.y_ (Rm.rotl x.toNat s:Int) (by omega) (by omega)
   have m2:bits .or .i64 ((s:Int)*128) ((Rm.rotl x.toNat s:Int) % 128)=(s:Int)*128+(Rm.rotl x.toNat s:Int) % 128:=Rm.cr _ _ 7 (by omega) (by omega) (by omega) (by omega) (by omega) (by omega)
   clear h1 h2 hr hk hc
   go_enter Tryz.func66,Tryz.ntmps66
   go_wp2_with (first|(go_at_call 97; refine (gh x _ hF dG dF).mono ?_; rintro e w' ⟨rfl,rfl⟩)|(go_at_call 98; refine (lZ x _ dG dF).mono ?_; rintro e w' ⟨rfl,rfl⟩)|(go_at_call 99; refine (o1 x _ _ dG dF (by omega) (by omega)).mono ?_; rintro e w' ⟨rfl,rfl⟩))
   go_ret2
   exact⟨eO H1.out.symm H2.out.symm,rfl⟩
end Go.Proofs.YtlgkljpgagfndaaGreatDoor

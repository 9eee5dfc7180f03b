/- What this claim is proved with: no condition. -/
import Derived.Test.YtlgkljpgagfndaaGreatDoorNvImmB
import Derived.Test.YtlgkljpgagfndaaGreatDoorNvImmC
set_option linter.unusedVariables false
set_option linter.unusedSimpArgs false
namespace Go.Proofs.YtlgkljpgagfndaaGreatDoor
open Go.RowKit
namespace Rm
theorem Ko (x:Int) (v:Int) (du:0<=x) (dF:x<=4294967295) (h:pT x=some v):ot x=v/\kv x=0:=by
 have hr:=AL x du dF
 rw[h] at hr
 cases he:rep x.toNat with
 | none=>rw[he] at hr; cases hr
 | some n =>
  rw[he] at hr
  have hd:dec x.toNat=some n:=by unfold dec; rw[he]
  unfold ot kv
  rw[hd]
  exact⟨by simpa using hr,rfl⟩
theorem wY (x:Int) (du:0<=x) (dF:x<=4294967295) (h:pT x=none):dec x.toNat=lH x.toNat:=by
 have hr:=AL x du dF
 rw[h] at hr
 cases he:rep x.toNat with
 | none=>unfold dec; rw[he]
 | some n=>rw[he] at hr; cases hr
theorem u_ (x:Int) (s:Nat) (du:0<=x) (dF:x<=4294967295) (h:pT x=none) (hs:40 - Lib.bitLen x.toNat=s) (hc:255 < rotl x.toNat s\/32<=s):ot x=0/\kv x=20:=by
 have hd:dec x.toNat=none:=by rw[wY x du dF h]; unfold lH; rw[hs,if_pos hc]
 unfold ot kv
 rw[hd]
 exact⟨rfl,rfl⟩
theorem va (x:Int) (s:Nat) (du:0<=x) (dF:x<=4294967295) (h:pT x=none) (hs:40 - Lib.bitLen x.toNat=s) (hc:¬ (255 < rotl x.toNat s\/32<=s)):ot x=(s:Int)*128+(rotl x.toNat s:Int) % 128/\kv x=0:=by
 have hd:dec x.toNat=some (s*128+rotl x.toNat s % 128):=by rw[wY x du dF h]; unfold lH; rw[hs,if_neg hc]
 unfold ot kv
 rw[hd]
 exact⟨by simp,rfl⟩
end Rm
theorem OZ (x:Int) (w:World) (hF:u3 w) (du:0<=x) (dF:x<=4294967295) :
  Calls Tryz.prog 66 #[.int .u32 x] w fun e w'=>e = .returned (.tuple #[.int .i64 (Rm.ot x),.int .i64 (Rm.kv x)])/\w=w':=by
 cases hr:Rm.pT x with
 | some v =>
  obtain⟨h1,h2⟩:=Rm.Ko x v du dF hr
  have hf:u4 x=v:=by unfold u4; rw[hr]; rfl
  have hs:(Rm.pT x).isSome=true:=by rw[hr]; rfl
  have H1:=Lib.hid h1
  have H2:=Lib.hid h2
  clear h1 h2 hr
  go_enter Tryz.func66,Tryz.ntmps66
  go_wp2_with (go_at_call 97; refine (ib x _ hF du dF).mono ?_; rintro e w' ⟨rfl,rfl⟩)
  go_ret2
  exact⟨eQ H1.out.symm H2.out.symm,rfl⟩
 | none =>
  have hs:(Rm.pT x).isSome=false:=by rw[hr]; rfl
  have hL:=Rm.gN x.toNat (by omega)
  obtain⟨s,hk⟩:∃ s:Nat,40 - Lib.bitLen x.toNat=s:=⟨_,rfl⟩
  have e1:(32 - (Lib.bitLen x.toNat:Int))+8=(s:Int):=by omega
  have hs8:8<=s/\s<=40:=by omega
  have hy:=Rm.AK x.toNat s (by omega)
  by_cases hc:255 < Rm.rotl x.toNat s\/32<=s
  ·obtain⟨h1,h2⟩:=Rm.u_ x s du dF hr hk hc
   have H1:=Lib.hid h1
   have H2:=Lib.hid h2
   have HC:=Lib.hid hc
   clear h1 h2 hr hk hc
   by_cases hb:255 < Rm.rotl x.toNat s
   ·go_enter Tryz.func66,Tryz.ntmps66
    go_wp2_with (first|(go_at_call 97; refine (ib x _ hF du dF).mono ?_; rintro e w' ⟨rfl,rfl⟩)|(go_at_call 98; refine (nI x _ du dF).mono ?_; rintro e w' ⟨rfl,rfl⟩)|(go_at_call 99; refine (rf x _ _ du dF (by omega) (by omega)).mono ?_; rintro e w' ⟨rfl,rfl⟩))
    go_ret2
    exact⟨eQ H1.out.symm H2.out.symm,rfl⟩
   ·have eI:32<=s:=by rcases HC.out with h|h<;>omega
    go_enter Tryz.func66,Tryz.ntmps66
    go_wp2_with (first|(go_at_call 97; refine (ib x _ hF du dF).mono ?_; rintro e w' ⟨rfl,rfl⟩)|(go_at_call 98; refine (nI x _ du dF).mono ?_; rintro e w' ⟨rfl,rfl⟩)|(go_at_call 99; refine (rf x _ _ du dF (by omega) (by omega)).mono ?_; rintro e w' ⟨rfl,rfl⟩))
    go_ret2
    exact⟨eQ H1.out.symm H2.out.symm,rfl⟩
  ·obtain⟨h1,h2⟩:=Rm.va x s du dF hr hk hc
   have H1:=Lib.hid h1
   have H2:=Lib.hid h2
   have hb:¬ 255 < Rm.rotl x.toNat s:=by omega
   have eI:¬ 32<=s:=by omega
   have m1:=Rm.Ce (Rm.rotl x.toNat s:Int) (by omega) (by omega)
   have m2:bits .or .i64 ((s:Int)*128) ((Rm.rotl x.toNat s:Int) % 128)=(s:Int)*128+(Rm.rotl x.toNat s:Int) % 128:=Rm.cN _ _ 7 (by omega) (by omega) (by omega) (by omega) (by omega) (by omega)
   clear h1 h2 hr hk hc
   go_enter Tryz.func66,Tryz.ntmps66
   go_wp2_with (first|(go_at_call 97; refine (ib x _ hF du dF).mono ?_; rintro e w' ⟨rfl,rfl⟩)|(go_at_call 98; refine (nI x _ du dF).mono ?_; rintro e w' ⟨rfl,rfl⟩)|(go_at_call 99; refine (rf x _ _ du dF (by omega) (by omega)).mono ?_; rintro e w' ⟨rfl,rfl⟩))
   go_ret2
   exact⟨eQ H1.out.symm H2.out.symm,rfl⟩
end Go.Proofs.YtlgkljpgagfndaaGreatDoor

/- What this claim is proved with: no condition. -/
import Derived.Test.YtlgkljpgagfndaaGreatDoorNvImmA
set_option linter.unusedVariables false
set_option linter.unusedSimpArgs false
namespace Go.Proofs.YtlgkljpgagfndaaGreatDoor
open Go.RowKit
def u4 (x:Int):Int:=(Rm.pT x).getD 0
theorem jb (b k:Int) (h0:0<=b) (h1:b<=255) (hk:k=0\/k=256\/k=512\/k=768):bits .or .i64 k b=k+b :=
 Rm.cN k b 8 (by omega) (by omega) h0 (by omega) (by rcases hk with rfl|rfl|rfl|rfl<;>decide) (by omega)
theorem u5:∀ w,(Instr.index 98 (.agg #[.int .u32 1,.int .u32 65537,.int .u32 16777472,.int .u32 16843009]) (.int .i64 0)).run Tryz.prog w = .ok (.int .u32 1) w:=fun _=>by kernel_rfl
theorem u6:∀ w,(Instr.index 98 (.agg #[.int .u32 1,.int .u32 65537,.int .u32 16777472,.int .u32 16843009]) (.int .i64 1)).run Tryz.prog w = .ok (.int .u32 65537) w:=fun _=>by kernel_rfl
theorem u7:∀ w,(Instr.index 98 (.agg #[.int .u32 1,.int .u32 65537,.int .u32 16777472,.int .u32 16843009]) (.int .i64 2)).run Tryz.prog w = .ok (.int .u32 16777472) w:=fun _=>by kernel_rfl
theorem u9:∀ w,(Instr.index 98 (.agg #[.int .u32 1,.int .u32 65537,.int .u32 16777472,.int .u32 16843009]) (.int .i64 3)).run Tryz.prog w = .ok (.int .u32 16843009) w:=fun _=>by kernel_rfl
theorem nK (p q:Value):∀ w,(Instr.index 190 (.agg #[p,q]) (.int .i64 0)).run Tryz.prog w = .ok p w:=fun _=>by kernel_rfl
theorem nL (p q:Value):∀ w,(Instr.index 190 (.agg #[p,q]) (.int .i64 1)).run Tryz.prog w = .ok q w:=fun _=>by kernel_rfl
set_option maxHeartbeats 4000000 in
theorem y9 (x:Int) (w:World) (hF:u3 w) (du:0<=x) (dF:x<=4294967295)
  (h0:x % 256=x) :
  Calls Tryz.prog 97 #[.int .u32 x] w fun e w'=>e = .returned (.tuple #[.int .i64 (x % 256),.bool true])/\w=w':=by
 have b0:(x % 256 == x)=true:=by rw[beq_iff_eq]; exact h0
 have ho:bits .or .i64 0 (x % 256)=x % 256:=by have h:=jb (x % 256) 0 (by omega) (by omega) (by omega); omega
 clear h0
 have m1:bits .and .u32 x 255=x % 256:=Rm.cj x du dF
 have m2:bits .and .u32 (x / 256) 255=x / 256 % 256:=Rm.cj _ (by omega) (by omega)
 have i0:=u5
 have i1:=u6
 have i2:=u7
 have i3:=u9
 have j0:=nK (.int .u32 (x % 256)) (.int .u32 (x / 256 % 256))
 have j1:=nL (.int .u32 (x % 256)) (.int .u32 (x / 256 % 256))
 obtain⟨t,fr,hg⟩:=hF
 have HG:=Lib.hid hg
 clear hg
 go_enter Tryz.func97,Tryz.ntmps97
 go_wp2_with (refine wpList_load_row rfl 98 _ rfl 1 rfl t _ fr _ HG.out Tryz.underlying98 rfl (by kernel_rfl) ?_)
 refine wp_loop_rounds 5 ?_
 rw[rounds_succ]; go_wp2; refine wp_loop_rounds 3 ?_
 iterate 1 (rw[rounds_succ]; go_wp2)
 go_ret2
 exact⟨rfl,rfl⟩
set_option maxHeartbeats 4000000 in
theorem y_ (x:Int) (w:World) (hF:u3 w) (du:0<=x) (dF:x<=4294967295)
  (h0:¬ x % 256=x) (h1:x / 256 % 256=x) :
  Calls Tryz.prog 97 #[.int .u32 x] w fun e w'=>e = .returned (.tuple #[.int .i64 (x / 256 % 256),.bool true])/\w=w':=by
 have b0:(x % 256 == x)=false:=by rw[beq_eq_false_iff_ne]; exact h0
 have b1:(x / 256 % 256 == x)=true:=by rw[beq_iff_eq]; exact h1
 have ho:bits .or .i64 0 (x / 256 % 256)=x / 256 % 256:=by have h:=jb (x / 256 % 256) 0 (by omega) (by omega) (by omega); omega
 clear h0 h1
 have m1:bits .and .u32 x 255=x % 256:=Rm.cj x du dF
 have m2:bits .and .u32 (x / 256) 255=x / 256 % 256:=Rm.cj _ (by omega) (by omega)
 have i0:=u5
 have i1:=u6
 have i2:=u7
 have i3:=u9
 have j0:=nK (.int .u32 (x % 256)) (.int .u32 (x / 256 % 256))
 have j1:=nL (.int .u32 (x % 256)) (.int .u32 (x / 256 % 256))
 obtain⟨t,fr,hg⟩:=hF
 have HG:=Lib.hid hg
 clear hg
 go_enter Tryz.func97,Tryz.ntmps97
 go_wp2_with (refine wpList_load_row rfl 98 _ rfl 1 rfl t _ fr _ HG.out Tryz.underlying98 rfl (by kernel_rfl) ?_)
 refine wp_loop_rounds 5 ?_
 rw[rounds_succ]; go_wp2; refine wp_loop_rounds 3 ?_
 iterate 2 (rw[rounds_succ]; go_wp2)
 go_ret2
 exact⟨rfl,rfl⟩
set_option maxHeartbeats 4000000 in
theorem za (x:Int) (w:World) (hF:u3 w) (du:0<=x) (dF:x<=4294967295)
  (h0:¬ x % 256=x) (h1:¬ x / 256 % 256=x) (h2:x % 256*65537=x) :
  Calls Tryz.prog 97 #[.int .u32 x] w fun e w'=>e = .returned (.tuple #[.int .i64 (256+x % 256),.bool true])/\w=w':=by
 have b0:(x % 256 == x)=false:=by rw[beq_eq_false_iff_ne]; exact h0
 have b1:(x / 256 % 256 == x)=false:=by rw[beq_eq_false_iff_ne]; exact h1
 have b2:(x % 256*65537 == x)=true:=by rw[beq_iff_eq]; exact h2
 have bz:(x % 256 != 0)=true:=by rw[bne_iff_ne]; omega
 have ho:bits .or .i64 256 (x % 256)=256+x % 256:=jb _ _ (by omega) (by omega) (by omega)
 clear h0 h1 h2
 have m1:bits .and .u32 x 255=x % 256:=Rm.cj x du dF
 have m2:bits .and .u32 (x / 256) 255=x / 256 % 256:=Rm.cj _ (by omega) (by omega)
 have i0:=u5
 have i1:=u6
 have i2:=u7
 have i3:=u9
 have j0:=nK (.int .u32 (x % 256)) (.int .u32 (x / 256 % 256))
 have j1:=nL (.int .u32 (x % 256)) (.int .u32 (x / 256 % 256))
 obtain⟨t,fr,hg⟩:=hF
 have HG:=Lib.hid hg
 clear hg
 go_enter Tryz.func97,Tryz.ntmps97
 go_wp2_with (refine wpList_load_row rfl 98 _ rfl 1 rfl t _ fr _ HG.out Tryz.underlying98 rfl (by kernel_rfl) ?_)
 refine wp_loop_rounds 5 ?_
 rw[rounds_succ]; go_wp2; refine wp_loop_rounds 3 ?_
 iterate 3 (rw[rounds_succ]; go_wp2)
 rw[rounds_succ]; go_wp2; refine wp_loop_rounds 3 ?_
 iterate 1 (rw[rounds_succ]; go_wp2)
 go_ret2
 exact⟨rfl,rfl⟩
set_option maxHeartbeats 4000000 in
theorem zb (x:Int) (w:World) (hF:u3 w) (du:0<=x) (dF:x<=4294967295)
  (h0:¬ x % 256=x) (h1:¬ x / 256 % 256=x) (h2:¬ x % 256*65537=x) (h3:x / 256 % 256*65537=x) :
  Calls Tryz.prog 97 #[.int .u32 x] w fun e w'=>e = .returned (.tuple #[.int .i64 (256+x / 256 % 256),.bool true])/\w=w':=by
 have b0:(x % 256 == x)=false:=by rw[beq_eq_false_iff_ne]; exact h0
 have b1:(x / 256 % 256 == x)=false:=by rw[beq_eq_false_iff_ne]; exact h1
 have b2:(x % 256*65537 == x)=false:=by rw[beq_eq_false_iff_ne]; exact h2
 have b3:(x / 256 % 256*65537 == x)=true:=by rw[beq_iff_eq]; exact h3
 have bz:(x / 256 % 256 != 0)=true:=by rw[bne_iff_ne]; omega
 have ho:bits .or .i64 256 (x / 256 % 256)=256+x / 256 % 256:=jb _ _ (by omega) (by omega) (by omega)
 clear h0 h1 h2 h3
 have m1:bits .and .u32 x 255=x % 256:=Rm.cj x du dF
 have m2:bits .and .u32 (x / 256) 255=x / 256 % 256:=Rm.cj _ (by omega) (by omega)
 have i0:=u5
 have i1:=u6
 have i2:=u7
 have i3:=u9
 have j0:=nK (.int .u32 (x % 256)) (.int .u32 (x / 256 % 256))
 have j1:=nL (.int .u32 (x % 256)) (.int .u32 (x / 256 % 256))
 obtain⟨t,fr,hg⟩:=hF
 have HG:=Lib.hid hg
 clear hg
 go_enter Tryz.func97,Tryz.ntmps97
 go_wp2_with (refine wpList_load_row rfl 98 _ rfl 1 rfl t _ fr _ HG.out Tryz.underlying98 rfl (by kernel_rfl) ?_)
 refine wp_loop_rounds 5 ?_
 rw[rounds_succ]; go_wp2; refine wp_loop_rounds 3 ?_
 iterate 3 (rw[rounds_succ]; go_wp2)
 rw[rounds_succ]; go_wp2; refine wp_loop_rounds 3 ?_
 iterate 2 (rw[rounds_succ]; go_wp2)
 go_ret2
 exact⟨rfl,rfl⟩
set_option maxHeartbeats 4000000 in
theorem zc (x:Int) (w:World) (hF:u3 w) (du:0<=x) (dF:x<=4294967295)
  (h0:¬ x % 256=x) (h1:¬ x / 256 % 256=x) (h2:¬ x % 256*65537=x) (h3:¬ x / 256 % 256*65537=x) (h4:x % 256*16777472=x) :
  Calls Tryz.prog 97 #[.int .u32 x] w fun e w'=>e = .returned (.tuple #[.int .i64 (512+x % 256),.bool true])/\w=w':=by
 have b0:(x % 256 == x)=false:=by rw[beq_eq_false_iff_ne]; exact h0
 have b1:(x / 256 % 256 == x)=false:=by rw[beq_eq_false_iff_ne]; exact h1
 have b2:(x % 256*65537 == x)=false:=by rw[beq_eq_false_iff_ne]; exact h2
 have b3:(x / 256 % 256*65537 == x)=false:=by rw[beq_eq_false_iff_ne]; exact h3
 have b4:(x % 256*16777472 == x)=true:=by rw[beq_iff_eq]; exact h4
 have bz:(x % 256 != 0)=true:=by rw[bne_iff_ne]; omega
 have ho:bits .or .i64 512 (x % 256)=512+x % 256:=jb _ _ (by omega) (by omega) (by omega)
 clear h0 h1 h2 h3 h4
 have m1:bits .and .u32 x 255=x % 256:=Rm.cj x du dF
 have m2:bits .and .u32 (x / 256) 255=x / 256 % 256:=Rm.cj _ (by omega) (by omega)
 have i0:=u5
 have i1:=u6
 have i2:=u7
 have i3:=u9
 have j0:=nK (.int .u32 (x % 256)) (.int .u32 (x / 256 % 256))
 have j1:=nL (.int .u32 (x % 256)) (.int .u32 (x / 256 % 256))
 obtain⟨t,fr,hg⟩:=hF
 have HG:=Lib.hid hg
 clear hg
 go_enter Tryz.func97,Tryz.ntmps97
 go_wp2_with (refine wpList_load_row rfl 98 _ rfl 1 rfl t _ fr _ HG.out Tryz.underlying98 rfl (by kernel_rfl) ?_)
 refine wp_loop_rounds 5 ?_
 rw[rounds_succ]; go_wp2; refine wp_loop_rounds 3 ?_
 iterate 3 (rw[rounds_succ]; go_wp2)
 rw[rounds_succ]; go_wp2; refine wp_loop_rounds 3 ?_
 iterate 3 (rw[rounds_succ]; go_wp2)
 rw[rounds_succ]; go_wp2; refine wp_loop_rounds 3 ?_
 iterate 1 (rw[rounds_succ]; go_wp2)
 go_ret2
 exact⟨rfl,rfl⟩
set_option maxHeartbeats 4000000 in
theorem zd (x:Int) (w:World) (hF:u3 w) (du:0<=x) (dF:x<=4294967295)
  (h0:¬ x % 256=x) (h1:¬ x / 256 % 256=x) (h2:¬ x % 256*65537=x) (h3:¬ x / 256 % 256*65537=x) (h4:¬ x % 256*16777472=x) (h5:x / 256 % 256*16777472=x) :
  Calls Tryz.prog 97 #[.int .u32 x] w fun e w'=>e = .returned (.tuple #[.int .i64 (512+x / 256 % 256),.bool true])/\w=w':=by
 have b0:(x % 256 == x)=false:=by rw[beq_eq_false_iff_ne]; exact h0
 have b1:(x / 256 % 256 == x)=false:=by rw[beq_eq_false_iff_ne]; exact h1
 have b2:(x % 256*65537 == x)=false:=by rw[beq_eq_false_iff_ne]; exact h2
 have b3:(x / 256 % 256*65537 == x)=false:=by rw[beq_eq_false_iff_ne]; exact h3
 have b4:(x % 256*16777472 == x)=false:=by rw[beq_eq_false_iff_ne]; exact h4
 have b5:(x / 256 % 256*16777472 == x)=true:=by rw[beq_iff_eq]; exact h5
 have bz:(x / 256 % 256 != 0)=true:=by rw[bne_iff_ne]; omega
 have ho:bits .or .i64 512 (x / 256 % 256)=512+x / 256 % 256:=jb _ _ (by omega) (by omega) (by omega)
 clear h0 h1 h2 h3 h4 h5
 have m1:bits .and .u32 x 255=x % 256:=Rm.cj x du dF
 have m2:bits .and .u32 (x / 256) 255=x / 256 % 256:=Rm.cj _ (by omega) (by omega)
 have i0:=u5
 have i1:=u6
 have i2:=u7
 have i3:=u9
 have j0:=nK (.int .u32 (x % 256)) (.int .u32 (x / 256 % 256))
 have j1:=nL (.int .u32 (x % 256)) (.int .u32 (x / 256 % 256))
 obtain⟨t,fr,hg⟩:=hF
 have HG:=Lib.hid hg
 clear hg
 go_enter Tryz.func97,Tryz.ntmps97
 go_wp2_with (refine wpList_load_row rfl 98 _ rfl 1 rfl t _ fr _ HG.out Tryz.underlying98 rfl (by kernel_rfl) ?_)
 refine wp_loop_rounds 5 ?_
 rw[rounds_succ]; go_wp2; refine wp_loop_rounds 3 ?_
 iterate 3 (rw[rounds_succ]; go_wp2)
 rw[rounds_succ]; go_wp2; refine wp_loop_rounds 3 ?_
 iterate 3 (rw[rounds_succ]; go_wp2)
 rw[rounds_succ]; go_wp2; refine wp_loop_rounds 3 ?_
 iterate 2 (rw[rounds_succ]; go_wp2)
 go_ret2
 exact⟨rfl,rfl⟩
set_option maxHeartbeats 4000000 in
theorem ze (x:Int) (w:World) (hF:u3 w) (du:0<=x) (dF:x<=4294967295)
  (h0:¬ x % 256=x) (h1:¬ x / 256 % 256=x) (h2:¬ x % 256*65537=x) (h3:¬ x / 256 % 256*65537=x) (h4:¬ x % 256*16777472=x) (h5:¬ x / 256 % 256*16777472=x) (h6:x % 256*16843009=x) :
  Calls Tryz.prog 97 #[.int .u32 x] w fun e w'=>e = .returned (.tuple #[.int .i64 (768+x % 256),.bool true])/\w=w':=by
 have b0:(x % 256 == x)=false:=by rw[beq_eq_false_iff_ne]; exact h0
 have b1:(x / 256 % 256 == x)=false:=by rw[beq_eq_false_iff_ne]; exact h1
 have b2:(x % 256*65537 == x)=false:=by rw[beq_eq_false_iff_ne]; exact h2
 have b3:(x / 256 % 256*65537 == x)=false:=by rw[beq_eq_false_iff_ne]; exact h3
 have b4:(x % 256*16777472 == x)=false:=by rw[beq_eq_false_iff_ne]; exact h4
 have b5:(x / 256 % 256*16777472 == x)=false:=by rw[beq_eq_false_iff_ne]; exact h5
 have b6:(x % 256*16843009 == x)=true:=by rw[beq_iff_eq]; exact h6
 have bz:(x % 256 != 0)=true:=by rw[bne_iff_ne]; omega
 have ho:bits .or .i64 768 (x % 256)=768+x % 256:=jb _ _ (by omega) (by omega) (by omega)
 clear h0 h1 h2 h3 h4 h5 h6
 have m1:bits .and .u32 x 255=x % 256:=Rm.cj x du dF
 have m2:bits .and .u32 (x / 256) 255=x / 256 % 256:=Rm.cj _ (by omega) (by omega)
 have i0:=u5
 have i1:=u6
 have i2:=u7
 have i3:=u9
 have j0:=nK (.int .u32 (x % 256)) (.int .u32 (x / 256 % 256))
 have j1:=nL (.int .u32 (x % 256)) (.int .u32 (x / 256 % 256))
 obtain⟨t,fr,hg⟩:=hF
 have HG:=Lib.hid hg
 clear hg
 go_enter Tryz.func97,Tryz.ntmps97
 go_wp2_with (refine wpList_load_row rfl 98 _ rfl 1 rfl t _ fr _ HG.out Tryz.underlying98 rfl (by kernel_rfl) ?_)
 refine wp_loop_rounds 5 ?_
 rw[rounds_succ]; go_wp2; refine wp_loop_rounds 3 ?_
 iterate 3 (rw[rounds_succ]; go_wp2)
 rw[rounds_succ]; go_wp2; refine wp_loop_rounds 3 ?_
 iterate 3 (rw[rounds_succ]; go_wp2)
 rw[rounds_succ]; go_wp2; refine wp_loop_rounds 3 ?_
 iterate 3 (rw[rounds_succ]; go_wp2)
 rw[rounds_succ]; go_wp2; refine wp_loop_rounds 3 ?_
 iterate 1 (rw[rounds_succ]; go_wp2)
 go_ret2
 exact⟨rfl,rfl⟩
set_option maxHeartbeats 4000000 in
theorem zf (x:Int) (w:World) (hF:u3 w) (du:0<=x) (dF:x<=4294967295)
  (h0:¬ x % 256=x) (h1:¬ x / 256 % 256=x) (h2:¬ x % 256*65537=x) (h3:¬ x / 256 % 256*65537=x) (h4:¬ x % 256*16777472=x) (h5:¬ x / 256 % 256*16777472=x) (h6:¬ x % 256*16843009=x) (h7:x / 256 % 256*16843009=x) :
  Calls Tryz.prog 97 #[.int .u32 x] w fun e w'=>e = .returned (.tuple #[.int .i64 (768+x / 256 % 256),.bool true])/\w=w':=by
 have b0:(x % 256 == x)=false:=by rw[beq_eq_false_iff_ne]; exact h0
 have b1:(x / 256 % 256 == x)=false:=by rw[beq_eq_false_iff_ne]; exact h1
 have b2:(x % 256*65537 == x)=false:=by rw[beq_eq_false_iff_ne]; exact h2
 have b3:(x / 256 % 256*65537 == x)=false:=by rw[beq_eq_false_iff_ne]; exact h3
 have b4:(x % 256*16777472 == x)=false:=by rw[beq_eq_false_iff_ne]; exact h4
 have b5:(x / 256 % 256*16777472 == x)=false:=by rw[beq_eq_false_iff_ne]; exact h5
 have b6:(x % 256*16843009 == x)=false:=by rw[beq_eq_false_iff_ne]; exact h6
 have b7:(x / 256 % 256*16843009 == x)=true:=by rw[beq_iff_eq]; exact h7
 have bz:(x / 256 % 256 != 0)=true:=by rw[bne_iff_ne]; omega
 have ho:bits .or .i64 768 (x / 256 % 256)=768+x / 256 % 256:=jb _ _ (by omega) (by omega) (by omega)
 clear h0 h1 h2 h3 h4 h5 h6 h7
 have m1:bits .and .u32 x 255=x % 256:=Rm.cj x du dF
 have m2:bits .and .u32 (x / 256) 255=x / 256 % 256:=Rm.cj _ (by omega) (by omega)
 have i0:=u5
 have i1:=u6
 have i2:=u7
 have i3:=u9
 have j0:=nK (.int .u32 (x % 256)) (.int .u32 (x / 256 % 256))
 have j1:=nL (.int .u32 (x % 256)) (.int .u32 (x / 256 % 256))
 obtain⟨t,fr,hg⟩:=hF
 have HG:=Lib.hid hg
 clear hg
 go_enter Tryz.func97,Tryz.ntmps97
 go_wp2_with (refine wpList_load_row rfl 98 _ rfl 1 rfl t _ fr _ HG.out Tryz.underlying98 rfl (by kernel_rfl) ?_)
 refine wp_loop_rounds 5 ?_
 rw[rounds_succ]; go_wp2; refine wp_loop_rounds 3 ?_
 iterate 3 (rw[rounds_succ]; go_wp2)
 rw[rounds_succ]; go_wp2; refine wp_loop_rounds 3 ?_
 iterate 3 (rw[rounds_succ]; go_wp2)
 rw[rounds_succ]; go_wp2; refine wp_loop_rounds 3 ?_
 iterate 3 (rw[rounds_succ]; go_wp2)
 rw[rounds_succ]; go_wp2; refine wp_loop_rounds 3 ?_
 iterate 2 (rw[rounds_succ]; go_wp2)
 go_ret2
 exact⟨rfl,rfl⟩
set_option maxHeartbeats 4000000 in
theorem sL (x:Int) (w:World) (hF:u3 w) (du:0<=x) (dF:x<=4294967295)
  (h0:¬ x % 256=x) (h1:¬ x / 256 % 256=x) (h2:¬ x % 256*65537=x) (h3:¬ x / 256 % 256*65537=x) (h4:¬ x % 256*16777472=x) (h5:¬ x / 256 % 256*16777472=x) (h6:¬ x % 256*16843009=x) (h7:¬ x / 256 % 256*16843009=x) :
  Calls Tryz.prog 97 #[.int .u32 x] w fun e w'=>e = .returned (.tuple #[.int .i64 0,.bool false])/\w=w':=by
 have b0:(x % 256 == x)=false:=by rw[beq_eq_false_iff_ne]; exact h0
 have b1:(x / 256 % 256 == x)=false:=by rw[beq_eq_false_iff_ne]; exact h1
 have b2:(x % 256*65537 == x)=false:=by rw[beq_eq_false_iff_ne]; exact h2
 have b3:(x / 256 % 256*65537 == x)=false:=by rw[beq_eq_false_iff_ne]; exact h3
 have b4:(x % 256*16777472 == x)=false:=by rw[beq_eq_false_iff_ne]; exact h4
 have b5:(x / 256 % 256*16777472 == x)=false:=by rw[beq_eq_false_iff_ne]; exact h5
 have b6:(x % 256*16843009 == x)=false:=by rw[beq_eq_false_iff_ne]; exact h6
 have b7:(x / 256 % 256*16843009 == x)=false:=by rw[beq_eq_false_iff_ne]; exact h7
 clear h0 h1 h2 h3 h4 h5 h6 h7
 have m1:bits .and .u32 x 255=x % 256:=Rm.cj x du dF
 have m2:bits .and .u32 (x / 256) 255=x / 256 % 256:=Rm.cj _ (by omega) (by omega)
 have i0:=u5
 have i1:=u6
 have i2:=u7
 have i3:=u9
 have j0:=nK (.int .u32 (x % 256)) (.int .u32 (x / 256 % 256))
 have j1:=nL (.int .u32 (x % 256)) (.int .u32 (x / 256 % 256))
 obtain⟨t,fr,hg⟩:=hF
 have HG:=Lib.hid hg
 clear hg
 go_enter Tryz.func97,Tryz.ntmps97
 go_wp2_with (refine wpList_load_row rfl 98 _ rfl 1 rfl t _ fr _ HG.out Tryz.underlying98 rfl (by kernel_rfl) ?_)
 refine wp_loop_rounds 5 ?_
 rw[rounds_succ]; go_wp2; refine wp_loop_rounds 3 ?_
 iterate 3 (rw[rounds_succ]; go_wp2)
 rw[rounds_succ]; go_wp2; refine wp_loop_rounds 3 ?_
 iterate 3 (rw[rounds_succ]; go_wp2)
 rw[rounds_succ]; go_wp2; refine wp_loop_rounds 3 ?_
 iterate 3 (rw[rounds_succ]; go_wp2)
 rw[rounds_succ]; go_wp2; refine wp_loop_rounds 3 ?_
 iterate 3 (rw[rounds_succ]; go_wp2)
 rw[rounds_succ]; go_wp2
 go_ret2
 exact⟨rfl,rfl⟩
theorem ib (x:Int) (w:World) (hF:u3 w) (du:0<=x) (dF:x<=4294967295) :
  Calls Tryz.prog 97 #[.int .u32 x] w fun e w'=>e = .returned (.tuple #[.int .i64 (u4 x),.bool (Rm.pT x).isSome])/\w=w':=by
 unfold u4 Rm.pT
 by_cases h0:x % 256=x
 ·simp only[ if_pos h0]; exact y9 x w hF du dF h0
 by_cases h1:x / 256 % 256=x
 ·simp only[if_neg h0, if_pos h1]; exact y_ x w hF du dF h0 h1
 by_cases h2:x % 256*65537=x
 ·simp only[if_neg h0,if_neg h1, if_pos h2]; exact za x w hF du dF h0 h1 h2
 by_cases h3:x / 256 % 256*65537=x
 ·simp only[if_neg h0,if_neg h1,if_neg h2, if_pos h3]; exact zb x w hF du dF h0 h1 h2 h3
 by_cases h4:x % 256*16777472=x
 ·simp only[if_neg h0,if_neg h1,if_neg h2,if_neg h3, if_pos h4]; exact zc x w hF du dF h0 h1 h2 h3 h4
 by_cases h5:x / 256 % 256*16777472=x
 ·simp only[if_neg h0,if_neg h1,if_neg h2,if_neg h3,if_neg h4, if_pos h5]; exact zd x w hF du dF h0 h1 h2 h3 h4 h5
 by_cases h6:x % 256*16843009=x
 ·simp only[if_neg h0,if_neg h1,if_neg h2,if_neg h3,if_neg h4,if_neg h5, if_pos h6]; exact ze x w hF du dF h0 h1 h2 h3 h4 h5 h6
 by_cases h7:x / 256 % 256*16843009=x
 ·simp only[if_neg h0,if_neg h1,if_neg h2,if_neg h3,if_neg h4,if_neg h5,if_neg h6, if_pos h7]; exact zf x w hF du dF h0 h1 h2 h3 h4 h5 h6 h7
 simp only[if_neg h0,if_neg h1,if_neg h2,if_neg h3,if_neg h4,if_neg h5,if_neg h6,if_neg h7]
 exact sL x w hF du dF h0 h1 h2 h3 h4 h5 h6 h7
end Go.Proofs.YtlgkljpgagfndaaGreatDoor

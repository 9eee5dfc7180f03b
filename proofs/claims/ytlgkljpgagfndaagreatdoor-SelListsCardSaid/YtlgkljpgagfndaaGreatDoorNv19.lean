/- What this claim is proved with: no condition. -/
import Derived.Test.YtlgkljpgagfndaaGreatDoorNv17
set_option maxRecDepth 100000
set_option maxHeartbeats 8000000
set_option linter.unusedVariables false
set_option linter.unusedSimpArgs false
namespace Go.Proofs.YtlgkljpgagfndaaGreatDoor.Pw
open Go Go.RowKit
theorem Ll (i:IN) (hs:aa i.form=17) (hr:aI i (ch 17)) (hg:i.ar<=9223372036854775807):ai gT 131 [cX i] (.int .u32 ((eX i (aD 17):Nat):Int)):=by
 obtain⟨hf,h1,h2,h3,h4,h5,h6,h7,h8,h9,cV⟩:=hr
 have g0:=bD (r:=i.rd) h1
 have g1:=aE (r:=i.rn) h2
 have g2:=aE (r:=i.rm) h3
 have g3:=aE (r:=i.ra) h4
 have g4:0<=i.az/\i.az<=65535/\i.az % 1=0:=fi (s:=1) (by decide) h7
 have g5:i.kind=0:=(br rfl h9).1
 have g6:i.bG=0:=bQ (br rfl h9).2
 have g7:i.set=0:=h8.elim id fun e=>absurd (show false=true from e.2) Bool.false_ne_true
 have g8:i.cond=0:=h6.elim id fun e=>absurd (show false=true from e.1) Bool.false_ne_true
 clear h1 h2 h3 h4 h5 h6 h7 h8 h9 cV
 refine Spec.enter al kj 100 Tryz.func131 rfl (by kernel_rfl) ?_
 refine .inl ⟨ah (by omega),?_⟩
 refine .inl ⟨ah (by omega),?_⟩
 refine (ay hs).u ?_
 refine (di i (by omega) (by omega) (by omega) (by omega) (by omega)).u ?_
 refine (gO i.az (by unfold a_; omega)).u ?_
 refine aw ?_
 have eo:eX i (aD 17)=0 ||| B i.az 11 1 26 ||| B i.az 12 4 16 ||| B i.az 8 3 12 ||| B i.az 0 8 0 ||| B i.rd 0 4 8:=rfl
 rw[eo]
 refine (show bits .or .u32 (((B i.set 0 1 20 ||| B i.rn 0 4 16 ||| B i.ra 0 4 12 ||| B i.rd 0 4 8 ||| B i.rm 0 4 0:Nat):Int)) (((B i.az 11 1 26 ||| B i.az 12 4 16 ||| B i.az 8 3 12 ||| B i.az 0 8 0:Nat):Int))=_ from ?_)
 refine ((((fM i)).or (k7 i.az))).1.trans (congrArg (fun n:Nat=>(n:Int)) ?_)
 first
 | (simp only[gL g1,gL g2,gL g3,gL g7,Nat.or_zero,Nat.zero_or]; done)
 | (simp only[gL g1,gL g2,gL g3,gL g7,Nat.or_zero,Nat.zero_or]
    generalize B i.az 11 1 26=n0
    generalize B i.az 12 4 16=n1
    generalize B i.az 8 3 12=n2
    generalize B i.az 0 8 0=n3
    generalize B i.rd 0 4 8=n4
    ac_rfl)
theorem Lm (i:IN) (hs:aa i.form=18) (hr:aI i (ch 18)) (hg:i.ar<=9223372036854775807):ai gT 131 [cX i] (.int .u32 ((eX i (aD 18):Nat):Int)):=by
 obtain⟨hf,h1,h2,h3,h4,h5,h6,h7,h8,h9,cV⟩:=hr
 have g0:=bD (r:=i.rd) h1
 have g1:=bD (r:=i.rn) h2
 have g2:=aE (r:=i.rm) h3
 have g3:=aE (r:=i.ra) h4
 have g4:0<=i.az/\i.az<=4095/\i.az % 1=0:=fi (s:=1) (by decide) h7
 have g5:i.kind=0:=(br rfl h9).1
 have g6:i.bG=0:=bQ (br rfl h9).2
 have g7:i.set=0\/i.set=1:=h8.imp id fun e=>e.1
 have g8:i.cond=0:=h6.elim id fun e=>absurd (show false=true from e.1) Bool.false_ne_true
 clear h1 h2 h3 h4 h5 h6 h7 h8 h9 cV
 refine Spec.enter al kj 100 Tryz.func131 rfl (by kernel_rfl) ?_
 refine .inl ⟨ah (by omega),?_⟩
 refine .inl ⟨ah (by omega),?_⟩
 refine (ay hs).u ?_
 refine (di i (by omega) (by omega) (by omega) (by omega) (by omega)).u ?_
 refine (gO i.az (by unfold a_; omega)).u ?_
 refine aw ?_
 have eo:eX i (aD 18)=0 ||| B i.az 11 1 26 ||| B i.az 8 3 12 ||| B i.az 0 8 0 ||| B i.set 0 1 20 ||| B i.rn 0 4 16 ||| B i.rd 0 4 8:=rfl
 have GQ:B i.az 12 4 16=0:=rF (by unfold ab; split<;>omega)
 rw[eo]
 refine (show bits .or .u32 (((B i.set 0 1 20 ||| B i.rn 0 4 16 ||| B i.ra 0 4 12 ||| B i.rd 0 4 8 ||| B i.rm 0 4 0:Nat):Int)) (((B i.az 11 1 26 ||| B i.az 12 4 16 ||| B i.az 8 3 12 ||| B i.az 0 8 0:Nat):Int))=_ from ?_)
 refine ((((fM i)).or (k7 i.az))).1.trans (congrArg (fun n:Nat=>(n:Int)) ?_)
 first
 | (simp only[gL g2,gL g3,GQ,Nat.or_zero,Nat.zero_or]; done)
 | (simp only[gL g2,gL g3,GQ,Nat.or_zero,Nat.zero_or]
    generalize B i.az 11 1 26=n0
    generalize B i.az 8 3 12=n1
    generalize B i.az 0 8 0=n2
    generalize B i.set 0 1 20=n3
    generalize B i.rn 0 4 16=n4
    generalize B i.rd 0 4 8=n5
    ac_rfl)
theorem Ln (i:IN) (hs:aa i.form=19) (hr:aI i (ch 19)) (hg:i.ar<=9223372036854775807):ai gT 131 [cX i] (.int .u32 ((eX i (aD 19):Nat):Int)):=by
 obtain⟨hf,h1,h2,h3,h4,h5,h6,h7,h8,h9,cV⟩:=hr
 have g0:=bD (r:=i.rd) h1
 have g1:=aE (r:=i.rn) h2
 have g2:=aE (r:=i.rm) h3
 have g3:=aE (r:=i.ra) h4
 have g4:0<=i.az/\i.az<=4095/\i.az % 1=0:=fi (s:=1) (by decide) h7
 have g5:i.kind=0:=(br rfl h9).1
 have g6:i.bG=0:=bQ (br rfl h9).2
 have g7:i.set=0\/i.set=1:=h8.imp id fun e=>e.1
 have g8:i.cond=0:=h6.elim id fun e=>absurd (show false=true from e.1) Bool.false_ne_true
 clear h1 h2 h3 h4 h5 h6 h7 h8 h9 cV
 refine Spec.enter al kj 100 Tryz.func131 rfl (by kernel_rfl) ?_
 refine .inl ⟨ah (by omega),?_⟩
 refine .inl ⟨ah (by omega),?_⟩
 refine (ay hs).u ?_
 refine (di i (by omega) (by omega) (by omega) (by omega) (by omega)).u ?_
 refine (gO i.az (by unfold a_; omega)).u ?_
 refine aw ?_
 have eo:eX i (aD 19)=0 ||| B i.az 11 1 26 ||| B i.az 8 3 12 ||| B i.az 0 8 0 ||| B i.set 0 1 20 ||| B i.rd 0 4 8:=rfl
 have GQ:B i.az 12 4 16=0:=rF (by unfold ab; split<;>omega)
 rw[eo]
 refine (show bits .or .u32 (((B i.set 0 1 20 ||| B i.rn 0 4 16 ||| B i.ra 0 4 12 ||| B i.rd 0 4 8 ||| B i.rm 0 4 0:Nat):Int)) (((B i.az 11 1 26 ||| B i.az 12 4 16 ||| B i.az 8 3 12 ||| B i.az 0 8 0:Nat):Int))=_ from ?_)
 refine ((((fM i)).or (k7 i.az))).1.trans (congrArg (fun n:Nat=>(n:Int)) ?_)
 first
 | (simp only[gL g1,gL g2,gL g3,GQ,Nat.or_zero,Nat.zero_or]; done)
 | (simp only[gL g1,gL g2,gL g3,GQ,Nat.or_zero,Nat.zero_or]
    generalize B i.az 11 1 26=n0
    generalize B i.az 8 3 12=n1
    generalize B i.az 0 8 0=n2
    generalize B i.set 0 1 20=n3
    generalize B i.rd 0 4 8=n4
    ac_rfl)
theorem Lo (i:IN) (hs:aa i.form=20) (hr:aI i (ch 20)) (hg:i.ar<=9223372036854775807):ai gT 131 [cX i] (.int .u32 ((eX i (aD 20):Nat):Int)):=by
 obtain⟨hf,h1,h2,h3,h4,h5,h6,h7,h8,h9,cV⟩:=hr
 have g0:=aE (r:=i.rd) h1
 have g1:=bD (r:=i.rn) h2
 have g2:=aE (r:=i.rm) h3
 have g3:=aE (r:=i.ra) h4
 have g4:0<=i.az/\i.az<=4095/\i.az % 1=0:=fi (s:=1) (by decide) h7
 have g5:i.kind=0:=(br rfl h9).1
 have g6:i.bG=0:=bQ (br rfl h9).2
 have g7:i.set=0:=h8.elim id fun e=>absurd (show false=true from e.2) Bool.false_ne_true
 have g8:i.cond=0:=h6.elim id fun e=>absurd (show false=true from e.1) Bool.false_ne_true
 clear h1 h2 h3 h4 h5 h6 h7 h8 h9 cV
 refine Spec.enter al kj 100 Tryz.func131 rfl (by kernel_rfl) ?_
 refine .inl ⟨ah (by omega),?_⟩
 refine .inl ⟨ah (by omega),?_⟩
 refine (ay hs).u ?_
 refine (di i (by omega) (by omega) (by omega) (by omega) (by omega)).u ?_
 refine (gO i.az (by unfold a_; omega)).u ?_
 refine aw ?_
 have eo:eX i (aD 20)=0 ||| B i.az 11 1 26 ||| B i.az 8 3 12 ||| B i.az 0 8 0 ||| B i.rn 0 4 16:=rfl
 have GQ:B i.az 12 4 16=0:=rF (by unfold ab; split<;>omega)
 rw[eo]
 refine (show bits .or .u32 (((B i.set 0 1 20 ||| B i.rn 0 4 16 ||| B i.ra 0 4 12 ||| B i.rd 0 4 8 ||| B i.rm 0 4 0:Nat):Int)) (((B i.az 11 1 26 ||| B i.az 12 4 16 ||| B i.az 8 3 12 ||| B i.az 0 8 0:Nat):Int))=_ from ?_)
 refine ((((fM i)).or (k7 i.az))).1.trans (congrArg (fun n:Nat=>(n:Int)) ?_)
 first
 | (simp only[gL g0,gL g2,gL g3,gL g7,GQ,Nat.or_zero,Nat.zero_or]; done)
 | (simp only[gL g0,gL g2,gL g3,gL g7,GQ,Nat.or_zero,Nat.zero_or]
    generalize B i.az 11 1 26=n0
    generalize B i.az 8 3 12=n1
    generalize B i.az 0 8 0=n2
    generalize B i.rn 0 4 16=n3
    ac_rfl)
theorem Lp (i:IN) (hs:aa i.form=21) (hr:aI i (ch 21)) (hg:i.ar<=9223372036854775807):ai gT 131 [cX i] (.int .u32 ((eX i (aD 21):Nat):Int)):=by
 obtain⟨hf,h1,h2,h3,h4,h5,h6,h7,h8,h9,cV⟩:=hr
 have g0:=bD (r:=i.rd) h1
 have g1:=bD (r:=i.rn) h2
 have g2:=bD (r:=i.rm) h3
 have g3:=aE (r:=i.ra) h4
 have g4:i.az=0:=bQ h7
 have g6:cO i.kind i.bG:=CW rfl h9
 have g5:=lL g6
 have g6b:0<=i.bG/\i.bG<=32:=by unfold cO at g6; omega
 have g7:i.set=0\/i.set=1:=h8.imp id fun e=>e.1
 have g8:i.cond=0:=h6.elim id fun e=>absurd (show false=true from e.1) Bool.false_ne_true
 clear h1 h2 h3 h4 h5 h6 h7 h8 h9 cV
 have b0:=af i.bG 2 3
 have b1:=af i.bG 0 2
 refine Spec.enter al kj 100 Tryz.func131 rfl (by kernel_rfl) ?_
 refine .inl ⟨ah (by omega),?_⟩
 refine .inl ⟨ah (by omega),?_⟩
 refine (ay hs).u ?_
 refine .inl ⟨ah (by omega),?_⟩
 refine⟨by decide,.inl ⟨ah (by rw[r4]; omega),?_⟩⟩
 refine (di i (by omega) (by omega) (by omega) (by omega) (by omega)).u ?_
 repeat (first
  | (refine⟨[],bn,(k8 i.bG 2 3 (by unfold a_; omega) (by decide) (by decide)).use (And.intro rfl (And.intro rfl (And.intro rfl trivial))) rfl rfl ?_⟩)
  | (refine⟨by decide,.inl ⟨ah (by rw[NK]; omega),?_⟩⟩)
  | (refine⟨[],bn,(k8 i.bG 0 2 (by unfold a_; omega) (by decide) (by decide)).use (And.intro rfl (And.intro rfl (And.intro rfl trivial))) rfl rfl ?_⟩)
  | (refine⟨by decide,.inl ⟨ah (by rw[r6]; omega),?_⟩⟩)
  | (refine .inl ⟨ah (by omega),?_⟩)
  | (refine⟨by decide,.inl ⟨ah (by rw[r4]; omega),?_⟩⟩))
 refine aw ?_
 have eo:eX i (aD 21)=0 ||| B i.bG 2 3 12 ||| B i.bG 0 2 6 ||| B i.kind 0 2 4 ||| B i.set 0 1 20 ||| B i.rn 0 4 16 ||| B i.rd 0 4 8 ||| B i.rm 0 4 0:=rfl
 rw[eo]
 refine (show bits .or .u32 (bits .or .u32 (bits .or .u32 (((B i.set 0 1 20 ||| B i.rn 0 4 16 ||| B i.ra 0 4 12 ||| B i.rd 0 4 8 ||| B i.rm 0 4 0:Nat):Int)) (ab i.bG 2 3*Ev.aV .u32 12)) (ab i.bG 0 2*Ev.aV .u32 6)) (i.kind*Ev.aV .u32 4)=_ from ?_)
 refine ((((((((fM i)).or (ss i.bG 2 3 12 (by decide) (by decide)))).or (ss i.bG 0 2 6 (by decide) (by decide)))).or (oS i.kind 2 4 (by decide) (by decide) (by omega)))).1.trans (congrArg (fun n:Nat=>(n:Int)) ?_)
 first
 | (simp only[gL g3,Nat.or_zero,Nat.zero_or]; done)
 | (simp only[gL g3,Nat.or_zero,Nat.zero_or]
    generalize B i.bG 2 3 12=n0
    generalize B i.bG 0 2 6=n1
    generalize B i.kind 0 2 4=n2
    generalize B i.set 0 1 20=n3
    generalize B i.rn 0 4 16=n4
    generalize B i.rd 0 4 8=n5
    generalize B i.rm 0 4 0=n6
    ac_rfl)
theorem Lq (i:IN) (hs:aa i.form=22) (hr:aI i (ch 22)) (hg:i.ar<=9223372036854775807):ai gT 131 [cX i] (.int .u32 ((eX i (aD 22):Nat):Int)):=by
 obtain⟨hf,h1,h2,h3,h4,h5,h6,h7,h8,h9,cV⟩:=hr
 have g0:=bD (r:=i.rd) h1
 have g1:=aE (r:=i.rn) h2
 have g2:=bD (r:=i.rm) h3
 have g3:=aE (r:=i.ra) h4
 have g4:i.az=0:=bQ h7
 have g6:cO i.kind i.bG:=CW rfl h9
 have g5:=lL g6
 have g6b:0<=i.bG/\i.bG<=32:=by unfold cO at g6; omega
 have g7:i.set=0\/i.set=1:=h8.imp id fun e=>e.1
 have g8:i.cond=0:=h6.elim id fun e=>absurd (show false=true from e.1) Bool.false_ne_true
 clear h1 h2 h3 h4 h5 h6 h7 h8 h9 cV
 have b0:=af i.bG 2 3
 have b1:=af i.bG 0 2
 refine Spec.enter al kj 100 Tryz.func131 rfl (by kernel_rfl) ?_
 refine .inl ⟨ah (by omega),?_⟩
 refine .inl ⟨ah (by omega),?_⟩
 refine (ay hs).u ?_
 refine .inl ⟨ah (by omega),?_⟩
 refine⟨by decide,.inl ⟨ah (by rw[r4]; omega),?_⟩⟩
 refine (di i (by omega) (by omega) (by omega) (by omega) (by omega)).u ?_
 repeat (first
  | (refine⟨[],bn,(k8 i.bG 2 3 (by unfold a_; omega) (by decide) (by decide)).use (And.intro rfl (And.intro rfl (And.intro rfl trivial))) rfl rfl ?_⟩)
  | (refine⟨by decide,.inl ⟨ah (by rw[NK]; omega),?_⟩⟩)
  | (refine⟨[],bn,(k8 i.bG 0 2 (by unfold a_; omega) (by decide) (by decide)).use (And.intro rfl (And.intro rfl (And.intro rfl trivial))) rfl rfl ?_⟩)
  | (refine⟨by decide,.inl ⟨ah (by rw[r6]; omega),?_⟩⟩)
  | (refine .inl ⟨ah (by omega),?_⟩)
  | (refine⟨by decide,.inl ⟨ah (by rw[r4]; omega),?_⟩⟩))
 refine aw ?_
 have eo:eX i (aD 22)=0 ||| B i.bG 2 3 12 ||| B i.bG 0 2 6 ||| B i.kind 0 2 4 ||| B i.set 0 1 20 ||| B i.rd 0 4 8 ||| B i.rm 0 4 0:=rfl
 rw[eo]
 refine (show bits .or .u32 (bits .or .u32 (bits .or .u32 (((B i.set 0 1 20 ||| B i.rn 0 4 16 ||| B i.ra 0 4 12 ||| B i.rd 0 4 8 ||| B i.rm 0 4 0:Nat):Int)) (ab i.bG 2 3*Ev.aV .u32 12)) (ab i.bG 0 2*Ev.aV .u32 6)) (i.kind*Ev.aV .u32 4)=_ from ?_)
 refine ((((((((fM i)).or (ss i.bG 2 3 12 (by decide) (by decide)))).or (ss i.bG 0 2 6 (by decide) (by decide)))).or (oS i.kind 2 4 (by decide) (by decide) (by omega)))).1.trans (congrArg (fun n:Nat=>(n:Int)) ?_)
 first
 | (simp only[gL g1,gL g3,Nat.or_zero,Nat.zero_or]; done)
 | (simp only[gL g1,gL g3,Nat.or_zero,Nat.zero_or]
    generalize B i.bG 2 3 12=n0
    generalize B i.bG 0 2 6=n1
    generalize B i.kind 0 2 4=n2
    generalize B i.set 0 1 20=n3
    generalize B i.rd 0 4 8=n4
    generalize B i.rm 0 4 0=n5
    ac_rfl)
theorem Lr (i:IN) (hs:aa i.form=23) (hr:aI i (ch 23)) (hg:i.ar<=9223372036854775807):ai gT 131 [cX i] (.int .u32 ((eX i (aD 23):Nat):Int)):=by
 obtain⟨hf,h1,h2,h3,h4,h5,h6,h7,h8,h9,cV⟩:=hr
 have g0:=aE (r:=i.rd) h1
 have g1:=bD (r:=i.rn) h2
 have g2:=bD (r:=i.rm) h3
 have g3:=aE (r:=i.ra) h4
 have g4:i.az=0:=bQ h7
 have g6:cO i.kind i.bG:=CW rfl h9
 have g5:=lL g6
 have g6b:0<=i.bG/\i.bG<=32:=by unfold cO at g6; omega
 have g7:i.set=0:=h8.elim id fun e=>absurd (show false=true from e.2) Bool.false_ne_true
 have g8:i.cond=0:=h6.elim id fun e=>absurd (show false=true from e.1) Bool.false_ne_true
 clear h1 h2 h3 h4 h5 h6 h7 h8 h9 cV
 have b0:=af i.bG 2 3
 have b1:=af i.bG 0 2
 refine Spec.enter al kj 100 Tryz.func131 rfl (by kernel_rfl) ?_
 refine .inl ⟨ah (by omega),?_⟩
 refine .inl ⟨ah (by omega),?_⟩
 refine (ay hs).u ?_
 refine .inl ⟨ah (by omega),?_⟩
 refine⟨by decide,.inl ⟨ah (by rw[r4]; omega),?_⟩⟩
 refine (di i (by omega) (by omega) (by omega) (by omega) (by omega)).u ?_
 repeat (first
  | (refine⟨[],bn,(k8 i.bG 2 3 (by unfold a_; omega) (by decide) (by decide)).use (And.intro rfl (And.intro rfl (And.intro rfl trivial))) rfl rfl ?_⟩)
  | (refine⟨by decide,.inl ⟨ah (by rw[NK]; omega),?_⟩⟩)
  | (refine⟨[],bn,(k8 i.bG 0 2 (by unfold a_; omega) (by decide) (by decide)).use (And.intro rfl (And.intro rfl (And.intro rfl trivial))) rfl rfl ?_⟩)
  | (refine⟨by decide,.inl ⟨ah (by rw[r6]; omega),?_⟩⟩)
  | (refine .inl ⟨ah (by omega),?_⟩)
  | (refine⟨by decide,.inl ⟨ah (by rw[r4]; omega),?_⟩⟩))
 refine aw ?_
 have eo:eX i (aD 23)=0 ||| B i.bG 2 3 12 ||| B i.bG 0 2 6 ||| B i.kind 0 2 4 ||| B i.rn 0 4 16 ||| B i.rm 0 4 0:=rfl
 rw[eo]
 refine (show bits .or .u32 (bits .or .u32 (bits .or .u32 (((B i.set 0 1 20 ||| B i.rn 0 4 16 ||| B i.ra 0 4 12 ||| B i.rd 0 4 8 ||| B i.rm 0 4 0:Nat):Int)) (ab i.bG 2 3*Ev.aV .u32 12)) (ab i.bG 0 2*Ev.aV .u32 6)) (i.kind*Ev.aV .u32 4)=_ from ?_)
 refine ((((((((fM i)).or (ss i.bG 2 3 12 (by decide) (by decide)))).or (ss i.bG 0 2 6 (by decide) (by decide)))).or (oS i.kind 2 4 (by decide) (by decide) (by omega)))).1.trans (congrArg (fun n:Nat=>(n:Int)) ?_)
 first
 | (simp only[gL g0,gL g3,gL g7,Nat.or_zero,Nat.zero_or]; done)
 | (simp only[gL g0,gL g3,gL g7,Nat.or_zero,Nat.zero_or]
    generalize B i.bG 2 3 12=n0
    generalize B i.bG 0 2 6=n1
    generalize B i.kind 0 2 4=n2
    generalize B i.rn 0 4 16=n3
    generalize B i.rm 0 4 0=n4
    ac_rfl)
theorem Ls (i:IN) (hs:aa i.form=24) (hr:aI i (ch 24)) (hg:i.ar<=9223372036854775807):ai gT 131 [cX i] (.int .u32 ((eX i (aD 24):Nat):Int)):=by
 obtain⟨hf,h1,h2,h3,h4,h5,h6,h7,h8,h9,cV⟩:=hr
 have g0:=bD (r:=i.rd) h1
 have g1:=bD (r:=i.rn) h2
 have g2:=aE (r:=i.rm) h3
 have g3:=aE (r:=i.ra) h4
 have g4:0<=i.az/\i.az<=4095/\i.az % 1=0:=fi (s:=1) (by decide) h7
 have g5:i.kind=0:=(br rfl h9).1
 have g6:i.bG=0:=bQ (br rfl h9).2
 have g7:i.set=0:=h8.elim id fun e=>absurd (show false=true from e.2) Bool.false_ne_true
 have g8:i.cond=0:=h6.elim id fun e=>absurd (show false=true from e.1) Bool.false_ne_true
 clear h1 h2 h3 h4 h5 h6 h7 h8 h9 cV
 refine Spec.enter al kj 100 Tryz.func131 rfl (by kernel_rfl) ?_
 refine .inl ⟨ah (by omega),?_⟩
 refine .inl ⟨ah (by omega),?_⟩
 refine (ay hs).u ?_
 refine (di i (by omega) (by omega) (by omega) (by omega) (by omega)).u ?_
 refine (gO i.az (by unfold a_; omega)).u ?_
 refine aw ?_
 have eo:eX i (aD 24)=0 ||| B i.az 11 1 26 ||| B i.az 8 3 12 ||| B i.az 0 8 0 ||| B i.rn 0 4 16 ||| B i.rd 0 4 8:=rfl
 have GQ:B i.az 12 4 16=0:=rF (by unfold ab; split<;>omega)
 rw[eo]
 refine (show bits .or .u32 (((B i.set 0 1 20 ||| B i.rn 0 4 16 ||| B i.ra 0 4 12 ||| B i.rd 0 4 8 ||| B i.rm 0 4 0:Nat):Int)) (((B i.az 11 1 26 ||| B i.az 12 4 16 ||| B i.az 8 3 12 ||| B i.az 0 8 0:Nat):Int))=_ from ?_)
 refine ((((fM i)).or (k7 i.az))).1.trans (congrArg (fun n:Nat=>(n:Int)) ?_)
 first
 | (simp only[gL g2,gL g3,gL g7,GQ,Nat.or_zero,Nat.zero_or]; done)
 | (simp only[gL g2,gL g3,gL g7,GQ,Nat.or_zero,Nat.zero_or]
    generalize B i.az 11 1 26=n0
    generalize B i.az 8 3 12=n1
    generalize B i.az 0 8 0=n2
    generalize B i.rn 0 4 16=n3
    generalize B i.rd 0 4 8=n4
    ac_rfl)
theorem Lt (i:IN) (hs:aa i.form=25) (hr:aI i (ch 25)) (hg:i.ar<=9223372036854775807):ai gT 131 [cX i] (.int .u32 ((eX i (aD 25):Nat):Int)):=by
 obtain⟨hf,h1,h2,h3,h4,h5,h6,h7,h8,h9,cV⟩:=hr
 have g0:=bD (r:=i.rd) h1
 have g1:=mg (r:=i.rn) h2
 have g2:=aE (r:=i.rm) h3
 have g3:=aE (r:=i.ra) h4
 have g4:0<=i.az/\i.az<=4095/\i.az % 1=0:=fi (s:=1) (by decide) h7
 have g5:i.kind=0:=(br rfl h9).1
 have g6:i.bG=0:=bQ (br rfl h9).2
 have g7:i.set=0:=h8.elim id fun e=>absurd (show false=true from e.2) Bool.false_ne_true
 have g8:i.cond=0:=h6.elim id fun e=>absurd (show false=true from e.1) Bool.false_ne_true
 clear h1 h2 h3 h4 h5 h6 h7 h8 h9 cV
 refine Spec.enter al kj 100 Tryz.func131 rfl (by kernel_rfl) ?_
 refine .inl ⟨ah (by omega),?_⟩
 refine .inl ⟨ah (by omega),?_⟩
 refine (ay hs).u ?_
 refine .inl ⟨ah (by omega),?_⟩
 refine⟨by decide,.inl ⟨ah (by rw[NL]; omega),?_⟩⟩
 refine .inl ⟨ah (by omega),?_⟩
 refine⟨by decide,.inl ⟨ah (by rw[NK]; omega),?_⟩⟩
 refine aw ?_
 have eo:eX i (aD 25)=0 ||| B i.rn 0 4 16 ||| B i.rd 0 4 12 ||| B i.az 0 12 0:=rfl
 rw[eo]
 refine (show bits .or .u32 (bits .or .u32 (i.rn*Ev.aV .u32 16) (i.rd*Ev.aV .u32 12)) (i.az)=_ from ?_)
 refine ((((((oS i.rn 4 16 (by decide) (by decide) (by omega))).or (oS i.rd 4 12 (by decide) (by decide) (by omega)))).or (rE i.az 12 (by decide) (by omega)))).1.trans (congrArg (fun n:Nat=>(n:Int)) ?_)
 first
 | (simp only[Nat.or_zero,Nat.zero_or]; done)
 | (simp only[Nat.or_zero,Nat.zero_or]
    generalize B i.rn 0 4 16=n0
    generalize B i.rd 0 4 12=n1
    generalize B i.az 0 12 0=n2
    ac_rfl)
theorem Lu (i:IN) (hs:aa i.form=26) (hr:aI i (ch 26)) (hg:i.ar<=9223372036854775807):ai gT 131 [cX i] (.int .u32 ((eX i (aD 26):Nat):Int)):=by
 obtain⟨hf,h1,h2,h3,h4,h5,h6,h7,h8,h9,cV⟩:=hr
 have g0:=bD (r:=i.rd) h1
 have g1:=mg (r:=i.rn) h2
 have g2:=bD (r:=i.rm) h3
 have g3:=aE (r:=i.ra) h4
 have g4:i.az=0:=bQ h7
 have g5:i.kind=0:=(br rfl h9).1
 have g6:0<=i.bG/\i.bG<=3/\i.bG % 1=0:=fi (s:=1) (by decide) (br rfl h9).2
 have g7:i.set=0:=h8.elim id fun e=>absurd (show false=true from e.2) Bool.false_ne_true
 have g8:i.cond=0:=h6.elim id fun e=>absurd (show false=true from e.1) Bool.false_ne_true
 clear h1 h2 h3 h4 h5 h6 h7 h8 h9 cV
 refine Spec.enter al kj 100 Tryz.func131 rfl (by kernel_rfl) ?_
 refine .inl ⟨ah (by omega),?_⟩
 refine .inl ⟨ah (by omega),?_⟩
 refine (ay hs).u ?_
 refine .inl ⟨ah (by omega),?_⟩
 refine⟨by decide,.inl ⟨ah (by rw[NL]; omega),?_⟩⟩
 refine .inl ⟨ah (by omega),?_⟩
 refine⟨by decide,.inl ⟨ah (by rw[NK]; omega),?_⟩⟩
 refine⟨by decide,.inl ⟨ah (by rw[r4]; omega),?_⟩⟩
 refine .inl ⟨ah (by omega),?_⟩
 refine aw ?_
 have eo:eX i (aD 26)=0 ||| B i.rn 0 4 16 ||| B i.rd 0 4 12 ||| B i.bG 0 2 4 ||| B i.rm 0 4 0:=rfl
 rw[eo]
 refine (show bits .or .u32 (bits .or .u32 (bits .or .u32 (i.rn*Ev.aV .u32 16) (i.rd*Ev.aV .u32 12)) (i.bG*Ev.aV .u32 4)) (i.rm)=_ from ?_)
 refine ((((((((oS i.rn 4 16 (by decide) (by decide) (by omega))).or (oS i.rd 4 12 (by decide) (by decide) (by omega)))).or (oS i.bG 2 4 (by decide) (by decide) (by omega)))).or (rE i.rm 4 (by decide) (by omega)))).1.trans (congrArg (fun n:Nat=>(n:Int)) ?_)
 first
 | (simp only[Nat.or_zero,Nat.zero_or]; done)
 | (simp only[Nat.or_zero,Nat.zero_or]
    generalize B i.rn 0 4 16=n0
    generalize B i.rd 0 4 12=n1
    generalize B i.bG 0 2 4=n2
    generalize B i.rm 0 4 0=n3
    ac_rfl)
theorem Lv (i:IN) (hs:aa i.form=27) (hr:aI i (ch 27)) (hg:i.ar<=9223372036854775807):ai gT 131 [cX i] (.int .u32 ((eX i (aD 27):Nat):Int)):=by
 obtain⟨hf,h1,h2,h3,h4,h5,h6,h7,h8,h9,cV⟩:=hr
 have g0:=bD (r:=i.rd) h1
 have g1:=bD (r:=i.rn) h2
 have g2:=bD (r:=i.rm) h3
 have g3:=aE (r:=i.ra) h4
 have g4:i.az=0:=bQ h7
 have g5:i.kind=0:=(br rfl h9).1
 have g6:i.bG=0:=bQ (br rfl h9).2
 have g7:i.set=0\/i.set=1:=h8.imp id fun e=>e.1
 have g8:i.cond=0:=h6.elim id fun e=>absurd (show false=true from e.1) Bool.false_ne_true
 clear h1 h2 h3 h4 h5 h6 h7 h8 h9 cV
 refine Spec.enter al kj 100 Tryz.func131 rfl (by kernel_rfl) ?_
 refine .inl ⟨ah (by omega),?_⟩
 refine .inl ⟨ah (by omega),?_⟩
 refine (ay hs).u ?_
 refine (di i (by omega) (by omega) (by omega) (by omega) (by omega)).u ?_
 refine aw ?_
 have eo:eX i (aD 27)=0 ||| B i.set 0 1 20 ||| B i.rn 0 4 16 ||| B i.rd 0 4 8 ||| B i.rm 0 4 0:=rfl
 rw[eo]
 refine (show ((B i.set 0 1 20 ||| B i.rn 0 4 16 ||| B i.ra 0 4 12 ||| B i.rd 0 4 8 ||| B i.rm 0 4 0:Nat):Int)=_ from ?_)
 refine ((fM i)).1.trans (congrArg (fun n:Nat=>(n:Int)) ?_)
 first
 | (simp only[gL g3,Nat.or_zero,Nat.zero_or]; done)
 | (simp only[gL g3,Nat.or_zero,Nat.zero_or]
    generalize B i.set 0 1 20=n0
    generalize B i.rn 0 4 16=n1
    generalize B i.rd 0 4 8=n2
    generalize B i.rm 0 4 0=n3
    ac_rfl)
theorem Lw (i:IN) (hs:aa i.form=28) (hr:aI i (ch 28)) (hg:i.ar<=9223372036854775807):ai gT 131 [cX i] (.int .u32 ((eX i (aD 28):Nat):Int)):=by
 obtain⟨hf,h1,h2,h3,h4,h5,h6,h7,h8,h9,cV⟩:=hr
 have g0:=bD (r:=i.rd) h1
 have g1:=bD (r:=i.rn) h2
 have g2:=bD (r:=i.rm) h3
 have g3:=aE (r:=i.ra) h4
 have g4:i.az=0:=bQ h7
 have g5:i.kind=0:=(br rfl h9).1
 have g6:i.bG=0:=bQ (br rfl h9).2
 have g7:i.set=0:=h8.elim id fun e=>absurd (show false=true from e.2) Bool.false_ne_true
 have g8:i.cond=0:=h6.elim id fun e=>absurd (show false=true from e.1) Bool.false_ne_true
 clear h1 h2 h3 h4 h5 h6 h7 h8 h9 cV
 refine Spec.enter al kj 100 Tryz.func131 rfl (by kernel_rfl) ?_
 refine .inl ⟨ah (by omega),?_⟩
 refine .inl ⟨ah (by omega),?_⟩
 refine (ay hs).u ?_
 refine (di i (by omega) (by omega) (by omega) (by omega) (by omega)).u ?_
 refine aw ?_
 have eo:eX i (aD 28)=0 ||| B i.rn 0 4 16 ||| B i.rd 0 4 8 ||| B i.rm 0 4 0:=rfl
 rw[eo]
 refine (show ((B i.set 0 1 20 ||| B i.rn 0 4 16 ||| B i.ra 0 4 12 ||| B i.rd 0 4 8 ||| B i.rm 0 4 0:Nat):Int)=_ from ?_)
 refine ((fM i)).1.trans (congrArg (fun n:Nat=>(n:Int)) ?_)
 first
 | (simp only[gL g3,gL g7,Nat.or_zero,Nat.zero_or]; done)
 | (simp only[gL g3,gL g7,Nat.or_zero,Nat.zero_or]
    generalize B i.rn 0 4 16=n0
    generalize B i.rd 0 4 8=n1
    generalize B i.rm 0 4 0=n2
    ac_rfl)
theorem Lx (i:IN) (hs:aa i.form=29) (hr:aI i (ch 29)) (hg:i.ar<=9223372036854775807):ai gT 131 [cX i] (.int .u32 ((eX i (aD 29):Nat):Int)):=by
 obtain⟨hf,h1,h2,h3,h4,h5,h6,h7,h8,h9,cV⟩:=hr
 have g0:=bD (r:=i.rd) h1
 have g1:=bD (r:=i.rn) h2
 have g2:=bD (r:=i.rm) h3
 have g3:=bD (r:=i.ra) h4
 have g4:i.az=0:=bQ h7
 have g5:i.kind=0:=(br rfl h9).1
 have g6:i.bG=0:=bQ (br rfl h9).2
 have g7:i.set=0:=h8.elim id fun e=>absurd (show false=true from e.2) Bool.false_ne_true
 have g8:i.cond=0:=h6.elim id fun e=>absurd (show false=true from e.1) Bool.false_ne_true
 clear h1 h2 h3 h4 h5 h6 h7 h8 h9 cV
 refine Spec.enter al kj 100 Tryz.func131 rfl (by kernel_rfl) ?_
 refine .inl ⟨ah (by omega),?_⟩
 refine .inl ⟨ah (by omega),?_⟩
 refine (ay hs).u ?_
 refine (di i (by omega) (by omega) (by omega) (by omega) (by omega)).u ?_
 refine aw ?_
 have eo:eX i (aD 29)=0 ||| B i.rn 0 4 16 ||| B i.ra 0 4 12 ||| B i.rd 0 4 8 ||| B i.rm 0 4 0:=rfl
 rw[eo]
 refine (show ((B i.set 0 1 20 ||| B i.rn 0 4 16 ||| B i.ra 0 4 12 ||| B i.rd 0 4 8 ||| B i.rm 0 4 0:Nat):Int)=_ from ?_)
 refine ((fM i)).1.trans (congrArg (fun n:Nat=>(n:Int)) ?_)
 first
 | (simp only[gL g7,Nat.or_zero,Nat.zero_or]; done)
 | (simp only[gL g7,Nat.or_zero,Nat.zero_or]
    generalize B i.rn 0 4 16=n0
    generalize B i.ra 0 4 12=n1
    generalize B i.rd 0 4 8=n2
    generalize B i.rm 0 4 0=n3
    ac_rfl)
theorem Ly (i:IN) (hs:aa i.form=30) (hr:aI i (ch 30)) (hg:i.ar<=9223372036854775807):ai gT 131 [cX i] (.int .u32 ((eX i (aD 30):Nat):Int)):=by
 obtain⟨hf,h1,h2,h3,h4,h5,h6,h7,h8,h9,cV⟩:=hr
 have g0:=bD (r:=i.rd) h1
 have g1:=bD (r:=i.rn) h2
 have g2:=bD (r:=i.rm) h3
 have g3:=bD (r:=i.ra) h4
 have g4:i.az=0:=bQ h7
 have g5:i.kind=0:=(br rfl h9).1
 have g6:i.bG=0:=bQ (br rfl h9).2
 have g7:i.set=0:=h8.elim id fun e=>absurd (show false=true from e.2) Bool.false_ne_true
 have g8:i.cond=0:=h6.elim id fun e=>absurd (show false=true from e.1) Bool.false_ne_true
 clear h1 h2 h3 h4 h5 h6 h7 h8 h9 cV
 refine Spec.enter al kj 100 Tryz.func131 rfl (by kernel_rfl) ?_
 refine .inl ⟨ah (by omega),?_⟩
 refine .inl ⟨ah (by omega),?_⟩
 refine (ay hs).u ?_
 refine (di i (by omega) (by omega) (by omega) (by omega) (by omega)).u ?_
 refine aw ?_
 have eo:eX i (aD 30)=0 ||| B i.rn 0 4 16 ||| B i.ra 0 4 12 ||| B i.rd 0 4 8 ||| B i.rm 0 4 0:=rfl
 rw[eo]
 refine (show ((B i.set 0 1 20 ||| B i.rn 0 4 16 ||| B i.ra 0 4 12 ||| B i.rd 0 4 8 ||| B i.rm 0 4 0:Nat):Int)=_ from ?_)
 refine ((fM i)).1.trans (congrArg (fun n:Nat=>(n:Int)) ?_)
 first
 | (simp only[gL g7,Nat.or_zero,Nat.zero_or]; done)
 | (simp only[gL g7,Nat.or_zero,Nat.zero_or]
    generalize B i.rn 0 4 16=n0
    generalize B i.ra 0 4 12=n1
    generalize B i.rd 0 4 8=n2
    generalize B i.rm 0 4 0=n3
    ac_rfl)
theorem Lz (i:IN) (hs:aa i.form=31) (hr:aI i (ch 31)) (hg:i.ar<=9223372036854775807):ai gT 131 [cX i] (.int .u32 ((eX i (aD 31):Nat):Int)):=by
 obtain⟨hf,h1,h2,h3,h4,h5,h6,h7,h8,h9,cV⟩:=hr
 have g0:=bD (r:=i.rd) h1
 have g1:=bD (r:=i.rn) h2
 have g2:=bD (r:=i.rm) h3
 have g3:=bD (r:=i.ra) h4
 have g4:i.az=0:=bQ h7
 have g5:i.kind=0:=(br rfl h9).1
 have g6:i.bG=0:=bQ (br rfl h9).2
 have g7:i.set=0:=h8.elim id fun e=>absurd (show false=true from e.2) Bool.false_ne_true
 have g8:i.cond=0:=h6.elim id fun e=>absurd (show false=true from e.1) Bool.false_ne_true
 clear h1 h2 h3 h4 h5 h6 h7 h8 h9 cV
 refine Spec.enter al kj 100 Tryz.func131 rfl (by kernel_rfl) ?_
 refine .inl ⟨ah (by omega),?_⟩
 refine .inl ⟨ah (by omega),?_⟩
 refine (ay hs).u ?_
 refine .inl ⟨ah (by omega),?_⟩
 refine⟨by decide,.inl ⟨ah (by rw[NL]; omega),?_⟩⟩
 refine .inl ⟨ah (by omega),?_⟩
 refine⟨by decide,.inl ⟨ah (by rw[NK]; omega),?_⟩⟩
 refine .inl ⟨ah (by omega),?_⟩
 refine⟨by decide,.inl ⟨ah (by rw[r8]; omega),?_⟩⟩
 refine .inl ⟨ah (by omega),?_⟩
 refine aw ?_
 have eo:eX i (aD 31)=0 ||| B i.rn 0 4 16 ||| B i.rd 0 4 12 ||| B i.ra 0 4 8 ||| B i.rm 0 4 0:=rfl
 rw[eo]
 refine (show bits .or .u32 (bits .or .u32 (bits .or .u32 (i.rn*Ev.aV .u32 16) (i.rd*Ev.aV .u32 12)) (i.ra*Ev.aV .u32 8)) (i.rm)=_ from ?_)
 refine ((((((((oS i.rn 4 16 (by decide) (by decide) (by omega))).or (oS i.rd 4 12 (by decide) (by decide) (by omega)))).or (oS i.ra 4 8 (by decide) (by decide) (by omega)))).or (rE i.rm 4 (by decide) (by omega)))).1.trans (congrArg (fun n:Nat=>(n:Int)) ?_)
 first
 | (simp only[Nat.or_zero,Nat.zero_or]; done)
 | (simp only[Nat.or_zero,Nat.zero_or]
    generalize B i.rn 0 4 16=n0
    generalize B i.rd 0 4 12=n1
    generalize B i.ra 0 4 8=n2
    generalize B i.rm 0 4 0=n3
    ac_rfl)
theorem LA (i:IN) (hs:aa i.form=32) (hr:aI i (ch 32)) (hg:i.ar<=9223372036854775807):ai gT 131 [cX i] (.int .u32 ((eX i (aD 32):Nat):Int)):=by
 obtain⟨hf,h1,h2,h3,h4,h5,h6,h7,h8,h9,cV⟩:=hr
 have g0:=bD (r:=i.rd) h1
 have g1:=aE (r:=i.rn) h2
 have g2:=bD (r:=i.rm) h3
 have g3:=aE (r:=i.ra) h4
 have g4:i.az=0:=bQ h7
 have g5:i.kind=0:=(br rfl h9).1
 have g6:i.bG=0:=bQ (br rfl h9).2
 have g7:i.set=0:=h8.elim id fun e=>absurd (show false=true from e.2) Bool.false_ne_true
 have g8:i.cond=0:=h6.elim id fun e=>absurd (show false=true from e.1) Bool.false_ne_true
 clear h1 h2 h3 h4 h5 h6 h7 h8 h9 cV
 refine Spec.enter al kj 100 Tryz.func131 rfl (by kernel_rfl) ?_
 refine .inl ⟨ah (by omega),?_⟩
 refine .inl ⟨ah (by omega),?_⟩
 refine (ay hs).u ?_
 refine .inl ⟨ah (by omega),?_⟩
 refine⟨by decide,.inl ⟨ah (by rw[NL]; omega),?_⟩⟩
 refine .inl ⟨ah (by omega),?_⟩
 refine⟨by decide,.inl ⟨ah (by rw[r8]; omega),?_⟩⟩
 refine .inl ⟨ah (by omega),?_⟩
 refine aw ?_
 have eo:eX i (aD 32)=0 ||| B i.rm 0 4 16 ||| B i.rd 0 4 8 ||| B i.rm 0 4 0:=rfl
 rw[eo]
 refine (show bits .or .u32 (bits .or .u32 (i.rm*Ev.aV .u32 16) (i.rd*Ev.aV .u32 8)) (i.rm)=_ from ?_)
 refine ((((((oS i.rm 4 16 (by decide) (by decide) (by omega))).or (oS i.rd 4 8 (by decide) (by decide) (by omega)))).or (rE i.rm 4 (by decide) (by omega)))).1.trans (congrArg (fun n:Nat=>(n:Int)) ?_)
 first
 | (simp only[Nat.or_zero,Nat.zero_or]; done)
 | (simp only[Nat.or_zero,Nat.zero_or]
    generalize B i.rm 0 4 16=n0
    generalize B i.rd 0 4 8=n1
    generalize B i.rm 0 4 0=n2
    ac_rfl)
theorem sQ (v c:Int) (hv:-1099511627776<=v) (hc:0<=c/\c < 16):ai gT 158 [.int .u32 (IntKind.u32.wrap v),.int .u32 c] (.int .u32 ((B v 20 1 26 ||| B c 0 4 22 ||| B v 12 6 16 ||| B v 18 1 13 ||| B v 19 1 11 ||| B v 1 11 0:Nat):Int)):=by
 have b0:=af v 20 1
 have b1:=af v 12 6
 have b2:=af v 18 1
 have b3:=af v 19 1
 have b4:=af v 1 11
 refine Spec.enter al P158 100 Tryz.func158 rfl (by kernel_rfl) ?_
 refine (pW v 20 1 (by omega) (by decide) (by decide) (by decide)).u ?_
 refine⟨by decide,.inl ⟨ah (by rw[r26]; omega),?_⟩⟩
 refine⟨by decide,.inl ⟨ah (by rw[r22]; omega),?_⟩⟩
 refine (pW v 12 6 (by omega) (by decide) (by decide) (by decide)).u ?_
 refine⟨by decide,.inl ⟨ah (by rw[NL]; omega),?_⟩⟩
 refine (pW v 18 1 (by omega) (by decide) (by decide) (by decide)).u ?_
 refine⟨by decide,.inl ⟨ah (by rw[r13]; omega),?_⟩⟩
 refine (pW v 19 1 (by omega) (by decide) (by decide) (by decide)).u ?_
 refine⟨by decide,.inl ⟨ah (by rw[r11]; omega),?_⟩⟩
 refine (pW v 1 11 (by omega) (by decide) (by decide) (by decide)).u ?_
 refine aw ?_
 exact (show bits .or .u32 (bits .or .u32 (bits .or .u32 (bits .or .u32 (bits .or .u32 (ab v 20 1*Ev.aV .u32 26) (c*Ev.aV .u32 22)) (ab v 12 6*Ev.aV .u32 16)) (ab v 18 1*Ev.aV .u32 13)) (ab v 19 1*Ev.aV .u32 11)) (ab v 1 11)=_ from ((((((((((((ss v 20 1 26 (by decide) (by decide))).or (oS c 4 22 (by decide) (by decide) hc))).or (ss v 12 6 16 (by decide) (by decide)))).or (ss v 18 1 13 (by decide) (by decide)))).or (ss v 19 1 11 (by decide) (by decide)))).or (vh v 1 11 (by decide)))).1)
theorem LB (i:IN) (hs:aa i.form=33) (hr:aI i (ch 33)) (hg:i.ar<=9223372036854775807):ai gT 131 [cX i] (.int .u32 ((eX i (aD 33):Nat):Int)):=by
 obtain⟨hf,h1,h2,h3,h4,h5,h6,h7,h8,h9,cV⟩:=hr
 have g0:=aE (r:=i.rd) h1
 have g1:=aE (r:=i.rn) h2
 have g2:=aE (r:=i.rm) h3
 have g3:=aE (r:=i.ra) h4
 have g4:-1048576<=i.az/\i.az<=1048574/\i.az % 2=0:=fi (s:=2) (by decide) h7
 have g5:i.kind=0:=(br rfl h9).1
 have g6:i.bG=0:=bQ (br rfl h9).2
 have g7:i.set=0:=h8.elim id fun e=>absurd (show false=true from e.2) Bool.false_ne_true
 have g8:0<=i.cond/\i.cond<=13:=by rcases h6 with h6|h6<;>omega
 clear h1 h2 h3 h4 h5 h6 h7 h8 h9 cV
 refine Spec.enter al kj 100 Tryz.func131 rfl (by kernel_rfl) ?_
 refine .inr ?_
 refine .inl ⟨ah (by omega),?_⟩
 refine (ay hs).u ?_
 refine .inl ⟨ah (by omega),?_⟩
 refine (sQ i.az i.cond (by omega) (by omega)).u ?_
 refine aw ?_
 have eo:eX i (aD 33)=0 ||| B i.az 20 1 26 ||| B i.cond 0 4 22 ||| B i.az 12 6 16 ||| B i.az 18 1 13 ||| B i.az 19 1 11 ||| B i.az 1 11 0:=rfl
 rw[eo]
 refine (show _=_ from congrArg (fun n:Nat=>(n:Int)) ?_)
 simp only[Nat.zero_or]
theorem xC (v:Int) (hv:-1099511627776<=v):ab (bL (ab v 0 25) 2) 24 1=ab v 24 1/\ab (bL (ab v 0 25) 2) 12 10=ab v 12 10/\ab (bL (ab v 0 25) 2) 23 1=(if ab v 23 1=ab v 24 1 then 1 else 0)/\ab (bL (ab v 0 25) 2) 22 1=(if ab v 22 1=ab v 24 1 then 1 else 0)/\ab (bL (ab v 0 25) 2) 1 11=ab v 1 11:=by
 obtain⟨u,hu⟩:∃ u,u=if v < 0 then v+1099511627776 else v:=⟨_,rfl⟩
 have u0:0<=u:=by rw[hu]; split<;>omega
 obtain⟨n,hn⟩:∃ n,n=ab v 0 25:=⟨_,rfl⟩
 have e:n=u % 33554432:=by
  rw[hn]; unfold ab; rw[← hu]; omega
 have hb:0<=n/\n < 33554432:=by omega
 have c:=lJ hb
 have d:=nP hb
 rw[← hn]
 obtain⟨t,ht⟩:∃ t,t=bL n 2:=⟨_,rfl⟩
 rw[← ht] at c d ⊢
 have e1:ab v 24 1=n / 16777216:=by unfold ab; rw[← hu]; omega
 have e2:ab v 23 1=n / 8388608 % 2:=by unfold ab; rw[← hu]; omega
 have e3:ab v 22 1=n / 4194304 % 2:=by unfold ab; rw[← hu]; omega
 have e4:ab v 12 10=n % 4194304 / 4096:=by unfold ab; rw[← hu]; omega
 have e5:ab v 1 11=n % 4194304 / 2 % 2048:=by unfold ab; rw[← hu]; omega
 have f1:ab t 24 1=t / 16777216:=by unfold ab; rw[if_neg (by omega)]; omega
 have f2:ab t 23 1=t / 8388608 % 2:=by unfold ab; rw[if_neg (by omega)]; omega
 have f3:ab t 22 1=t / 4194304 % 2:=by unfold ab; rw[if_neg (by omega)]; omega
 have f4:ab t 12 10=t % 4194304 / 4096:=by unfold ab; rw[if_neg (by omega)]; omega
 have f5:ab t 1 11=t % 4194304 / 2 % 2048:=by unfold ab; rw[if_neg (by omega)]; omega
 have e6:n / 16777216 % 2=n / 16777216:=by omega
 rw[e1,e2,e3,e4,e5,f1,f2,f3,f4,f5,c.1,c.2.1]
 rw[e6] at c
 exact⟨rfl,rfl,c.2.2.2,c.2.2.1,rfl⟩
theorem GR (a b:Int):∃ m:Int,m=(if a=b then 1 else 0)/\0<=m/\m < 2:=⟨_,rfl,by split<;>omega,by split<;>omega⟩
theorem sR (v:Int) (hv:-1099511627776<=v):ai gT 159 [.int .u32 (IntKind.u32.wrap v)] (.int .u32 ((B (bL (ab v 0 25) 2) 24 1 26 ||| B (bL (ab v 0 25) 2) 12 10 16 ||| B (bL (ab v 0 25) 2) 23 1 13 ||| B (bL (ab v 0 25) 2) 22 1 11 ||| B (bL (ab v 0 25) 2) 1 11 0:Nat):Int)):=by
 obtain⟨t1,t2,t3,t4,t5⟩:=xC v hv
 have s2:=lM (ab v 23 1) (ab v 24 1) (j6 v 23) (j6 v 24)
 have s3:=lM (ab v 22 1) (ab v 24 1) (j6 v 22) (j6 v 24)
 obtain⟨m2,v7,c2⟩:=GR (ab v 23 1) (ab v 24 1)
 obtain⟨m3,Lk,c3⟩:=GR (ab v 22 1) (ab v 24 1)
 rw[← v7] at s2 t3
 rw[← Lk] at s3 t4
 have b0:=af v 24 1
 have b1:=af v 12 10
 have b2:=af v 1 11
 refine Spec.enter al P159 100 Tryz.func159 rfl (by kernel_rfl) ?_
 refine (pW v 24 1 (by omega) (by decide) (by decide) (by decide)).u ?_
 refine⟨by decide,.inl ⟨ah (by rw[r26]; omega),?_⟩⟩
 refine (pW v 12 10 (by omega) (by decide) (by decide) (by decide)).u ?_
 refine⟨by decide,.inl ⟨ah (by rw[NL]; omega),?_⟩⟩
 refine (pW v 23 1 (by omega) (by decide) (by decide) (by decide)).u ?_
 refine s2.u ?_
 refine⟨by decide,.inl ⟨ah (by rw[r13]; omega),?_⟩⟩
 refine (pW v 22 1 (by omega) (by decide) (by decide) (by decide)).u ?_
 refine s3.u ?_
 refine⟨by decide,.inl ⟨ah (by rw[r11]; omega),?_⟩⟩
 refine (pW v 1 11 (by omega) (by decide) (by decide) (by decide)).u ?_
 refine aw ?_
 have k1:yv (ab v 24 1*Ev.aV .u32 26) (B (bL (ab v 0 25) 2) 24 1 26):=by have:=ss (bL (ab v 0 25) 2) 24 1 26 (p:=Ev.aV .u32 26) (by decide) (by decide); rwa [t1] at this
 have k2:yv (ab v 12 10*Ev.aV .u32 16) (B (bL (ab v 0 25) 2) 12 10 16):=by have:=ss (bL (ab v 0 25) 2) 12 10 16 (p:=Ev.aV .u32 16) (by decide) (by decide); rwa [t2] at this
 have k3:yv (m2*Ev.aV .u32 13) (B (bL (ab v 0 25) 2) 23 1 13):=by have:=ss (bL (ab v 0 25) 2) 23 1 13 (p:=Ev.aV .u32 13) (by decide) (by decide); rwa [t3] at this
 have k4:yv (m3*Ev.aV .u32 11) (B (bL (ab v 0 25) 2) 22 1 11):=by have:=ss (bL (ab v 0 25) 2) 22 1 11 (p:=Ev.aV .u32 11) (by decide) (by decide); rwa [t4] at this
 have k5:yv (ab v 1 11) (B (bL (ab v 0 25) 2) 1 11 0):=by have:=vh (bL (ab v 0 25) 2) 1 11 (by decide); rwa [t5] at this
 exact (show bits .or .u32 (bits .or .u32 (bits .or .u32 (bits .or .u32 (ab v 24 1*Ev.aV .u32 26) (ab v 12 10*Ev.aV .u32 16)) (m2*Ev.aV .u32 13)) (m3*Ev.aV .u32 11)) (ab v 1 11)=_ from ((((k1.or k2).or k3).or k4).or k5).1)
theorem LC (i:IN) (hs:aa i.form=34) (hr:aI i (ch 34)) (hg:i.ar<=9223372036854775807):ai gT 131 [cX i] (.int .u32 ((eX (d_ i) (aD 34):Nat):Int)):=by
 obtain⟨hf,h1,h2,h3,h4,h5,h6,h7,h8,h9,cV⟩:=hr
 have g0:=aE (r:=i.rd) h1
 have g1:=aE (r:=i.rn) h2
 have g2:=aE (r:=i.rm) h3
 have g3:=aE (r:=i.ra) h4
 have g4:-16777216<=i.az/\i.az<=16777214/\i.az % 2=0:=fi (s:=2) (by decide) h7
 have g5:i.kind=0:=(br rfl h9).1
 have g6:i.bG=0:=bQ (br rfl h9).2
 have g7:i.set=0:=h8.elim id fun e=>absurd (show false=true from e.2) Bool.false_ne_true
 have g8:i.cond=0:=h6.elim id fun e=>absurd (show false=true from e.1) Bool.false_ne_true
 clear h1 h2 h3 h4 h5 h6 h7 h8 h9 cV
 have et:=Wn hs
 rw[et]
 refine Spec.enter al kj 100 Tryz.func131 rfl (by kernel_rfl) ?_
 refine .inr ?_
 refine .inl ⟨ah (by omega),?_⟩
 refine (ay hs).u ?_
 refine (sR i.az (by omega)).u ?_
 refine aw ?_
 have eo:eX {i with az:=bL (ab i.az 0 25) 2} (aD 34)=0 ||| B (bL (ab i.az 0 25) 2) 24 1 26 ||| B (bL (ab i.az 0 25) 2) 12 10 16 ||| B (bL (ab i.az 0 25) 2) 23 1 13 ||| B (bL (ab i.az 0 25) 2) 22 1 11 ||| B (bL (ab i.az 0 25) 2) 1 11 0:=rfl
 rw[eo]
 refine (show _=_ from congrArg (fun n:Nat=>(n:Int)) ?_)
 simp only[Nat.zero_or]
theorem iH:∀ (i:IN),kt (cX i) (cX i):=fun i=>⟨rfl,rfl,rfl,rfl,rfl,rfl,rfl,rfl,rfl,rfl,rfl,trivial⟩
theorem q2:Ev.aV .i64 2=4:=by decide
theorem q14:Ev.aV .i64 14=16384:=by decide
theorem q15:Ev.aV .i64 15=32768:=by decide
theorem zz (f w:Int) (hF:1<=f/\f<=100) (hs:aa f=1) (hw:a_ w):ai gT 103 [.int .i64 f,.int .u32 w] (cX (TQ f w)):=by
 have b0:=af w 6 5
 have b1:=af w 3 3
 have b2:=af w 0 3
 unfold TQ
 refine Spec.enter al kS 100 Tryz.func103 rfl (by kernel_rfl) ?_
 have h3:=tK hF hs
 have e:∀ x:Int,x=0+x*2 ^ 0:=fun x=>by omega
 refine (ay hs).u ?_
 refine (aR w 0 3 hw (by decide) (by decide)).u ?_
 refine (aR w 3 3 hw (by decide) (by decide)).u ?_
 refine (aR w 6 5 hw (by decide) (by decide)).u ?_
 refine⟨fun h1=>?_,fun h1=>?_⟩
 ·refine⟨[],bn,(fp 1 (0+ab w 6 5*2 ^ 0)).use (And.intro rfl (And.intro (e _) trivial)) rfl rfl ?_⟩
  refine aw ?_
  (repeat' first|exact trivial|exact rfl|exact e _|refine And.intro ?_ ?_)
  show (if 0+ab w 6 5*2 ^ 0=0/\((1:Int)=1\/(1:Int)=2) then (32:Int) else _)=if 1 < f/\0+ab w 6 5*2 ^ 0=0 then (32:Int) else 0+ab w 6 5*2 ^ 0
  have qw:¬ f=1:=h1
  (repeat' split)<;>omega
 ·refine aw ?_
  (repeat' first|exact trivial|exact rfl|exact e _|refine And.intro ?_ ?_)
  show ab w 6 5=if 1 < f/\0+ab w 6 5*2 ^ 0=0 then (32:Int) else 0+ab w 6 5*2 ^ 0
  have qw:¬ ¬ f=1:=h1
  (repeat' split)<;>omega
theorem zA (f w:Int) (hF:1<=f/\f<=100) (hs:aa f=2) (hw:a_ w):ai gT 103 [.int .i64 f,.int .u32 w] (cX (TR f w)):=by
 have b0:=af w 6 3
 have b1:=af w 3 3
 have b2:=af w 0 3
 unfold TR
 refine Spec.enter al kS 100 Tryz.func103 rfl (by kernel_rfl) ?_
 refine (ay hs).u ?_
 refine (mM ⟨f,0,0,0,0,0,0,0,0,0,0⟩ w hw).u ?_
 refine (aR w 6 3 hw (by decide) (by decide)).u ?_
 refine aw ?_
 (repeat' first|exact trivial|exact rfl|refine And.intro ?_ ?_)
 all_goals (show (_:Int)=_; (try dsimp only [bZ,cD]); first|omega|(unfold eY; omega))
theorem zB (f w:Int) (hF:1<=f/\f<=100) (hs:aa f=3) (hw:a_ w):ai gT 103 [.int .i64 f,.int .u32 w] (cX (TS f w)):=by
 have b0:=af w 6 3
 have b1:=af w 3 3
 have b2:=af w 0 3
 unfold TS
 refine Spec.enter al kS 100 Tryz.func103 rfl (by kernel_rfl) ?_
 refine (ay hs).u ?_
 refine (mM ⟨f,0,0,0,0,0,0,0,0,0,0⟩ w hw).u ?_
 refine (aR w 6 3 hw (by decide) (by decide)).u ?_
 refine aw ?_
 (repeat' first|exact trivial|exact rfl|refine And.intro ?_ ?_)
 all_goals (show (_:Int)=_; (try dsimp only [bZ,cD]); first|omega|(unfold eY; omega))
theorem zC (f w:Int) (hF:1<=f/\f<=100) (hs:aa f=4) (hw:a_ w):ai gT 103 [.int .i64 f,.int .u32 w] (cX (TT f w)):=by
 have b0:=af w 8 3
 have b1:=af w 0 8
 unfold TT
 refine Spec.enter al kS 100 Tryz.func103 rfl (by kernel_rfl) ?_
 refine (ay hs).u ?_
 refine (aR w 8 3 hw (by decide) (by decide)).u ?_
 refine (aR w 0 8 hw (by decide) (by decide)).u ?_
 refine aw ?_
 (repeat' first|exact trivial|exact rfl|refine And.intro ?_ ?_)
 all_goals (show (_:Int)=_; (try dsimp only [bZ,cD]); first|omega|(unfold eY; omega))
theorem zD (f w:Int) (hF:1<=f/\f<=100) (hs:aa f=5) (hw:a_ w):ai gT 103 [.int .i64 f,.int .u32 w] (cX (TU f w)):=by
 have b0:=af w 3 3
 have b1:=af w 0 3
 unfold TU
 refine Spec.enter al kS 100 Tryz.func103 rfl (by kernel_rfl) ?_
 refine (ay hs).u ?_
 refine (aR w 0 3 hw (by decide) (by decide)).u ?_
 refine (aR w 3 3 hw (by decide) (by decide)).u ?_
 refine aw ?_
 (repeat' first|exact trivial|exact rfl|refine And.intro ?_ ?_)
 all_goals (show (_:Int)=_; (try dsimp only [bZ,cD]); first|omega|(unfold eY; omega))
theorem zE (f w:Int) (hF:1<=f/\f<=100) (hs:aa f=6) (hw:a_ w):ai gT 103 [.int .i64 f,.int .u32 w] (cX (TV f w)):=by
 have b0:=af w 7 1
 have b1:=af w 3 4
 have b2:=af w 0 3
 unfold TV
 refine Spec.enter al kS 100 Tryz.func103 rfl (by kernel_rfl) ?_
 refine (ay hs).u ?_
 refine (aR w 7 1 hw (by decide) (by decide)).u ?_
 refine⟨by decide,.inl ⟨ao (by rw[q3]; omega),?_⟩⟩
 refine (aR w 0 3 hw (by decide) (by decide)).u ?_
 refine (aR w 3 4 hw (by decide) (by decide)).u ?_
 have e:bits .or .i64 (ab w 7 1*Ev.aV .i64 3) (ab w 0 3)=0+ab w 7 1*2 ^ 3+ab w 0 3*2 ^ 0:=by
  rw[q3,Rm.cN (ab w 7 1*8) (ab w 0 3) 3 (by omega) (by omega) (by omega) (by omega) (by omega) (by omega)]; omega
 refine aw ?_
 (repeat' first|exact trivial|exact rfl|exact e|refine And.intro ?_ ?_)
 all_goals (show (_:Int)=_; (try dsimp only [bZ,cD]); omega)
theorem zF (f w:Int) (hF:1<=f/\f<=100) (hs:aa f=7) (hw:a_ w):ai gT 103 [.int .i64 f,.int .u32 w] (cX (TW f w)):=by
 have b0:=af w 3 4
 unfold TW
 refine Spec.enter al kS 100 Tryz.func103 rfl (by kernel_rfl) ?_
 refine (ay hs).u ?_
 refine (aR w 3 4 hw (by decide) (by decide)).u ?_
 refine aw ?_
 (repeat' first|exact trivial|exact rfl|refine And.intro ?_ ?_)
 all_goals (show (_:Int)=_; (try dsimp only [bZ,cD]); first|omega|(unfold eY; omega))
theorem zG (f w:Int) (hF:1<=f/\f<=100) (hs:aa f=8) (hw:a_ w):ai gT 103 [.int .i64 f,.int .u32 w] (cX (TX f w)):=by
 have b0:=af w 8 3
 have b1:=af w 0 8
 unfold TX
 refine Spec.enter al kS 100 Tryz.func103 rfl (by kernel_rfl) ?_
 refine (ay hs).u ?_
 refine (aR w 8 3 hw (by decide) (by decide)).u ?_
 refine (aR w 0 8 hw (by decide) (by decide)).u ?_
 refine li ?_
 refine aw ?_
 (repeat' first|exact trivial|exact rfl|refine And.intro ?_ ?_)
 all_goals (show (_:Int)=_; (try dsimp only [bZ,cD]); first|omega|(unfold eY; omega))
theorem zH (f w:Int) (hF:1<=f/\f<=100) (hs:aa f=9) (hw:a_ w):ai gT 103 [.int .i64 f,.int .u32 w] (cX (TY f w)):=by
 have b0:=af w 6 5
 have b1:=af w 3 3
 have b2:=af w 0 3
 unfold TY
 refine Spec.enter al kS 100 Tryz.func103 rfl (by kernel_rfl) ?_
 refine (ay hs).u ?_
 refine (mM ⟨f,0,0,0,0,0,0,0,0,0,0⟩ w hw).u ?_
 refine (aR w 6 5 hw (by decide) (by decide)).u ?_
 refine li ?_
 refine aw ?_
 (repeat' first|exact trivial|exact rfl|refine And.intro ?_ ?_)
 all_goals (show (_:Int)=_; (try dsimp only [bZ,cD]); first|omega|(unfold eY; omega))
theorem xD (f w:Int) (hF:1<=f/\f<=100) (hs:aa f=10) (hw:a_ w):ai gT 103 [.int .i64 f,.int .u32 w] (cX (Gt f w)):=by
 have b0:=af w 0 7
 unfold Gt
 refine Spec.enter al kS 100 Tryz.func103 rfl (by kernel_rfl) ?_
 refine (ay hs).u ?_
 refine (aR w 0 7 hw (by decide) (by decide)).u ?_
 refine li ?_
 refine aw ?_
 (repeat' first|exact trivial|exact rfl|refine And.intro ?_ ?_)
 all_goals (show (_:Int)=_; (try dsimp only [bZ,cD]); first|omega|(unfold eY; omega))
theorem xE (f w:Int) (hF:1<=f/\f<=100) (hs:aa f=11) (hw:a_ w):ai gT 103 [.int .i64 f,.int .u32 w] (cX (Gu f w)):=by
 have b0:=af w 8 1
 have b1:=af w 0 8
 unfold Gu
 refine Spec.enter al kS 100 Tryz.func103 rfl (by kernel_rfl) ?_
 refine (ay hs).u ?_
 refine (aR w 8 1 hw (by decide) (by decide)).u ?_
 refine⟨by decide,.inl ⟨ao (by rw[q14]; omega),?_⟩⟩
 refine (aR w 0 8 hw (by decide) (by decide)).u ?_
 have e:bits .or .i64 (ab w 8 1*Ev.aV .i64 14) (ab w 0 8)=0+ab w 8 1*2 ^ 14+ab w 0 8*2 ^ 0:=by
  rw[q14,Rm.cN (ab w 8 1*16384) (ab w 0 8) 14 (by omega) (by omega) (by omega) (by omega) (by omega) (by omega)]; omega
 refine aw ?_
 (repeat' first|exact trivial|exact rfl|exact e|refine And.intro ?_ ?_)
 all_goals (show (_:Int)=_; (try dsimp only [bZ,cD]); omega)
theorem xF (f w:Int) (hF:1<=f/\f<=100) (hs:aa f=12) (hw:a_ w):ai gT 103 [.int .i64 f,.int .u32 w] (cX (Gv f w)):=by
 have b0:=af w 8 1
 have b1:=af w 0 8
 unfold Gv
 refine Spec.enter al kS 100 Tryz.func103 rfl (by kernel_rfl) ?_
 refine (ay hs).u ?_
 refine (aR w 8 1 hw (by decide) (by decide)).u ?_
 refine⟨by decide,.inl ⟨ao (by rw[q15]; omega),?_⟩⟩
 refine (aR w 0 8 hw (by decide) (by decide)).u ?_
 have e:bits .or .i64 (ab w 8 1*Ev.aV .i64 15) (ab w 0 8)=0+ab w 8 1*2 ^ 15+ab w 0 8*2 ^ 0:=by
  rw[q15,Rm.cN (ab w 8 1*32768) (ab w 0 8) 15 (by omega) (by omega) (by omega) (by omega) (by omega) (by omega)]; omega
 refine aw ?_
 (repeat' first|exact trivial|exact rfl|exact e|refine And.intro ?_ ?_)
 all_goals (show (_:Int)=_; (try dsimp only [bZ,cD]); omega)
theorem xG (f w:Int) (hF:1<=f/\f<=100) (hs:aa f=13) (hw:a_ w):ai gT 103 [.int .i64 f,.int .u32 w] (cX (Gw f w)):=by
 unfold Gw
 refine Spec.enter al kS 100 Tryz.func103 rfl (by kernel_rfl) ?_
 refine (ay hs).u ?_
 exact rA
theorem xH (f w:Int) (hF:1<=f/\f<=100) (hs:aa f=14) (hw:a_ w):ai gT 103 [.int .i64 f,.int .u32 w] (cX (Gy f w)):=by
 have b0:=af w 0 8
 unfold Gy
 refine Spec.enter al kS 100 Tryz.func103 rfl (by kernel_rfl) ?_
 refine (ay hs).u ?_
 refine (aR w 0 8 hw (by decide) (by decide)).u ?_
 refine aw ?_
 (repeat' first|exact trivial|exact rfl|refine And.intro ?_ ?_)
 all_goals (show (_:Int)=_; (try dsimp only [bZ,cD]); first|omega|(unfold eY; omega))
theorem xI (f w:Int) (hF:1<=f/\f<=100) (hs:aa f=15) (hw:a_ w):ai gT 103 [.int .i64 f,.int .u32 w] (cX (Gz f w)):=by
 have b0:=af w 8 4
 have b1:=af w 0 8
 unfold Gz
 refine Spec.enter al kS 100 Tryz.func103 rfl (by kernel_rfl) ?_
 refine (ay hs).u ?_
 refine (aR w 8 4 hw (by decide) (by decide)).u ?_
 refine (aR w 0 8 hw (by decide) (by decide)).u ?_
 refine⟨by decide,.inl ⟨ao (by rw[q1]; omega),?_⟩⟩
 refine⟨[],bn,(je (0+ab w 0 8*2 ^ 1) 8 (by decide) ⟨by omega,by omega⟩).use (And.intro (show ab w 0 8*Ev.aV .i64 1=_ by rw[q1]; omega) (And.intro rfl trivial)) rfl rfl ?_⟩
 refine aw ?_
 (repeat' first|exact trivial|exact rfl|refine And.intro ?_ ?_)
 all_goals (show (_:Int)=_; (try dsimp only [bZ,cD]); first|omega|(unfold eY; omega))
theorem xJ (f w:Int) (hF:1<=f/\f<=100) (hs:aa f=16) (hw:a_ w):ai gT 103 [.int .i64 f,.int .u32 w] (cX (GA f w)):=by
 have b0:=af w 0 11
 unfold GA
 refine Spec.enter al kS 100 Tryz.func103 rfl (by kernel_rfl) ?_
 refine (ay hs).u ?_
 refine (aR w 0 11 hw (by decide) (by decide)).u ?_
 refine⟨by decide,.inl ⟨ao (by rw[q1]; omega),?_⟩⟩
 refine⟨[],bn,(je (0+ab w 0 11*2 ^ 1) 11 (by decide) ⟨by omega,by omega⟩).use (And.intro (show ab w 0 11*Ev.aV .i64 1=_ by rw[q1]; omega) (And.intro rfl trivial)) rfl rfl ?_⟩
 refine aw ?_
 (repeat' first|exact trivial|exact rfl|refine And.intro ?_ ?_)
 all_goals (show (_:Int)=_; (try dsimp only [bZ,cD]); first|omega|(unfold eY; omega))
theorem sS (f w:Int) (hs:17<=aa f) (hw:a_ w):ai gT 103 [.int .i64 f,.int .u32 w] (cX ⟨f,0,0,0,0,0,0,0,0,0,0⟩):=by
 refine Spec.enter al kS 100 Tryz.func103 rfl (by kernel_rfl) ?_
 refine (fS f).u ?_
 iterate 15 (refine And.intro (fun h=>absurd (show aa f=_ from h) (by omega)) (fun _=>?_))
 exact rA
end Go.Proofs.YtlgkljpgagfndaaGreatDoor.Pw

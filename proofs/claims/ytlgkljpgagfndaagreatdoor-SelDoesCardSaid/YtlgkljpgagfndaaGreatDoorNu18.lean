/- What this claim is proved with: no condition. -/
import Derived.Test.YtlgkljpgagfndaaGreatDoorNu17
set_option maxRecDepth 100000
set_option maxHeartbeats 8000000
set_option linter.unusedVariables false
set_option linter.unusedSimpArgs false
namespace Go.Proofs.YtlgkljpgagfndaaGreatDoor.Pw
open Go Go.RowKit
theorem HN (i:IN) (hs:aa i.form=1) (hr:aJ i (cg 1)) (hg:i.av<=9223372036854775807):ai gT 132 [c9 i] (.int .u32 ((fi i (aC 1):Nat):Int)):=by
 obtain⟨hf,h1,h2,h3,h4,h5,h6,h7,h8,h9,cZ⟩:=hr
 have g0:=eW (r:=i.rd) h1
 have g1:=aE (r:=i.rn) h2
 have g2:=eW (r:=i.rm) h3
 have g3:=aE (r:=i.ra) h4
 have g4:0<=i.ay/\i.ay<=32/\i.ay % 1=0:=fw (s:=1) (by decide) h7
 have g5:i.kind=0:=(br rfl h9).1
 have g6:i.bF=0:=bQ (br rfl h9).2
 have g7:i.set=0:=h8.elim id fun e=>absurd (show false=true from e.2) Bool.false_ne_true
 have g8:i.cond=0:=h6.elim id fun e=>absurd (show false=true from e.1) Bool.false_ne_true
 clear h1 h2 h3 h4 h5 h6 h7 h8 h9 cZ
 have b0:=af i.ay 0 5
 refine Spec.enter al mA 100 Tryz.func132 rfl (by kernel_rfl) ?_
 refine .inl ⟨ah (by omega),?_⟩
 refine .inl ⟨ah (by omega),?_⟩
 refine .inl ⟨ah (by omega),?_⟩
 refine (az hs).u ?_
 refine (lP i.ay 0 5 (by unfold aY; omega) (by decide) (by decide)).u ?_
 refine⟨by decide,.inl ⟨ah (by rw[r6]; omega),?_⟩⟩
 refine⟨by decide,.inl ⟨ah (by rw[r3]; omega),?_⟩⟩
 refine ax ?_
 have eo:fi i (aC 1)=0 ||| B i.ay 0 5 6 ||| B i.rm 0 3 3 ||| B i.rd 0 3 0:=rfl
 rw[eo]
 refine (show bits .or .u32 (bits .or .u32 (ab i.ay 0 5*Ev.aV .u32 6) (i.rm*Ev.aV .u32 3)) (i.rd)=_ from ?_)
 refine ((((((tG i.ay 0 5 6 (by decide) (by decide))).or (pv i.rm 3 3 (by decide) (by decide) (by omega)))).or (sr i.rd 3 (by decide) (by omega)))).1.trans (congrArg (fun n:Nat=>(n:Int)) ?_)
 first
 | (simp only[Nat.or_zero,Nat.zero_or]; done)
 | (simp only[Nat.or_zero,Nat.zero_or]
    generalize B i.ay 0 5 6=n0
    generalize B i.rm 0 3 3=n1
    generalize B i.rd 0 3 0=n2
    ac_rfl)
theorem HO (i:IN) (hs:aa i.form=2) (hr:aJ i (cg 2)) (hg:i.av<=9223372036854775807):ai gT 132 [c9 i] (.int .u32 ((fi i (aC 2):Nat):Int)):=by
 obtain⟨hf,h1,h2,h3,h4,h5,h6,h7,h8,h9,cZ⟩:=hr
 have g0:=eW (r:=i.rd) h1
 have g1:=eW (r:=i.rn) h2
 have g2:=eW (r:=i.rm) h3
 have g3:=aE (r:=i.ra) h4
 have g4:i.ay=0:=bQ h7
 have g5:i.kind=0:=(br rfl h9).1
 have g6:i.bF=0:=bQ (br rfl h9).2
 have g7:i.set=0:=h8.elim id fun e=>absurd (show false=true from e.2) Bool.false_ne_true
 have g8:i.cond=0:=h6.elim id fun e=>absurd (show false=true from e.1) Bool.false_ne_true
 clear h1 h2 h3 h4 h5 h6 h7 h8 h9 cZ
 refine Spec.enter al mA 100 Tryz.func132 rfl (by kernel_rfl) ?_
 refine .inl ⟨ah (by omega),?_⟩
 refine .inl ⟨ah (by omega),?_⟩
 refine .inl ⟨ah (by omega),?_⟩
 refine (az hs).u ?_
 refine (ns i i.rm 3 (by omega) (by omega) (by omega) (by decide)).u ?_
 refine ax ?_
 have eo:fi i (aC 2)=0 ||| B i.rm 0 3 6 ||| B i.rn 0 3 3 ||| B i.rd 0 3 0:=rfl
 rw[eo]
 refine (show _=_ from congrArg (fun n:Nat=>(n:Int)) ?_)
 simp only[Nat.zero_or]
theorem HP (i:IN) (hs:aa i.form=3) (hr:aJ i (cg 3)) (hg:i.av<=9223372036854775807):ai gT 132 [c9 i] (.int .u32 ((fi i (aC 3):Nat):Int)):=by
 obtain⟨hf,h1,h2,h3,h4,h5,h6,h7,h8,h9,cZ⟩:=hr
 have g0:=eW (r:=i.rd) h1
 have g1:=eW (r:=i.rn) h2
 have g2:=aE (r:=i.rm) h3
 have g3:=aE (r:=i.ra) h4
 have g4:0<=i.ay/\i.ay<=7/\i.ay % 1=0:=fw (s:=1) (by decide) h7
 have g5:i.kind=0:=(br rfl h9).1
 have g6:i.bF=0:=bQ (br rfl h9).2
 have g7:i.set=0:=h8.elim id fun e=>absurd (show false=true from e.2) Bool.false_ne_true
 have g8:i.cond=0:=h6.elim id fun e=>absurd (show false=true from e.1) Bool.false_ne_true
 clear h1 h2 h3 h4 h5 h6 h7 h8 h9 cZ
 refine Spec.enter al mA 100 Tryz.func132 rfl (by kernel_rfl) ?_
 refine .inl ⟨ah (by omega),?_⟩
 refine .inl ⟨ah (by omega),?_⟩
 refine .inl ⟨ah (by omega),?_⟩
 refine (az hs).u ?_
 refine (ns i i.ay 3 (by omega) (by omega) (by omega) (by decide)).u ?_
 refine ax ?_
 have eo:fi i (aC 3)=0 ||| B i.ay 0 3 6 ||| B i.rn 0 3 3 ||| B i.rd 0 3 0:=rfl
 rw[eo]
 refine (show _=_ from congrArg (fun n:Nat=>(n:Int)) ?_)
 simp only[Nat.zero_or]
theorem HQ (i:IN) (hs:aa i.form=4) (hr:aJ i (cg 4)) (hg:i.av<=9223372036854775807):ai gT 132 [c9 i] (.int .u32 ((fi i (aC 4):Nat):Int)):=by
 obtain⟨hf,h1,h2,h3,h4,h5,h6,h7,h8,h9,cZ⟩:=hr
 have g0:=eW (r:=i.rd) h1
 have g1:=aE (r:=i.rn) h2
 have g2:=aE (r:=i.rm) h3
 have g3:=aE (r:=i.ra) h4
 have g4:0<=i.ay/\i.ay<=255/\i.ay % 1=0:=fw (s:=1) (by decide) h7
 have g5:i.kind=0:=(br rfl h9).1
 have g6:i.bF=0:=bQ (br rfl h9).2
 have g7:i.set=0:=h8.elim id fun e=>absurd (show false=true from e.2) Bool.false_ne_true
 have g8:i.cond=0:=h6.elim id fun e=>absurd (show false=true from e.1) Bool.false_ne_true
 clear h1 h2 h3 h4 h5 h6 h7 h8 h9 cZ
 refine Spec.enter al mA 100 Tryz.func132 rfl (by kernel_rfl) ?_
 refine .inl ⟨ah (by omega),?_⟩
 refine .inl ⟨ah (by omega),?_⟩
 refine .inl ⟨ah (by omega),?_⟩
 refine (az hs).u ?_
 refine⟨by decide,.inl ⟨ah (by rw[r8]; omega),?_⟩⟩
 refine ax ?_
 have eo:fi i (aC 4)=0 ||| B i.rd 0 3 8 ||| B i.ay 0 8 0:=rfl
 rw[eo]
 refine (show bits .or .u32 (i.rd*Ev.aV .u32 8) (i.ay)=_ from ?_)
 refine ((((pv i.rd 3 8 (by decide) (by decide) (by omega))).or (sr i.ay 8 (by decide) (by omega)))).1.trans (congrArg (fun n:Nat=>(n:Int)) ?_)
 first
 | (simp only[Nat.or_zero,Nat.zero_or]; done)
 | (simp only[Nat.or_zero,Nat.zero_or]
    generalize B i.rd 0 3 8=n0
    generalize B i.ay 0 8 0=n1
    ac_rfl)
theorem HR (i:IN) (hs:aa i.form=5) (hr:aJ i (cg 5)) (hg:i.av<=9223372036854775807):ai gT 132 [c9 i] (.int .u32 ((fi i (aC 5):Nat):Int)):=by
 obtain⟨hf,h1,h2,h3,h4,h5,h6,h7,h8,h9,cZ⟩:=hr
 have g0:=eW (r:=i.rd) h1
 have g1:=aE (r:=i.rn) h2
 have g2:=eW (r:=i.rm) h3
 have g3:=aE (r:=i.ra) h4
 have g4:i.ay=0:=bQ h7
 have g5:i.kind=0:=(br rfl h9).1
 have g6:i.bF=0:=bQ (br rfl h9).2
 have g7:i.set=0:=h8.elim id fun e=>absurd (show false=true from e.2) Bool.false_ne_true
 have g8:i.cond=0:=h6.elim id fun e=>absurd (show false=true from e.1) Bool.false_ne_true
 clear h1 h2 h3 h4 h5 h6 h7 h8 h9 cZ
 refine Spec.enter al mA 100 Tryz.func132 rfl (by kernel_rfl) ?_
 refine .inl ⟨ah (by omega),?_⟩
 refine .inl ⟨ah (by omega),?_⟩
 refine .inl ⟨ah (by omega),?_⟩
 refine (az hs).u ?_
 refine⟨by decide,.inl ⟨ah (by rw[r3]; omega),?_⟩⟩
 refine ax ?_
 have eo:fi i (aC 5)=0 ||| B i.rm 0 3 3 ||| B i.rd 0 3 0:=rfl
 rw[eo]
 refine (show bits .or .u32 (i.rm*Ev.aV .u32 3) (i.rd)=_ from ?_)
 refine ((((pv i.rm 3 3 (by decide) (by decide) (by omega))).or (sr i.rd 3 (by decide) (by omega)))).1.trans (congrArg (fun n:Nat=>(n:Int)) ?_)
 first
 | (simp only[Nat.or_zero,Nat.zero_or]; done)
 | (simp only[Nat.or_zero,Nat.zero_or]
    generalize B i.rm 0 3 3=n0
    generalize B i.rd 0 3 0=n1
    ac_rfl)
theorem HS (i:IN) (hs:aa i.form=6) (hr:aJ i (cg 6)) (hg:i.av<=9223372036854775807):ai gT 132 [c9 i] (.int .u32 ((fi i (aC 6):Nat):Int)):=by
 obtain⟨hf,h1,h2,h3,h4,h5,h6,h7,h8,h9,cZ⟩:=hr
 have g0:=mM (r:=i.rd) h1
 have g1:=aE (r:=i.rn) h2
 have g2:=mM (r:=i.rm) h3
 have g3:=aE (r:=i.ra) h4
 have g4:i.ay=0:=bQ h7
 have g5:i.kind=0:=(br rfl h9).1
 have g6:i.bF=0:=bQ (br rfl h9).2
 have g7:i.set=0:=h8.elim id fun e=>absurd (show false=true from e.2) Bool.false_ne_true
 have g8:i.cond=0:=h6.elim id fun e=>absurd (show false=true from e.1) Bool.false_ne_true
 clear h1 h2 h3 h4 h5 h6 h7 h8 h9 cZ
 have b0:=af i.rd 3 1
 have b1:=af i.rd 0 3
 refine Spec.enter al mA 100 Tryz.func132 rfl (by kernel_rfl) ?_
 refine .inl ⟨ah (by omega),?_⟩
 refine .inl ⟨ah (by omega),?_⟩
 refine .inl ⟨ah (by omega),?_⟩
 refine (az hs).u ?_
 refine (lP i.rd 3 1 (by unfold aY; omega) (by decide) (by decide)).u ?_
 refine⟨by decide,.inl ⟨ah (by rw[r7]; omega),?_⟩⟩
 refine⟨by decide,.inl ⟨ah (by rw[r3]; omega),?_⟩⟩
 refine (lP i.rd 0 3 (by unfold aY; omega) (by decide) (by decide)).u ?_
 refine ax ?_
 have eo:fi i (aC 6)=0 ||| B i.rd 3 1 7 ||| B i.rm 0 4 3 ||| B i.rd 0 3 0:=rfl
 rw[eo]
 refine (show bits .or .u32 (bits .or .u32 (ab i.rd 3 1*Ev.aV .u32 7) (i.rm*Ev.aV .u32 3)) (ab i.rd 0 3)=_ from ?_)
 refine ((((((tG i.rd 3 1 7 (by decide) (by decide))).or (pv i.rm 4 3 (by decide) (by decide) (by omega)))).or (wk i.rd 0 3 (by decide)))).1.trans (congrArg (fun n:Nat=>(n:Int)) ?_)
 first
 | (simp only[Nat.or_zero,Nat.zero_or]; done)
 | (simp only[Nat.or_zero,Nat.zero_or]
    generalize B i.rd 3 1 7=n0
    generalize B i.rm 0 4 3=n1
    generalize B i.rd 0 3 0=n2
    ac_rfl)
theorem HT (i:IN) (hs:aa i.form=7) (hr:aJ i (cg 7)) (hg:i.av<=9223372036854775807):ai gT 132 [c9 i] (.int .u32 ((fi i (aC 7):Nat):Int)):=by
 obtain⟨hf,h1,h2,h3,h4,h5,h6,h7,h8,h9,cZ⟩:=hr
 have g0:=aE (r:=i.rd) h1
 have g1:=aE (r:=i.rn) h2
 have g2:=mM (r:=i.rm) h3
 have g3:=aE (r:=i.ra) h4
 have g4:i.ay=0:=bQ h7
 have g5:i.kind=0:=(br rfl h9).1
 have g6:i.bF=0:=bQ (br rfl h9).2
 have g7:i.set=0:=h8.elim id fun e=>absurd (show false=true from e.2) Bool.false_ne_true
 have g8:i.cond=0:=h6.elim id fun e=>absurd (show false=true from e.1) Bool.false_ne_true
 clear h1 h2 h3 h4 h5 h6 h7 h8 h9 cZ
 refine Spec.enter al mA 100 Tryz.func132 rfl (by kernel_rfl) ?_
 refine .inl ⟨ah (by omega),?_⟩
 refine .inl ⟨ah (by omega),?_⟩
 refine .inl ⟨ah (by omega),?_⟩
 refine (az hs).u ?_
 refine⟨by decide,.inl ⟨ah (by rw[r3]; omega),?_⟩⟩
 refine ax ?_
 have eo:fi i (aC 7)=0 ||| B i.rm 0 4 3:=rfl
 rw[eo]
 refine (show i.rm*Ev.aV .u32 3=_ from ?_)
 refine ((pv i.rm 4 3 (by decide) (by decide) (by omega))).1.trans (congrArg (fun n:Nat=>(n:Int)) ?_)
 first
 | (simp only[Nat.or_zero,Nat.zero_or]; done)
 | (simp only[Nat.or_zero,Nat.zero_or]
    generalize B i.rm 0 4 3=n0
    ac_rfl)
theorem HU (i:IN) (hs:aa i.form=8) (hr:aJ i (cg 8)) (hg:i.av<=9223372036854775807):ai gT 132 [c9 i] (.int .u32 ((fi i (aC 8):Nat):Int)):=by
 obtain⟨hf,h1,h2,h3,h4,h5,h6,h7,h8,h9,cZ⟩:=hr
 have g0:=eW (r:=i.rd) h1
 have g1:=aE (r:=i.rn) h2
 have g2:=aE (r:=i.rm) h3
 have g3:=aE (r:=i.ra) h4
 have g4:0<=i.ay/\i.ay<=1020/\i.ay % 4=0:=fw (s:=4) (by decide) h7
 have g5:i.kind=0:=(br rfl h9).1
 have g6:i.bF=0:=bQ (br rfl h9).2
 have g7:i.set=0:=h8.elim id fun e=>absurd (show false=true from e.2) Bool.false_ne_true
 have g8:i.cond=0:=h6.elim id fun e=>absurd (show false=true from e.1) Bool.false_ne_true
 clear h1 h2 h3 h4 h5 h6 h7 h8 h9 cZ
 refine Spec.enter al mA 100 Tryz.func132 rfl (by kernel_rfl) ?_
 refine .inl ⟨ah (by omega),?_⟩
 refine .inl ⟨ah (by omega),?_⟩
 refine .inl ⟨ah (by omega),?_⟩
 refine (az hs).u ?_
 refine⟨by decide,.inl ⟨ah (by rw[r8]; omega),?_⟩⟩
 refine⟨by decide,.inl ⟨by omega,by first|exact (show (_:Int)<=4294967295 by omega)|omega,by decide,?_⟩⟩
 refine ax ?_
 have eo:fi i (aC 8)=0 ||| B i.rd 0 3 8 ||| B i.ay 2 8 0:=rfl
 rw[eo]
 refine (show bits .or .u32 (i.rd*Ev.aV .u32 8) (i.ay / 4)=_ from ?_)
 refine ((((pv i.rd 3 8 (by decide) (by decide) (by omega))).or (isD i.ay 8 (by decide) (by omega) (by omega)))).1.trans (congrArg (fun n:Nat=>(n:Int)) ?_)
 first
 | (simp only[Nat.or_zero,Nat.zero_or]; done)
 | (simp only[Nat.or_zero,Nat.zero_or]
    generalize B i.rd 0 3 8=n0
    generalize B i.ay 2 8 0=n1
    ac_rfl)
theorem HV (i:IN) (hs:aa i.form=9) (hr:aJ i (cg 9)) (hg:i.av<=9223372036854775807):ai gT 132 [c9 i] (.int .u32 ((fi i (aC 9):Nat):Int)):=by
 obtain⟨hf,h1,h2,h3,h4,h5,h6,h7,h8,h9,cZ⟩:=hr
 have g0:=eW (r:=i.rd) h1
 have g1:=eW (r:=i.rn) h2
 have g2:=aE (r:=i.rm) h3
 have g3:=aE (r:=i.ra) h4
 have g4:0<=i.ay/\i.ay<=124/\i.ay % 4=0:=fw (s:=4) (by decide) h7
 have g5:i.kind=0:=(br rfl h9).1
 have g6:i.bF=0:=bQ (br rfl h9).2
 have g7:i.set=0:=h8.elim id fun e=>absurd (show false=true from e.2) Bool.false_ne_true
 have g8:i.cond=0:=h6.elim id fun e=>absurd (show false=true from e.1) Bool.false_ne_true
 clear h1 h2 h3 h4 h5 h6 h7 h8 h9 cZ
 refine Spec.enter al mA 100 Tryz.func132 rfl (by kernel_rfl) ?_
 refine .inl ⟨ah (by omega),?_⟩
 refine .inl ⟨ah (by omega),?_⟩
 refine .inl ⟨ah (by omega),?_⟩
 refine (az hs).u ?_
 refine⟨by decide,.inl ⟨by omega,by first|exact (show (_:Int)<=4294967295 by omega)|omega,by decide,?_⟩⟩
 refine (ns i (i.ay / 4) 5 (by omega) (by omega) (by omega) (by decide)).u ?_
 refine ax ?_
 have eo:fi i (aC 9)=0 ||| B i.ay 2 5 6 ||| B i.rn 0 3 3 ||| B i.rd 0 3 0:=rfl
 rw[eo]
 refine (show _=_ from congrArg (fun n:Nat=>(n:Int)) ?_)
 rw[Pd (by omega)]; simp only[Nat.zero_or]
theorem DP (i:IN) (hs:aa i.form=10) (hr:aJ i (cg 10)) (hg:i.av<=9223372036854775807):ai gT 132 [c9 i] (.int .u32 ((fi i (aC 10):Nat):Int)):=by
 obtain⟨hf,h1,h2,h3,h4,h5,h6,h7,h8,h9,cZ⟩:=hr
 have g0:=aE (r:=i.rd) h1
 have g1:=aE (r:=i.rn) h2
 have g2:=aE (r:=i.rm) h3
 have g3:=aE (r:=i.ra) h4
 have g4:0<=i.ay/\i.ay<=508/\i.ay % 4=0:=fw (s:=4) (by decide) h7
 have g5:i.kind=0:=(br rfl h9).1
 have g6:i.bF=0:=bQ (br rfl h9).2
 have g7:i.set=0:=h8.elim id fun e=>absurd (show false=true from e.2) Bool.false_ne_true
 have g8:i.cond=0:=h6.elim id fun e=>absurd (show false=true from e.1) Bool.false_ne_true
 clear h1 h2 h3 h4 h5 h6 h7 h8 h9 cZ
 refine Spec.enter al mA 100 Tryz.func132 rfl (by kernel_rfl) ?_
 refine .inl ⟨ah (by omega),?_⟩
 refine .inl ⟨ah (by omega),?_⟩
 refine .inl ⟨ah (by omega),?_⟩
 refine (az hs).u ?_
 refine⟨by decide,.inl ⟨by omega,by first|exact (show (_:Int)<=4294967295 by omega)|omega,by decide,?_⟩⟩
 refine ax ?_
 have eo:fi i (aC 10)=0 ||| B i.ay 2 7 0:=rfl
 rw[eo]
 refine (show i.ay / 4=_ from ?_)
 refine ((isD i.ay 7 (by decide) (by omega) (by omega))).1.trans (congrArg (fun n:Nat=>(n:Int)) ?_)
 first
 | (simp only[Nat.or_zero,Nat.zero_or]; done)
 | (simp only[Nat.or_zero,Nat.zero_or]
    generalize B i.ay 2 7 0=n0
    ac_rfl)
theorem DQ (i:IN) (hs:aa i.form=11) (hr:aJ i (cg 11)) (hg:i.av<=9223372036854775807):ai gT 132 [c9 i] (.int .u32 ((fi i (aC 11):Nat):Int)):=by
 obtain⟨hf,h1,h2,h3,h4,h5,h6,h7,h8,h9,cZ⟩:=hr
 have g0:=aE (r:=i.rd) h1
 have g1:=aE (r:=i.rn) h2
 have g2:=aE (r:=i.rm) h3
 have g3:=aE (r:=i.ra) h4
 have g4:i.ay=0:=bQ h7
 have g5:i.kind=0:=(br rfl h9).1
 have g6:i.bF=0:=bQ (br rfl h9).2
 have g7:i.set=0:=h8.elim id fun e=>absurd (show false=true from e.2) Bool.false_ne_true
 have g8:i.cond=0:=h6.elim id fun e=>absurd (show false=true from e.1) Bool.false_ne_true
 have g9:0 < i.av/\i.av / 16384 % 2*16384+i.av % 256=i.av:=BV 14 (by decide) (by decide) rfl h5 hg
 clear h1 h2 h3 h4 h5 h6 h7 h8 h9 cZ
 have b0:=af i.av 14 1
 have b1:=af i.av 0 8
 refine Spec.enter al mA 100 Tryz.func132 rfl (by kernel_rfl) ?_
 refine .inl ⟨ah (by omega),?_⟩
 refine .inl ⟨ah (by omega),?_⟩
 refine .inl ⟨ah (by omega),?_⟩
 refine (az hs).u ?_
 repeat (refine Or.inl (And.intro (ah (by omega)) ?_))
 refine (lP i.av 14 1 (by unfold aY; omega) (by decide) (by decide)).u ?_
 refine⟨by decide,.inl ⟨ah (by rw[r8]; omega),?_⟩⟩
 repeat (refine Or.inl (And.intro (ah (by omega)) ?_))
 refine (lP i.av 0 8 (by unfold aY; omega) (by decide) (by decide)).u ?_
 refine ax ?_
 have eo:fi i (aC 11)=0 ||| B i.av 14 1 8 ||| B i.av 0 8 0:=rfl
 rw[eo]
 refine (show bits .or .u32 (ab i.av 14 1*Ev.aV .u32 8) (ab i.av 0 8)=_ from ?_)
 refine ((((tG i.av 14 1 8 (by decide) (by decide))).or (wk i.av 0 8 (by decide)))).1.trans (congrArg (fun n:Nat=>(n:Int)) ?_)
 first
 | (simp only[Nat.or_zero,Nat.zero_or]; done)
 | (simp only[Nat.or_zero,Nat.zero_or]
    generalize B i.av 14 1 8=n0
    generalize B i.av 0 8 0=n1
    ac_rfl)
theorem DS (i:IN) (hs:aa i.form=12) (hr:aJ i (cg 12)) (hg:i.av<=9223372036854775807):ai gT 132 [c9 i] (.int .u32 ((fi i (aC 12):Nat):Int)):=by
 obtain⟨hf,h1,h2,h3,h4,h5,h6,h7,h8,h9,cZ⟩:=hr
 have g0:=aE (r:=i.rd) h1
 have g1:=aE (r:=i.rn) h2
 have g2:=aE (r:=i.rm) h3
 have g3:=aE (r:=i.ra) h4
 have g4:i.ay=0:=bQ h7
 have g5:i.kind=0:=(br rfl h9).1
 have g6:i.bF=0:=bQ (br rfl h9).2
 have g7:i.set=0:=h8.elim id fun e=>absurd (show false=true from e.2) Bool.false_ne_true
 have g8:i.cond=0:=h6.elim id fun e=>absurd (show false=true from e.1) Bool.false_ne_true
 have g9:0 < i.av/\i.av / 32768 % 2*32768+i.av % 256=i.av:=BV 15 (by decide) (by decide) rfl h5 hg
 clear h1 h2 h3 h4 h5 h6 h7 h8 h9 cZ
 have b0:=af i.av 15 1
 have b1:=af i.av 0 8
 refine Spec.enter al mA 100 Tryz.func132 rfl (by kernel_rfl) ?_
 refine .inl ⟨ah (by omega),?_⟩
 refine .inl ⟨ah (by omega),?_⟩
 refine .inl ⟨ah (by omega),?_⟩
 refine (az hs).u ?_
 repeat (refine Or.inl (And.intro (ah (by omega)) ?_))
 refine (lP i.av 15 1 (by unfold aY; omega) (by decide) (by decide)).u ?_
 refine⟨by decide,.inl ⟨ah (by rw[r8]; omega),?_⟩⟩
 repeat (refine Or.inl (And.intro (ah (by omega)) ?_))
 refine (lP i.av 0 8 (by unfold aY; omega) (by decide) (by decide)).u ?_
 refine ax ?_
 have eo:fi i (aC 12)=0 ||| B i.av 15 1 8 ||| B i.av 0 8 0:=rfl
 rw[eo]
 refine (show bits .or .u32 (ab i.av 15 1*Ev.aV .u32 8) (ab i.av 0 8)=_ from ?_)
 refine ((((tG i.av 15 1 8 (by decide) (by decide))).or (wk i.av 0 8 (by decide)))).1.trans (congrArg (fun n:Nat=>(n:Int)) ?_)
 first
 | (simp only[Nat.or_zero,Nat.zero_or]; done)
 | (simp only[Nat.or_zero,Nat.zero_or]
    generalize B i.av 15 1 8=n0
    generalize B i.av 0 8 0=n1
    ac_rfl)
theorem DT (i:IN) (hs:aa i.form=13) (hr:aJ i (cg 13)) (hg:i.av<=9223372036854775807):ai gT 132 [c9 i] (.int .u32 ((fi i (aC 13):Nat):Int)):=by
 obtain⟨hf,h1,h2,h3,h4,h5,h6,h7,h8,h9,cZ⟩:=hr
 have g0:=aE (r:=i.rd) h1
 have g1:=aE (r:=i.rn) h2
 have g2:=aE (r:=i.rm) h3
 have g3:=aE (r:=i.ra) h4
 have g4:i.ay=0:=bQ h7
 have g5:i.kind=0:=(br rfl h9).1
 have g6:i.bF=0:=bQ (br rfl h9).2
 have g7:i.set=0:=h8.elim id fun e=>absurd (show false=true from e.2) Bool.false_ne_true
 have g8:i.cond=0:=h6.elim id fun e=>absurd (show false=true from e.1) Bool.false_ne_true
 clear h1 h2 h3 h4 h5 h6 h7 h8 h9 cZ
 refine Spec.enter al mA 100 Tryz.func132 rfl (by kernel_rfl) ?_
 refine .inl ⟨ah (by omega),?_⟩
 refine .inl ⟨ah (by omega),?_⟩
 refine .inl ⟨ah (by omega),?_⟩
 refine (az hs).u ?_
 exact ax rfl
theorem DU (i:IN) (hs:aa i.form=14) (hr:aJ i (cg 14)) (hg:i.av<=9223372036854775807):ai gT 132 [c9 i] (.int .u32 ((fi i (aC 14):Nat):Int)):=by
 obtain⟨hf,h1,h2,h3,h4,h5,h6,h7,h8,h9,cZ⟩:=hr
 have g0:=aE (r:=i.rd) h1
 have g1:=aE (r:=i.rn) h2
 have g2:=aE (r:=i.rm) h3
 have g3:=aE (r:=i.ra) h4
 have g4:0<=i.ay/\i.ay<=255/\i.ay % 1=0:=fw (s:=1) (by decide) h7
 have g5:i.kind=0:=(br rfl h9).1
 have g6:i.bF=0:=bQ (br rfl h9).2
 have g7:i.set=0:=h8.elim id fun e=>absurd (show false=true from e.2) Bool.false_ne_true
 have g8:i.cond=0:=h6.elim id fun e=>absurd (show false=true from e.1) Bool.false_ne_true
 clear h1 h2 h3 h4 h5 h6 h7 h8 h9 cZ
 refine Spec.enter al mA 100 Tryz.func132 rfl (by kernel_rfl) ?_
 refine .inl ⟨ah (by omega),?_⟩
 refine .inl ⟨ah (by omega),?_⟩
 refine .inl ⟨ah (by omega),?_⟩
 refine (az hs).u ?_
 refine ax ?_
 have eo:fi i (aC 14)=0 ||| B i.ay 0 8 0:=rfl
 rw[eo]
 refine (show i.ay=_ from ?_)
 refine ((sr i.ay 8 (by decide) (by omega))).1.trans (congrArg (fun n:Nat=>(n:Int)) ?_)
 first
 | (simp only[Nat.or_zero,Nat.zero_or]; done)
 | (simp only[Nat.or_zero,Nat.zero_or]
    generalize B i.ay 0 8 0=n0
    ac_rfl)
theorem DV (i:IN) (hs:aa i.form=15) (hr:aJ i (cg 15)) (hg:i.av<=9223372036854775807):ai gT 132 [c9 i] (.int .u32 ((fi i (aC 15):Nat):Int)):=by
 obtain⟨hf,h1,h2,h3,h4,h5,h6,h7,h8,h9,cZ⟩:=hr
 have g0:=aE (r:=i.rd) h1
 have g1:=aE (r:=i.rn) h2
 have g2:=aE (r:=i.rm) h3
 have g3:=aE (r:=i.ra) h4
 have g4:-256<=i.ay/\i.ay<=254/\i.ay % 2=0:=fw (s:=2) (by decide) h7
 have g5:i.kind=0:=(br rfl h9).1
 have g6:i.bF=0:=bQ (br rfl h9).2
 have g7:i.set=0:=h8.elim id fun e=>absurd (show false=true from e.2) Bool.false_ne_true
 have g8:0<=i.cond/\i.cond<=13:=by rcases h6 with h6|h6<;>omega
 clear h1 h2 h3 h4 h5 h6 h7 h8 h9 cZ
 have b0:=af i.ay 1 8
 refine Spec.enter al mA 100 Tryz.func132 rfl (by kernel_rfl) ?_
 refine .inr ?_
 refine .inl ⟨ah (by omega),?_⟩
 refine .inl ⟨ah (by omega),?_⟩
 refine (az hs).u ?_
 refine .inl ⟨ah (by omega),?_⟩
 refine⟨by decide,.inl ⟨ah (by rw[r8]; omega),?_⟩⟩
 refine (qw i.ay 1 8 (by omega) (by decide) (by decide) (by decide)).u ?_
 refine ax ?_
 have eo:fi i (aC 15)=0 ||| B i.cond 0 4 8 ||| B i.ay 1 8 0:=rfl
 rw[eo]
 refine (show bits .or .u32 (i.cond*Ev.aV .u32 8) (ab i.ay 1 8)=_ from ?_)
 refine ((((pv i.cond 4 8 (by decide) (by decide) (by omega))).or (wk i.ay 1 8 (by decide)))).1.trans (congrArg (fun n:Nat=>(n:Int)) ?_)
 first
 | (simp only[Nat.or_zero,Nat.zero_or]; done)
 | (simp only[Nat.or_zero,Nat.zero_or]
    generalize B i.cond 0 4 8=n0
    generalize B i.ay 1 8 0=n1
    ac_rfl)
theorem DW (i:IN) (hs:aa i.form=16) (hr:aJ i (cg 16)) (hg:i.av<=9223372036854775807):ai gT 132 [c9 i] (.int .u32 ((fi i (aC 16):Nat):Int)):=by
 obtain⟨hf,h1,h2,h3,h4,h5,h6,h7,h8,h9,cZ⟩:=hr
 have g0:=aE (r:=i.rd) h1
 have g1:=aE (r:=i.rn) h2
 have g2:=aE (r:=i.rm) h3
 have g3:=aE (r:=i.ra) h4
 have g4:-2048<=i.ay/\i.ay<=2046/\i.ay % 2=0:=fw (s:=2) (by decide) h7
 have g5:i.kind=0:=(br rfl h9).1
 have g6:i.bF=0:=bQ (br rfl h9).2
 have g7:i.set=0:=h8.elim id fun e=>absurd (show false=true from e.2) Bool.false_ne_true
 have g8:i.cond=0:=h6.elim id fun e=>absurd (show false=true from e.1) Bool.false_ne_true
 clear h1 h2 h3 h4 h5 h6 h7 h8 h9 cZ
 have b0:=af i.ay 1 11
 refine Spec.enter al mA 100 Tryz.func132 rfl (by kernel_rfl) ?_
 refine .inr ?_
 refine .inl ⟨ah (by omega),?_⟩
 refine .inl ⟨ah (by omega),?_⟩
 refine (az hs).u ?_
 refine (qw i.ay 1 11 (by omega) (by decide) (by decide) (by decide)).u ?_
 refine ax ?_
 have eo:fi i (aC 16)=0 ||| B i.ay 1 11 0:=rfl
 rw[eo]
 refine (show ab i.ay 1 11=_ from ?_)
 refine ((wk i.ay 1 11 (by decide))).1.trans (congrArg (fun n:Nat=>(n:Int)) ?_)
 first
 | (simp only[Nat.or_zero,Nat.zero_or]; done)
 | (simp only[Nat.or_zero,Nat.zero_or]
    generalize B i.ay 1 11 0=n0
    ac_rfl)
end Go.Proofs.YtlgkljpgagfndaaGreatDoor.Pw

/- What this claim is proved with: no condition. -/
import Derived.Test.YtlgkljpgagfndaaGreatDoorNv17
set_option maxRecDepth 100000
set_option maxHeartbeats 8000000
set_option linter.unusedVariables false
set_option linter.unusedSimpArgs false
namespace Go.Proofs.YtlgkljpgagfndaaGreatDoor.Pw
open Go Go.RowKit
theorem GS (i:IN) (hs:aa i.form=1) (hr:aI i (ch 1)) (hg:i.ar<=9223372036854775807):ai gT 132 [cX i] (.int .u32 ((eX i (aD 1):Nat):Int)):=by
 obtain⟨hf,h1,h2,h3,h4,h5,h6,h7,h8,h9,cV⟩:=hr
 have g0:=eJ (r:=i.rd) h1
 have g1:=aE (r:=i.rn) h2
 have g2:=eJ (r:=i.rm) h3
 have g3:=aE (r:=i.ra) h4
 have g4:0<=i.az/\i.az<=32/\i.az % 1=0:=fi (s:=1) (by decide) h7
 have g5:i.kind=0:=(br rfl h9).1
 have g6:i.bG=0:=bQ (br rfl h9).2
 have g7:i.set=0:=h8.elim id fun e=>absurd (show false=true from e.2) Bool.false_ne_true
 have g8:i.cond=0:=h6.elim id fun e=>absurd (show false=true from e.1) Bool.false_ne_true
 clear h1 h2 h3 h4 h5 h6 h7 h8 h9 cV
 have b0:=af i.az 0 5
 refine Spec.enter al lW 100 Tryz.func132 rfl (by kernel_rfl) ?_
 refine .inl ⟨ah (by omega),?_⟩
 refine .inl ⟨ah (by omega),?_⟩
 refine .inl ⟨ah (by omega),?_⟩
 refine (ay hs).u ?_
 refine (k8 i.az 0 5 (by unfold a_; omega) (by decide) (by decide)).u ?_
 refine⟨by decide,.inl ⟨ah (by rw[r6]; omega),?_⟩⟩
 refine⟨by decide,.inl ⟨ah (by rw[r3]; omega),?_⟩⟩
 refine aw ?_
 have eo:eX i (aD 1)=0 ||| B i.az 0 5 6 ||| B i.rm 0 3 3 ||| B i.rd 0 3 0:=rfl
 rw[eo]
 refine (show bits .or .u32 (bits .or .u32 (ab i.az 0 5*Ev.aV .u32 6) (i.rm*Ev.aV .u32 3)) (i.rd)=_ from ?_)
 refine ((((((ss i.az 0 5 6 (by decide) (by decide))).or (oS i.rm 3 3 (by decide) (by decide) (by omega)))).or (rE i.rd 3 (by decide) (by omega)))).1.trans (congrArg (fun n:Nat=>(n:Int)) ?_)
 first
 | (simp only[Nat.or_zero,Nat.zero_or]; done)
 | (simp only[Nat.or_zero,Nat.zero_or]
    generalize B i.az 0 5 6=n0
    generalize B i.rm 0 3 3=n1
    generalize B i.rd 0 3 0=n2
    ac_rfl)
theorem GU (i:IN) (hs:aa i.form=2) (hr:aI i (ch 2)) (hg:i.ar<=9223372036854775807):ai gT 132 [cX i] (.int .u32 ((eX i (aD 2):Nat):Int)):=by
 obtain⟨hf,h1,h2,h3,h4,h5,h6,h7,h8,h9,cV⟩:=hr
 have g0:=eJ (r:=i.rd) h1
 have g1:=eJ (r:=i.rn) h2
 have g2:=eJ (r:=i.rm) h3
 have g3:=aE (r:=i.ra) h4
 have g4:i.az=0:=bQ h7
 have g5:i.kind=0:=(br rfl h9).1
 have g6:i.bG=0:=bQ (br rfl h9).2
 have g7:i.set=0:=h8.elim id fun e=>absurd (show false=true from e.2) Bool.false_ne_true
 have g8:i.cond=0:=h6.elim id fun e=>absurd (show false=true from e.1) Bool.false_ne_true
 clear h1 h2 h3 h4 h5 h6 h7 h8 h9 cV
 refine Spec.enter al lW 100 Tryz.func132 rfl (by kernel_rfl) ?_
 refine .inl ⟨ah (by omega),?_⟩
 refine .inl ⟨ah (by omega),?_⟩
 refine .inl ⟨ah (by omega),?_⟩
 refine (ay hs).u ?_
 refine (mO i i.rm 3 (by omega) (by omega) (by omega) (by decide)).u ?_
 refine aw ?_
 have eo:eX i (aD 2)=0 ||| B i.rm 0 3 6 ||| B i.rn 0 3 3 ||| B i.rd 0 3 0:=rfl
 rw[eo]
 refine (show _=_ from congrArg (fun n:Nat=>(n:Int)) ?_)
 simp only[Nat.zero_or]
theorem GV (i:IN) (hs:aa i.form=3) (hr:aI i (ch 3)) (hg:i.ar<=9223372036854775807):ai gT 132 [cX i] (.int .u32 ((eX i (aD 3):Nat):Int)):=by
 obtain⟨hf,h1,h2,h3,h4,h5,h6,h7,h8,h9,cV⟩:=hr
 have g0:=eJ (r:=i.rd) h1
 have g1:=eJ (r:=i.rn) h2
 have g2:=aE (r:=i.rm) h3
 have g3:=aE (r:=i.ra) h4
 have g4:0<=i.az/\i.az<=7/\i.az % 1=0:=fi (s:=1) (by decide) h7
 have g5:i.kind=0:=(br rfl h9).1
 have g6:i.bG=0:=bQ (br rfl h9).2
 have g7:i.set=0:=h8.elim id fun e=>absurd (show false=true from e.2) Bool.false_ne_true
 have g8:i.cond=0:=h6.elim id fun e=>absurd (show false=true from e.1) Bool.false_ne_true
 clear h1 h2 h3 h4 h5 h6 h7 h8 h9 cV
 refine Spec.enter al lW 100 Tryz.func132 rfl (by kernel_rfl) ?_
 refine .inl ⟨ah (by omega),?_⟩
 refine .inl ⟨ah (by omega),?_⟩
 refine .inl ⟨ah (by omega),?_⟩
 refine (ay hs).u ?_
 refine (mO i i.az 3 (by omega) (by omega) (by omega) (by decide)).u ?_
 refine aw ?_
 have eo:eX i (aD 3)=0 ||| B i.az 0 3 6 ||| B i.rn 0 3 3 ||| B i.rd 0 3 0:=rfl
 rw[eo]
 refine (show _=_ from congrArg (fun n:Nat=>(n:Int)) ?_)
 simp only[Nat.zero_or]
theorem GW (i:IN) (hs:aa i.form=4) (hr:aI i (ch 4)) (hg:i.ar<=9223372036854775807):ai gT 132 [cX i] (.int .u32 ((eX i (aD 4):Nat):Int)):=by
 obtain⟨hf,h1,h2,h3,h4,h5,h6,h7,h8,h9,cV⟩:=hr
 have g0:=eJ (r:=i.rd) h1
 have g1:=aE (r:=i.rn) h2
 have g2:=aE (r:=i.rm) h3
 have g3:=aE (r:=i.ra) h4
 have g4:0<=i.az/\i.az<=255/\i.az % 1=0:=fi (s:=1) (by decide) h7
 have g5:i.kind=0:=(br rfl h9).1
 have g6:i.bG=0:=bQ (br rfl h9).2
 have g7:i.set=0:=h8.elim id fun e=>absurd (show false=true from e.2) Bool.false_ne_true
 have g8:i.cond=0:=h6.elim id fun e=>absurd (show false=true from e.1) Bool.false_ne_true
 clear h1 h2 h3 h4 h5 h6 h7 h8 h9 cV
 refine Spec.enter al lW 100 Tryz.func132 rfl (by kernel_rfl) ?_
 refine .inl ⟨ah (by omega),?_⟩
 refine .inl ⟨ah (by omega),?_⟩
 refine .inl ⟨ah (by omega),?_⟩
 refine (ay hs).u ?_
 refine⟨by decide,.inl ⟨ah (by rw[r8]; omega),?_⟩⟩
 refine aw ?_
 have eo:eX i (aD 4)=0 ||| B i.rd 0 3 8 ||| B i.az 0 8 0:=rfl
 rw[eo]
 refine (show bits .or .u32 (i.rd*Ev.aV .u32 8) (i.az)=_ from ?_)
 refine ((((oS i.rd 3 8 (by decide) (by decide) (by omega))).or (rE i.az 8 (by decide) (by omega)))).1.trans (congrArg (fun n:Nat=>(n:Int)) ?_)
 first
 | (simp only[Nat.or_zero,Nat.zero_or]; done)
 | (simp only[Nat.or_zero,Nat.zero_or]
    generalize B i.rd 0 3 8=n0
    generalize B i.az 0 8 0=n1
    ac_rfl)
theorem GX (i:IN) (hs:aa i.form=5) (hr:aI i (ch 5)) (hg:i.ar<=9223372036854775807):ai gT 132 [cX i] (.int .u32 ((eX i (aD 5):Nat):Int)):=by
 obtain⟨hf,h1,h2,h3,h4,h5,h6,h7,h8,h9,cV⟩:=hr
 have g0:=eJ (r:=i.rd) h1
 have g1:=aE (r:=i.rn) h2
 have g2:=eJ (r:=i.rm) h3
 have g3:=aE (r:=i.ra) h4
 have g4:i.az=0:=bQ h7
 have g5:i.kind=0:=(br rfl h9).1
 have g6:i.bG=0:=bQ (br rfl h9).2
 have g7:i.set=0:=h8.elim id fun e=>absurd (show false=true from e.2) Bool.false_ne_true
 have g8:i.cond=0:=h6.elim id fun e=>absurd (show false=true from e.1) Bool.false_ne_true
 clear h1 h2 h3 h4 h5 h6 h7 h8 h9 cV
 refine Spec.enter al lW 100 Tryz.func132 rfl (by kernel_rfl) ?_
 refine .inl ⟨ah (by omega),?_⟩
 refine .inl ⟨ah (by omega),?_⟩
 refine .inl ⟨ah (by omega),?_⟩
 refine (ay hs).u ?_
 refine⟨by decide,.inl ⟨ah (by rw[r3]; omega),?_⟩⟩
 refine aw ?_
 have eo:eX i (aD 5)=0 ||| B i.rm 0 3 3 ||| B i.rd 0 3 0:=rfl
 rw[eo]
 refine (show bits .or .u32 (i.rm*Ev.aV .u32 3) (i.rd)=_ from ?_)
 refine ((((oS i.rm 3 3 (by decide) (by decide) (by omega))).or (rE i.rd 3 (by decide) (by omega)))).1.trans (congrArg (fun n:Nat=>(n:Int)) ?_)
 first
 | (simp only[Nat.or_zero,Nat.zero_or]; done)
 | (simp only[Nat.or_zero,Nat.zero_or]
    generalize B i.rm 0 3 3=n0
    generalize B i.rd 0 3 0=n1
    ac_rfl)
theorem GY (i:IN) (hs:aa i.form=6) (hr:aI i (ch 6)) (hg:i.ar<=9223372036854775807):ai gT 132 [cX i] (.int .u32 ((eX i (aD 6):Nat):Int)):=by
 obtain⟨hf,h1,h2,h3,h4,h5,h6,h7,h8,h9,cV⟩:=hr
 have g0:=mg (r:=i.rd) h1
 have g1:=aE (r:=i.rn) h2
 have g2:=mg (r:=i.rm) h3
 have g3:=aE (r:=i.ra) h4
 have g4:i.az=0:=bQ h7
 have g5:i.kind=0:=(br rfl h9).1
 have g6:i.bG=0:=bQ (br rfl h9).2
 have g7:i.set=0:=h8.elim id fun e=>absurd (show false=true from e.2) Bool.false_ne_true
 have g8:i.cond=0:=h6.elim id fun e=>absurd (show false=true from e.1) Bool.false_ne_true
 clear h1 h2 h3 h4 h5 h6 h7 h8 h9 cV
 have b0:=af i.rd 3 1
 have b1:=af i.rd 0 3
 refine Spec.enter al lW 100 Tryz.func132 rfl (by kernel_rfl) ?_
 refine .inl ⟨ah (by omega),?_⟩
 refine .inl ⟨ah (by omega),?_⟩
 refine .inl ⟨ah (by omega),?_⟩
 refine (ay hs).u ?_
 refine (k8 i.rd 3 1 (by unfold a_; omega) (by decide) (by decide)).u ?_
 refine⟨by decide,.inl ⟨ah (by rw[r7]; omega),?_⟩⟩
 refine⟨by decide,.inl ⟨ah (by rw[r3]; omega),?_⟩⟩
 refine (k8 i.rd 0 3 (by unfold a_; omega) (by decide) (by decide)).u ?_
 refine aw ?_
 have eo:eX i (aD 6)=0 ||| B i.rd 3 1 7 ||| B i.rm 0 4 3 ||| B i.rd 0 3 0:=rfl
 rw[eo]
 refine (show bits .or .u32 (bits .or .u32 (ab i.rd 3 1*Ev.aV .u32 7) (i.rm*Ev.aV .u32 3)) (ab i.rd 0 3)=_ from ?_)
 refine ((((((ss i.rd 3 1 7 (by decide) (by decide))).or (oS i.rm 4 3 (by decide) (by decide) (by omega)))).or (vh i.rd 0 3 (by decide)))).1.trans (congrArg (fun n:Nat=>(n:Int)) ?_)
 first
 | (simp only[Nat.or_zero,Nat.zero_or]; done)
 | (simp only[Nat.or_zero,Nat.zero_or]
    generalize B i.rd 3 1 7=n0
    generalize B i.rm 0 4 3=n1
    generalize B i.rd 0 3 0=n2
    ac_rfl)
theorem GZ (i:IN) (hs:aa i.form=7) (hr:aI i (ch 7)) (hg:i.ar<=9223372036854775807):ai gT 132 [cX i] (.int .u32 ((eX i (aD 7):Nat):Int)):=by
 obtain⟨hf,h1,h2,h3,h4,h5,h6,h7,h8,h9,cV⟩:=hr
 have g0:=aE (r:=i.rd) h1
 have g1:=aE (r:=i.rn) h2
 have g2:=mg (r:=i.rm) h3
 have g3:=aE (r:=i.ra) h4
 have g4:i.az=0:=bQ h7
 have g5:i.kind=0:=(br rfl h9).1
 have g6:i.bG=0:=bQ (br rfl h9).2
 have g7:i.set=0:=h8.elim id fun e=>absurd (show false=true from e.2) Bool.false_ne_true
 have g8:i.cond=0:=h6.elim id fun e=>absurd (show false=true from e.1) Bool.false_ne_true
 clear h1 h2 h3 h4 h5 h6 h7 h8 h9 cV
 refine Spec.enter al lW 100 Tryz.func132 rfl (by kernel_rfl) ?_
 refine .inl ⟨ah (by omega),?_⟩
 refine .inl ⟨ah (by omega),?_⟩
 refine .inl ⟨ah (by omega),?_⟩
 refine (ay hs).u ?_
 refine⟨by decide,.inl ⟨ah (by rw[r3]; omega),?_⟩⟩
 refine aw ?_
 have eo:eX i (aD 7)=0 ||| B i.rm 0 4 3:=rfl
 rw[eo]
 refine (show i.rm*Ev.aV .u32 3=_ from ?_)
 refine ((oS i.rm 4 3 (by decide) (by decide) (by omega))).1.trans (congrArg (fun n:Nat=>(n:Int)) ?_)
 first
 | (simp only[Nat.or_zero,Nat.zero_or]; done)
 | (simp only[Nat.or_zero,Nat.zero_or]
    generalize B i.rm 0 4 3=n0
    ac_rfl)
theorem G0 (i:IN) (hs:aa i.form=8) (hr:aI i (ch 8)) (hg:i.ar<=9223372036854775807):ai gT 132 [cX i] (.int .u32 ((eX i (aD 8):Nat):Int)):=by
 obtain⟨hf,h1,h2,h3,h4,h5,h6,h7,h8,h9,cV⟩:=hr
 have g0:=eJ (r:=i.rd) h1
 have g1:=aE (r:=i.rn) h2
 have g2:=aE (r:=i.rm) h3
 have g3:=aE (r:=i.ra) h4
 have g4:0<=i.az/\i.az<=1020/\i.az % 4=0:=fi (s:=4) (by decide) h7
 have g5:i.kind=0:=(br rfl h9).1
 have g6:i.bG=0:=bQ (br rfl h9).2
 have g7:i.set=0:=h8.elim id fun e=>absurd (show false=true from e.2) Bool.false_ne_true
 have g8:i.cond=0:=h6.elim id fun e=>absurd (show false=true from e.1) Bool.false_ne_true
 clear h1 h2 h3 h4 h5 h6 h7 h8 h9 cV
 refine Spec.enter al lW 100 Tryz.func132 rfl (by kernel_rfl) ?_
 refine .inl ⟨ah (by omega),?_⟩
 refine .inl ⟨ah (by omega),?_⟩
 refine .inl ⟨ah (by omega),?_⟩
 refine (ay hs).u ?_
 refine⟨by decide,.inl ⟨ah (by rw[r8]; omega),?_⟩⟩
 refine⟨by decide,.inl ⟨by omega,by first|exact (show (_:Int)<=4294967295 by omega)|omega,by decide,?_⟩⟩
 refine aw ?_
 have eo:eX i (aD 8)=0 ||| B i.rd 0 3 8 ||| B i.az 2 8 0:=rfl
 rw[eo]
 refine (show bits .or .u32 (i.rd*Ev.aV .u32 8) (i.az / 4)=_ from ?_)
 refine ((((oS i.rd 3 8 (by decide) (by decide) (by omega))).or (isD i.az 8 (by decide) (by omega) (by omega)))).1.trans (congrArg (fun n:Nat=>(n:Int)) ?_)
 first
 | (simp only[Nat.or_zero,Nat.zero_or]; done)
 | (simp only[Nat.or_zero,Nat.zero_or]
    generalize B i.rd 0 3 8=n0
    generalize B i.az 2 8 0=n1
    ac_rfl)
theorem G1 (i:IN) (hs:aa i.form=9) (hr:aI i (ch 9)) (hg:i.ar<=9223372036854775807):ai gT 132 [cX i] (.int .u32 ((eX i (aD 9):Nat):Int)):=by
 obtain⟨hf,h1,h2,h3,h4,h5,h6,h7,h8,h9,cV⟩:=hr
 have g0:=eJ (r:=i.rd) h1
 have g1:=eJ (r:=i.rn) h2
 have g2:=aE (r:=i.rm) h3
 have g3:=aE (r:=i.ra) h4
 have g4:0<=i.az/\i.az<=124/\i.az % 4=0:=fi (s:=4) (by decide) h7
 have g5:i.kind=0:=(br rfl h9).1
 have g6:i.bG=0:=bQ (br rfl h9).2
 have g7:i.set=0:=h8.elim id fun e=>absurd (show false=true from e.2) Bool.false_ne_true
 have g8:i.cond=0:=h6.elim id fun e=>absurd (show false=true from e.1) Bool.false_ne_true
 clear h1 h2 h3 h4 h5 h6 h7 h8 h9 cV
 refine Spec.enter al lW 100 Tryz.func132 rfl (by kernel_rfl) ?_
 refine .inl ⟨ah (by omega),?_⟩
 refine .inl ⟨ah (by omega),?_⟩
 refine .inl ⟨ah (by omega),?_⟩
 refine (ay hs).u ?_
 refine⟨by decide,.inl ⟨by omega,by first|exact (show (_:Int)<=4294967295 by omega)|omega,by decide,?_⟩⟩
 refine (mO i (i.az / 4) 5 (by omega) (by omega) (by omega) (by decide)).u ?_
 refine aw ?_
 have eo:eX i (aD 9)=0 ||| B i.az 2 5 6 ||| B i.rn 0 3 3 ||| B i.rd 0 3 0:=rfl
 rw[eo]
 refine (show _=_ from congrArg (fun n:Nat=>(n:Int)) ?_)
 rw[NM (by omega)]; simp only[Nat.zero_or]
theorem Dj (i:IN) (hs:aa i.form=10) (hr:aI i (ch 10)) (hg:i.ar<=9223372036854775807):ai gT 132 [cX i] (.int .u32 ((eX i (aD 10):Nat):Int)):=by
 obtain⟨hf,h1,h2,h3,h4,h5,h6,h7,h8,h9,cV⟩:=hr
 have g0:=aE (r:=i.rd) h1
 have g1:=aE (r:=i.rn) h2
 have g2:=aE (r:=i.rm) h3
 have g3:=aE (r:=i.ra) h4
 have g4:0<=i.az/\i.az<=508/\i.az % 4=0:=fi (s:=4) (by decide) h7
 have g5:i.kind=0:=(br rfl h9).1
 have g6:i.bG=0:=bQ (br rfl h9).2
 have g7:i.set=0:=h8.elim id fun e=>absurd (show false=true from e.2) Bool.false_ne_true
 have g8:i.cond=0:=h6.elim id fun e=>absurd (show false=true from e.1) Bool.false_ne_true
 clear h1 h2 h3 h4 h5 h6 h7 h8 h9 cV
 refine Spec.enter al lW 100 Tryz.func132 rfl (by kernel_rfl) ?_
 refine .inl ⟨ah (by omega),?_⟩
 refine .inl ⟨ah (by omega),?_⟩
 refine .inl ⟨ah (by omega),?_⟩
 refine (ay hs).u ?_
 refine⟨by decide,.inl ⟨by omega,by first|exact (show (_:Int)<=4294967295 by omega)|omega,by decide,?_⟩⟩
 refine aw ?_
 have eo:eX i (aD 10)=0 ||| B i.az 2 7 0:=rfl
 rw[eo]
 refine (show i.az / 4=_ from ?_)
 refine ((isD i.az 7 (by decide) (by omega) (by omega))).1.trans (congrArg (fun n:Nat=>(n:Int)) ?_)
 first
 | (simp only[Nat.or_zero,Nat.zero_or]; done)
 | (simp only[Nat.or_zero,Nat.zero_or]
    generalize B i.az 2 7 0=n0
    ac_rfl)
theorem Dk (i:IN) (hs:aa i.form=11) (hr:aI i (ch 11)) (hg:i.ar<=9223372036854775807):ai gT 132 [cX i] (.int .u32 ((eX i (aD 11):Nat):Int)):=by
 obtain⟨hf,h1,h2,h3,h4,h5,h6,h7,h8,h9,cV⟩:=hr
 have g0:=aE (r:=i.rd) h1
 have g1:=aE (r:=i.rn) h2
 have g2:=aE (r:=i.rm) h3
 have g3:=aE (r:=i.ra) h4
 have g4:i.az=0:=bQ h7
 have g5:i.kind=0:=(br rfl h9).1
 have g6:i.bG=0:=bQ (br rfl h9).2
 have g7:i.set=0:=h8.elim id fun e=>absurd (show false=true from e.2) Bool.false_ne_true
 have g8:i.cond=0:=h6.elim id fun e=>absurd (show false=true from e.1) Bool.false_ne_true
 have g9:0 < i.ar/\i.ar / 16384 % 2*16384+i.ar % 256=i.ar:=AU 14 (by decide) (by decide) rfl h5 hg
 clear h1 h2 h3 h4 h5 h6 h7 h8 h9 cV
 have b0:=af i.ar 14 1
 have b1:=af i.ar 0 8
 refine Spec.enter al lW 100 Tryz.func132 rfl (by kernel_rfl) ?_
 refine .inl ⟨ah (by omega),?_⟩
 refine .inl ⟨ah (by omega),?_⟩
 refine .inl ⟨ah (by omega),?_⟩
 refine (ay hs).u ?_
 repeat (refine Or.inl (And.intro (ah (by omega)) ?_))
 refine (k8 i.ar 14 1 (by unfold a_; omega) (by decide) (by decide)).u ?_
 refine⟨by decide,.inl ⟨ah (by rw[r8]; omega),?_⟩⟩
 repeat (refine Or.inl (And.intro (ah (by omega)) ?_))
 refine (k8 i.ar 0 8 (by unfold a_; omega) (by decide) (by decide)).u ?_
 refine aw ?_
 have eo:eX i (aD 11)=0 ||| B i.ar 14 1 8 ||| B i.ar 0 8 0:=rfl
 rw[eo]
 refine (show bits .or .u32 (ab i.ar 14 1*Ev.aV .u32 8) (ab i.ar 0 8)=_ from ?_)
 refine ((((ss i.ar 14 1 8 (by decide) (by decide))).or (vh i.ar 0 8 (by decide)))).1.trans (congrArg (fun n:Nat=>(n:Int)) ?_)
 first
 | (simp only[Nat.or_zero,Nat.zero_or]; done)
 | (simp only[Nat.or_zero,Nat.zero_or]
    generalize B i.ar 14 1 8=n0
    generalize B i.ar 0 8 0=n1
    ac_rfl)
theorem Dl (i:IN) (hs:aa i.form=12) (hr:aI i (ch 12)) (hg:i.ar<=9223372036854775807):ai gT 132 [cX i] (.int .u32 ((eX i (aD 12):Nat):Int)):=by
 obtain⟨hf,h1,h2,h3,h4,h5,h6,h7,h8,h9,cV⟩:=hr
 have g0:=aE (r:=i.rd) h1
 have g1:=aE (r:=i.rn) h2
 have g2:=aE (r:=i.rm) h3
 have g3:=aE (r:=i.ra) h4
 have g4:i.az=0:=bQ h7
 have g5:i.kind=0:=(br rfl h9).1
 have g6:i.bG=0:=bQ (br rfl h9).2
 have g7:i.set=0:=h8.elim id fun e=>absurd (show false=true from e.2) Bool.false_ne_true
 have g8:i.cond=0:=h6.elim id fun e=>absurd (show false=true from e.1) Bool.false_ne_true
 have g9:0 < i.ar/\i.ar / 32768 % 2*32768+i.ar % 256=i.ar:=AU 15 (by decide) (by decide) rfl h5 hg
 clear h1 h2 h3 h4 h5 h6 h7 h8 h9 cV
 have b0:=af i.ar 15 1
 have b1:=af i.ar 0 8
 refine Spec.enter al lW 100 Tryz.func132 rfl (by kernel_rfl) ?_
 refine .inl ⟨ah (by omega),?_⟩
 refine .inl ⟨ah (by omega),?_⟩
 refine .inl ⟨ah (by omega),?_⟩
 refine (ay hs).u ?_
 repeat (refine Or.inl (And.intro (ah (by omega)) ?_))
 refine (k8 i.ar 15 1 (by unfold a_; omega) (by decide) (by decide)).u ?_
 refine⟨by decide,.inl ⟨ah (by rw[r8]; omega),?_⟩⟩
 repeat (refine Or.inl (And.intro (ah (by omega)) ?_))
 refine (k8 i.ar 0 8 (by unfold a_; omega) (by decide) (by decide)).u ?_
 refine aw ?_
 have eo:eX i (aD 12)=0 ||| B i.ar 15 1 8 ||| B i.ar 0 8 0:=rfl
 rw[eo]
 refine (show bits .or .u32 (ab i.ar 15 1*Ev.aV .u32 8) (ab i.ar 0 8)=_ from ?_)
 refine ((((ss i.ar 15 1 8 (by decide) (by decide))).or (vh i.ar 0 8 (by decide)))).1.trans (congrArg (fun n:Nat=>(n:Int)) ?_)
 first
 | (simp only[Nat.or_zero,Nat.zero_or]; done)
 | (simp only[Nat.or_zero,Nat.zero_or]
    generalize B i.ar 15 1 8=n0
    generalize B i.ar 0 8 0=n1
    ac_rfl)
theorem Dm (i:IN) (hs:aa i.form=13) (hr:aI i (ch 13)) (hg:i.ar<=9223372036854775807):ai gT 132 [cX i] (.int .u32 ((eX i (aD 13):Nat):Int)):=by
 obtain⟨hf,h1,h2,h3,h4,h5,h6,h7,h8,h9,cV⟩:=hr
 have g0:=aE (r:=i.rd) h1
 have g1:=aE (r:=i.rn) h2
 have g2:=aE (r:=i.rm) h3
 have g3:=aE (r:=i.ra) h4
 have g4:i.az=0:=bQ h7
 have g5:i.kind=0:=(br rfl h9).1
 have g6:i.bG=0:=bQ (br rfl h9).2
 have g7:i.set=0:=h8.elim id fun e=>absurd (show false=true from e.2) Bool.false_ne_true
 have g8:i.cond=0:=h6.elim id fun e=>absurd (show false=true from e.1) Bool.false_ne_true
 clear h1 h2 h3 h4 h5 h6 h7 h8 h9 cV
 refine Spec.enter al lW 100 Tryz.func132 rfl (by kernel_rfl) ?_
 refine .inl ⟨ah (by omega),?_⟩
 refine .inl ⟨ah (by omega),?_⟩
 refine .inl ⟨ah (by omega),?_⟩
 refine (ay hs).u ?_
 exact aw rfl
theorem Dn (i:IN) (hs:aa i.form=14) (hr:aI i (ch 14)) (hg:i.ar<=9223372036854775807):ai gT 132 [cX i] (.int .u32 ((eX i (aD 14):Nat):Int)):=by
 obtain⟨hf,h1,h2,h3,h4,h5,h6,h7,h8,h9,cV⟩:=hr
 have g0:=aE (r:=i.rd) h1
 have g1:=aE (r:=i.rn) h2
 have g2:=aE (r:=i.rm) h3
 have g3:=aE (r:=i.ra) h4
 have g4:0<=i.az/\i.az<=255/\i.az % 1=0:=fi (s:=1) (by decide) h7
 have g5:i.kind=0:=(br rfl h9).1
 have g6:i.bG=0:=bQ (br rfl h9).2
 have g7:i.set=0:=h8.elim id fun e=>absurd (show false=true from e.2) Bool.false_ne_true
 have g8:i.cond=0:=h6.elim id fun e=>absurd (show false=true from e.1) Bool.false_ne_true
 clear h1 h2 h3 h4 h5 h6 h7 h8 h9 cV
 refine Spec.enter al lW 100 Tryz.func132 rfl (by kernel_rfl) ?_
 refine .inl ⟨ah (by omega),?_⟩
 refine .inl ⟨ah (by omega),?_⟩
 refine .inl ⟨ah (by omega),?_⟩
 refine (ay hs).u ?_
 refine aw ?_
 have eo:eX i (aD 14)=0 ||| B i.az 0 8 0:=rfl
 rw[eo]
 refine (show i.az=_ from ?_)
 refine ((rE i.az 8 (by decide) (by omega))).1.trans (congrArg (fun n:Nat=>(n:Int)) ?_)
 first
 | (simp only[Nat.or_zero,Nat.zero_or]; done)
 | (simp only[Nat.or_zero,Nat.zero_or]
    generalize B i.az 0 8 0=n0
    ac_rfl)
theorem Dp (i:IN) (hs:aa i.form=15) (hr:aI i (ch 15)) (hg:i.ar<=9223372036854775807):ai gT 132 [cX i] (.int .u32 ((eX i (aD 15):Nat):Int)):=by
 obtain⟨hf,h1,h2,h3,h4,h5,h6,h7,h8,h9,cV⟩:=hr
 have g0:=aE (r:=i.rd) h1
 have g1:=aE (r:=i.rn) h2
 have g2:=aE (r:=i.rm) h3
 have g3:=aE (r:=i.ra) h4
 have g4:-256<=i.az/\i.az<=254/\i.az % 2=0:=fi (s:=2) (by decide) h7
 have g5:i.kind=0:=(br rfl h9).1
 have g6:i.bG=0:=bQ (br rfl h9).2
 have g7:i.set=0:=h8.elim id fun e=>absurd (show false=true from e.2) Bool.false_ne_true
 have g8:0<=i.cond/\i.cond<=13:=by rcases h6 with h6|h6<;>omega
 clear h1 h2 h3 h4 h5 h6 h7 h8 h9 cV
 have b0:=af i.az 1 8
 refine Spec.enter al lW 100 Tryz.func132 rfl (by kernel_rfl) ?_
 refine .inr ?_
 refine .inl ⟨ah (by omega),?_⟩
 refine .inl ⟨ah (by omega),?_⟩
 refine (ay hs).u ?_
 refine .inl ⟨ah (by omega),?_⟩
 refine⟨by decide,.inl ⟨ah (by rw[r8]; omega),?_⟩⟩
 refine (pW i.az 1 8 (by omega) (by decide) (by decide) (by decide)).u ?_
 refine aw ?_
 have eo:eX i (aD 15)=0 ||| B i.cond 0 4 8 ||| B i.az 1 8 0:=rfl
 rw[eo]
 refine (show bits .or .u32 (i.cond*Ev.aV .u32 8) (ab i.az 1 8)=_ from ?_)
 refine ((((oS i.cond 4 8 (by decide) (by decide) (by omega))).or (vh i.az 1 8 (by decide)))).1.trans (congrArg (fun n:Nat=>(n:Int)) ?_)
 first
 | (simp only[Nat.or_zero,Nat.zero_or]; done)
 | (simp only[Nat.or_zero,Nat.zero_or]
    generalize B i.cond 0 4 8=n0
    generalize B i.az 1 8 0=n1
    ac_rfl)
theorem Dq (i:IN) (hs:aa i.form=16) (hr:aI i (ch 16)) (hg:i.ar<=9223372036854775807):ai gT 132 [cX i] (.int .u32 ((eX i (aD 16):Nat):Int)):=by
 obtain⟨hf,h1,h2,h3,h4,h5,h6,h7,h8,h9,cV⟩:=hr
 have g0:=aE (r:=i.rd) h1
 have g1:=aE (r:=i.rn) h2
 have g2:=aE (r:=i.rm) h3
 have g3:=aE (r:=i.ra) h4
 have g4:-2048<=i.az/\i.az<=2046/\i.az % 2=0:=fi (s:=2) (by decide) h7
 have g5:i.kind=0:=(br rfl h9).1
 have g6:i.bG=0:=bQ (br rfl h9).2
 have g7:i.set=0:=h8.elim id fun e=>absurd (show false=true from e.2) Bool.false_ne_true
 have g8:i.cond=0:=h6.elim id fun e=>absurd (show false=true from e.1) Bool.false_ne_true
 clear h1 h2 h3 h4 h5 h6 h7 h8 h9 cV
 have b0:=af i.az 1 11
 refine Spec.enter al lW 100 Tryz.func132 rfl (by kernel_rfl) ?_
 refine .inr ?_
 refine .inl ⟨ah (by omega),?_⟩
 refine .inl ⟨ah (by omega),?_⟩
 refine (ay hs).u ?_
 refine (pW i.az 1 11 (by omega) (by decide) (by decide) (by decide)).u ?_
 refine aw ?_
 have eo:eX i (aD 16)=0 ||| B i.az 1 11 0:=rfl
 rw[eo]
 refine (show ab i.az 1 11=_ from ?_)
 refine ((vh i.az 1 11 (by decide))).1.trans (congrArg (fun n:Nat=>(n:Int)) ?_)
 first
 | (simp only[Nat.or_zero,Nat.zero_or]; done)
 | (simp only[Nat.or_zero,Nat.zero_or]
    generalize B i.az 1 11 0=n0
    ac_rfl)
end Go.Proofs.YtlgkljpgagfndaaGreatDoor.Pw

/- What this claim is proved with: no condition. -/
import Derived.Test.YtnbhdacpogplgaaGreatDoorPd17
set_option maxRecDepth 100000
set_option maxHeartbeats 8000000
set_option linter.unusedVariables false
set_option linter.unusedSimpArgs false
namespace Go.Proofs.YtnbhdacpogplgaaGreatDoor.Pw
open Go Go.RowKit
theorem EI (i:IN) (hs:af i.form=1) (hr:aH i (cW 1)) (hg:i.an<=9223372036854775807):ai gT 104 [bX i] (.int .u32 ((dv i (ar 1):Nat):Int)):=by
 obtain⟨hf,h1,h2,h3,h4,h5,h6,h7,h8,h9,bY⟩:=hr
 have g0:=c9 (r:=i.rd) h1
 have g1:=au (r:=i.rn) h2
 have g2:=c9 (r:=i.rm) h3
 have g3:=au (r:=i.ra) h4
 have g4:0<=i.aw/\i.aw<=32/\i.aw % 1=0:=du (s:=1) (by decide) h7
 have g5:i.kind=0:=(aP rfl h9).1
 have g6:i.bm=0:=bh (aP rfl h9).2
 have g7:i.set=0:=h8.elim id fun e=>absurd (show false=true from e.2) Bool.false_ne_true
 have g8:i.cond=0:=h6.elim id fun e=>absurd (show false=true from e.1) Bool.false_ne_true
 clear h1 h2 h3 h4 h5 h6 h7 h8 h9 bY
 have b0:=ae i.aw 0 5
 refine Spec.enter al kJ 100 Tryz.func104 rfl (by kernel_rfl) ?_
 refine .inl ⟨ah (by omega),?_⟩
 refine .inl ⟨ah (by omega),?_⟩
 refine .inl ⟨ah (by omega),?_⟩
 refine (ao hs).u ?_
 refine (j8 i.aw 0 5 (by unfold cA; omega) (by decide) (by decide)).u ?_
 refine⟨by decide,.inl ⟨ah (by rw[r6]; omega),?_⟩⟩
 refine⟨by decide,.inl ⟨ah (by rw[r3]; omega),?_⟩⟩
 refine aj ?_
 have eo:dv i (ar 1)=0 ||| B i.aw 0 5 6 ||| B i.rm 0 3 3 ||| B i.rd 0 3 0:=rfl
 rw[eo]
 refine (show bits .or .u32 (bits .or .u32 (aa i.aw 0 5*Ev.aG .u32 6) (i.rm*Ev.aG .u32 3)) (i.rd)=_ from ?_)
 refine ((((((qO i.aw 0 5 6 (by decide) (by decide))).or (nq i.rm 3 3 (by decide) (by decide) (by omega)))).or (p9 i.rd 3 (by decide) (by omega)))).1.trans (congrArg (fun n:Nat=>(n:Int)) ?_)
 first
 | (simp only[Nat.or_zero,Nat.zero_or]; done)
 | (simp only[Nat.or_zero,Nat.zero_or]
    generalize B i.aw 0 5 6=n0
    generalize B i.rm 0 3 3=n1
    generalize B i.rd 0 3 0=n2
    ac_rfl)
theorem EJ (i:IN) (hs:af i.form=2) (hr:aH i (cW 2)) (hg:i.an<=9223372036854775807):ai gT 104 [bX i] (.int .u32 ((dv i (ar 2):Nat):Int)):=by
 obtain⟨hf,h1,h2,h3,h4,h5,h6,h7,h8,h9,bY⟩:=hr
 have g0:=c9 (r:=i.rd) h1
 have g1:=c9 (r:=i.rn) h2
 have g2:=c9 (r:=i.rm) h3
 have g3:=au (r:=i.ra) h4
 have g4:i.aw=0:=bh h7
 have g5:i.kind=0:=(aP rfl h9).1
 have g6:i.bm=0:=bh (aP rfl h9).2
 have g7:i.set=0:=h8.elim id fun e=>absurd (show false=true from e.2) Bool.false_ne_true
 have g8:i.cond=0:=h6.elim id fun e=>absurd (show false=true from e.1) Bool.false_ne_true
 clear h1 h2 h3 h4 h5 h6 h7 h8 h9 bY
 refine Spec.enter al kJ 100 Tryz.func104 rfl (by kernel_rfl) ?_
 refine .inl ⟨ah (by omega),?_⟩
 refine .inl ⟨ah (by omega),?_⟩
 refine .inl ⟨ah (by omega),?_⟩
 refine (ao hs).u ?_
 refine (lC i i.rm 3 (by omega) (by omega) (by omega) (by decide)).u ?_
 refine aj ?_
 have eo:dv i (ar 2)=0 ||| B i.rm 0 3 6 ||| B i.rn 0 3 3 ||| B i.rd 0 3 0:=rfl
 rw[eo]
 refine (show _=_ from congrArg (fun n:Nat=>(n:Int)) ?_)
 simp only[Nat.zero_or]
theorem EK (i:IN) (hs:af i.form=3) (hr:aH i (cW 3)) (hg:i.an<=9223372036854775807):ai gT 104 [bX i] (.int .u32 ((dv i (ar 3):Nat):Int)):=by
 obtain⟨hf,h1,h2,h3,h4,h5,h6,h7,h8,h9,bY⟩:=hr
 have g0:=c9 (r:=i.rd) h1
 have g1:=c9 (r:=i.rn) h2
 have g2:=au (r:=i.rm) h3
 have g3:=au (r:=i.ra) h4
 have g4:0<=i.aw/\i.aw<=7/\i.aw % 1=0:=du (s:=1) (by decide) h7
 have g5:i.kind=0:=(aP rfl h9).1
 have g6:i.bm=0:=bh (aP rfl h9).2
 have g7:i.set=0:=h8.elim id fun e=>absurd (show false=true from e.2) Bool.false_ne_true
 have g8:i.cond=0:=h6.elim id fun e=>absurd (show false=true from e.1) Bool.false_ne_true
 clear h1 h2 h3 h4 h5 h6 h7 h8 h9 bY
 refine Spec.enter al kJ 100 Tryz.func104 rfl (by kernel_rfl) ?_
 refine .inl ⟨ah (by omega),?_⟩
 refine .inl ⟨ah (by omega),?_⟩
 refine .inl ⟨ah (by omega),?_⟩
 refine (ao hs).u ?_
 refine (lC i i.aw 3 (by omega) (by omega) (by omega) (by decide)).u ?_
 refine aj ?_
 have eo:dv i (ar 3)=0 ||| B i.aw 0 3 6 ||| B i.rn 0 3 3 ||| B i.rd 0 3 0:=rfl
 rw[eo]
 refine (show _=_ from congrArg (fun n:Nat=>(n:Int)) ?_)
 simp only[Nat.zero_or]
theorem EM (i:IN) (hs:af i.form=4) (hr:aH i (cW 4)) (hg:i.an<=9223372036854775807):ai gT 104 [bX i] (.int .u32 ((dv i (ar 4):Nat):Int)):=by
 obtain⟨hf,h1,h2,h3,h4,h5,h6,h7,h8,h9,bY⟩:=hr
 have g0:=c9 (r:=i.rd) h1
 have g1:=au (r:=i.rn) h2
 have g2:=au (r:=i.rm) h3
 have g3:=au (r:=i.ra) h4
 have g4:0<=i.aw/\i.aw<=255/\i.aw % 1=0:=du (s:=1) (by decide) h7
 have g5:i.kind=0:=(aP rfl h9).1
 have g6:i.bm=0:=bh (aP rfl h9).2
 have g7:i.set=0:=h8.elim id fun e=>absurd (show false=true from e.2) Bool.false_ne_true
 have g8:i.cond=0:=h6.elim id fun e=>absurd (show false=true from e.1) Bool.false_ne_true
 clear h1 h2 h3 h4 h5 h6 h7 h8 h9 bY
 refine Spec.enter al kJ 100 Tryz.func104 rfl (by kernel_rfl) ?_
 refine .inl ⟨ah (by omega),?_⟩
 refine .inl ⟨ah (by omega),?_⟩
 refine .inl ⟨ah (by omega),?_⟩
 refine (ao hs).u ?_
 refine⟨by decide,.inl ⟨ah (by rw[r8]; omega),?_⟩⟩
 refine aj ?_
 have eo:dv i (ar 4)=0 ||| B i.rd 0 3 8 ||| B i.aw 0 8 0:=rfl
 rw[eo]
 refine (show bits .or .u32 (i.rd*Ev.aG .u32 8) (i.aw)=_ from ?_)
 refine ((((nq i.rd 3 8 (by decide) (by decide) (by omega))).or (p9 i.aw 8 (by decide) (by omega)))).1.trans (congrArg (fun n:Nat=>(n:Int)) ?_)
 first
 | (simp only[Nat.or_zero,Nat.zero_or]; done)
 | (simp only[Nat.or_zero,Nat.zero_or]
    generalize B i.rd 0 3 8=n0
    generalize B i.aw 0 8 0=n1
    ac_rfl)
theorem EN (i:IN) (hs:af i.form=5) (hr:aH i (cW 5)) (hg:i.an<=9223372036854775807):ai gT 104 [bX i] (.int .u32 ((dv i (ar 5):Nat):Int)):=by
 obtain⟨hf,h1,h2,h3,h4,h5,h6,h7,h8,h9,bY⟩:=hr
 have g0:=c9 (r:=i.rd) h1
 have g1:=au (r:=i.rn) h2
 have g2:=c9 (r:=i.rm) h3
 have g3:=au (r:=i.ra) h4
 have g4:i.aw=0:=bh h7
 have g5:i.kind=0:=(aP rfl h9).1
 have g6:i.bm=0:=bh (aP rfl h9).2
 have g7:i.set=0:=h8.elim id fun e=>absurd (show false=true from e.2) Bool.false_ne_true
 have g8:i.cond=0:=h6.elim id fun e=>absurd (show false=true from e.1) Bool.false_ne_true
 clear h1 h2 h3 h4 h5 h6 h7 h8 h9 bY
 refine Spec.enter al kJ 100 Tryz.func104 rfl (by kernel_rfl) ?_
 refine .inl ⟨ah (by omega),?_⟩
 refine .inl ⟨ah (by omega),?_⟩
 refine .inl ⟨ah (by omega),?_⟩
 refine (ao hs).u ?_
 refine⟨by decide,.inl ⟨ah (by rw[r3]; omega),?_⟩⟩
 refine aj ?_
 have eo:dv i (ar 5)=0 ||| B i.rm 0 3 3 ||| B i.rd 0 3 0:=rfl
 rw[eo]
 refine (show bits .or .u32 (i.rm*Ev.aG .u32 3) (i.rd)=_ from ?_)
 refine ((((nq i.rm 3 3 (by decide) (by decide) (by omega))).or (p9 i.rd 3 (by decide) (by omega)))).1.trans (congrArg (fun n:Nat=>(n:Int)) ?_)
 first
 | (simp only[Nat.or_zero,Nat.zero_or]; done)
 | (simp only[Nat.or_zero,Nat.zero_or]
    generalize B i.rm 0 3 3=n0
    generalize B i.rd 0 3 0=n1
    ac_rfl)
theorem EO (i:IN) (hs:af i.form=6) (hr:aH i (cW 6)) (hg:i.an<=9223372036854775807):ai gT 104 [bX i] (.int .u32 ((dv i (ar 6):Nat):Int)):=by
 obtain⟨hf,h1,h2,h3,h4,h5,h6,h7,h8,h9,bY⟩:=hr
 have g0:=kQ (r:=i.rd) h1
 have g1:=au (r:=i.rn) h2
 have g2:=kQ (r:=i.rm) h3
 have g3:=au (r:=i.ra) h4
 have g4:i.aw=0:=bh h7
 have g5:i.kind=0:=(aP rfl h9).1
 have g6:i.bm=0:=bh (aP rfl h9).2
 have g7:i.set=0:=h8.elim id fun e=>absurd (show false=true from e.2) Bool.false_ne_true
 have g8:i.cond=0:=h6.elim id fun e=>absurd (show false=true from e.1) Bool.false_ne_true
 clear h1 h2 h3 h4 h5 h6 h7 h8 h9 bY
 have b0:=ae i.rd 3 1
 have b1:=ae i.rd 0 3
 refine Spec.enter al kJ 100 Tryz.func104 rfl (by kernel_rfl) ?_
 refine .inl ⟨ah (by omega),?_⟩
 refine .inl ⟨ah (by omega),?_⟩
 refine .inl ⟨ah (by omega),?_⟩
 refine (ao hs).u ?_
 refine (j8 i.rd 3 1 (by unfold cA; omega) (by decide) (by decide)).u ?_
 refine⟨by decide,.inl ⟨ah (by rw[r7]; omega),?_⟩⟩
 refine⟨by decide,.inl ⟨ah (by rw[r3]; omega),?_⟩⟩
 refine (j8 i.rd 0 3 (by unfold cA; omega) (by decide) (by decide)).u ?_
 refine aj ?_
 have eo:dv i (ar 6)=0 ||| B i.rd 3 1 7 ||| B i.rm 0 4 3 ||| B i.rd 0 3 0:=rfl
 rw[eo]
 refine (show bits .or .u32 (bits .or .u32 (aa i.rd 3 1*Ev.aG .u32 7) (i.rm*Ev.aG .u32 3)) (aa i.rd 0 3)=_ from ?_)
 refine ((((((qO i.rd 3 1 7 (by decide) (by decide))).or (nq i.rm 4 3 (by decide) (by decide) (by omega)))).or (tL i.rd 0 3 (by decide)))).1.trans (congrArg (fun n:Nat=>(n:Int)) ?_)
 first
 | (simp only[Nat.or_zero,Nat.zero_or]; done)
 | (simp only[Nat.or_zero,Nat.zero_or]
    generalize B i.rd 3 1 7=n0
    generalize B i.rm 0 4 3=n1
    generalize B i.rd 0 3 0=n2
    ac_rfl)
theorem EP (i:IN) (hs:af i.form=7) (hr:aH i (cW 7)) (hg:i.an<=9223372036854775807):ai gT 104 [bX i] (.int .u32 ((dv i (ar 7):Nat):Int)):=by
 obtain⟨hf,h1,h2,h3,h4,h5,h6,h7,h8,h9,bY⟩:=hr
 have g0:=au (r:=i.rd) h1
 have g1:=au (r:=i.rn) h2
 have g2:=kQ (r:=i.rm) h3
 have g3:=au (r:=i.ra) h4
 have g4:i.aw=0:=bh h7
 have g5:i.kind=0:=(aP rfl h9).1
 have g6:i.bm=0:=bh (aP rfl h9).2
 have g7:i.set=0:=h8.elim id fun e=>absurd (show false=true from e.2) Bool.false_ne_true
 have g8:i.cond=0:=h6.elim id fun e=>absurd (show false=true from e.1) Bool.false_ne_true
 clear h1 h2 h3 h4 h5 h6 h7 h8 h9 bY
 refine Spec.enter al kJ 100 Tryz.func104 rfl (by kernel_rfl) ?_
 refine .inl ⟨ah (by omega),?_⟩
 refine .inl ⟨ah (by omega),?_⟩
 refine .inl ⟨ah (by omega),?_⟩
 refine (ao hs).u ?_
 refine⟨by decide,.inl ⟨ah (by rw[r3]; omega),?_⟩⟩
 refine aj ?_
 have eo:dv i (ar 7)=0 ||| B i.rm 0 4 3:=rfl
 rw[eo]
 refine (show i.rm*Ev.aG .u32 3=_ from ?_)
 refine ((nq i.rm 4 3 (by decide) (by decide) (by omega))).1.trans (congrArg (fun n:Nat=>(n:Int)) ?_)
 first
 | (simp only[Nat.or_zero,Nat.zero_or]; done)
 | (simp only[Nat.or_zero,Nat.zero_or]
    generalize B i.rm 0 4 3=n0
    ac_rfl)
theorem ER (i:IN) (hs:af i.form=8) (hr:aH i (cW 8)) (hg:i.an<=9223372036854775807):ai gT 104 [bX i] (.int .u32 ((dv i (ar 8):Nat):Int)):=by
 obtain⟨hf,h1,h2,h3,h4,h5,h6,h7,h8,h9,bY⟩:=hr
 have g0:=c9 (r:=i.rd) h1
 have g1:=au (r:=i.rn) h2
 have g2:=au (r:=i.rm) h3
 have g3:=au (r:=i.ra) h4
 have g4:0<=i.aw/\i.aw<=1020/\i.aw % 4=0:=du (s:=4) (by decide) h7
 have g5:i.kind=0:=(aP rfl h9).1
 have g6:i.bm=0:=bh (aP rfl h9).2
 have g7:i.set=0:=h8.elim id fun e=>absurd (show false=true from e.2) Bool.false_ne_true
 have g8:i.cond=0:=h6.elim id fun e=>absurd (show false=true from e.1) Bool.false_ne_true
 clear h1 h2 h3 h4 h5 h6 h7 h8 h9 bY
 refine Spec.enter al kJ 100 Tryz.func104 rfl (by kernel_rfl) ?_
 refine .inl ⟨ah (by omega),?_⟩
 refine .inl ⟨ah (by omega),?_⟩
 refine .inl ⟨ah (by omega),?_⟩
 refine (ao hs).u ?_
 refine⟨by decide,.inl ⟨ah (by rw[r8]; omega),?_⟩⟩
 refine⟨by decide,.inl ⟨by omega,by first|exact (show (_:Int)<=4294967295 by omega)|omega,by decide,?_⟩⟩
 refine aj ?_
 have eo:dv i (ar 8)=0 ||| B i.rd 0 3 8 ||| B i.aw 2 8 0:=rfl
 rw[eo]
 refine (show bits .or .u32 (i.rd*Ev.aG .u32 8) (i.aw / 4)=_ from ?_)
 refine ((((nq i.rd 3 8 (by decide) (by decide) (by omega))).or (isD i.aw 8 (by decide) (by omega) (by omega)))).1.trans (congrArg (fun n:Nat=>(n:Int)) ?_)
 first
 | (simp only[Nat.or_zero,Nat.zero_or]; done)
 | (simp only[Nat.or_zero,Nat.zero_or]
    generalize B i.rd 0 3 8=n0
    generalize B i.aw 2 8 0=n1
    ac_rfl)
theorem ES (i:IN) (hs:af i.form=9) (hr:aH i (cW 9)) (hg:i.an<=9223372036854775807):ai gT 104 [bX i] (.int .u32 ((dv i (ar 9):Nat):Int)):=by
 obtain⟨hf,h1,h2,h3,h4,h5,h6,h7,h8,h9,bY⟩:=hr
 have g0:=c9 (r:=i.rd) h1
 have g1:=c9 (r:=i.rn) h2
 have g2:=au (r:=i.rm) h3
 have g3:=au (r:=i.ra) h4
 have g4:0<=i.aw/\i.aw<=124/\i.aw % 4=0:=du (s:=4) (by decide) h7
 have g5:i.kind=0:=(aP rfl h9).1
 have g6:i.bm=0:=bh (aP rfl h9).2
 have g7:i.set=0:=h8.elim id fun e=>absurd (show false=true from e.2) Bool.false_ne_true
 have g8:i.cond=0:=h6.elim id fun e=>absurd (show false=true from e.1) Bool.false_ne_true
 clear h1 h2 h3 h4 h5 h6 h7 h8 h9 bY
 refine Spec.enter al kJ 100 Tryz.func104 rfl (by kernel_rfl) ?_
 refine .inl ⟨ah (by omega),?_⟩
 refine .inl ⟨ah (by omega),?_⟩
 refine .inl ⟨ah (by omega),?_⟩
 refine (ao hs).u ?_
 refine⟨by decide,.inl ⟨by omega,by first|exact (show (_:Int)<=4294967295 by omega)|omega,by decide,?_⟩⟩
 refine (lC i (i.aw / 4) 5 (by omega) (by omega) (by omega) (by decide)).u ?_
 refine aj ?_
 have eo:dv i (ar 9)=0 ||| B i.aw 2 5 6 ||| B i.rn 0 3 3 ||| B i.rd 0 3 0:=rfl
 rw[eo]
 refine (show _=_ from congrArg (fun n:Nat=>(n:Int)) ?_)
 rw[Kb (by omega)]; simp only[Nat.zero_or]
theorem Bp (i:IN) (hs:af i.form=10) (hr:aH i (cW 10)) (hg:i.an<=9223372036854775807):ai gT 104 [bX i] (.int .u32 ((dv i (ar 10):Nat):Int)):=by
 obtain⟨hf,h1,h2,h3,h4,h5,h6,h7,h8,h9,bY⟩:=hr
 have g0:=au (r:=i.rd) h1
 have g1:=au (r:=i.rn) h2
 have g2:=au (r:=i.rm) h3
 have g3:=au (r:=i.ra) h4
 have g4:0<=i.aw/\i.aw<=508/\i.aw % 4=0:=du (s:=4) (by decide) h7
 have g5:i.kind=0:=(aP rfl h9).1
 have g6:i.bm=0:=bh (aP rfl h9).2
 have g7:i.set=0:=h8.elim id fun e=>absurd (show false=true from e.2) Bool.false_ne_true
 have g8:i.cond=0:=h6.elim id fun e=>absurd (show false=true from e.1) Bool.false_ne_true
 clear h1 h2 h3 h4 h5 h6 h7 h8 h9 bY
 refine Spec.enter al kJ 100 Tryz.func104 rfl (by kernel_rfl) ?_
 refine .inl ⟨ah (by omega),?_⟩
 refine .inl ⟨ah (by omega),?_⟩
 refine .inl ⟨ah (by omega),?_⟩
 refine (ao hs).u ?_
 refine⟨by decide,.inl ⟨by omega,by first|exact (show (_:Int)<=4294967295 by omega)|omega,by decide,?_⟩⟩
 refine aj ?_
 have eo:dv i (ar 10)=0 ||| B i.aw 2 7 0:=rfl
 rw[eo]
 refine (show i.aw / 4=_ from ?_)
 refine ((isD i.aw 7 (by decide) (by omega) (by omega))).1.trans (congrArg (fun n:Nat=>(n:Int)) ?_)
 first
 | (simp only[Nat.or_zero,Nat.zero_or]; done)
 | (simp only[Nat.or_zero,Nat.zero_or]
    generalize B i.aw 2 7 0=n0
    ac_rfl)
theorem Bq (i:IN) (hs:af i.form=11) (hr:aH i (cW 11)) (hg:i.an<=9223372036854775807):ai gT 104 [bX i] (.int .u32 ((dv i (ar 11):Nat):Int)):=by
 obtain⟨hf,h1,h2,h3,h4,h5,h6,h7,h8,h9,bY⟩:=hr
 have g0:=au (r:=i.rd) h1
 have g1:=au (r:=i.rn) h2
 have g2:=au (r:=i.rm) h3
 have g3:=au (r:=i.ra) h4
 have g4:i.aw=0:=bh h7
 have g5:i.kind=0:=(aP rfl h9).1
 have g6:i.bm=0:=bh (aP rfl h9).2
 have g7:i.set=0:=h8.elim id fun e=>absurd (show false=true from e.2) Bool.false_ne_true
 have g8:i.cond=0:=h6.elim id fun e=>absurd (show false=true from e.1) Bool.false_ne_true
 have g9:0 < i.an/\i.an / 16384 % 2*16384+i.an % 256=i.an:=zu 14 (by decide) (by decide) rfl h5 hg
 clear h1 h2 h3 h4 h5 h6 h7 h8 h9 bY
 have b0:=ae i.an 14 1
 have b1:=ae i.an 0 8
 refine Spec.enter al kJ 100 Tryz.func104 rfl (by kernel_rfl) ?_
 refine .inl ⟨ah (by omega),?_⟩
 refine .inl ⟨ah (by omega),?_⟩
 refine .inl ⟨ah (by omega),?_⟩
 refine (ao hs).u ?_
 repeat (refine Or.inl (And.intro (ah (by omega)) ?_))
 refine (j8 i.an 14 1 (by unfold cA; omega) (by decide) (by decide)).u ?_
 refine⟨by decide,.inl ⟨ah (by rw[r8]; omega),?_⟩⟩
 repeat (refine Or.inl (And.intro (ah (by omega)) ?_))
 refine (j8 i.an 0 8 (by unfold cA; omega) (by decide) (by decide)).u ?_
 refine aj ?_
 have eo:dv i (ar 11)=0 ||| B i.an 14 1 8 ||| B i.an 0 8 0:=rfl
 rw[eo]
 refine (show bits .or .u32 (aa i.an 14 1*Ev.aG .u32 8) (aa i.an 0 8)=_ from ?_)
 refine ((((qO i.an 14 1 8 (by decide) (by decide))).or (tL i.an 0 8 (by decide)))).1.trans (congrArg (fun n:Nat=>(n:Int)) ?_)
 first
 | (simp only[Nat.or_zero,Nat.zero_or]; done)
 | (simp only[Nat.or_zero,Nat.zero_or]
    generalize B i.an 14 1 8=n0
    generalize B i.an 0 8 0=n1
    ac_rfl)
theorem Br (i:IN) (hs:af i.form=12) (hr:aH i (cW 12)) (hg:i.an<=9223372036854775807):ai gT 104 [bX i] (.int .u32 ((dv i (ar 12):Nat):Int)):=by
 obtain⟨hf,h1,h2,h3,h4,h5,h6,h7,h8,h9,bY⟩:=hr
 have g0:=au (r:=i.rd) h1
 have g1:=au (r:=i.rn) h2
 have g2:=au (r:=i.rm) h3
 have g3:=au (r:=i.ra) h4
 have g4:i.aw=0:=bh h7
 have g5:i.kind=0:=(aP rfl h9).1
 have g6:i.bm=0:=bh (aP rfl h9).2
 have g7:i.set=0:=h8.elim id fun e=>absurd (show false=true from e.2) Bool.false_ne_true
 have g8:i.cond=0:=h6.elim id fun e=>absurd (show false=true from e.1) Bool.false_ne_true
 have g9:0 < i.an/\i.an / 32768 % 2*32768+i.an % 256=i.an:=zu 15 (by decide) (by decide) rfl h5 hg
 clear h1 h2 h3 h4 h5 h6 h7 h8 h9 bY
 have b0:=ae i.an 15 1
 have b1:=ae i.an 0 8
 refine Spec.enter al kJ 100 Tryz.func104 rfl (by kernel_rfl) ?_
 refine .inl ⟨ah (by omega),?_⟩
 refine .inl ⟨ah (by omega),?_⟩
 refine .inl ⟨ah (by omega),?_⟩
 refine (ao hs).u ?_
 repeat (refine Or.inl (And.intro (ah (by omega)) ?_))
 refine (j8 i.an 15 1 (by unfold cA; omega) (by decide) (by decide)).u ?_
 refine⟨by decide,.inl ⟨ah (by rw[r8]; omega),?_⟩⟩
 repeat (refine Or.inl (And.intro (ah (by omega)) ?_))
 refine (j8 i.an 0 8 (by unfold cA; omega) (by decide) (by decide)).u ?_
 refine aj ?_
 have eo:dv i (ar 12)=0 ||| B i.an 15 1 8 ||| B i.an 0 8 0:=rfl
 rw[eo]
 refine (show bits .or .u32 (aa i.an 15 1*Ev.aG .u32 8) (aa i.an 0 8)=_ from ?_)
 refine ((((qO i.an 15 1 8 (by decide) (by decide))).or (tL i.an 0 8 (by decide)))).1.trans (congrArg (fun n:Nat=>(n:Int)) ?_)
 first
 | (simp only[Nat.or_zero,Nat.zero_or]; done)
 | (simp only[Nat.or_zero,Nat.zero_or]
    generalize B i.an 15 1 8=n0
    generalize B i.an 0 8 0=n1
    ac_rfl)
theorem Bs (i:IN) (hs:af i.form=13) (hr:aH i (cW 13)) (hg:i.an<=9223372036854775807):ai gT 104 [bX i] (.int .u32 ((dv i (ar 13):Nat):Int)):=by
 obtain⟨hf,h1,h2,h3,h4,h5,h6,h7,h8,h9,bY⟩:=hr
 have g0:=au (r:=i.rd) h1
 have g1:=au (r:=i.rn) h2
 have g2:=au (r:=i.rm) h3
 have g3:=au (r:=i.ra) h4
 have g4:i.aw=0:=bh h7
 have g5:i.kind=0:=(aP rfl h9).1
 have g6:i.bm=0:=bh (aP rfl h9).2
 have g7:i.set=0:=h8.elim id fun e=>absurd (show false=true from e.2) Bool.false_ne_true
 have g8:i.cond=0:=h6.elim id fun e=>absurd (show false=true from e.1) Bool.false_ne_true
 clear h1 h2 h3 h4 h5 h6 h7 h8 h9 bY
 refine Spec.enter al kJ 100 Tryz.func104 rfl (by kernel_rfl) ?_
 refine .inl ⟨ah (by omega),?_⟩
 refine .inl ⟨ah (by omega),?_⟩
 refine .inl ⟨ah (by omega),?_⟩
 refine (ao hs).u ?_
 exact aj rfl
theorem Bt (i:IN) (hs:af i.form=14) (hr:aH i (cW 14)) (hg:i.an<=9223372036854775807):ai gT 104 [bX i] (.int .u32 ((dv i (ar 14):Nat):Int)):=by
 obtain⟨hf,h1,h2,h3,h4,h5,h6,h7,h8,h9,bY⟩:=hr
 have g0:=au (r:=i.rd) h1
 have g1:=au (r:=i.rn) h2
 have g2:=au (r:=i.rm) h3
 have g3:=au (r:=i.ra) h4
 have g4:0<=i.aw/\i.aw<=255/\i.aw % 1=0:=du (s:=1) (by decide) h7
 have g5:i.kind=0:=(aP rfl h9).1
 have g6:i.bm=0:=bh (aP rfl h9).2
 have g7:i.set=0:=h8.elim id fun e=>absurd (show false=true from e.2) Bool.false_ne_true
 have g8:i.cond=0:=h6.elim id fun e=>absurd (show false=true from e.1) Bool.false_ne_true
 clear h1 h2 h3 h4 h5 h6 h7 h8 h9 bY
 refine Spec.enter al kJ 100 Tryz.func104 rfl (by kernel_rfl) ?_
 refine .inl ⟨ah (by omega),?_⟩
 refine .inl ⟨ah (by omega),?_⟩
 refine .inl ⟨ah (by omega),?_⟩
 refine (ao hs).u ?_
 refine aj ?_
 have eo:dv i (ar 14)=0 ||| B i.aw 0 8 0:=rfl
 rw[eo]
 refine (show i.aw=_ from ?_)
 refine ((p9 i.aw 8 (by decide) (by omega))).1.trans (congrArg (fun n:Nat=>(n:Int)) ?_)
 first
 | (simp only[Nat.or_zero,Nat.zero_or]; done)
 | (simp only[Nat.or_zero,Nat.zero_or]
    generalize B i.aw 0 8 0=n0
    ac_rfl)
theorem Bu (i:IN) (hs:af i.form=15) (hr:aH i (cW 15)) (hg:i.an<=9223372036854775807):ai gT 104 [bX i] (.int .u32 ((dv i (ar 15):Nat):Int)):=by
 obtain⟨hf,h1,h2,h3,h4,h5,h6,h7,h8,h9,bY⟩:=hr
 have g0:=au (r:=i.rd) h1
 have g1:=au (r:=i.rn) h2
 have g2:=au (r:=i.rm) h3
 have g3:=au (r:=i.ra) h4
 have g4:-256<=i.aw/\i.aw<=254/\i.aw % 2=0:=du (s:=2) (by decide) h7
 have g5:i.kind=0:=(aP rfl h9).1
 have g6:i.bm=0:=bh (aP rfl h9).2
 have g7:i.set=0:=h8.elim id fun e=>absurd (show false=true from e.2) Bool.false_ne_true
 have g8:0<=i.cond/\i.cond<=13:=by rcases h6 with h6|h6<;>omega
 clear h1 h2 h3 h4 h5 h6 h7 h8 h9 bY
 have b0:=ae i.aw 1 8
 refine Spec.enter al kJ 100 Tryz.func104 rfl (by kernel_rfl) ?_
 refine .inr ?_
 refine .inl ⟨ah (by omega),?_⟩
 refine .inl ⟨ah (by omega),?_⟩
 refine (ao hs).u ?_
 refine .inl ⟨ah (by omega),?_⟩
 refine⟨by decide,.inl ⟨ah (by rw[r8]; omega),?_⟩⟩
 refine (oJ i.aw 1 8 (by omega) (by decide) (by decide) (by decide)).u ?_
 refine aj ?_
 have eo:dv i (ar 15)=0 ||| B i.cond 0 4 8 ||| B i.aw 1 8 0:=rfl
 rw[eo]
 refine (show bits .or .u32 (i.cond*Ev.aG .u32 8) (aa i.aw 1 8)=_ from ?_)
 refine ((((nq i.cond 4 8 (by decide) (by decide) (by omega))).or (tL i.aw 1 8 (by decide)))).1.trans (congrArg (fun n:Nat=>(n:Int)) ?_)
 first
 | (simp only[Nat.or_zero,Nat.zero_or]; done)
 | (simp only[Nat.or_zero,Nat.zero_or]
    generalize B i.cond 0 4 8=n0
    generalize B i.aw 1 8 0=n1
    ac_rfl)
theorem Bv (i:IN) (hs:af i.form=16) (hr:aH i (cW 16)) (hg:i.an<=9223372036854775807):ai gT 104 [bX i] (.int .u32 ((dv i (ar 16):Nat):Int)):=by
 obtain⟨hf,h1,h2,h3,h4,h5,h6,h7,h8,h9,bY⟩:=hr
 have g0:=au (r:=i.rd) h1
 have g1:=au (r:=i.rn) h2
 have g2:=au (r:=i.rm) h3
 have g3:=au (r:=i.ra) h4
 have g4:-2048<=i.aw/\i.aw<=2046/\i.aw % 2=0:=du (s:=2) (by decide) h7
 have g5:i.kind=0:=(aP rfl h9).1
 have g6:i.bm=0:=bh (aP rfl h9).2
 have g7:i.set=0:=h8.elim id fun e=>absurd (show false=true from e.2) Bool.false_ne_true
 have g8:i.cond=0:=h6.elim id fun e=>absurd (show false=true from e.1) Bool.false_ne_true
 clear h1 h2 h3 h4 h5 h6 h7 h8 h9 bY
 have b0:=ae i.aw 1 11
 refine Spec.enter al kJ 100 Tryz.func104 rfl (by kernel_rfl) ?_
 refine .inr ?_
 refine .inl ⟨ah (by omega),?_⟩
 refine .inl ⟨ah (by omega),?_⟩
 refine (ao hs).u ?_
 refine (oJ i.aw 1 11 (by omega) (by decide) (by decide) (by decide)).u ?_
 refine aj ?_
 have eo:dv i (ar 16)=0 ||| B i.aw 1 11 0:=rfl
 rw[eo]
 refine (show aa i.aw 1 11=_ from ?_)
 refine ((tL i.aw 1 11 (by decide))).1.trans (congrArg (fun n:Nat=>(n:Int)) ?_)
 first
 | (simp only[Nat.or_zero,Nat.zero_or]; done)
 | (simp only[Nat.or_zero,Nat.zero_or]
    generalize B i.aw 1 11 0=n0
    ac_rfl)
end Go.Proofs.YtnbhdacpogplgaaGreatDoor.Pw

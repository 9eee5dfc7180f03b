/- What this claim is proved with: no condition. -/
import Derived.Test.YtlgkljpgagfndaaGreatDoorNs16
set_option maxRecDepth 100000
set_option maxHeartbeats 8000000
set_option linter.unusedVariables false
set_option linter.unusedSimpArgs false
namespace Go.Proofs.YtlgkljpgagfndaaGreatDoor.Pw
open Go Go.RowKit
theorem Db (i:IN) (hs:aa i.form=1) (hr:aF i (bX 1)) (hg:i.ao<=9223372036854775807):ai gT 132 [cG i] (.int .u32 ((dS i (ax 1):Nat):Int)):=by
 obtain⟨hf,h1,h2,h3,h4,h5,h6,h7,h8,h9,cC⟩:=hr
 have g0:=dJ (r:=i.rd) h1
 have g1:=aA (r:=i.rn) h2
 have g2:=dJ (r:=i.rm) h3
 have g3:=aA (r:=i.ra) h4
 have g4:0<=i.az/\i.az<=32/\i.az % 1=0:=dZ (s:=1) (by decide) h7
 have g5:i.kind=0:=(bd rfl h9).1
 have g6:i.bC=0:=bK (bd rfl h9).2
 have g7:i.set=0:=h8.elim id fun e=>absurd (show false=true from e.2) Bool.false_ne_true
 have g8:i.cond=0:=h6.elim id fun e=>absurd (show false=true from e.1) Bool.false_ne_true
 clear h1 h2 h3 h4 h5 h6 h7 h8 h9 cC
 have b0:=ae i.az 0 5
 refine Spec.enter an ko 100 Tryz.func132 rfl (by kernel_rfl) ?_
 refine .inl ⟨af (by omega),?_⟩
 refine .inl ⟨af (by omega),?_⟩
 refine .inl ⟨af (by omega),?_⟩
 refine (ar hs).u ?_
 refine (jG i.az 0 5 (by unfold bO; omega) (by decide) (by decide)).u ?_
 refine⟨by decide,.inl ⟨af (by rw[r6]; omega),?_⟩⟩
 refine⟨by decide,.inl ⟨af (by rw[r3]; omega),?_⟩⟩
 refine aD ?_
 have eo:dS i (ax 1)=0 ||| B i.az 0 5 6 ||| B i.rm 0 3 3 ||| B i.rd 0 3 0:=rfl
 rw[eo]
 refine (show bits .or .u32 (bits .or .u32 (ab i.az 0 5*Ev.aO .u32 6) (i.rm*Ev.aO .u32 3)) (i.rd)=_ from ?_)
 refine ((((((pL i.az 0 5 6 (by decide) (by decide))).or (mN i.rm 3 3 (by decide) (by decide) (by omega)))).or (o9 i.rd 3 (by decide) (by omega)))).1.trans (congrArg (fun n:Nat=>(n:Int)) ?_)
 first
 | (simp only[Nat.or_zero,Nat.zero_or]; done)
 | (simp only[Nat.or_zero,Nat.zero_or]
    generalize B i.az 0 5 6=n0
    generalize B i.rm 0 3 3=n1
    generalize B i.rd 0 3 0=n2
    ac_rfl)
theorem Dc (i:IN) (hs:aa i.form=2) (hr:aF i (bX 2)) (hg:i.ao<=9223372036854775807):ai gT 132 [cG i] (.int .u32 ((dS i (ax 2):Nat):Int)):=by
 obtain⟨hf,h1,h2,h3,h4,h5,h6,h7,h8,h9,cC⟩:=hr
 have g0:=dJ (r:=i.rd) h1
 have g1:=dJ (r:=i.rn) h2
 have g2:=dJ (r:=i.rm) h3
 have g3:=aA (r:=i.ra) h4
 have g4:i.az=0:=bK h7
 have g5:i.kind=0:=(bd rfl h9).1
 have g6:i.bC=0:=bK (bd rfl h9).2
 have g7:i.set=0:=h8.elim id fun e=>absurd (show false=true from e.2) Bool.false_ne_true
 have g8:i.cond=0:=h6.elim id fun e=>absurd (show false=true from e.1) Bool.false_ne_true
 clear h1 h2 h3 h4 h5 h6 h7 h8 h9 cC
 refine Spec.enter an ko 100 Tryz.func132 rfl (by kernel_rfl) ?_
 refine .inl ⟨af (by omega),?_⟩
 refine .inl ⟨af (by omega),?_⟩
 refine .inl ⟨af (by omega),?_⟩
 refine (ar hs).u ?_
 refine (k9 i i.rm 3 (by omega) (by omega) (by omega) (by decide)).u ?_
 refine aD ?_
 have eo:dS i (ax 2)=0 ||| B i.rm 0 3 6 ||| B i.rn 0 3 3 ||| B i.rd 0 3 0:=rfl
 rw[eo]
 refine (show _=_ from congrArg (fun n:Nat=>(n:Int)) ?_)
 simp only[Nat.zero_or]
theorem Dd (i:IN) (hs:aa i.form=3) (hr:aF i (bX 3)) (hg:i.ao<=9223372036854775807):ai gT 132 [cG i] (.int .u32 ((dS i (ax 3):Nat):Int)):=by
 obtain⟨hf,h1,h2,h3,h4,h5,h6,h7,h8,h9,cC⟩:=hr
 have g0:=dJ (r:=i.rd) h1
 have g1:=dJ (r:=i.rn) h2
 have g2:=aA (r:=i.rm) h3
 have g3:=aA (r:=i.ra) h4
 have g4:0<=i.az/\i.az<=7/\i.az % 1=0:=dZ (s:=1) (by decide) h7
 have g5:i.kind=0:=(bd rfl h9).1
 have g6:i.bC=0:=bK (bd rfl h9).2
 have g7:i.set=0:=h8.elim id fun e=>absurd (show false=true from e.2) Bool.false_ne_true
 have g8:i.cond=0:=h6.elim id fun e=>absurd (show false=true from e.1) Bool.false_ne_true
 clear h1 h2 h3 h4 h5 h6 h7 h8 h9 cC
 refine Spec.enter an ko 100 Tryz.func132 rfl (by kernel_rfl) ?_
 refine .inl ⟨af (by omega),?_⟩
 refine .inl ⟨af (by omega),?_⟩
 refine .inl ⟨af (by omega),?_⟩
 refine (ar hs).u ?_
 refine (k9 i i.az 3 (by omega) (by omega) (by omega) (by decide)).u ?_
 refine aD ?_
 have eo:dS i (ax 3)=0 ||| B i.az 0 3 6 ||| B i.rn 0 3 3 ||| B i.rd 0 3 0:=rfl
 rw[eo]
 refine (show _=_ from congrArg (fun n:Nat=>(n:Int)) ?_)
 simp only[Nat.zero_or]
theorem De (i:IN) (hs:aa i.form=4) (hr:aF i (bX 4)) (hg:i.ao<=9223372036854775807):ai gT 132 [cG i] (.int .u32 ((dS i (ax 4):Nat):Int)):=by
 obtain⟨hf,h1,h2,h3,h4,h5,h6,h7,h8,h9,cC⟩:=hr
 have g0:=dJ (r:=i.rd) h1
 have g1:=aA (r:=i.rn) h2
 have g2:=aA (r:=i.rm) h3
 have g3:=aA (r:=i.ra) h4
 have g4:0<=i.az/\i.az<=255/\i.az % 1=0:=dZ (s:=1) (by decide) h7
 have g5:i.kind=0:=(bd rfl h9).1
 have g6:i.bC=0:=bK (bd rfl h9).2
 have g7:i.set=0:=h8.elim id fun e=>absurd (show false=true from e.2) Bool.false_ne_true
 have g8:i.cond=0:=h6.elim id fun e=>absurd (show false=true from e.1) Bool.false_ne_true
 clear h1 h2 h3 h4 h5 h6 h7 h8 h9 cC
 refine Spec.enter an ko 100 Tryz.func132 rfl (by kernel_rfl) ?_
 refine .inl ⟨af (by omega),?_⟩
 refine .inl ⟨af (by omega),?_⟩
 refine .inl ⟨af (by omega),?_⟩
 refine (ar hs).u ?_
 refine⟨by decide,.inl ⟨af (by rw[r8]; omega),?_⟩⟩
 refine aD ?_
 have eo:dS i (ax 4)=0 ||| B i.rd 0 3 8 ||| B i.az 0 8 0:=rfl
 rw[eo]
 refine (show bits .or .u32 (i.rd*Ev.aO .u32 8) (i.az)=_ from ?_)
 refine ((((mN i.rd 3 8 (by decide) (by decide) (by omega))).or (o9 i.az 8 (by decide) (by omega)))).1.trans (congrArg (fun n:Nat=>(n:Int)) ?_)
 first
 | (simp only[Nat.or_zero,Nat.zero_or]; done)
 | (simp only[Nat.or_zero,Nat.zero_or]
    generalize B i.rd 0 3 8=n0
    generalize B i.az 0 8 0=n1
    ac_rfl)
theorem Df (i:IN) (hs:aa i.form=5) (hr:aF i (bX 5)) (hg:i.ao<=9223372036854775807):ai gT 132 [cG i] (.int .u32 ((dS i (ax 5):Nat):Int)):=by
 obtain⟨hf,h1,h2,h3,h4,h5,h6,h7,h8,h9,cC⟩:=hr
 have g0:=dJ (r:=i.rd) h1
 have g1:=aA (r:=i.rn) h2
 have g2:=dJ (r:=i.rm) h3
 have g3:=aA (r:=i.ra) h4
 have g4:i.az=0:=bK h7
 have g5:i.kind=0:=(bd rfl h9).1
 have g6:i.bC=0:=bK (bd rfl h9).2
 have g7:i.set=0:=h8.elim id fun e=>absurd (show false=true from e.2) Bool.false_ne_true
 have g8:i.cond=0:=h6.elim id fun e=>absurd (show false=true from e.1) Bool.false_ne_true
 clear h1 h2 h3 h4 h5 h6 h7 h8 h9 cC
 refine Spec.enter an ko 100 Tryz.func132 rfl (by kernel_rfl) ?_
 refine .inl ⟨af (by omega),?_⟩
 refine .inl ⟨af (by omega),?_⟩
 refine .inl ⟨af (by omega),?_⟩
 refine (ar hs).u ?_
 refine⟨by decide,.inl ⟨af (by rw[r3]; omega),?_⟩⟩
 refine aD ?_
 have eo:dS i (ax 5)=0 ||| B i.rm 0 3 3 ||| B i.rd 0 3 0:=rfl
 rw[eo]
 refine (show bits .or .u32 (i.rm*Ev.aO .u32 3) (i.rd)=_ from ?_)
 refine ((((mN i.rm 3 3 (by decide) (by decide) (by omega))).or (o9 i.rd 3 (by decide) (by omega)))).1.trans (congrArg (fun n:Nat=>(n:Int)) ?_)
 first
 | (simp only[Nat.or_zero,Nat.zero_or]; done)
 | (simp only[Nat.or_zero,Nat.zero_or]
    generalize B i.rm 0 3 3=n0
    generalize B i.rd 0 3 0=n1
    ac_rfl)
theorem Dg (i:IN) (hs:aa i.form=6) (hr:aF i (bX 6)) (hg:i.ao<=9223372036854775807):ai gT 132 [cG i] (.int .u32 ((dS i (ax 6):Nat):Int)):=by
 obtain⟨hf,h1,h2,h3,h4,h5,h6,h7,h8,h9,cC⟩:=hr
 have g0:=kz (r:=i.rd) h1
 have g1:=aA (r:=i.rn) h2
 have g2:=kz (r:=i.rm) h3
 have g3:=aA (r:=i.ra) h4
 have g4:i.az=0:=bK h7
 have g5:i.kind=0:=(bd rfl h9).1
 have g6:i.bC=0:=bK (bd rfl h9).2
 have g7:i.set=0:=h8.elim id fun e=>absurd (show false=true from e.2) Bool.false_ne_true
 have g8:i.cond=0:=h6.elim id fun e=>absurd (show false=true from e.1) Bool.false_ne_true
 clear h1 h2 h3 h4 h5 h6 h7 h8 h9 cC
 have b0:=ae i.rd 3 1
 have b1:=ae i.rd 0 3
 refine Spec.enter an ko 100 Tryz.func132 rfl (by kernel_rfl) ?_
 refine .inl ⟨af (by omega),?_⟩
 refine .inl ⟨af (by omega),?_⟩
 refine .inl ⟨af (by omega),?_⟩
 refine (ar hs).u ?_
 refine (jG i.rd 3 1 (by unfold bO; omega) (by decide) (by decide)).u ?_
 refine⟨by decide,.inl ⟨af (by rw[r7]; omega),?_⟩⟩
 refine⟨by decide,.inl ⟨af (by rw[r3]; omega),?_⟩⟩
 refine (jG i.rd 0 3 (by unfold bO; omega) (by decide) (by decide)).u ?_
 refine aD ?_
 have eo:dS i (ax 6)=0 ||| B i.rd 3 1 7 ||| B i.rm 0 4 3 ||| B i.rd 0 3 0:=rfl
 rw[eo]
 refine (show bits .or .u32 (bits .or .u32 (ab i.rd 3 1*Ev.aO .u32 7) (i.rm*Ev.aO .u32 3)) (ab i.rd 0 3)=_ from ?_)
 refine ((((((pL i.rd 3 1 7 (by decide) (by decide))).or (mN i.rm 4 3 (by decide) (by decide) (by omega)))).or (sj i.rd 0 3 (by decide)))).1.trans (congrArg (fun n:Nat=>(n:Int)) ?_)
 first
 | (simp only[Nat.or_zero,Nat.zero_or]; done)
 | (simp only[Nat.or_zero,Nat.zero_or]
    generalize B i.rd 3 1 7=n0
    generalize B i.rm 0 4 3=n1
    generalize B i.rd 0 3 0=n2
    ac_rfl)
theorem Dh (i:IN) (hs:aa i.form=7) (hr:aF i (bX 7)) (hg:i.ao<=9223372036854775807):ai gT 132 [cG i] (.int .u32 ((dS i (ax 7):Nat):Int)):=by
 obtain⟨hf,h1,h2,h3,h4,h5,h6,h7,h8,h9,cC⟩:=hr
 have g0:=aA (r:=i.rd) h1
 have g1:=aA (r:=i.rn) h2
 have g2:=kz (r:=i.rm) h3
 have g3:=aA (r:=i.ra) h4
 have g4:i.az=0:=bK h7
 have g5:i.kind=0:=(bd rfl h9).1
 have g6:i.bC=0:=bK (bd rfl h9).2
 have g7:i.set=0:=h8.elim id fun e=>absurd (show false=true from e.2) Bool.false_ne_true
 have g8:i.cond=0:=h6.elim id fun e=>absurd (show false=true from e.1) Bool.false_ne_true
 clear h1 h2 h3 h4 h5 h6 h7 h8 h9 cC
 refine Spec.enter an ko 100 Tryz.func132 rfl (by kernel_rfl) ?_
 refine .inl ⟨af (by omega),?_⟩
 refine .inl ⟨af (by omega),?_⟩
 refine .inl ⟨af (by omega),?_⟩
 refine (ar hs).u ?_
 refine⟨by decide,.inl ⟨af (by rw[r3]; omega),?_⟩⟩
 refine aD ?_
 have eo:dS i (ax 7)=0 ||| B i.rm 0 4 3:=rfl
 rw[eo]
 refine (show i.rm*Ev.aO .u32 3=_ from ?_)
 refine ((mN i.rm 4 3 (by decide) (by decide) (by omega))).1.trans (congrArg (fun n:Nat=>(n:Int)) ?_)
 first
 | (simp only[Nat.or_zero,Nat.zero_or]; done)
 | (simp only[Nat.or_zero,Nat.zero_or]
    generalize B i.rm 0 4 3=n0
    ac_rfl)
theorem Di (i:IN) (hs:aa i.form=8) (hr:aF i (bX 8)) (hg:i.ao<=9223372036854775807):ai gT 132 [cG i] (.int .u32 ((dS i (ax 8):Nat):Int)):=by
 obtain⟨hf,h1,h2,h3,h4,h5,h6,h7,h8,h9,cC⟩:=hr
 have g0:=dJ (r:=i.rd) h1
 have g1:=aA (r:=i.rn) h2
 have g2:=aA (r:=i.rm) h3
 have g3:=aA (r:=i.ra) h4
 have g4:0<=i.az/\i.az<=1020/\i.az % 4=0:=dZ (s:=4) (by decide) h7
 have g5:i.kind=0:=(bd rfl h9).1
 have g6:i.bC=0:=bK (bd rfl h9).2
 have g7:i.set=0:=h8.elim id fun e=>absurd (show false=true from e.2) Bool.false_ne_true
 have g8:i.cond=0:=h6.elim id fun e=>absurd (show false=true from e.1) Bool.false_ne_true
 clear h1 h2 h3 h4 h5 h6 h7 h8 h9 cC
 refine Spec.enter an ko 100 Tryz.func132 rfl (by kernel_rfl) ?_
 refine .inl ⟨af (by omega),?_⟩
 refine .inl ⟨af (by omega),?_⟩
 refine .inl ⟨af (by omega),?_⟩
 refine (ar hs).u ?_
 refine⟨by decide,.inl ⟨af (by rw[r8]; omega),?_⟩⟩
 refine⟨by decide,.inl ⟨by omega,by first|exact (show (_:Int)<=4294967295 by omega)|omega,by decide,?_⟩⟩
 refine aD ?_
 have eo:dS i (ax 8)=0 ||| B i.rd 0 3 8 ||| B i.az 2 8 0:=rfl
 rw[eo]
 refine (show bits .or .u32 (i.rd*Ev.aO .u32 8) (i.az / 4)=_ from ?_)
 refine ((((mN i.rd 3 8 (by decide) (by decide) (by omega))).or (ZS i.az 8 (by decide) (by omega) (by omega)))).1.trans (congrArg (fun n:Nat=>(n:Int)) ?_)
 first
 | (simp only[Nat.or_zero,Nat.zero_or]; done)
 | (simp only[Nat.or_zero,Nat.zero_or]
    generalize B i.rd 0 3 8=n0
    generalize B i.az 2 8 0=n1
    ac_rfl)
theorem Dj (i:IN) (hs:aa i.form=9) (hr:aF i (bX 9)) (hg:i.ao<=9223372036854775807):ai gT 132 [cG i] (.int .u32 ((dS i (ax 9):Nat):Int)):=by
 obtain⟨hf,h1,h2,h3,h4,h5,h6,h7,h8,h9,cC⟩:=hr
 have g0:=dJ (r:=i.rd) h1
 have g1:=dJ (r:=i.rn) h2
 have g2:=aA (r:=i.rm) h3
 have g3:=aA (r:=i.ra) h4
 have g4:0<=i.az/\i.az<=124/\i.az % 4=0:=dZ (s:=4) (by decide) h7
 have g5:i.kind=0:=(bd rfl h9).1
 have g6:i.bC=0:=bK (bd rfl h9).2
 have g7:i.set=0:=h8.elim id fun e=>absurd (show false=true from e.2) Bool.false_ne_true
 have g8:i.cond=0:=h6.elim id fun e=>absurd (show false=true from e.1) Bool.false_ne_true
 clear h1 h2 h3 h4 h5 h6 h7 h8 h9 cC
 refine Spec.enter an ko 100 Tryz.func132 rfl (by kernel_rfl) ?_
 refine .inl ⟨af (by omega),?_⟩
 refine .inl ⟨af (by omega),?_⟩
 refine .inl ⟨af (by omega),?_⟩
 refine (ar hs).u ?_
 refine⟨by decide,.inl ⟨by omega,by first|exact (show (_:Int)<=4294967295 by omega)|omega,by decide,?_⟩⟩
 refine (k9 i (i.az / 4) 5 (by omega) (by omega) (by omega) (by decide)).u ?_
 refine aD ?_
 have eo:dS i (ax 9)=0 ||| B i.az 2 5 6 ||| B i.rn 0 3 3 ||| B i.rd 0 3 0:=rfl
 rw[eo]
 refine (show _=_ from congrArg (fun n:Nat=>(n:Int)) ?_)
 rw[JR (by omega)]; simp only[Nat.zero_or]
theorem zK (i:IN) (hs:aa i.form=10) (hr:aF i (bX 10)) (hg:i.ao<=9223372036854775807):ai gT 132 [cG i] (.int .u32 ((dS i (ax 10):Nat):Int)):=by
 obtain⟨hf,h1,h2,h3,h4,h5,h6,h7,h8,h9,cC⟩:=hr
 have g0:=aA (r:=i.rd) h1
 have g1:=aA (r:=i.rn) h2
 have g2:=aA (r:=i.rm) h3
 have g3:=aA (r:=i.ra) h4
 have g4:0<=i.az/\i.az<=508/\i.az % 4=0:=dZ (s:=4) (by decide) h7
 have g5:i.kind=0:=(bd rfl h9).1
 have g6:i.bC=0:=bK (bd rfl h9).2
 have g7:i.set=0:=h8.elim id fun e=>absurd (show false=true from e.2) Bool.false_ne_true
 have g8:i.cond=0:=h6.elim id fun e=>absurd (show false=true from e.1) Bool.false_ne_true
 clear h1 h2 h3 h4 h5 h6 h7 h8 h9 cC
 refine Spec.enter an ko 100 Tryz.func132 rfl (by kernel_rfl) ?_
 refine .inl ⟨af (by omega),?_⟩
 refine .inl ⟨af (by omega),?_⟩
 refine .inl ⟨af (by omega),?_⟩
 refine (ar hs).u ?_
 refine⟨by decide,.inl ⟨by omega,by first|exact (show (_:Int)<=4294967295 by omega)|omega,by decide,?_⟩⟩
 refine aD ?_
 have eo:dS i (ax 10)=0 ||| B i.az 2 7 0:=rfl
 rw[eo]
 refine (show i.az / 4=_ from ?_)
 refine ((ZS i.az 7 (by decide) (by omega) (by omega))).1.trans (congrArg (fun n:Nat=>(n:Int)) ?_)
 first
 | (simp only[Nat.or_zero,Nat.zero_or]; done)
 | (simp only[Nat.or_zero,Nat.zero_or]
    generalize B i.az 2 7 0=n0
    ac_rfl)
theorem zL (i:IN) (hs:aa i.form=11) (hr:aF i (bX 11)) (hg:i.ao<=9223372036854775807):ai gT 132 [cG i] (.int .u32 ((dS i (ax 11):Nat):Int)):=by
 obtain⟨hf,h1,h2,h3,h4,h5,h6,h7,h8,h9,cC⟩:=hr
 have g0:=aA (r:=i.rd) h1
 have g1:=aA (r:=i.rn) h2
 have g2:=aA (r:=i.rm) h3
 have g3:=aA (r:=i.ra) h4
 have g4:i.az=0:=bK h7
 have g5:i.kind=0:=(bd rfl h9).1
 have g6:i.bC=0:=bK (bd rfl h9).2
 have g7:i.set=0:=h8.elim id fun e=>absurd (show false=true from e.2) Bool.false_ne_true
 have g8:i.cond=0:=h6.elim id fun e=>absurd (show false=true from e.1) Bool.false_ne_true
 have g9:0 < i.ao/\i.ao / 16384 % 2*16384+i.ao % 256=i.ao:=xW 14 (by decide) (by decide) rfl h5 hg
 clear h1 h2 h3 h4 h5 h6 h7 h8 h9 cC
 have b0:=ae i.ao 14 1
 have b1:=ae i.ao 0 8
 refine Spec.enter an ko 100 Tryz.func132 rfl (by kernel_rfl) ?_
 refine .inl ⟨af (by omega),?_⟩
 refine .inl ⟨af (by omega),?_⟩
 refine .inl ⟨af (by omega),?_⟩
 refine (ar hs).u ?_
 repeat (refine Or.inl (And.intro (af (by omega)) ?_))
 refine (jG i.ao 14 1 (by unfold bO; omega) (by decide) (by decide)).u ?_
 refine⟨by decide,.inl ⟨af (by rw[r8]; omega),?_⟩⟩
 repeat (refine Or.inl (And.intro (af (by omega)) ?_))
 refine (jG i.ao 0 8 (by unfold bO; omega) (by decide) (by decide)).u ?_
 refine aD ?_
 have eo:dS i (ax 11)=0 ||| B i.ao 14 1 8 ||| B i.ao 0 8 0:=rfl
 rw[eo]
 refine (show bits .or .u32 (ab i.ao 14 1*Ev.aO .u32 8) (ab i.ao 0 8)=_ from ?_)
 refine ((((pL i.ao 14 1 8 (by decide) (by decide))).or (sj i.ao 0 8 (by decide)))).1.trans (congrArg (fun n:Nat=>(n:Int)) ?_)
 first
 | (simp only[Nat.or_zero,Nat.zero_or]; done)
 | (simp only[Nat.or_zero,Nat.zero_or]
    generalize B i.ao 14 1 8=n0
    generalize B i.ao 0 8 0=n1
    ac_rfl)
theorem zM (i:IN) (hs:aa i.form=12) (hr:aF i (bX 12)) (hg:i.ao<=9223372036854775807):ai gT 132 [cG i] (.int .u32 ((dS i (ax 12):Nat):Int)):=by
 obtain⟨hf,h1,h2,h3,h4,h5,h6,h7,h8,h9,cC⟩:=hr
 have g0:=aA (r:=i.rd) h1
 have g1:=aA (r:=i.rn) h2
 have g2:=aA (r:=i.rm) h3
 have g3:=aA (r:=i.ra) h4
 have g4:i.az=0:=bK h7
 have g5:i.kind=0:=(bd rfl h9).1
 have g6:i.bC=0:=bK (bd rfl h9).2
 have g7:i.set=0:=h8.elim id fun e=>absurd (show false=true from e.2) Bool.false_ne_true
 have g8:i.cond=0:=h6.elim id fun e=>absurd (show false=true from e.1) Bool.false_ne_true
 have g9:0 < i.ao/\i.ao / 32768 % 2*32768+i.ao % 256=i.ao:=xW 15 (by decide) (by decide) rfl h5 hg
 clear h1 h2 h3 h4 h5 h6 h7 h8 h9 cC
 have b0:=ae i.ao 15 1
 have b1:=ae i.ao 0 8
 refine Spec.enter an ko 100 Tryz.func132 rfl (by kernel_rfl) ?_
 refine .inl ⟨af (by omega),?_⟩
 refine .inl ⟨af (by omega),?_⟩
 refine .inl ⟨af (by omega),?_⟩
 refine (ar hs).u ?_
 repeat (refine Or.inl (And.intro (af (by omega)) ?_))
 refine (jG i.ao 15 1 (by unfold bO; omega) (by decide) (by decide)).u ?_
 refine⟨by decide,.inl ⟨af (by rw[r8]; omega),?_⟩⟩
 repeat (refine Or.inl (And.intro (af (by omega)) ?_))
 refine (jG i.ao 0 8 (by unfold bO; omega) (by decide) (by decide)).u ?_
 refine aD ?_
 have eo:dS i (ax 12)=0 ||| B i.ao 15 1 8 ||| B i.ao 0 8 0:=rfl
 rw[eo]
 refine (show bits .or .u32 (ab i.ao 15 1*Ev.aO .u32 8) (ab i.ao 0 8)=_ from ?_)
 refine ((((pL i.ao 15 1 8 (by decide) (by decide))).or (sj i.ao 0 8 (by decide)))).1.trans (congrArg (fun n:Nat=>(n:Int)) ?_)
 first
 | (simp only[Nat.or_zero,Nat.zero_or]; done)
 | (simp only[Nat.or_zero,Nat.zero_or]
    generalize B i.ao 15 1 8=n0
    generalize B i.ao 0 8 0=n1
    ac_rfl)
theorem zN (i:IN) (hs:aa i.form=13) (hr:aF i (bX 13)) (hg:i.ao<=9223372036854775807):ai gT 132 [cG i] (.int .u32 ((dS i (ax 13):Nat):Int)):=by
 obtain⟨hf,h1,h2,h3,h4,h5,h6,h7,h8,h9,cC⟩:=hr
 have g0:=aA (r:=i.rd) h1
 have g1:=aA (r:=i.rn) h2
 have g2:=aA (r:=i.rm) h3
 have g3:=aA (r:=i.ra) h4
 have g4:i.az=0:=bK h7
 have g5:i.kind=0:=(bd rfl h9).1
 have g6:i.bC=0:=bK (bd rfl h9).2
 have g7:i.set=0:=h8.elim id fun e=>absurd (show false=true from e.2) Bool.false_ne_true
 have g8:i.cond=0:=h6.elim id fun e=>absurd (show false=true from e.1) Bool.false_ne_true
 clear h1 h2 h3 h4 h5 h6 h7 h8 h9 cC
 refine Spec.enter an ko 100 Tryz.func132 rfl (by kernel_rfl) ?_
 refine .inl ⟨af (by omega),?_⟩
 refine .inl ⟨af (by omega),?_⟩
 refine .inl ⟨af (by omega),?_⟩
 refine (ar hs).u ?_
 exact aD rfl
theorem zO (i:IN) (hs:aa i.form=14) (hr:aF i (bX 14)) (hg:i.ao<=9223372036854775807):ai gT 132 [cG i] (.int .u32 ((dS i (ax 14):Nat):Int)):=by
 obtain⟨hf,h1,h2,h3,h4,h5,h6,h7,h8,h9,cC⟩:=hr
 have g0:=aA (r:=i.rd) h1
 have g1:=aA (r:=i.rn) h2
 have g2:=aA (r:=i.rm) h3
 have g3:=aA (r:=i.ra) h4
 have g4:0<=i.az/\i.az<=255/\i.az % 1=0:=dZ (s:=1) (by decide) h7
 have g5:i.kind=0:=(bd rfl h9).1
 have g6:i.bC=0:=bK (bd rfl h9).2
 have g7:i.set=0:=h8.elim id fun e=>absurd (show false=true from e.2) Bool.false_ne_true
 have g8:i.cond=0:=h6.elim id fun e=>absurd (show false=true from e.1) Bool.false_ne_true
 clear h1 h2 h3 h4 h5 h6 h7 h8 h9 cC
 refine Spec.enter an ko 100 Tryz.func132 rfl (by kernel_rfl) ?_
 refine .inl ⟨af (by omega),?_⟩
 refine .inl ⟨af (by omega),?_⟩
 refine .inl ⟨af (by omega),?_⟩
 refine (ar hs).u ?_
 refine aD ?_
 have eo:dS i (ax 14)=0 ||| B i.az 0 8 0:=rfl
 rw[eo]
 refine (show i.az=_ from ?_)
 refine ((o9 i.az 8 (by decide) (by omega))).1.trans (congrArg (fun n:Nat=>(n:Int)) ?_)
 first
 | (simp only[Nat.or_zero,Nat.zero_or]; done)
 | (simp only[Nat.or_zero,Nat.zero_or]
    generalize B i.az 0 8 0=n0
    ac_rfl)
theorem zP (i:IN) (hs:aa i.form=15) (hr:aF i (bX 15)) (hg:i.ao<=9223372036854775807):ai gT 132 [cG i] (.int .u32 ((dS i (ax 15):Nat):Int)):=by
 obtain⟨hf,h1,h2,h3,h4,h5,h6,h7,h8,h9,cC⟩:=hr
 have g0:=aA (r:=i.rd) h1
 have g1:=aA (r:=i.rn) h2
 have g2:=aA (r:=i.rm) h3
 have g3:=aA (r:=i.ra) h4
 have g4:-256<=i.az/\i.az<=254/\i.az % 2=0:=dZ (s:=2) (by decide) h7
 have g5:i.kind=0:=(bd rfl h9).1
 have g6:i.bC=0:=bK (bd rfl h9).2
 have g7:i.set=0:=h8.elim id fun e=>absurd (show false=true from e.2) Bool.false_ne_true
 have g8:0<=i.cond/\i.cond<=13:=by rcases h6 with h6|h6<;>omega
 clear h1 h2 h3 h4 h5 h6 h7 h8 h9 cC
 have b0:=ae i.az 1 8
 refine Spec.enter an ko 100 Tryz.func132 rfl (by kernel_rfl) ?_
 refine .inr ?_
 refine .inl ⟨af (by omega),?_⟩
 refine .inl ⟨af (by omega),?_⟩
 refine (ar hs).u ?_
 refine .inl ⟨af (by omega),?_⟩
 refine⟨by decide,.inl ⟨af (by rw[r8]; omega),?_⟩⟩
 refine (nL i.az 1 8 (by omega) (by decide) (by decide) (by decide)).u ?_
 refine aD ?_
 have eo:dS i (ax 15)=0 ||| B i.cond 0 4 8 ||| B i.az 1 8 0:=rfl
 rw[eo]
 refine (show bits .or .u32 (i.cond*Ev.aO .u32 8) (ab i.az 1 8)=_ from ?_)
 refine ((((mN i.cond 4 8 (by decide) (by decide) (by omega))).or (sj i.az 1 8 (by decide)))).1.trans (congrArg (fun n:Nat=>(n:Int)) ?_)
 first
 | (simp only[Nat.or_zero,Nat.zero_or]; done)
 | (simp only[Nat.or_zero,Nat.zero_or]
    generalize B i.cond 0 4 8=n0
    generalize B i.az 1 8 0=n1
    ac_rfl)
theorem zQ (i:IN) (hs:aa i.form=16) (hr:aF i (bX 16)) (hg:i.ao<=9223372036854775807):ai gT 132 [cG i] (.int .u32 ((dS i (ax 16):Nat):Int)):=by
 obtain⟨hf,h1,h2,h3,h4,h5,h6,h7,h8,h9,cC⟩:=hr
 have g0:=aA (r:=i.rd) h1
 have g1:=aA (r:=i.rn) h2
 have g2:=aA (r:=i.rm) h3
 have g3:=aA (r:=i.ra) h4
 have g4:-2048<=i.az/\i.az<=2046/\i.az % 2=0:=dZ (s:=2) (by decide) h7
 have g5:i.kind=0:=(bd rfl h9).1
 have g6:i.bC=0:=bK (bd rfl h9).2
 have g7:i.set=0:=h8.elim id fun e=>absurd (show false=true from e.2) Bool.false_ne_true
 have g8:i.cond=0:=h6.elim id fun e=>absurd (show false=true from e.1) Bool.false_ne_true
 clear h1 h2 h3 h4 h5 h6 h7 h8 h9 cC
 have b0:=ae i.az 1 11
 refine Spec.enter an ko 100 Tryz.func132 rfl (by kernel_rfl) ?_
 refine .inr ?_
 refine .inl ⟨af (by omega),?_⟩
 refine .inl ⟨af (by omega),?_⟩
 refine (ar hs).u ?_
 refine (nL i.az 1 11 (by omega) (by decide) (by decide) (by decide)).u ?_
 refine aD ?_
 have eo:dS i (ax 16)=0 ||| B i.az 1 11 0:=rfl
 rw[eo]
 refine (show ab i.az 1 11=_ from ?_)
 refine ((sj i.az 1 11 (by decide))).1.trans (congrArg (fun n:Nat=>(n:Int)) ?_)
 first
 | (simp only[Nat.or_zero,Nat.zero_or]; done)
 | (simp only[Nat.or_zero,Nat.zero_or]
    generalize B i.az 1 11 0=n0
    ac_rfl)
end Go.Proofs.YtlgkljpgagfndaaGreatDoor.Pw

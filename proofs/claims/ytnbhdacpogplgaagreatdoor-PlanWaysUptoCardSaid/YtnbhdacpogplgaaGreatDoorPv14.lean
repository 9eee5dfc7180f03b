/- What this claim is proved with: no condition. -/
import Derived.Test.YtnbhdacpogplgaaGreatDoorPv13
set_option maxRecDepth 100000
set_option maxHeartbeats 8000000
set_option linter.unusedVariables false
set_option linter.unusedSimpArgs false
namespace Go.Proofs.YtnbhdacpogplgaaGreatDoor.Pw
open Go Go.RowKit
theorem MG (i:IN) (hs:af i.form=1) (hr:aS i (fg 1)) (hg:i.aA<=9223372036854775807):aj gT 104 [cZ i] (.int .u32 ((fC i (ay 1):Nat):Int)):=by
 obtain⟨hf,h1,h2,h3,h4,h5,h6,h7,h8,h9,cS⟩:=hr
 have g0:=eV (r:=i.rd) h1
 have g1:=aB (r:=i.rn) h2
 have g2:=eV (r:=i.rm) h3
 have g3:=aB (r:=i.ra) h4
 have g4:0<=i.aC/\i.aC<=32/\i.aC % 1=0:=fA (s:=1) (by decide) h7
 have g5:i.kind=0:=(bc rfl h9).1
 have g6:i.bD=0:=bz (bc rfl h9).2
 have g7:i.set=0:=h8.elim id fun e=>absurd (show false=true from e.2) Bool.false_ne_true
 have g8:i.cond=0:=h6.elim id fun e=>absurd (show false=true from e.1) Bool.false_ne_true
 clear h1 h2 h3 h4 h5 h6 h7 h8 h9 cS
 have b0:=ae i.aC 0 5
 refine Spec.enter ao po 100 Tryz.func104 rfl (by kernel_rfl) ?_
 refine .inl ⟨ai (by omega),?_⟩
 refine .inl ⟨ai (by omega),?_⟩
 refine .inl ⟨ai (by omega),?_⟩
 refine (av hs).u ?_
 refine (nX i.aC 0 5 (by unfold dH; omega) (by decide) (by decide)).u ?_
 refine⟨by decide,.inl ⟨ai (by rw[r6]; omega),?_⟩⟩
 refine⟨by decide,.inl ⟨ai (by rw[r3]; omega),?_⟩⟩
 refine al ?_
 have eo:fC i (ay 1)=0 ||| B i.aC 0 5 6 ||| B i.rm 0 3 3 ||| B i.rd 0 3 0:=rfl
 rw[eo]
 refine (show bits .or .u32 (bits .or .u32 (aa i.aC 0 5*Ev.aQ .u32 6) (i.rm*Ev.aQ .u32 3)) (i.rd)=_ from ?_)
 refine ((((((xA i.aC 0 5 6 (by decide) (by decide))).or (sZ i.rm 3 3 (by decide) (by decide) (by omega)))).or (vZ i.rd 3 (by decide) (by omega)))).1.trans (congrArg (fun n:Nat=>(n:Int)) ?_)
 first
 | (simp only[Nat.or_zero,Nat.zero_or]; done)
 | (simp only[Nat.or_zero,Nat.zero_or]
    generalize B i.aC 0 5 6=n0
    generalize B i.rm 0 3 3=n1
    generalize B i.rd 0 3 0=n2
    ac_rfl)
theorem MH (i:IN) (hs:af i.form=2) (hr:aS i (fg 2)) (hg:i.aA<=9223372036854775807):aj gT 104 [cZ i] (.int .u32 ((fC i (ay 2):Nat):Int)):=by
 obtain⟨hf,h1,h2,h3,h4,h5,h6,h7,h8,h9,cS⟩:=hr
 have g0:=eV (r:=i.rd) h1
 have g1:=eV (r:=i.rn) h2
 have g2:=eV (r:=i.rm) h3
 have g3:=aB (r:=i.ra) h4
 have g4:i.aC=0:=bz h7
 have g5:i.kind=0:=(bc rfl h9).1
 have g6:i.bD=0:=bz (bc rfl h9).2
 have g7:i.set=0:=h8.elim id fun e=>absurd (show false=true from e.2) Bool.false_ne_true
 have g8:i.cond=0:=h6.elim id fun e=>absurd (show false=true from e.1) Bool.false_ne_true
 clear h1 h2 h3 h4 h5 h6 h7 h8 h9 cS
 refine Spec.enter ao po 100 Tryz.func104 rfl (by kernel_rfl) ?_
 refine .inl ⟨ai (by omega),?_⟩
 refine .inl ⟨ai (by omega),?_⟩
 refine .inl ⟨ai (by omega),?_⟩
 refine (av hs).u ?_
 refine (qi i i.rm 3 (by omega) (by omega) (by omega) (by decide)).u ?_
 refine al ?_
 have eo:fC i (ay 2)=0 ||| B i.rm 0 3 6 ||| B i.rn 0 3 3 ||| B i.rd 0 3 0:=rfl
 rw[eo]
 refine (show _=_ from congrArg (fun n:Nat=>(n:Int)) ?_)
 simp only[Nat.zero_or]
theorem MI (i:IN) (hs:af i.form=3) (hr:aS i (fg 3)) (hg:i.aA<=9223372036854775807):aj gT 104 [cZ i] (.int .u32 ((fC i (ay 3):Nat):Int)):=by
 obtain⟨hf,h1,h2,h3,h4,h5,h6,h7,h8,h9,cS⟩:=hr
 have g0:=eV (r:=i.rd) h1
 have g1:=eV (r:=i.rn) h2
 have g2:=aB (r:=i.rm) h3
 have g3:=aB (r:=i.ra) h4
 have g4:0<=i.aC/\i.aC<=7/\i.aC % 1=0:=fA (s:=1) (by decide) h7
 have g5:i.kind=0:=(bc rfl h9).1
 have g6:i.bD=0:=bz (bc rfl h9).2
 have g7:i.set=0:=h8.elim id fun e=>absurd (show false=true from e.2) Bool.false_ne_true
 have g8:i.cond=0:=h6.elim id fun e=>absurd (show false=true from e.1) Bool.false_ne_true
 clear h1 h2 h3 h4 h5 h6 h7 h8 h9 cS
 refine Spec.enter ao po 100 Tryz.func104 rfl (by kernel_rfl) ?_
 refine .inl ⟨ai (by omega),?_⟩
 refine .inl ⟨ai (by omega),?_⟩
 refine .inl ⟨ai (by omega),?_⟩
 refine (av hs).u ?_
 refine (qi i i.aC 3 (by omega) (by omega) (by omega) (by decide)).u ?_
 refine al ?_
 have eo:fC i (ay 3)=0 ||| B i.aC 0 3 6 ||| B i.rn 0 3 3 ||| B i.rd 0 3 0:=rfl
 rw[eo]
 refine (show _=_ from congrArg (fun n:Nat=>(n:Int)) ?_)
 simp only[Nat.zero_or]
theorem MJ (i:IN) (hs:af i.form=4) (hr:aS i (fg 4)) (hg:i.aA<=9223372036854775807):aj gT 104 [cZ i] (.int .u32 ((fC i (ay 4):Nat):Int)):=by
 obtain⟨hf,h1,h2,h3,h4,h5,h6,h7,h8,h9,cS⟩:=hr
 have g0:=eV (r:=i.rd) h1
 have g1:=aB (r:=i.rn) h2
 have g2:=aB (r:=i.rm) h3
 have g3:=aB (r:=i.ra) h4
 have g4:0<=i.aC/\i.aC<=255/\i.aC % 1=0:=fA (s:=1) (by decide) h7
 have g5:i.kind=0:=(bc rfl h9).1
 have g6:i.bD=0:=bz (bc rfl h9).2
 have g7:i.set=0:=h8.elim id fun e=>absurd (show false=true from e.2) Bool.false_ne_true
 have g8:i.cond=0:=h6.elim id fun e=>absurd (show false=true from e.1) Bool.false_ne_true
 clear h1 h2 h3 h4 h5 h6 h7 h8 h9 cS
 refine Spec.enter ao po 100 Tryz.func104 rfl (by kernel_rfl) ?_
 refine .inl ⟨ai (by omega),?_⟩
 refine .inl ⟨ai (by omega),?_⟩
 refine .inl ⟨ai (by omega),?_⟩
 refine (av hs).u ?_
 refine⟨by decide,.inl ⟨ai (by rw[r8]; omega),?_⟩⟩
 refine al ?_
 have eo:fC i (ay 4)=0 ||| B i.rd 0 3 8 ||| B i.aC 0 8 0:=rfl
 rw[eo]
 refine (show bits .or .u32 (i.rd*Ev.aQ .u32 8) (i.aC)=_ from ?_)
 refine ((((sZ i.rd 3 8 (by decide) (by decide) (by omega))).or (vZ i.aC 8 (by decide) (by omega)))).1.trans (congrArg (fun n:Nat=>(n:Int)) ?_)
 first
 | (simp only[Nat.or_zero,Nat.zero_or]; done)
 | (simp only[Nat.or_zero,Nat.zero_or]
    generalize B i.rd 0 3 8=n0
    generalize B i.aC 0 8 0=n1
    ac_rfl)
theorem MK (i:IN) (hs:af i.form=5) (hr:aS i (fg 5)) (hg:i.aA<=9223372036854775807):aj gT 104 [cZ i] (.int .u32 ((fC i (ay 5):Nat):Int)):=by
 obtain⟨hf,h1,h2,h3,h4,h5,h6,h7,h8,h9,cS⟩:=hr
 have g0:=eV (r:=i.rd) h1
 have g1:=aB (r:=i.rn) h2
 have g2:=eV (r:=i.rm) h3
 have g3:=aB (r:=i.ra) h4
 have g4:i.aC=0:=bz h7
 have g5:i.kind=0:=(bc rfl h9).1
 have g6:i.bD=0:=bz (bc rfl h9).2
 have g7:i.set=0:=h8.elim id fun e=>absurd (show false=true from e.2) Bool.false_ne_true
 have g8:i.cond=0:=h6.elim id fun e=>absurd (show false=true from e.1) Bool.false_ne_true
 clear h1 h2 h3 h4 h5 h6 h7 h8 h9 cS
 refine Spec.enter ao po 100 Tryz.func104 rfl (by kernel_rfl) ?_
 refine .inl ⟨ai (by omega),?_⟩
 refine .inl ⟨ai (by omega),?_⟩
 refine .inl ⟨ai (by omega),?_⟩
 refine (av hs).u ?_
 refine⟨by decide,.inl ⟨ai (by rw[r3]; omega),?_⟩⟩
 refine al ?_
 have eo:fC i (ay 5)=0 ||| B i.rm 0 3 3 ||| B i.rd 0 3 0:=rfl
 rw[eo]
 refine (show bits .or .u32 (i.rm*Ev.aQ .u32 3) (i.rd)=_ from ?_)
 refine ((((sZ i.rm 3 3 (by decide) (by decide) (by omega))).or (vZ i.rd 3 (by decide) (by omega)))).1.trans (congrArg (fun n:Nat=>(n:Int)) ?_)
 first
 | (simp only[Nat.or_zero,Nat.zero_or]; done)
 | (simp only[Nat.or_zero,Nat.zero_or]
    generalize B i.rm 0 3 3=n0
    generalize B i.rd 0 3 0=n1
    ac_rfl)
theorem ML (i:IN) (hs:af i.form=6) (hr:aS i (fg 6)) (hg:i.aA<=9223372036854775807):aj gT 104 [cZ i] (.int .u32 ((fC i (ay 6):Nat):Int)):=by
 obtain⟨hf,h1,h2,h3,h4,h5,h6,h7,h8,h9,cS⟩:=hr
 have g0:=pI (r:=i.rd) h1
 have g1:=aB (r:=i.rn) h2
 have g2:=pI (r:=i.rm) h3
 have g3:=aB (r:=i.ra) h4
 have g4:i.aC=0:=bz h7
 have g5:i.kind=0:=(bc rfl h9).1
 have g6:i.bD=0:=bz (bc rfl h9).2
 have g7:i.set=0:=h8.elim id fun e=>absurd (show false=true from e.2) Bool.false_ne_true
 have g8:i.cond=0:=h6.elim id fun e=>absurd (show false=true from e.1) Bool.false_ne_true
 clear h1 h2 h3 h4 h5 h6 h7 h8 h9 cS
 have b0:=ae i.rd 3 1
 have b1:=ae i.rd 0 3
 refine Spec.enter ao po 100 Tryz.func104 rfl (by kernel_rfl) ?_
 refine .inl ⟨ai (by omega),?_⟩
 refine .inl ⟨ai (by omega),?_⟩
 refine .inl ⟨ai (by omega),?_⟩
 refine (av hs).u ?_
 refine (nX i.rd 3 1 (by unfold dH; omega) (by decide) (by decide)).u ?_
 refine⟨by decide,.inl ⟨ai (by rw[r7]; omega),?_⟩⟩
 refine⟨by decide,.inl ⟨ai (by rw[r3]; omega),?_⟩⟩
 refine (nX i.rd 0 3 (by unfold dH; omega) (by decide) (by decide)).u ?_
 refine al ?_
 have eo:fC i (ay 6)=0 ||| B i.rd 3 1 7 ||| B i.rm 0 4 3 ||| B i.rd 0 3 0:=rfl
 rw[eo]
 refine (show bits .or .u32 (bits .or .u32 (aa i.rd 3 1*Ev.aQ .u32 7) (i.rm*Ev.aQ .u32 3)) (aa i.rd 0 3)=_ from ?_)
 refine ((((((xA i.rd 3 1 7 (by decide) (by decide))).or (sZ i.rm 4 3 (by decide) (by decide) (by omega)))).or (Aj i.rd 0 3 (by decide)))).1.trans (congrArg (fun n:Nat=>(n:Int)) ?_)
 first
 | (simp only[Nat.or_zero,Nat.zero_or]; done)
 | (simp only[Nat.or_zero,Nat.zero_or]
    generalize B i.rd 3 1 7=n0
    generalize B i.rm 0 4 3=n1
    generalize B i.rd 0 3 0=n2
    ac_rfl)
theorem MM (i:IN) (hs:af i.form=7) (hr:aS i (fg 7)) (hg:i.aA<=9223372036854775807):aj gT 104 [cZ i] (.int .u32 ((fC i (ay 7):Nat):Int)):=by
 obtain⟨hf,h1,h2,h3,h4,h5,h6,h7,h8,h9,cS⟩:=hr
 have g0:=aB (r:=i.rd) h1
 have g1:=aB (r:=i.rn) h2
 have g2:=pI (r:=i.rm) h3
 have g3:=aB (r:=i.ra) h4
 have g4:i.aC=0:=bz h7
 have g5:i.kind=0:=(bc rfl h9).1
 have g6:i.bD=0:=bz (bc rfl h9).2
 have g7:i.set=0:=h8.elim id fun e=>absurd (show false=true from e.2) Bool.false_ne_true
 have g8:i.cond=0:=h6.elim id fun e=>absurd (show false=true from e.1) Bool.false_ne_true
 clear h1 h2 h3 h4 h5 h6 h7 h8 h9 cS
 refine Spec.enter ao po 100 Tryz.func104 rfl (by kernel_rfl) ?_
 refine .inl ⟨ai (by omega),?_⟩
 refine .inl ⟨ai (by omega),?_⟩
 refine .inl ⟨ai (by omega),?_⟩
 refine (av hs).u ?_
 refine⟨by decide,.inl ⟨ai (by rw[r3]; omega),?_⟩⟩
 refine al ?_
 have eo:fC i (ay 7)=0 ||| B i.rm 0 4 3:=rfl
 rw[eo]
 refine (show i.rm*Ev.aQ .u32 3=_ from ?_)
 refine ((sZ i.rm 4 3 (by decide) (by decide) (by omega))).1.trans (congrArg (fun n:Nat=>(n:Int)) ?_)
 first
 | (simp only[Nat.or_zero,Nat.zero_or]; done)
 | (simp only[Nat.or_zero,Nat.zero_or]
    generalize B i.rm 0 4 3=n0
    ac_rfl)
theorem MN (i:IN) (hs:af i.form=8) (hr:aS i (fg 8)) (hg:i.aA<=9223372036854775807):aj gT 104 [cZ i] (.int .u32 ((fC i (ay 8):Nat):Int)):=by
 obtain⟨hf,h1,h2,h3,h4,h5,h6,h7,h8,h9,cS⟩:=hr
 have g0:=eV (r:=i.rd) h1
 have g1:=aB (r:=i.rn) h2
 have g2:=aB (r:=i.rm) h3
 have g3:=aB (r:=i.ra) h4
 have g4:0<=i.aC/\i.aC<=1020/\i.aC % 4=0:=fA (s:=4) (by decide) h7
 have g5:i.kind=0:=(bc rfl h9).1
 have g6:i.bD=0:=bz (bc rfl h9).2
 have g7:i.set=0:=h8.elim id fun e=>absurd (show false=true from e.2) Bool.false_ne_true
 have g8:i.cond=0:=h6.elim id fun e=>absurd (show false=true from e.1) Bool.false_ne_true
 clear h1 h2 h3 h4 h5 h6 h7 h8 h9 cS
 refine Spec.enter ao po 100 Tryz.func104 rfl (by kernel_rfl) ?_
 refine .inl ⟨ai (by omega),?_⟩
 refine .inl ⟨ai (by omega),?_⟩
 refine .inl ⟨ai (by omega),?_⟩
 refine (av hs).u ?_
 refine⟨by decide,.inl ⟨ai (by rw[r8]; omega),?_⟩⟩
 refine⟨by decide,.inl ⟨by omega,by first|exact (show (_:Int)<=4294967295 by omega)|omega,by decide,?_⟩⟩
 refine al ?_
 have eo:fC i (ay 8)=0 ||| B i.rd 0 3 8 ||| B i.aC 2 8 0:=rfl
 rw[eo]
 refine (show bits .or .u32 (i.rd*Ev.aQ .u32 8) (i.aC / 4)=_ from ?_)
 refine ((((sZ i.rd 3 8 (by decide) (by decide) (by omega))).or (isD i.aC 8 (by decide) (by omega) (by omega)))).1.trans (congrArg (fun n:Nat=>(n:Int)) ?_)
 first
 | (simp only[Nat.or_zero,Nat.zero_or]; done)
 | (simp only[Nat.or_zero,Nat.zero_or]
    generalize B i.rd 0 3 8=n0
    generalize B i.aC 2 8 0=n1
    ac_rfl)
theorem MO (i:IN) (hs:af i.form=9) (hr:aS i (fg 9)) (hg:i.aA<=9223372036854775807):aj gT 104 [cZ i] (.int .u32 ((fC i (ay 9):Nat):Int)):=by
 obtain⟨hf,h1,h2,h3,h4,h5,h6,h7,h8,h9,cS⟩:=hr
 have g0:=eV (r:=i.rd) h1
 have g1:=eV (r:=i.rn) h2
 have g2:=aB (r:=i.rm) h3
 have g3:=aB (r:=i.ra) h4
 have g4:0<=i.aC/\i.aC<=124/\i.aC % 4=0:=fA (s:=4) (by decide) h7
 have g5:i.kind=0:=(bc rfl h9).1
 have g6:i.bD=0:=bz (bc rfl h9).2
 have g7:i.set=0:=h8.elim id fun e=>absurd (show false=true from e.2) Bool.false_ne_true
 have g8:i.cond=0:=h6.elim id fun e=>absurd (show false=true from e.1) Bool.false_ne_true
 clear h1 h2 h3 h4 h5 h6 h7 h8 h9 cS
 refine Spec.enter ao po 100 Tryz.func104 rfl (by kernel_rfl) ?_
 refine .inl ⟨ai (by omega),?_⟩
 refine .inl ⟨ai (by omega),?_⟩
 refine .inl ⟨ai (by omega),?_⟩
 refine (av hs).u ?_
 refine⟨by decide,.inl ⟨by omega,by first|exact (show (_:Int)<=4294967295 by omega)|omega,by decide,?_⟩⟩
 refine (qi i (i.aC / 4) 5 (by omega) (by omega) (by omega) (by decide)).u ?_
 refine al ?_
 have eo:fC i (ay 9)=0 ||| B i.aC 2 5 6 ||| B i.rn 0 3 3 ||| B i.rd 0 3 0:=rfl
 rw[eo]
 refine (show _=_ from congrArg (fun n:Nat=>(n:Int)) ?_)
 rw[S8 (by omega)]; simp only[Nat.zero_or]
theorem IE (i:IN) (hs:af i.form=10) (hr:aS i (fg 10)) (hg:i.aA<=9223372036854775807):aj gT 104 [cZ i] (.int .u32 ((fC i (ay 10):Nat):Int)):=by
 obtain⟨hf,h1,h2,h3,h4,h5,h6,h7,h8,h9,cS⟩:=hr
 have g0:=aB (r:=i.rd) h1
 have g1:=aB (r:=i.rn) h2
 have g2:=aB (r:=i.rm) h3
 have g3:=aB (r:=i.ra) h4
 have g4:0<=i.aC/\i.aC<=508/\i.aC % 4=0:=fA (s:=4) (by decide) h7
 have g5:i.kind=0:=(bc rfl h9).1
 have g6:i.bD=0:=bz (bc rfl h9).2
 have g7:i.set=0:=h8.elim id fun e=>absurd (show false=true from e.2) Bool.false_ne_true
 have g8:i.cond=0:=h6.elim id fun e=>absurd (show false=true from e.1) Bool.false_ne_true
 clear h1 h2 h3 h4 h5 h6 h7 h8 h9 cS
 refine Spec.enter ao po 100 Tryz.func104 rfl (by kernel_rfl) ?_
 refine .inl ⟨ai (by omega),?_⟩
 refine .inl ⟨ai (by omega),?_⟩
 refine .inl ⟨ai (by omega),?_⟩
 refine (av hs).u ?_
 refine⟨by decide,.inl ⟨by omega,by first|exact (show (_:Int)<=4294967295 by omega)|omega,by decide,?_⟩⟩
 refine al ?_
 have eo:fC i (ay 10)=0 ||| B i.aC 2 7 0:=rfl
 rw[eo]
 refine (show i.aC / 4=_ from ?_)
 refine ((isD i.aC 7 (by decide) (by omega) (by omega))).1.trans (congrArg (fun n:Nat=>(n:Int)) ?_)
 first
 | (simp only[Nat.or_zero,Nat.zero_or]; done)
 | (simp only[Nat.or_zero,Nat.zero_or]
    generalize B i.aC 2 7 0=n0
    ac_rfl)
theorem IF (i:IN) (hs:af i.form=11) (hr:aS i (fg 11)) (hg:i.aA<=9223372036854775807):aj gT 104 [cZ i] (.int .u32 ((fC i (ay 11):Nat):Int)):=by
 obtain⟨hf,h1,h2,h3,h4,h5,h6,h7,h8,h9,cS⟩:=hr
 have g0:=aB (r:=i.rd) h1
 have g1:=aB (r:=i.rn) h2
 have g2:=aB (r:=i.rm) h3
 have g3:=aB (r:=i.ra) h4
 have g4:i.aC=0:=bz h7
 have g5:i.kind=0:=(bc rfl h9).1
 have g6:i.bD=0:=bz (bc rfl h9).2
 have g7:i.set=0:=h8.elim id fun e=>absurd (show false=true from e.2) Bool.false_ne_true
 have g8:i.cond=0:=h6.elim id fun e=>absurd (show false=true from e.1) Bool.false_ne_true
 have g9:0 < i.aA/\i.aA / 16384 % 2*16384+i.aA % 256=i.aA:=Gy 14 (by decide) (by decide) rfl h5 hg
 clear h1 h2 h3 h4 h5 h6 h7 h8 h9 cS
 have b0:=ae i.aA 14 1
 have b1:=ae i.aA 0 8
 refine Spec.enter ao po 100 Tryz.func104 rfl (by kernel_rfl) ?_
 refine .inl ⟨ai (by omega),?_⟩
 refine .inl ⟨ai (by omega),?_⟩
 refine .inl ⟨ai (by omega),?_⟩
 refine (av hs).u ?_
 repeat (refine Or.inl (And.intro (ai (by omega)) ?_))
 refine (nX i.aA 14 1 (by unfold dH; omega) (by decide) (by decide)).u ?_
 refine⟨by decide,.inl ⟨ai (by rw[r8]; omega),?_⟩⟩
 repeat (refine Or.inl (And.intro (ai (by omega)) ?_))
 refine (nX i.aA 0 8 (by unfold dH; omega) (by decide) (by decide)).u ?_
 refine al ?_
 have eo:fC i (ay 11)=0 ||| B i.aA 14 1 8 ||| B i.aA 0 8 0:=rfl
 rw[eo]
 refine (show bits .or .u32 (aa i.aA 14 1*Ev.aQ .u32 8) (aa i.aA 0 8)=_ from ?_)
 refine ((((xA i.aA 14 1 8 (by decide) (by decide))).or (Aj i.aA 0 8 (by decide)))).1.trans (congrArg (fun n:Nat=>(n:Int)) ?_)
 first
 | (simp only[Nat.or_zero,Nat.zero_or]; done)
 | (simp only[Nat.or_zero,Nat.zero_or]
    generalize B i.aA 14 1 8=n0
    generalize B i.aA 0 8 0=n1
    ac_rfl)
theorem IG (i:IN) (hs:af i.form=12) (hr:aS i (fg 12)) (hg:i.aA<=9223372036854775807):aj gT 104 [cZ i] (.int .u32 ((fC i (ay 12):Nat):Int)):=by
 obtain⟨hf,h1,h2,h3,h4,h5,h6,h7,h8,h9,cS⟩:=hr
 have g0:=aB (r:=i.rd) h1
 have g1:=aB (r:=i.rn) h2
 have g2:=aB (r:=i.rm) h3
 have g3:=aB (r:=i.ra) h4
 have g4:i.aC=0:=bz h7
 have g5:i.kind=0:=(bc rfl h9).1
 have g6:i.bD=0:=bz (bc rfl h9).2
 have g7:i.set=0:=h8.elim id fun e=>absurd (show false=true from e.2) Bool.false_ne_true
 have g8:i.cond=0:=h6.elim id fun e=>absurd (show false=true from e.1) Bool.false_ne_true
 have g9:0 < i.aA/\i.aA / 32768 % 2*32768+i.aA % 256=i.aA:=Gy 15 (by decide) (by decide) rfl h5 hg
 clear h1 h2 h3 h4 h5 h6 h7 h8 h9 cS
 have b0:=ae i.aA 15 1
 have b1:=ae i.aA 0 8
 refine Spec.enter ao po 100 Tryz.func104 rfl (by kernel_rfl) ?_
 refine .inl ⟨ai (by omega),?_⟩
 refine .inl ⟨ai (by omega),?_⟩
 refine .inl ⟨ai (by omega),?_⟩
 refine (av hs).u ?_
 repeat (refine Or.inl (And.intro (ai (by omega)) ?_))
 refine (nX i.aA 15 1 (by unfold dH; omega) (by decide) (by decide)).u ?_
 refine⟨by decide,.inl ⟨ai (by rw[r8]; omega),?_⟩⟩
 repeat (refine Or.inl (And.intro (ai (by omega)) ?_))
 refine (nX i.aA 0 8 (by unfold dH; omega) (by decide) (by decide)).u ?_
 refine al ?_
 have eo:fC i (ay 12)=0 ||| B i.aA 15 1 8 ||| B i.aA 0 8 0:=rfl
 rw[eo]
 refine (show bits .or .u32 (aa i.aA 15 1*Ev.aQ .u32 8) (aa i.aA 0 8)=_ from ?_)
 refine ((((xA i.aA 15 1 8 (by decide) (by decide))).or (Aj i.aA 0 8 (by decide)))).1.trans (congrArg (fun n:Nat=>(n:Int)) ?_)
 first
 | (simp only[Nat.or_zero,Nat.zero_or]; done)
 | (simp only[Nat.or_zero,Nat.zero_or]
    generalize B i.aA 15 1 8=n0
    generalize B i.aA 0 8 0=n1
    ac_rfl)
theorem IH (i:IN) (hs:af i.form=13) (hr:aS i (fg 13)) (hg:i.aA<=9223372036854775807):aj gT 104 [cZ i] (.int .u32 ((fC i (ay 13):Nat):Int)):=by
 obtain⟨hf,h1,h2,h3,h4,h5,h6,h7,h8,h9,cS⟩:=hr
 have g0:=aB (r:=i.rd) h1
 have g1:=aB (r:=i.rn) h2
 have g2:=aB (r:=i.rm) h3
 have g3:=aB (r:=i.ra) h4
 have g4:i.aC=0:=bz h7
 have g5:i.kind=0:=(bc rfl h9).1
 have g6:i.bD=0:=bz (bc rfl h9).2
 have g7:i.set=0:=h8.elim id fun e=>absurd (show false=true from e.2) Bool.false_ne_true
 have g8:i.cond=0:=h6.elim id fun e=>absurd (show false=true from e.1) Bool.false_ne_true
 clear h1 h2 h3 h4 h5 h6 h7 h8 h9 cS
 refine Spec.enter ao po 100 Tryz.func104 rfl (by kernel_rfl) ?_
 refine .inl ⟨ai (by omega),?_⟩
 refine .inl ⟨ai (by omega),?_⟩
 refine .inl ⟨ai (by omega),?_⟩
 refine (av hs).u ?_
 exact al rfl
theorem II (i:IN) (hs:af i.form=14) (hr:aS i (fg 14)) (hg:i.aA<=9223372036854775807):aj gT 104 [cZ i] (.int .u32 ((fC i (ay 14):Nat):Int)):=by
 obtain⟨hf,h1,h2,h3,h4,h5,h6,h7,h8,h9,cS⟩:=hr
 have g0:=aB (r:=i.rd) h1
 have g1:=aB (r:=i.rn) h2
 have g2:=aB (r:=i.rm) h3
 have g3:=aB (r:=i.ra) h4
 have g4:0<=i.aC/\i.aC<=255/\i.aC % 1=0:=fA (s:=1) (by decide) h7
 have g5:i.kind=0:=(bc rfl h9).1
 have g6:i.bD=0:=bz (bc rfl h9).2
 have g7:i.set=0:=h8.elim id fun e=>absurd (show false=true from e.2) Bool.false_ne_true
 have g8:i.cond=0:=h6.elim id fun e=>absurd (show false=true from e.1) Bool.false_ne_true
 clear h1 h2 h3 h4 h5 h6 h7 h8 h9 cS
 refine Spec.enter ao po 100 Tryz.func104 rfl (by kernel_rfl) ?_
 refine .inl ⟨ai (by omega),?_⟩
 refine .inl ⟨ai (by omega),?_⟩
 refine .inl ⟨ai (by omega),?_⟩
 refine (av hs).u ?_
 refine al ?_
 have eo:fC i (ay 14)=0 ||| B i.aC 0 8 0:=rfl
 rw[eo]
 refine (show i.aC=_ from ?_)
 refine ((vZ i.aC 8 (by decide) (by omega))).1.trans (congrArg (fun n:Nat=>(n:Int)) ?_)
 first
 | (simp only[Nat.or_zero,Nat.zero_or]; done)
 | (simp only[Nat.or_zero,Nat.zero_or]
    generalize B i.aC 0 8 0=n0
    ac_rfl)
theorem IJ (i:IN) (hs:af i.form=15) (hr:aS i (fg 15)) (hg:i.aA<=9223372036854775807):aj gT 104 [cZ i] (.int .u32 ((fC i (ay 15):Nat):Int)):=by
 obtain⟨hf,h1,h2,h3,h4,h5,h6,h7,h8,h9,cS⟩:=hr
 have g0:=aB (r:=i.rd) h1
 have g1:=aB (r:=i.rn) h2
 have g2:=aB (r:=i.rm) h3
 have g3:=aB (r:=i.ra) h4
 have g4:-256<=i.aC/\i.aC<=254/\i.aC % 2=0:=fA (s:=2) (by decide) h7
 have g5:i.kind=0:=(bc rfl h9).1
 have g6:i.bD=0:=bz (bc rfl h9).2
 have g7:i.set=0:=h8.elim id fun e=>absurd (show false=true from e.2) Bool.false_ne_true
 have g8:0<=i.cond/\i.cond<=13:=by rcases h6 with h6|h6<;>omega
 clear h1 h2 h3 h4 h5 h6 h7 h8 h9 cS
 have b0:=ae i.aC 1 8
 refine Spec.enter ao po 100 Tryz.func104 rfl (by kernel_rfl) ?_
 refine .inr ?_
 refine .inl ⟨ai (by omega),?_⟩
 refine .inl ⟨ai (by omega),?_⟩
 refine (av hs).u ?_
 refine .inl ⟨ai (by omega),?_⟩
 refine⟨by decide,.inl ⟨ai (by rw[r8]; omega),?_⟩⟩
 refine (uB i.aC 1 8 (by omega) (by decide) (by decide) (by decide)).u ?_
 refine al ?_
 have eo:fC i (ay 15)=0 ||| B i.cond 0 4 8 ||| B i.aC 1 8 0:=rfl
 rw[eo]
 refine (show bits .or .u32 (i.cond*Ev.aQ .u32 8) (aa i.aC 1 8)=_ from ?_)
 refine ((((sZ i.cond 4 8 (by decide) (by decide) (by omega))).or (Aj i.aC 1 8 (by decide)))).1.trans (congrArg (fun n:Nat=>(n:Int)) ?_)
 first
 | (simp only[Nat.or_zero,Nat.zero_or]; done)
 | (simp only[Nat.or_zero,Nat.zero_or]
    generalize B i.cond 0 4 8=n0
    generalize B i.aC 1 8 0=n1
    ac_rfl)
theorem IK (i:IN) (hs:af i.form=16) (hr:aS i (fg 16)) (hg:i.aA<=9223372036854775807):aj gT 104 [cZ i] (.int .u32 ((fC i (ay 16):Nat):Int)):=by
 obtain⟨hf,h1,h2,h3,h4,h5,h6,h7,h8,h9,cS⟩:=hr
 have g0:=aB (r:=i.rd) h1
 have g1:=aB (r:=i.rn) h2
 have g2:=aB (r:=i.rm) h3
 have g3:=aB (r:=i.ra) h4
 have g4:-2048<=i.aC/\i.aC<=2046/\i.aC % 2=0:=fA (s:=2) (by decide) h7
 have g5:i.kind=0:=(bc rfl h9).1
 have g6:i.bD=0:=bz (bc rfl h9).2
 have g7:i.set=0:=h8.elim id fun e=>absurd (show false=true from e.2) Bool.false_ne_true
 have g8:i.cond=0:=h6.elim id fun e=>absurd (show false=true from e.1) Bool.false_ne_true
 clear h1 h2 h3 h4 h5 h6 h7 h8 h9 cS
 have b0:=ae i.aC 1 11
 refine Spec.enter ao po 100 Tryz.func104 rfl (by kernel_rfl) ?_
 refine .inr ?_
 refine .inl ⟨ai (by omega),?_⟩
 refine .inl ⟨ai (by omega),?_⟩
 refine (av hs).u ?_
 refine (uB i.aC 1 11 (by omega) (by decide) (by decide) (by decide)).u ?_
 refine al ?_
 have eo:fC i (ay 16)=0 ||| B i.aC 1 11 0:=rfl
 rw[eo]
 refine (show aa i.aC 1 11=_ from ?_)
 refine ((Aj i.aC 1 11 (by decide))).1.trans (congrArg (fun n:Nat=>(n:Int)) ?_)
 first
 | (simp only[Nat.or_zero,Nat.zero_or]; done)
 | (simp only[Nat.or_zero,Nat.zero_or]
    generalize B i.aC 1 11 0=n0
    ac_rfl)
theorem QJ (i:IN) (hs:af i.form=17) (hr:aS i (fg 17)) (hg:i.aA<=9223372036854775807):aj gT 103 [cZ i] (.int .u32 ((fC i (ay 17):Nat):Int)):=by
 obtain⟨hf,h1,h2,h3,h4,h5,h6,h7,h8,h9,cS⟩:=hr
 have g0:=bn (r:=i.rd) h1
 have g1:=aB (r:=i.rn) h2
 have g2:=aB (r:=i.rm) h3
 have g3:=aB (r:=i.ra) h4
 have g4:0<=i.aC/\i.aC<=65535/\i.aC % 1=0:=fA (s:=1) (by decide) h7
 have g5:i.kind=0:=(bc rfl h9).1
 have g6:i.bD=0:=bz (bc rfl h9).2
 have g7:i.set=0:=h8.elim id fun e=>absurd (show false=true from e.2) Bool.false_ne_true
 have g8:i.cond=0:=h6.elim id fun e=>absurd (show false=true from e.1) Bool.false_ne_true
 clear h1 h2 h3 h4 h5 h6 h7 h8 h9 cS
 refine Spec.enter ao nj 100 Tryz.func103 rfl (by kernel_rfl) ?_
 refine .inl ⟨ai (by omega),?_⟩
 refine .inl ⟨ai (by omega),?_⟩
 refine (av hs).u ?_
 refine (dh i (by omega) (by omega) (by omega) (by omega) (by omega)).u ?_
 refine (jo i.aC (by unfold dH; omega)).u ?_
 refine al ?_
 have eo:fC i (ay 17)=0 ||| B i.aC 11 1 26 ||| B i.aC 12 4 16 ||| B i.aC 8 3 12 ||| B i.aC 0 8 0 ||| B i.rd 0 4 8:=rfl
 rw[eo]
 refine (show bits .or .u32 (((B i.set 0 1 20 ||| B i.rn 0 4 16 ||| B i.ra 0 4 12 ||| B i.rd 0 4 8 ||| B i.rm 0 4 0:Nat):Int)) (((B i.aC 11 1 26 ||| B i.aC 12 4 16 ||| B i.aC 8 3 12 ||| B i.aC 0 8 0:Nat):Int))=_ from ?_)
 refine ((((gC i)).or (nW i.aC))).1.trans (congrArg (fun n:Nat=>(n:Int)) ?_)
 first
 | (simp only[jb g1,jb g2,jb g3,jb g7,Nat.or_zero,Nat.zero_or]; done)
 | (simp only[jb g1,jb g2,jb g3,jb g7,Nat.or_zero,Nat.zero_or]
    generalize B i.aC 11 1 26=n0
    generalize B i.aC 12 4 16=n1
    generalize B i.aC 8 3 12=n2
    generalize B i.aC 0 8 0=n3
    generalize B i.rd 0 4 8=n4
    ac_rfl)
theorem QK (i:IN) (hs:af i.form=18) (hr:aS i (fg 18)) (hg:i.aA<=9223372036854775807):aj gT 103 [cZ i] (.int .u32 ((fC i (ay 18):Nat):Int)):=by
 obtain⟨hf,h1,h2,h3,h4,h5,h6,h7,h8,h9,cS⟩:=hr
 have g0:=bn (r:=i.rd) h1
 have g1:=bn (r:=i.rn) h2
 have g2:=aB (r:=i.rm) h3
 have g3:=aB (r:=i.ra) h4
 have g4:0<=i.aC/\i.aC<=4095/\i.aC % 1=0:=fA (s:=1) (by decide) h7
 have g5:i.kind=0:=(bc rfl h9).1
 have g6:i.bD=0:=bz (bc rfl h9).2
 have g7:i.set=0\/i.set=1:=h8.imp id fun e=>e.1
 have g8:i.cond=0:=h6.elim id fun e=>absurd (show false=true from e.1) Bool.false_ne_true
 clear h1 h2 h3 h4 h5 h6 h7 h8 h9 cS
 refine Spec.enter ao nj 100 Tryz.func103 rfl (by kernel_rfl) ?_
 refine .inl ⟨ai (by omega),?_⟩
 refine .inl ⟨ai (by omega),?_⟩
 refine (av hs).u ?_
 refine (dh i (by omega) (by omega) (by omega) (by omega) (by omega)).u ?_
 refine (jo i.aC (by unfold dH; omega)).u ?_
 refine al ?_
 have eo:fC i (ay 18)=0 ||| B i.aC 11 1 26 ||| B i.aC 8 3 12 ||| B i.aC 0 8 0 ||| B i.set 0 1 20 ||| B i.rn 0 4 16 ||| B i.rd 0 4 8:=rfl
 have MP:B i.aC 12 4 16=0:=v7 (by unfold aa; split<;>omega)
 rw[eo]
 refine (show bits .or .u32 (((B i.set 0 1 20 ||| B i.rn 0 4 16 ||| B i.ra 0 4 12 ||| B i.rd 0 4 8 ||| B i.rm 0 4 0:Nat):Int)) (((B i.aC 11 1 26 ||| B i.aC 12 4 16 ||| B i.aC 8 3 12 ||| B i.aC 0 8 0:Nat):Int))=_ from ?_)
 refine ((((gC i)).or (nW i.aC))).1.trans (congrArg (fun n:Nat=>(n:Int)) ?_)
 first
 | (simp only[jb g2,jb g3,MP,Nat.or_zero,Nat.zero_or]; done)
 | (simp only[jb g2,jb g3,MP,Nat.or_zero,Nat.zero_or]
    generalize B i.aC 11 1 26=n0
    generalize B i.aC 8 3 12=n1
    generalize B i.aC 0 8 0=n2
    generalize B i.set 0 1 20=n3
    generalize B i.rn 0 4 16=n4
    generalize B i.rd 0 4 8=n5
    ac_rfl)
theorem QL (i:IN) (hs:af i.form=19) (hr:aS i (fg 19)) (hg:i.aA<=9223372036854775807):aj gT 103 [cZ i] (.int .u32 ((fC i (ay 19):Nat):Int)):=by
 obtain⟨hf,h1,h2,h3,h4,h5,h6,h7,h8,h9,cS⟩:=hr
 have g0:=bn (r:=i.rd) h1
 have g1:=aB (r:=i.rn) h2
 have g2:=aB (r:=i.rm) h3
 have g3:=aB (r:=i.ra) h4
 have g4:0<=i.aC/\i.aC<=4095/\i.aC % 1=0:=fA (s:=1) (by decide) h7
 have g5:i.kind=0:=(bc rfl h9).1
 have g6:i.bD=0:=bz (bc rfl h9).2
 have g7:i.set=0\/i.set=1:=h8.imp id fun e=>e.1
 have g8:i.cond=0:=h6.elim id fun e=>absurd (show false=true from e.1) Bool.false_ne_true
 clear h1 h2 h3 h4 h5 h6 h7 h8 h9 cS
 refine Spec.enter ao nj 100 Tryz.func103 rfl (by kernel_rfl) ?_
 refine .inl ⟨ai (by omega),?_⟩
 refine .inl ⟨ai (by omega),?_⟩
 refine (av hs).u ?_
 refine (dh i (by omega) (by omega) (by omega) (by omega) (by omega)).u ?_
 refine (jo i.aC (by unfold dH; omega)).u ?_
 refine al ?_
 have eo:fC i (ay 19)=0 ||| B i.aC 11 1 26 ||| B i.aC 8 3 12 ||| B i.aC 0 8 0 ||| B i.set 0 1 20 ||| B i.rd 0 4 8:=rfl
 have MP:B i.aC 12 4 16=0:=v7 (by unfold aa; split<;>omega)
 rw[eo]
 refine (show bits .or .u32 (((B i.set 0 1 20 ||| B i.rn 0 4 16 ||| B i.ra 0 4 12 ||| B i.rd 0 4 8 ||| B i.rm 0 4 0:Nat):Int)) (((B i.aC 11 1 26 ||| B i.aC 12 4 16 ||| B i.aC 8 3 12 ||| B i.aC 0 8 0:Nat):Int))=_ from ?_)
 refine ((((gC i)).or (nW i.aC))).1.trans (congrArg (fun n:Nat=>(n:Int)) ?_)
 first
 | (simp only[jb g1,jb g2,jb g3,MP,Nat.or_zero,Nat.zero_or]; done)
 | (simp only[jb g1,jb g2,jb g3,MP,Nat.or_zero,Nat.zero_or]
    generalize B i.aC 11 1 26=n0
    generalize B i.aC 8 3 12=n1
    generalize B i.aC 0 8 0=n2
    generalize B i.set 0 1 20=n3
    generalize B i.rd 0 4 8=n4
    ac_rfl)
theorem QM (i:IN) (hs:af i.form=20) (hr:aS i (fg 20)) (hg:i.aA<=9223372036854775807):aj gT 103 [cZ i] (.int .u32 ((fC i (ay 20):Nat):Int)):=by
 obtain⟨hf,h1,h2,h3,h4,h5,h6,h7,h8,h9,cS⟩:=hr
 have g0:=aB (r:=i.rd) h1
 have g1:=bn (r:=i.rn) h2
 have g2:=aB (r:=i.rm) h3
 have g3:=aB (r:=i.ra) h4
 have g4:0<=i.aC/\i.aC<=4095/\i.aC % 1=0:=fA (s:=1) (by decide) h7
 have g5:i.kind=0:=(bc rfl h9).1
 have g6:i.bD=0:=bz (bc rfl h9).2
 have g7:i.set=0:=h8.elim id fun e=>absurd (show false=true from e.2) Bool.false_ne_true
 have g8:i.cond=0:=h6.elim id fun e=>absurd (show false=true from e.1) Bool.false_ne_true
 clear h1 h2 h3 h4 h5 h6 h7 h8 h9 cS
 refine Spec.enter ao nj 100 Tryz.func103 rfl (by kernel_rfl) ?_
 refine .inl ⟨ai (by omega),?_⟩
 refine .inl ⟨ai (by omega),?_⟩
 refine (av hs).u ?_
 refine (dh i (by omega) (by omega) (by omega) (by omega) (by omega)).u ?_
 refine (jo i.aC (by unfold dH; omega)).u ?_
 refine al ?_
 have eo:fC i (ay 20)=0 ||| B i.aC 11 1 26 ||| B i.aC 8 3 12 ||| B i.aC 0 8 0 ||| B i.rn 0 4 16:=rfl
 have MP:B i.aC 12 4 16=0:=v7 (by unfold aa; split<;>omega)
 rw[eo]
 refine (show bits .or .u32 (((B i.set 0 1 20 ||| B i.rn 0 4 16 ||| B i.ra 0 4 12 ||| B i.rd 0 4 8 ||| B i.rm 0 4 0:Nat):Int)) (((B i.aC 11 1 26 ||| B i.aC 12 4 16 ||| B i.aC 8 3 12 ||| B i.aC 0 8 0:Nat):Int))=_ from ?_)
 refine ((((gC i)).or (nW i.aC))).1.trans (congrArg (fun n:Nat=>(n:Int)) ?_)
 first
 | (simp only[jb g0,jb g2,jb g3,jb g7,MP,Nat.or_zero,Nat.zero_or]; done)
 | (simp only[jb g0,jb g2,jb g3,jb g7,MP,Nat.or_zero,Nat.zero_or]
    generalize B i.aC 11 1 26=n0
    generalize B i.aC 8 3 12=n1
    generalize B i.aC 0 8 0=n2
    generalize B i.rn 0 4 16=n3
    ac_rfl)
theorem QN (i:IN) (hs:af i.form=21) (hr:aS i (fg 21)) (hg:i.aA<=9223372036854775807):aj gT 103 [cZ i] (.int .u32 ((fC i (ay 21):Nat):Int)):=by
 obtain⟨hf,h1,h2,h3,h4,h5,h6,h7,h8,h9,cS⟩:=hr
 have g0:=bn (r:=i.rd) h1
 have g1:=bn (r:=i.rn) h2
 have g2:=bn (r:=i.rm) h3
 have g3:=aB (r:=i.ra) h4
 have g4:i.aC=0:=bz h7
 have g6:cV i.kind i.bD:=IA rfl h9
 have g5:=oO g6
 have g6b:0<=i.bD/\i.bD<=32:=by unfold cV at g6; omega
 have g7:i.set=0\/i.set=1:=h8.imp id fun e=>e.1
 have g8:i.cond=0:=h6.elim id fun e=>absurd (show false=true from e.1) Bool.false_ne_true
 clear h1 h2 h3 h4 h5 h6 h7 h8 h9 cS
 have b0:=ae i.bD 2 3
 have b1:=ae i.bD 0 2
 refine Spec.enter ao nj 100 Tryz.func103 rfl (by kernel_rfl) ?_
 refine .inl ⟨ai (by omega),?_⟩
 refine .inl ⟨ai (by omega),?_⟩
 refine (av hs).u ?_
 refine .inl ⟨ai (by omega),?_⟩
 refine⟨by decide,.inl ⟨ai (by rw[r4]; omega),?_⟩⟩
 refine (dh i (by omega) (by omega) (by omega) (by omega) (by omega)).u ?_
 repeat (first
  | (refine⟨[],az,(nX i.bD 2 3 (by unfold dH; omega) (by decide) (by decide)).use (And.intro rfl (And.intro rfl (And.intro rfl trivial))) rfl rfl ?_⟩)
  | (refine⟨by decide,.inl ⟨ai (by rw[SZ]; omega),?_⟩⟩)
  | (refine⟨[],az,(nX i.bD 0 2 (by unfold dH; omega) (by decide) (by decide)).use (And.intro rfl (And.intro rfl (And.intro rfl trivial))) rfl rfl ?_⟩)
  | (refine⟨by decide,.inl ⟨ai (by rw[r6]; omega),?_⟩⟩)
  | (refine .inl ⟨ai (by omega),?_⟩)
  | (refine⟨by decide,.inl ⟨ai (by rw[r4]; omega),?_⟩⟩))
 refine al ?_
 have eo:fC i (ay 21)=0 ||| B i.bD 2 3 12 ||| B i.bD 0 2 6 ||| B i.kind 0 2 4 ||| B i.set 0 1 20 ||| B i.rn 0 4 16 ||| B i.rd 0 4 8 ||| B i.rm 0 4 0:=rfl
 rw[eo]
 refine (show bits .or .u32 (bits .or .u32 (bits .or .u32 (((B i.set 0 1 20 ||| B i.rn 0 4 16 ||| B i.ra 0 4 12 ||| B i.rd 0 4 8 ||| B i.rm 0 4 0:Nat):Int)) (aa i.bD 2 3*Ev.aQ .u32 12)) (aa i.bD 0 2*Ev.aQ .u32 6)) (i.kind*Ev.aQ .u32 4)=_ from ?_)
 refine ((((((((gC i)).or (xA i.bD 2 3 12 (by decide) (by decide)))).or (xA i.bD 0 2 6 (by decide) (by decide)))).or (sZ i.kind 2 4 (by decide) (by decide) (by omega)))).1.trans (congrArg (fun n:Nat=>(n:Int)) ?_)
 first
 | (simp only[jb g3,Nat.or_zero,Nat.zero_or]; done)
 | (simp only[jb g3,Nat.or_zero,Nat.zero_or]
    generalize B i.bD 2 3 12=n0
    generalize B i.bD 0 2 6=n1
    generalize B i.kind 0 2 4=n2
    generalize B i.set 0 1 20=n3
    generalize B i.rn 0 4 16=n4
    generalize B i.rd 0 4 8=n5
    generalize B i.rm 0 4 0=n6
    ac_rfl)
theorem QO (i:IN) (hs:af i.form=22) (hr:aS i (fg 22)) (hg:i.aA<=9223372036854775807):aj gT 103 [cZ i] (.int .u32 ((fC i (ay 22):Nat):Int)):=by
 obtain⟨hf,h1,h2,h3,h4,h5,h6,h7,h8,h9,cS⟩:=hr
 have g0:=bn (r:=i.rd) h1
 have g1:=aB (r:=i.rn) h2
 have g2:=bn (r:=i.rm) h3
 have g3:=aB (r:=i.ra) h4
 have g4:i.aC=0:=bz h7
 have g6:cV i.kind i.bD:=IA rfl h9
 have g5:=oO g6
 have g6b:0<=i.bD/\i.bD<=32:=by unfold cV at g6; omega
 have g7:i.set=0\/i.set=1:=h8.imp id fun e=>e.1
 have g8:i.cond=0:=h6.elim id fun e=>absurd (show false=true from e.1) Bool.false_ne_true
 clear h1 h2 h3 h4 h5 h6 h7 h8 h9 cS
 have b0:=ae i.bD 2 3
 have b1:=ae i.bD 0 2
 refine Spec.enter ao nj 100 Tryz.func103 rfl (by kernel_rfl) ?_
 refine .inl ⟨ai (by omega),?_⟩
 refine .inl ⟨ai (by omega),?_⟩
 refine (av hs).u ?_
 refine .inl ⟨ai (by omega),?_⟩
 refine⟨by decide,.inl ⟨ai (by rw[r4]; omega),?_⟩⟩
 refine (dh i (by omega) (by omega) (by omega) (by omega) (by omega)).u ?_
 repeat (first
  | (refine⟨[],az,(nX i.bD 2 3 (by unfold dH; omega) (by decide) (by decide)).use (And.intro rfl (And.intro rfl (And.intro rfl trivial))) rfl rfl ?_⟩)
  | (refine⟨by decide,.inl ⟨ai (by rw[SZ]; omega),?_⟩⟩)
  | (refine⟨[],az,(nX i.bD 0 2 (by unfold dH; omega) (by decide) (by decide)).use (And.intro rfl (And.intro rfl (And.intro rfl trivial))) rfl rfl ?_⟩)
  | (refine⟨by decide,.inl ⟨ai (by rw[r6]; omega),?_⟩⟩)
  | (refine .inl ⟨ai (by omega),?_⟩)
  | (refine⟨by decide,.inl ⟨ai (by rw[r4]; omega),?_⟩⟩))
 refine al ?_
 have eo:fC i (ay 22)=0 ||| B i.bD 2 3 12 ||| B i.bD 0 2 6 ||| B i.kind 0 2 4 ||| B i.set 0 1 20 ||| B i.rd 0 4 8 ||| B i.rm 0 4 0:=rfl
 rw[eo]
 refine (show bits .or .u32 (bits .or .u32 (bits .or .u32 (((B i.set 0 1 20 ||| B i.rn 0 4 16 ||| B i.ra 0 4 12 ||| B i.rd 0 4 8 ||| B i.rm 0 4 0:Nat):Int)) (aa i.bD 2 3*Ev.aQ .u32 12)) (aa i.bD 0 2*Ev.aQ .u32 6)) (i.kind*Ev.aQ .u32 4)=_ from ?_)
 refine ((((((((gC i)).or (xA i.bD 2 3 12 (by decide) (by decide)))).or (xA i.bD 0 2 6 (by decide) (by decide)))).or (sZ i.kind 2 4 (by decide) (by decide) (by omega)))).1.trans (congrArg (fun n:Nat=>(n:Int)) ?_)
 first
 | (simp only[jb g1,jb g3,Nat.or_zero,Nat.zero_or]; done)
 | (simp only[jb g1,jb g3,Nat.or_zero,Nat.zero_or]
    generalize B i.bD 2 3 12=n0
    generalize B i.bD 0 2 6=n1
    generalize B i.kind 0 2 4=n2
    generalize B i.set 0 1 20=n3
    generalize B i.rd 0 4 8=n4
    generalize B i.rm 0 4 0=n5
    ac_rfl)
theorem QP (i:IN) (hs:af i.form=23) (hr:aS i (fg 23)) (hg:i.aA<=9223372036854775807):aj gT 103 [cZ i] (.int .u32 ((fC i (ay 23):Nat):Int)):=by
 obtain⟨hf,h1,h2,h3,h4,h5,h6,h7,h8,h9,cS⟩:=hr
 have g0:=aB (r:=i.rd) h1
 have g1:=bn (r:=i.rn) h2
 have g2:=bn (r:=i.rm) h3
 have g3:=aB (r:=i.ra) h4
 have g4:i.aC=0:=bz h7
 have g6:cV i.kind i.bD:=IA rfl h9
 have g5:=oO g6
 have g6b:0<=i.bD/\i.bD<=32:=by unfold cV at g6; omega
 have g7:i.set=0:=h8.elim id fun e=>absurd (show false=true from e.2) Bool.false_ne_true
 have g8:i.cond=0:=h6.elim id fun e=>absurd (show false=true from e.1) Bool.false_ne_true
 clear h1 h2 h3 h4 h5 h6 h7 h8 h9 cS
 have b0:=ae i.bD 2 3
 have b1:=ae i.bD 0 2
 refine Spec.enter ao nj 100 Tryz.func103 rfl (by kernel_rfl) ?_
 refine .inl ⟨ai (by omega),?_⟩
 refine .inl ⟨ai (by omega),?_⟩
 refine (av hs).u ?_
 refine .inl ⟨ai (by omega),?_⟩
 refine⟨by decide,.inl ⟨ai (by rw[r4]; omega),?_⟩⟩
 refine (dh i (by omega) (by omega) (by omega) (by omega) (by omega)).u ?_
 repeat (first
  | (refine⟨[],az,(nX i.bD 2 3 (by unfold dH; omega) (by decide) (by decide)).use (And.intro rfl (And.intro rfl (And.intro rfl trivial))) rfl rfl ?_⟩)
  | (refine⟨by decide,.inl ⟨ai (by rw[SZ]; omega),?_⟩⟩)
  | (refine⟨[],az,(nX i.bD 0 2 (by unfold dH; omega) (by decide) (by decide)).use (And.intro rfl (And.intro rfl (And.intro rfl trivial))) rfl rfl ?_⟩)
  | (refine⟨by decide,.inl ⟨ai (by rw[r6]; omega),?_⟩⟩)
  | (refine .inl ⟨ai (by omega),?_⟩)
  | (refine⟨by decide,.inl ⟨ai (by rw[r4]; omega),?_⟩⟩))
 refine al ?_
 have eo:fC i (ay 23)=0 ||| B i.bD 2 3 12 ||| B i.bD 0 2 6 ||| B i.kind 0 2 4 ||| B i.rn 0 4 16 ||| B i.rm 0 4 0:=rfl
 rw[eo]
 refine (show bits .or .u32 (bits .or .u32 (bits .or .u32 (((B i.set 0 1 20 ||| B i.rn 0 4 16 ||| B i.ra 0 4 12 ||| B i.rd 0 4 8 ||| B i.rm 0 4 0:Nat):Int)) (aa i.bD 2 3*Ev.aQ .u32 12)) (aa i.bD 0 2*Ev.aQ .u32 6)) (i.kind*Ev.aQ .u32 4)=_ from ?_)
 refine ((((((((gC i)).or (xA i.bD 2 3 12 (by decide) (by decide)))).or (xA i.bD 0 2 6 (by decide) (by decide)))).or (sZ i.kind 2 4 (by decide) (by decide) (by omega)))).1.trans (congrArg (fun n:Nat=>(n:Int)) ?_)
 first
 | (simp only[jb g0,jb g3,jb g7,Nat.or_zero,Nat.zero_or]; done)
 | (simp only[jb g0,jb g3,jb g7,Nat.or_zero,Nat.zero_or]
    generalize B i.bD 2 3 12=n0
    generalize B i.bD 0 2 6=n1
    generalize B i.kind 0 2 4=n2
    generalize B i.rn 0 4 16=n3
    generalize B i.rm 0 4 0=n4
    ac_rfl)
theorem QQ (i:IN) (hs:af i.form=24) (hr:aS i (fg 24)) (hg:i.aA<=9223372036854775807):aj gT 103 [cZ i] (.int .u32 ((fC i (ay 24):Nat):Int)):=by
 obtain⟨hf,h1,h2,h3,h4,h5,h6,h7,h8,h9,cS⟩:=hr
 have g0:=bn (r:=i.rd) h1
 have g1:=bn (r:=i.rn) h2
 have g2:=aB (r:=i.rm) h3
 have g3:=aB (r:=i.ra) h4
 have g4:0<=i.aC/\i.aC<=4095/\i.aC % 1=0:=fA (s:=1) (by decide) h7
 have g5:i.kind=0:=(bc rfl h9).1
 have g6:i.bD=0:=bz (bc rfl h9).2
 have g7:i.set=0:=h8.elim id fun e=>absurd (show false=true from e.2) Bool.false_ne_true
 have g8:i.cond=0:=h6.elim id fun e=>absurd (show false=true from e.1) Bool.false_ne_true
 clear h1 h2 h3 h4 h5 h6 h7 h8 h9 cS
 refine Spec.enter ao nj 100 Tryz.func103 rfl (by kernel_rfl) ?_
 refine .inl ⟨ai (by omega),?_⟩
 refine .inl ⟨ai (by omega),?_⟩
 refine (av hs).u ?_
 refine (dh i (by omega) (by omega) (by omega) (by omega) (by omega)).u ?_
 refine (jo i.aC (by unfold dH; omega)).u ?_
 refine al ?_
 have eo:fC i (ay 24)=0 ||| B i.aC 11 1 26 ||| B i.aC 8 3 12 ||| B i.aC 0 8 0 ||| B i.rn 0 4 16 ||| B i.rd 0 4 8:=rfl
 have MP:B i.aC 12 4 16=0:=v7 (by unfold aa; split<;>omega)
 rw[eo]
 refine (show bits .or .u32 (((B i.set 0 1 20 ||| B i.rn 0 4 16 ||| B i.ra 0 4 12 ||| B i.rd 0 4 8 ||| B i.rm 0 4 0:Nat):Int)) (((B i.aC 11 1 26 ||| B i.aC 12 4 16 ||| B i.aC 8 3 12 ||| B i.aC 0 8 0:Nat):Int))=_ from ?_)
 refine ((((gC i)).or (nW i.aC))).1.trans (congrArg (fun n:Nat=>(n:Int)) ?_)
 first
 | (simp only[jb g2,jb g3,jb g7,MP,Nat.or_zero,Nat.zero_or]; done)
 | (simp only[jb g2,jb g3,jb g7,MP,Nat.or_zero,Nat.zero_or]
    generalize B i.aC 11 1 26=n0
    generalize B i.aC 8 3 12=n1
    generalize B i.aC 0 8 0=n2
    generalize B i.rn 0 4 16=n3
    generalize B i.rd 0 4 8=n4
    ac_rfl)
theorem QR (i:IN) (hs:af i.form=25) (hr:aS i (fg 25)) (hg:i.aA<=9223372036854775807):aj gT 103 [cZ i] (.int .u32 ((fC i (ay 25):Nat):Int)):=by
 obtain⟨hf,h1,h2,h3,h4,h5,h6,h7,h8,h9,cS⟩:=hr
 have g0:=bn (r:=i.rd) h1
 have g1:=pI (r:=i.rn) h2
 have g2:=aB (r:=i.rm) h3
 have g3:=aB (r:=i.ra) h4
 have g4:0<=i.aC/\i.aC<=4095/\i.aC % 1=0:=fA (s:=1) (by decide) h7
 have g5:i.kind=0:=(bc rfl h9).1
 have g6:i.bD=0:=bz (bc rfl h9).2
 have g7:i.set=0:=h8.elim id fun e=>absurd (show false=true from e.2) Bool.false_ne_true
 have g8:i.cond=0:=h6.elim id fun e=>absurd (show false=true from e.1) Bool.false_ne_true
 clear h1 h2 h3 h4 h5 h6 h7 h8 h9 cS
 refine Spec.enter ao nj 100 Tryz.func103 rfl (by kernel_rfl) ?_
 refine .inl ⟨ai (by omega),?_⟩
 refine .inl ⟨ai (by omega),?_⟩
 refine (av hs).u ?_
 refine .inl ⟨ai (by omega),?_⟩
 refine⟨by decide,.inl ⟨ai (by rw[S7]; omega),?_⟩⟩
 refine .inl ⟨ai (by omega),?_⟩
 refine⟨by decide,.inl ⟨ai (by rw[SZ]; omega),?_⟩⟩
 refine al ?_
 have eo:fC i (ay 25)=0 ||| B i.rn 0 4 16 ||| B i.rd 0 4 12 ||| B i.aC 0 12 0:=rfl
 rw[eo]
 refine (show bits .or .u32 (bits .or .u32 (i.rn*Ev.aQ .u32 16) (i.rd*Ev.aQ .u32 12)) (i.aC)=_ from ?_)
 refine ((((((sZ i.rn 4 16 (by decide) (by decide) (by omega))).or (sZ i.rd 4 12 (by decide) (by decide) (by omega)))).or (vZ i.aC 12 (by decide) (by omega)))).1.trans (congrArg (fun n:Nat=>(n:Int)) ?_)
 first
 | (simp only[Nat.or_zero,Nat.zero_or]; done)
 | (simp only[Nat.or_zero,Nat.zero_or]
    generalize B i.rn 0 4 16=n0
    generalize B i.rd 0 4 12=n1
    generalize B i.aC 0 12 0=n2
    ac_rfl)
theorem QS (i:IN) (hs:af i.form=26) (hr:aS i (fg 26)) (hg:i.aA<=9223372036854775807):aj gT 103 [cZ i] (.int .u32 ((fC i (ay 26):Nat):Int)):=by
 obtain⟨hf,h1,h2,h3,h4,h5,h6,h7,h8,h9,cS⟩:=hr
 have g0:=bn (r:=i.rd) h1
 have g1:=pI (r:=i.rn) h2
 have g2:=bn (r:=i.rm) h3
 have g3:=aB (r:=i.ra) h4
 have g4:i.aC=0:=bz h7
 have g5:i.kind=0:=(bc rfl h9).1
 have g6:0<=i.bD/\i.bD<=3/\i.bD % 1=0:=fA (s:=1) (by decide) (bc rfl h9).2
 have g7:i.set=0:=h8.elim id fun e=>absurd (show false=true from e.2) Bool.false_ne_true
 have g8:i.cond=0:=h6.elim id fun e=>absurd (show false=true from e.1) Bool.false_ne_true
 clear h1 h2 h3 h4 h5 h6 h7 h8 h9 cS
 refine Spec.enter ao nj 100 Tryz.func103 rfl (by kernel_rfl) ?_
 refine .inl ⟨ai (by omega),?_⟩
 refine .inl ⟨ai (by omega),?_⟩
 refine (av hs).u ?_
 refine .inl ⟨ai (by omega),?_⟩
 refine⟨by decide,.inl ⟨ai (by rw[S7]; omega),?_⟩⟩
 refine .inl ⟨ai (by omega),?_⟩
 refine⟨by decide,.inl ⟨ai (by rw[SZ]; omega),?_⟩⟩
 refine⟨by decide,.inl ⟨ai (by rw[r4]; omega),?_⟩⟩
 refine .inl ⟨ai (by omega),?_⟩
 refine al ?_
 have eo:fC i (ay 26)=0 ||| B i.rn 0 4 16 ||| B i.rd 0 4 12 ||| B i.bD 0 2 4 ||| B i.rm 0 4 0:=rfl
 rw[eo]
 refine (show bits .or .u32 (bits .or .u32 (bits .or .u32 (i.rn*Ev.aQ .u32 16) (i.rd*Ev.aQ .u32 12)) (i.bD*Ev.aQ .u32 4)) (i.rm)=_ from ?_)
 refine ((((((((sZ i.rn 4 16 (by decide) (by decide) (by omega))).or (sZ i.rd 4 12 (by decide) (by decide) (by omega)))).or (sZ i.bD 2 4 (by decide) (by decide) (by omega)))).or (vZ i.rm 4 (by decide) (by omega)))).1.trans (congrArg (fun n:Nat=>(n:Int)) ?_)
 first
 | (simp only[Nat.or_zero,Nat.zero_or]; done)
 | (simp only[Nat.or_zero,Nat.zero_or]
    generalize B i.rn 0 4 16=n0
    generalize B i.rd 0 4 12=n1
    generalize B i.bD 0 2 4=n2
    generalize B i.rm 0 4 0=n3
    ac_rfl)
theorem QT (i:IN) (hs:af i.form=27) (hr:aS i (fg 27)) (hg:i.aA<=9223372036854775807):aj gT 103 [cZ i] (.int .u32 ((fC i (ay 27):Nat):Int)):=by
 obtain⟨hf,h1,h2,h3,h4,h5,h6,h7,h8,h9,cS⟩:=hr
 have g0:=bn (r:=i.rd) h1
 have g1:=bn (r:=i.rn) h2
 have g2:=bn (r:=i.rm) h3
 have g3:=aB (r:=i.ra) h4
 have g4:i.aC=0:=bz h7
 have g5:i.kind=0:=(bc rfl h9).1
 have g6:i.bD=0:=bz (bc rfl h9).2
 have g7:i.set=0\/i.set=1:=h8.imp id fun e=>e.1
 have g8:i.cond=0:=h6.elim id fun e=>absurd (show false=true from e.1) Bool.false_ne_true
 clear h1 h2 h3 h4 h5 h6 h7 h8 h9 cS
 refine Spec.enter ao nj 100 Tryz.func103 rfl (by kernel_rfl) ?_
 refine .inl ⟨ai (by omega),?_⟩
 refine .inl ⟨ai (by omega),?_⟩
 refine (av hs).u ?_
 refine (dh i (by omega) (by omega) (by omega) (by omega) (by omega)).u ?_
 refine al ?_
 have eo:fC i (ay 27)=0 ||| B i.set 0 1 20 ||| B i.rn 0 4 16 ||| B i.rd 0 4 8 ||| B i.rm 0 4 0:=rfl
 rw[eo]
 refine (show ((B i.set 0 1 20 ||| B i.rn 0 4 16 ||| B i.ra 0 4 12 ||| B i.rd 0 4 8 ||| B i.rm 0 4 0:Nat):Int)=_ from ?_)
 refine ((gC i)).1.trans (congrArg (fun n:Nat=>(n:Int)) ?_)
 first
 | (simp only[jb g3,Nat.or_zero,Nat.zero_or]; done)
 | (simp only[jb g3,Nat.or_zero,Nat.zero_or]
    generalize B i.set 0 1 20=n0
    generalize B i.rn 0 4 16=n1
    generalize B i.rd 0 4 8=n2
    generalize B i.rm 0 4 0=n3
    ac_rfl)
theorem QU (i:IN) (hs:af i.form=28) (hr:aS i (fg 28)) (hg:i.aA<=9223372036854775807):aj gT 103 [cZ i] (.int .u32 ((fC i (ay 28):Nat):Int)):=by
 obtain⟨hf,h1,h2,h3,h4,h5,h6,h7,h8,h9,cS⟩:=hr
 have g0:=bn (r:=i.rd) h1
 have g1:=bn (r:=i.rn) h2
 have g2:=bn (r:=i.rm) h3
 have g3:=aB (r:=i.ra) h4
 have g4:i.aC=0:=bz h7
 have g5:i.kind=0:=(bc rfl h9).1
 have g6:i.bD=0:=bz (bc rfl h9).2
 have g7:i.set=0:=h8.elim id fun e=>absurd (show false=true from e.2) Bool.false_ne_true
 have g8:i.cond=0:=h6.elim id fun e=>absurd (show false=true from e.1) Bool.false_ne_true
 clear h1 h2 h3 h4 h5 h6 h7 h8 h9 cS
 refine Spec.enter ao nj 100 Tryz.func103 rfl (by kernel_rfl) ?_
 refine .inl ⟨ai (by omega),?_⟩
 refine .inl ⟨ai (by omega),?_⟩
 refine (av hs).u ?_
 refine (dh i (by omega) (by omega) (by omega) (by omega) (by omega)).u ?_
 refine al ?_
 have eo:fC i (ay 28)=0 ||| B i.rn 0 4 16 ||| B i.rd 0 4 8 ||| B i.rm 0 4 0:=rfl
 rw[eo]
 refine (show ((B i.set 0 1 20 ||| B i.rn 0 4 16 ||| B i.ra 0 4 12 ||| B i.rd 0 4 8 ||| B i.rm 0 4 0:Nat):Int)=_ from ?_)
 refine ((gC i)).1.trans (congrArg (fun n:Nat=>(n:Int)) ?_)
 first
 | (simp only[jb g3,jb g7,Nat.or_zero,Nat.zero_or]; done)
 | (simp only[jb g3,jb g7,Nat.or_zero,Nat.zero_or]
    generalize B i.rn 0 4 16=n0
    generalize B i.rd 0 4 8=n1
    generalize B i.rm 0 4 0=n2
    ac_rfl)
theorem QV (i:IN) (hs:af i.form=29) (hr:aS i (fg 29)) (hg:i.aA<=9223372036854775807):aj gT 103 [cZ i] (.int .u32 ((fC i (ay 29):Nat):Int)):=by
 obtain⟨hf,h1,h2,h3,h4,h5,h6,h7,h8,h9,cS⟩:=hr
 have g0:=bn (r:=i.rd) h1
 have g1:=bn (r:=i.rn) h2
 have g2:=bn (r:=i.rm) h3
 have g3:=bn (r:=i.ra) h4
 have g4:i.aC=0:=bz h7
 have g5:i.kind=0:=(bc rfl h9).1
 have g6:i.bD=0:=bz (bc rfl h9).2
 have g7:i.set=0:=h8.elim id fun e=>absurd (show false=true from e.2) Bool.false_ne_true
 have g8:i.cond=0:=h6.elim id fun e=>absurd (show false=true from e.1) Bool.false_ne_true
 clear h1 h2 h3 h4 h5 h6 h7 h8 h9 cS
 refine Spec.enter ao nj 100 Tryz.func103 rfl (by kernel_rfl) ?_
 refine .inl ⟨ai (by omega),?_⟩
 refine .inl ⟨ai (by omega),?_⟩
 refine (av hs).u ?_
 refine (dh i (by omega) (by omega) (by omega) (by omega) (by omega)).u ?_
 refine al ?_
 have eo:fC i (ay 29)=0 ||| B i.rn 0 4 16 ||| B i.ra 0 4 12 ||| B i.rd 0 4 8 ||| B i.rm 0 4 0:=rfl
 rw[eo]
 refine (show ((B i.set 0 1 20 ||| B i.rn 0 4 16 ||| B i.ra 0 4 12 ||| B i.rd 0 4 8 ||| B i.rm 0 4 0:Nat):Int)=_ from ?_)
 refine ((gC i)).1.trans (congrArg (fun n:Nat=>(n:Int)) ?_)
 first
 | (simp only[jb g7,Nat.or_zero,Nat.zero_or]; done)
 | (simp only[jb g7,Nat.or_zero,Nat.zero_or]
    generalize B i.rn 0 4 16=n0
    generalize B i.ra 0 4 12=n1
    generalize B i.rd 0 4 8=n2
    generalize B i.rm 0 4 0=n3
    ac_rfl)
theorem QW (i:IN) (hs:af i.form=30) (hr:aS i (fg 30)) (hg:i.aA<=9223372036854775807):aj gT 103 [cZ i] (.int .u32 ((fC i (ay 30):Nat):Int)):=by
 obtain⟨hf,h1,h2,h3,h4,h5,h6,h7,h8,h9,cS⟩:=hr
 have g0:=bn (r:=i.rd) h1
 have g1:=bn (r:=i.rn) h2
 have g2:=bn (r:=i.rm) h3
 have g3:=bn (r:=i.ra) h4
 have g4:i.aC=0:=bz h7
 have g5:i.kind=0:=(bc rfl h9).1
 have g6:i.bD=0:=bz (bc rfl h9).2
 have g7:i.set=0:=h8.elim id fun e=>absurd (show false=true from e.2) Bool.false_ne_true
 have g8:i.cond=0:=h6.elim id fun e=>absurd (show false=true from e.1) Bool.false_ne_true
 clear h1 h2 h3 h4 h5 h6 h7 h8 h9 cS
 refine Spec.enter ao nj 100 Tryz.func103 rfl (by kernel_rfl) ?_
 refine .inl ⟨ai (by omega),?_⟩
 refine .inl ⟨ai (by omega),?_⟩
 refine (av hs).u ?_
 refine (dh i (by omega) (by omega) (by omega) (by omega) (by omega)).u ?_
 refine al ?_
 have eo:fC i (ay 30)=0 ||| B i.rn 0 4 16 ||| B i.ra 0 4 12 ||| B i.rd 0 4 8 ||| B i.rm 0 4 0:=rfl
 rw[eo]
 refine (show ((B i.set 0 1 20 ||| B i.rn 0 4 16 ||| B i.ra 0 4 12 ||| B i.rd 0 4 8 ||| B i.rm 0 4 0:Nat):Int)=_ from ?_)
 refine ((gC i)).1.trans (congrArg (fun n:Nat=>(n:Int)) ?_)
 first
 | (simp only[jb g7,Nat.or_zero,Nat.zero_or]; done)
 | (simp only[jb g7,Nat.or_zero,Nat.zero_or]
    generalize B i.rn 0 4 16=n0
    generalize B i.ra 0 4 12=n1
    generalize B i.rd 0 4 8=n2
    generalize B i.rm 0 4 0=n3
    ac_rfl)
theorem QX (i:IN) (hs:af i.form=31) (hr:aS i (fg 31)) (hg:i.aA<=9223372036854775807):aj gT 103 [cZ i] (.int .u32 ((fC i (ay 31):Nat):Int)):=by
 obtain⟨hf,h1,h2,h3,h4,h5,h6,h7,h8,h9,cS⟩:=hr
 have g0:=bn (r:=i.rd) h1
 have g1:=bn (r:=i.rn) h2
 have g2:=bn (r:=i.rm) h3
 have g3:=bn (r:=i.ra) h4
 have g4:i.aC=0:=bz h7
 have g5:i.kind=0:=(bc rfl h9).1
 have g6:i.bD=0:=bz (bc rfl h9).2
 have g7:i.set=0:=h8.elim id fun e=>absurd (show false=true from e.2) Bool.false_ne_true
 have g8:i.cond=0:=h6.elim id fun e=>absurd (show false=true from e.1) Bool.false_ne_true
 clear h1 h2 h3 h4 h5 h6 h7 h8 h9 cS
 refine Spec.enter ao nj 100 Tryz.func103 rfl (by kernel_rfl) ?_
 refine .inl ⟨ai (by omega),?_⟩
 refine .inl ⟨ai (by omega),?_⟩
 refine (av hs).u ?_
 refine .inl ⟨ai (by omega),?_⟩
 refine⟨by decide,.inl ⟨ai (by rw[S7]; omega),?_⟩⟩
 refine .inl ⟨ai (by omega),?_⟩
 refine⟨by decide,.inl ⟨ai (by rw[SZ]; omega),?_⟩⟩
 refine .inl ⟨ai (by omega),?_⟩
 refine⟨by decide,.inl ⟨ai (by rw[r8]; omega),?_⟩⟩
 refine .inl ⟨ai (by omega),?_⟩
 refine al ?_
 have eo:fC i (ay 31)=0 ||| B i.rn 0 4 16 ||| B i.rd 0 4 12 ||| B i.ra 0 4 8 ||| B i.rm 0 4 0:=rfl
 rw[eo]
 refine (show bits .or .u32 (bits .or .u32 (bits .or .u32 (i.rn*Ev.aQ .u32 16) (i.rd*Ev.aQ .u32 12)) (i.ra*Ev.aQ .u32 8)) (i.rm)=_ from ?_)
 refine ((((((((sZ i.rn 4 16 (by decide) (by decide) (by omega))).or (sZ i.rd 4 12 (by decide) (by decide) (by omega)))).or (sZ i.ra 4 8 (by decide) (by decide) (by omega)))).or (vZ i.rm 4 (by decide) (by omega)))).1.trans (congrArg (fun n:Nat=>(n:Int)) ?_)
 first
 | (simp only[Nat.or_zero,Nat.zero_or]; done)
 | (simp only[Nat.or_zero,Nat.zero_or]
    generalize B i.rn 0 4 16=n0
    generalize B i.rd 0 4 12=n1
    generalize B i.ra 0 4 8=n2
    generalize B i.rm 0 4 0=n3
    ac_rfl)
theorem QY (i:IN) (hs:af i.form=32) (hr:aS i (fg 32)) (hg:i.aA<=9223372036854775807):aj gT 103 [cZ i] (.int .u32 ((fC i (ay 32):Nat):Int)):=by
 obtain⟨hf,h1,h2,h3,h4,h5,h6,h7,h8,h9,cS⟩:=hr
 have g0:=bn (r:=i.rd) h1
 have g1:=aB (r:=i.rn) h2
 have g2:=bn (r:=i.rm) h3
 have g3:=aB (r:=i.ra) h4
 have g4:i.aC=0:=bz h7
 have g5:i.kind=0:=(bc rfl h9).1
 have g6:i.bD=0:=bz (bc rfl h9).2
 have g7:i.set=0:=h8.elim id fun e=>absurd (show false=true from e.2) Bool.false_ne_true
 have g8:i.cond=0:=h6.elim id fun e=>absurd (show false=true from e.1) Bool.false_ne_true
 clear h1 h2 h3 h4 h5 h6 h7 h8 h9 cS
 refine Spec.enter ao nj 100 Tryz.func103 rfl (by kernel_rfl) ?_
 refine .inl ⟨ai (by omega),?_⟩
 refine .inl ⟨ai (by omega),?_⟩
 refine (av hs).u ?_
 refine .inl ⟨ai (by omega),?_⟩
 refine⟨by decide,.inl ⟨ai (by rw[S7]; omega),?_⟩⟩
 refine .inl ⟨ai (by omega),?_⟩
 refine⟨by decide,.inl ⟨ai (by rw[r8]; omega),?_⟩⟩
 refine .inl ⟨ai (by omega),?_⟩
 refine al ?_
 have eo:fC i (ay 32)=0 ||| B i.rm 0 4 16 ||| B i.rd 0 4 8 ||| B i.rm 0 4 0:=rfl
 rw[eo]
 refine (show bits .or .u32 (bits .or .u32 (i.rm*Ev.aQ .u32 16) (i.rd*Ev.aQ .u32 8)) (i.rm)=_ from ?_)
 refine ((((((sZ i.rm 4 16 (by decide) (by decide) (by omega))).or (sZ i.rd 4 8 (by decide) (by decide) (by omega)))).or (vZ i.rm 4 (by decide) (by omega)))).1.trans (congrArg (fun n:Nat=>(n:Int)) ?_)
 first
 | (simp only[Nat.or_zero,Nat.zero_or]; done)
 | (simp only[Nat.or_zero,Nat.zero_or]
    generalize B i.rm 0 4 16=n0
    generalize B i.rd 0 4 8=n1
    generalize B i.rm 0 4 0=n2
    ac_rfl)
theorem xT (v c:Int) (hv:-1099511627776<=v) (hc:0<=c/\c < 16):aj gT 132 [.int .u32 (IntKind.u32.wrap v),.int .u32 c] (.int .u32 ((B v 20 1 26 ||| B c 0 4 22 ||| B v 12 6 16 ||| B v 18 1 13 ||| B v 19 1 11 ||| B v 1 11 0:Nat):Int)):=by
 have b0:=ae v 20 1
 have b1:=ae v 12 6
 have b2:=ae v 18 1
 have b3:=ae v 19 1
 have b4:=ae v 1 11
 refine Spec.enter ao P132 100 Tryz.func132 rfl (by kernel_rfl) ?_
 refine (uB v 20 1 (by omega) (by decide) (by decide) (by decide)).u ?_
 refine⟨by decide,.inl ⟨ai (by rw[r26]; omega),?_⟩⟩
 refine⟨by decide,.inl ⟨ai (by rw[r22]; omega),?_⟩⟩
 refine (uB v 12 6 (by omega) (by decide) (by decide) (by decide)).u ?_
 refine⟨by decide,.inl ⟨ai (by rw[S7]; omega),?_⟩⟩
 refine (uB v 18 1 (by omega) (by decide) (by decide) (by decide)).u ?_
 refine⟨by decide,.inl ⟨ai (by rw[r13]; omega),?_⟩⟩
 refine (uB v 19 1 (by omega) (by decide) (by decide) (by decide)).u ?_
 refine⟨by decide,.inl ⟨ai (by rw[r11]; omega),?_⟩⟩
 refine (uB v 1 11 (by omega) (by decide) (by decide) (by decide)).u ?_
 refine al ?_
 exact (show bits .or .u32 (bits .or .u32 (bits .or .u32 (bits .or .u32 (bits .or .u32 (aa v 20 1*Ev.aQ .u32 26) (c*Ev.aQ .u32 22)) (aa v 12 6*Ev.aQ .u32 16)) (aa v 18 1*Ev.aQ .u32 13)) (aa v 19 1*Ev.aQ .u32 11)) (aa v 1 11)=_ from ((((((((((((xA v 20 1 26 (by decide) (by decide))).or (sZ c 4 22 (by decide) (by decide) hc))).or (xA v 12 6 16 (by decide) (by decide)))).or (xA v 18 1 13 (by decide) (by decide)))).or (xA v 19 1 11 (by decide) (by decide)))).or (Aj v 1 11 (by decide)))).1)
theorem QZ (i:IN) (hs:af i.form=33) (hr:aS i (fg 33)) (hg:i.aA<=9223372036854775807):aj gT 103 [cZ i] (.int .u32 ((fC i (ay 33):Nat):Int)):=by
 obtain⟨hf,h1,h2,h3,h4,h5,h6,h7,h8,h9,cS⟩:=hr
 have g0:=aB (r:=i.rd) h1
 have g1:=aB (r:=i.rn) h2
 have g2:=aB (r:=i.rm) h3
 have g3:=aB (r:=i.ra) h4
 have g4:-1048576<=i.aC/\i.aC<=1048574/\i.aC % 2=0:=fA (s:=2) (by decide) h7
 have g5:i.kind=0:=(bc rfl h9).1
 have g6:i.bD=0:=bz (bc rfl h9).2
 have g7:i.set=0:=h8.elim id fun e=>absurd (show false=true from e.2) Bool.false_ne_true
 have g8:0<=i.cond/\i.cond<=13:=by rcases h6 with h6|h6<;>omega
 clear h1 h2 h3 h4 h5 h6 h7 h8 h9 cS
 refine Spec.enter ao nj 100 Tryz.func103 rfl (by kernel_rfl) ?_
 refine .inr ?_
 refine .inl ⟨ai (by omega),?_⟩
 refine (av hs).u ?_
 refine .inl ⟨ai (by omega),?_⟩
 refine (xT i.aC i.cond (by omega) (by omega)).u ?_
 refine al ?_
 have eo:fC i (ay 33)=0 ||| B i.aC 20 1 26 ||| B i.cond 0 4 22 ||| B i.aC 12 6 16 ||| B i.aC 18 1 13 ||| B i.aC 19 1 11 ||| B i.aC 1 11 0:=rfl
 rw[eo]
 refine (show _=_ from congrArg (fun n:Nat=>(n:Int)) ?_)
 simp only[Nat.zero_or]
theorem Cp (v:Int) (hv:-1099511627776<=v):aa (bw (aa v 0 25) 2) 24 1=aa v 24 1/\aa (bw (aa v 0 25) 2) 12 10=aa v 12 10/\aa (bw (aa v 0 25) 2) 23 1=(if aa v 23 1=aa v 24 1 then 1 else 0)/\aa (bw (aa v 0 25) 2) 22 1=(if aa v 22 1=aa v 24 1 then 1 else 0)/\aa (bw (aa v 0 25) 2) 1 11=aa v 1 11:=by
 obtain⟨u,hu⟩:∃ u,u=if v < 0 then v+1099511627776 else v:=⟨_,rfl⟩
 have u0:0<=u:=by rw[hu]; split<;>omega
 obtain⟨n,hn⟩:∃ n,n=aa v 0 25:=⟨_,rfl⟩
 have e:n=u % 33554432:=by
  rw[hn]; unfold aa; rw[← hu]; omega
 have hb:0<=n/\n < 33554432:=by omega
 have c:=oN hb
 have d:=rq hb
 rw[← hn]
 obtain⟨t,ht⟩:∃ t,t=bw n 2:=⟨_,rfl⟩
 rw[← ht] at c d ⊢
 have e1:aa v 24 1=n / 16777216:=by unfold aa; rw[← hu]; omega
 have e2:aa v 23 1=n / 8388608 % 2:=by unfold aa; rw[← hu]; omega
 have e3:aa v 22 1=n / 4194304 % 2:=by unfold aa; rw[← hu]; omega
 have e4:aa v 12 10=n % 4194304 / 4096:=by unfold aa; rw[← hu]; omega
 have e5:aa v 1 11=n % 4194304 / 2 % 2048:=by unfold aa; rw[← hu]; omega
 have f1:aa t 24 1=t / 16777216:=by unfold aa; rw[if_neg (by omega)]; omega
 have f2:aa t 23 1=t / 8388608 % 2:=by unfold aa; rw[if_neg (by omega)]; omega
 have f3:aa t 22 1=t / 4194304 % 2:=by unfold aa; rw[if_neg (by omega)]; omega
 have f4:aa t 12 10=t % 4194304 / 4096:=by unfold aa; rw[if_neg (by omega)]; omega
 have f5:aa t 1 11=t % 4194304 / 2 % 2048:=by unfold aa; rw[if_neg (by omega)]; omega
 have e6:n / 16777216 % 2=n / 16777216:=by omega
 rw[e1,e2,e3,e4,e5,f1,f2,f3,f4,f5,c.1,c.2.1]
 rw[e6] at c
 exact⟨rfl,rfl,c.2.2.2,c.2.2.1,rfl⟩
theorem MQ (a b:Int):∃ m:Int,m=(if a=b then 1 else 0)/\0<=m/\m < 2:=⟨_,rfl,by split<;>omega,by split<;>omega⟩
theorem xU (v:Int) (hv:-1099511627776<=v):aj gT 133 [.int .u32 (IntKind.u32.wrap v)] (.int .u32 ((B (bw (aa v 0 25) 2) 24 1 26 ||| B (bw (aa v 0 25) 2) 12 10 16 ||| B (bw (aa v 0 25) 2) 23 1 13 ||| B (bw (aa v 0 25) 2) 22 1 11 ||| B (bw (aa v 0 25) 2) 1 11 0:Nat):Int)):=by
 obtain⟨t1,t2,t3,t4,t5⟩:=Cp v hv
 have s2:=oP (aa v 23 1) (aa v 24 1) (mK v 23) (mK v 24)
 have s3:=oP (aa v 22 1) (aa v 24 1) (mK v 22) (mK v 24)
 obtain⟨m2,Bk,c2⟩:=MQ (aa v 23 1) (aa v 24 1)
 obtain⟨m3,hm3,c3⟩:=MQ (aa v 22 1) (aa v 24 1)
 rw[← Bk] at s2 t3
 rw[← hm3] at s3 t4
 have b0:=ae v 24 1
 have b1:=ae v 12 10
 have b2:=ae v 1 11
 refine Spec.enter ao P133 100 Tryz.func133 rfl (by kernel_rfl) ?_
 refine (uB v 24 1 (by omega) (by decide) (by decide) (by decide)).u ?_
 refine⟨by decide,.inl ⟨ai (by rw[r26]; omega),?_⟩⟩
 refine (uB v 12 10 (by omega) (by decide) (by decide) (by decide)).u ?_
 refine⟨by decide,.inl ⟨ai (by rw[S7]; omega),?_⟩⟩
 refine (uB v 23 1 (by omega) (by decide) (by decide) (by decide)).u ?_
 refine s2.u ?_
 refine⟨by decide,.inl ⟨ai (by rw[r13]; omega),?_⟩⟩
 refine (uB v 22 1 (by omega) (by decide) (by decide) (by decide)).u ?_
 refine s3.u ?_
 refine⟨by decide,.inl ⟨ai (by rw[r11]; omega),?_⟩⟩
 refine (uB v 1 11 (by omega) (by decide) (by decide) (by decide)).u ?_
 refine al ?_
 have k1:D5 (aa v 24 1*Ev.aQ .u32 26) (B (bw (aa v 0 25) 2) 24 1 26):=by have:=xA (bw (aa v 0 25) 2) 24 1 26 (p:=Ev.aQ .u32 26) (by decide) (by decide); rwa [t1] at this
 have k2:D5 (aa v 12 10*Ev.aQ .u32 16) (B (bw (aa v 0 25) 2) 12 10 16):=by have:=xA (bw (aa v 0 25) 2) 12 10 16 (p:=Ev.aQ .u32 16) (by decide) (by decide); rwa [t2] at this
 have k3:D5 (m2*Ev.aQ .u32 13) (B (bw (aa v 0 25) 2) 23 1 13):=by have:=xA (bw (aa v 0 25) 2) 23 1 13 (p:=Ev.aQ .u32 13) (by decide) (by decide); rwa [t3] at this
 have k4:D5 (m3*Ev.aQ .u32 11) (B (bw (aa v 0 25) 2) 22 1 11):=by have:=xA (bw (aa v 0 25) 2) 22 1 11 (p:=Ev.aQ .u32 11) (by decide) (by decide); rwa [t4] at this
 have k5:D5 (aa v 1 11) (B (bw (aa v 0 25) 2) 1 11 0):=by have:=Aj (bw (aa v 0 25) 2) 1 11 (by decide); rwa [t5] at this
 exact (show bits .or .u32 (bits .or .u32 (bits .or .u32 (bits .or .u32 (aa v 24 1*Ev.aQ .u32 26) (aa v 12 10*Ev.aQ .u32 16)) (m2*Ev.aQ .u32 13)) (m3*Ev.aQ .u32 11)) (aa v 1 11)=_ from ((((k1.or k2).or k3).or k4).or k5).1)
theorem Q0 (i:IN) (hs:af i.form=34) (hr:aS i (fg 34)) (hg:i.aA<=9223372036854775807):aj gT 103 [cZ i] (.int .u32 ((fC (fx i) (ay 34):Nat):Int)):=by
 obtain⟨hf,h1,h2,h3,h4,h5,h6,h7,h8,h9,cS⟩:=hr
 have g0:=aB (r:=i.rd) h1
 have g1:=aB (r:=i.rn) h2
 have g2:=aB (r:=i.rm) h3
 have g3:=aB (r:=i.ra) h4
 have g4:-16777216<=i.aC/\i.aC<=16777214/\i.aC % 2=0:=fA (s:=2) (by decide) h7
 have g5:i.kind=0:=(bc rfl h9).1
 have g6:i.bD=0:=bz (bc rfl h9).2
 have g7:i.set=0:=h8.elim id fun e=>absurd (show false=true from e.2) Bool.false_ne_true
 have g8:i.cond=0:=h6.elim id fun e=>absurd (show false=true from e.1) Bool.false_ne_true
 clear h1 h2 h3 h4 h5 h6 h7 h8 h9 cS
 have et:=sh34 hs
 rw[et]
 refine Spec.enter ao nj 100 Tryz.func103 rfl (by kernel_rfl) ?_
 refine .inr ?_
 refine .inl ⟨ai (by omega),?_⟩
 refine (av hs).u ?_
 refine (xU i.aC (by omega)).u ?_
 refine al ?_
 have eo:fC {i with aC:=bw (aa i.aC 0 25) 2} (ay 34)=0 ||| B (bw (aa i.aC 0 25) 2) 24 1 26 ||| B (bw (aa i.aC 0 25) 2) 12 10 16 ||| B (bw (aa i.aC 0 25) 2) 23 1 13 ||| B (bw (aa i.aC 0 25) 2) 22 1 11 ||| B (bw (aa i.aC 0 25) 2) 1 11 0:=rfl
 rw[eo]
 refine (show _=_ from congrArg (fun n:Nat=>(n:Int)) ?_)
 simp only[Nat.zero_or]
theorem kt:∀ (i:IN),qC (cZ i) (cZ i):=fun i=>⟨rfl,rfl,rfl,rfl,rfl,rfl,rfl,rfl,rfl,rfl,rfl,trivial⟩
theorem q2:Ev.aQ .i64 2=4:=by decide
theorem q14:Ev.aQ .i64 14=16384:=by decide
theorem q15:Ev.aQ .i64 15=32768:=by decide
theorem EU (f w:Int) (hF:1<=f/\f<=100) (hs:af f=1) (hw:dH w):aj gT 51 [.int .i64 f,.int .u32 w] (cZ (YQ f w)):=by
 have b0:=ae w 6 5
 have b1:=ae w 3 3
 have b2:=ae w 0 3
 unfold YQ
 refine Spec.enter ao BS 100 Tryz.func51 rfl (by kernel_rfl) ?_
 have h3:=yN hF hs
 have e:∀ x:Int,x=0+x*2 ^ 0:=fun x=>by omega
 refine (av hs).u ?_
 refine (aI w 0 3 hw (by decide) (by decide)).u ?_
 refine (aI w 3 3 hw (by decide) (by decide)).u ?_
 refine (aI w 6 5 hw (by decide) (by decide)).u ?_
 refine⟨fun h1=>?_,fun h1=>?_⟩
 ·refine⟨[],az,(fG 1 (0+aa w 6 5*2 ^ 0)).use (And.intro rfl (And.intro (e _) trivial)) rfl rfl ?_⟩
  refine al ?_
  (repeat' first|exact trivial|exact rfl|exact e _|refine And.intro ?_ ?_)
  show (if 0+aa w 6 5*2 ^ 0=0/\((1:Int)=1\/(1:Int)=2) then (32:Int) else _)=if 1 < f/\0+aa w 6 5*2 ^ 0=0 then (32:Int) else 0+aa w 6 5*2 ^ 0
  have eU:¬ f=1:=h1
  (repeat' split)<;>omega
 ·refine al ?_
  (repeat' first|exact trivial|exact rfl|exact e _|refine And.intro ?_ ?_)
  show aa w 6 5=if 1 < f/\0+aa w 6 5*2 ^ 0=0 then (32:Int) else 0+aa w 6 5*2 ^ 0
  have eU:¬ ¬ f=1:=h1
  (repeat' split)<;>omega
theorem EV (f w:Int) (hF:1<=f/\f<=100) (hs:af f=2) (hw:dH w):aj gT 51 [.int .i64 f,.int .u32 w] (cZ (YS f w)):=by
 have b0:=ae w 6 3
 have b1:=ae w 3 3
 have b2:=ae w 0 3
 unfold YS
 refine Spec.enter ao BS 100 Tryz.func51 rfl (by kernel_rfl) ?_
 refine (av hs).u ?_
 refine (qg ⟨f,0,0,0,0,0,0,0,0,0,0⟩ w hw).u ?_
 refine (aI w 6 3 hw (by decide) (by decide)).u ?_
 refine al ?_
 (repeat' first|exact trivial|exact rfl|refine And.intro ?_ ?_)
 all_goals (show (_:Int)=_; (try dsimp only [bL,cn]); first|omega|(unfold ft; omega))
theorem EW (f w:Int) (hF:1<=f/\f<=100) (hs:af f=3) (hw:dH w):aj gT 51 [.int .i64 f,.int .u32 w] (cZ (YT f w)):=by
 have b0:=ae w 6 3
 have b1:=ae w 3 3
 have b2:=ae w 0 3
 unfold YT
 refine Spec.enter ao BS 100 Tryz.func51 rfl (by kernel_rfl) ?_
 refine (av hs).u ?_
 refine (qg ⟨f,0,0,0,0,0,0,0,0,0,0⟩ w hw).u ?_
 refine (aI w 6 3 hw (by decide) (by decide)).u ?_
 refine al ?_
 (repeat' first|exact trivial|exact rfl|refine And.intro ?_ ?_)
 all_goals (show (_:Int)=_; (try dsimp only [bL,cn]); first|omega|(unfold ft; omega))
theorem EX (f w:Int) (hF:1<=f/\f<=100) (hs:af f=4) (hw:dH w):aj gT 51 [.int .i64 f,.int .u32 w] (cZ (YU f w)):=by
 have b0:=ae w 8 3
 have b1:=ae w 0 8
 unfold YU
 refine Spec.enter ao BS 100 Tryz.func51 rfl (by kernel_rfl) ?_
 refine (av hs).u ?_
 refine (aI w 8 3 hw (by decide) (by decide)).u ?_
 refine (aI w 0 8 hw (by decide) (by decide)).u ?_
 refine al ?_
 (repeat' first|exact trivial|exact rfl|refine And.intro ?_ ?_)
 all_goals (show (_:Int)=_; (try dsimp only [bL,cn]); first|omega|(unfold ft; omega))
theorem EY (f w:Int) (hF:1<=f/\f<=100) (hs:af f=5) (hw:dH w):aj gT 51 [.int .i64 f,.int .u32 w] (cZ (YV f w)):=by
 have b0:=ae w 3 3
 have b1:=ae w 0 3
 unfold YV
 refine Spec.enter ao BS 100 Tryz.func51 rfl (by kernel_rfl) ?_
 refine (av hs).u ?_
 refine (aI w 0 3 hw (by decide) (by decide)).u ?_
 refine (aI w 3 3 hw (by decide) (by decide)).u ?_
 refine al ?_
 (repeat' first|exact trivial|exact rfl|refine And.intro ?_ ?_)
 all_goals (show (_:Int)=_; (try dsimp only [bL,cn]); first|omega|(unfold ft; omega))
theorem EZ (f w:Int) (hF:1<=f/\f<=100) (hs:af f=6) (hw:dH w):aj gT 51 [.int .i64 f,.int .u32 w] (cZ (YW f w)):=by
 have b0:=ae w 7 1
 have b1:=ae w 3 4
 have b2:=ae w 0 3
 unfold YW
 refine Spec.enter ao BS 100 Tryz.func51 rfl (by kernel_rfl) ?_
 refine (av hs).u ?_
 refine (aI w 7 1 hw (by decide) (by decide)).u ?_
 refine⟨by decide,.inl ⟨aG (by rw[q3]; omega),?_⟩⟩
 refine (aI w 0 3 hw (by decide) (by decide)).u ?_
 refine (aI w 3 4 hw (by decide) (by decide)).u ?_
 have e:bits .or .i64 (aa w 7 1*Ev.aQ .i64 3) (aa w 0 3)=0+aa w 7 1*2 ^ 3+aa w 0 3*2 ^ 0:=by
  rw[q3,Rm.cY (aa w 7 1*8) (aa w 0 3) 3 (by omega) (by omega) (by omega) (by omega) (by omega) (by omega)]; omega
 refine al ?_
 (repeat' first|exact trivial|exact rfl|exact e|refine And.intro ?_ ?_)
 all_goals (show (_:Int)=_; (try dsimp only [bL,cn]); omega)
theorem E0 (f w:Int) (hF:1<=f/\f<=100) (hs:af f=7) (hw:dH w):aj gT 51 [.int .i64 f,.int .u32 w] (cZ (YX f w)):=by
 have b0:=ae w 3 4
 unfold YX
 refine Spec.enter ao BS 100 Tryz.func51 rfl (by kernel_rfl) ?_
 refine (av hs).u ?_
 refine (aI w 3 4 hw (by decide) (by decide)).u ?_
 refine al ?_
 (repeat' first|exact trivial|exact rfl|refine And.intro ?_ ?_)
 all_goals (show (_:Int)=_; (try dsimp only [bL,cn]); first|omega|(unfold ft; omega))
theorem E1 (f w:Int) (hF:1<=f/\f<=100) (hs:af f=8) (hw:dH w):aj gT 51 [.int .i64 f,.int .u32 w] (cZ (YY f w)):=by
 have b0:=ae w 8 3
 have b1:=ae w 0 8
 unfold YY
 refine Spec.enter ao BS 100 Tryz.func51 rfl (by kernel_rfl) ?_
 refine (av hs).u ?_
 refine (aI w 8 3 hw (by decide) (by decide)).u ?_
 refine (aI w 0 8 hw (by decide) (by decide)).u ?_
 refine li ?_
 refine al ?_
 (repeat' first|exact trivial|exact rfl|refine And.intro ?_ ?_)
 all_goals (show (_:Int)=_; (try dsimp only [bL,cn]); first|omega|(unfold ft; omega))
theorem E3 (f w:Int) (hF:1<=f/\f<=100) (hs:af f=9) (hw:dH w):aj gT 51 [.int .i64 f,.int .u32 w] (cZ (YZ f w)):=by
 have b0:=ae w 6 5
 have b1:=ae w 3 3
 have b2:=ae w 0 3
 unfold YZ
 refine Spec.enter ao BS 100 Tryz.func51 rfl (by kernel_rfl) ?_
 refine (av hs).u ?_
 refine (qg ⟨f,0,0,0,0,0,0,0,0,0,0⟩ w hw).u ?_
 refine (aI w 6 5 hw (by decide) (by decide)).u ?_
 refine li ?_
 refine al ?_
 (repeat' first|exact trivial|exact rfl|refine And.intro ?_ ?_)
 all_goals (show (_:Int)=_; (try dsimp only [bL,cn]); first|omega|(unfold ft; omega))
theorem Cq (f w:Int) (hF:1<=f/\f<=100) (hs:af f=10) (hw:dH w):aj gT 51 [.int .i64 f,.int .u32 w] (cZ (Ml f w)):=by
 have b0:=ae w 0 7
 unfold Ml
 refine Spec.enter ao BS 100 Tryz.func51 rfl (by kernel_rfl) ?_
 refine (av hs).u ?_
 refine (aI w 0 7 hw (by decide) (by decide)).u ?_
 refine li ?_
 refine al ?_
 (repeat' first|exact trivial|exact rfl|refine And.intro ?_ ?_)
 all_goals (show (_:Int)=_; (try dsimp only [bL,cn]); first|omega|(unfold ft; omega))
theorem Cr (f w:Int) (hF:1<=f/\f<=100) (hs:af f=11) (hw:dH w):aj gT 51 [.int .i64 f,.int .u32 w] (cZ (Mm f w)):=by
 have b0:=ae w 8 1
 have b1:=ae w 0 8
 unfold Mm
 refine Spec.enter ao BS 100 Tryz.func51 rfl (by kernel_rfl) ?_
 refine (av hs).u ?_
 refine (aI w 8 1 hw (by decide) (by decide)).u ?_
 refine⟨by decide,.inl ⟨aG (by rw[q14]; omega),?_⟩⟩
 refine (aI w 0 8 hw (by decide) (by decide)).u ?_
 have e:bits .or .i64 (aa w 8 1*Ev.aQ .i64 14) (aa w 0 8)=0+aa w 8 1*2 ^ 14+aa w 0 8*2 ^ 0:=by
  rw[q14,Rm.cY (aa w 8 1*16384) (aa w 0 8) 14 (by omega) (by omega) (by omega) (by omega) (by omega) (by omega)]; omega
 refine al ?_
 (repeat' first|exact trivial|exact rfl|exact e|refine And.intro ?_ ?_)
 all_goals (show (_:Int)=_; (try dsimp only [bL,cn]); omega)
theorem Cs (f w:Int) (hF:1<=f/\f<=100) (hs:af f=12) (hw:dH w):aj gT 51 [.int .i64 f,.int .u32 w] (cZ (Mn f w)):=by
 have b0:=ae w 8 1
 have b1:=ae w 0 8
 unfold Mn
 refine Spec.enter ao BS 100 Tryz.func51 rfl (by kernel_rfl) ?_
 refine (av hs).u ?_
 refine (aI w 8 1 hw (by decide) (by decide)).u ?_
 refine⟨by decide,.inl ⟨aG (by rw[q15]; omega),?_⟩⟩
 refine (aI w 0 8 hw (by decide) (by decide)).u ?_
 have e:bits .or .i64 (aa w 8 1*Ev.aQ .i64 15) (aa w 0 8)=0+aa w 8 1*2 ^ 15+aa w 0 8*2 ^ 0:=by
  rw[q15,Rm.cY (aa w 8 1*32768) (aa w 0 8) 15 (by omega) (by omega) (by omega) (by omega) (by omega) (by omega)]; omega
 refine al ?_
 (repeat' first|exact trivial|exact rfl|exact e|refine And.intro ?_ ?_)
 all_goals (show (_:Int)=_; (try dsimp only [bL,cn]); omega)
theorem Ct (f w:Int) (hF:1<=f/\f<=100) (hs:af f=13) (hw:dH w):aj gT 51 [.int .i64 f,.int .u32 w] (cZ (Mo f w)):=by
 unfold Mo
 refine Spec.enter ao BS 100 Tryz.func51 rfl (by kernel_rfl) ?_
 refine (av hs).u ?_
 exact rA
theorem Cu (f w:Int) (hF:1<=f/\f<=100) (hs:af f=14) (hw:dH w):aj gT 51 [.int .i64 f,.int .u32 w] (cZ (Mp f w)):=by
 have b0:=ae w 0 8
 unfold Mp
 refine Spec.enter ao BS 100 Tryz.func51 rfl (by kernel_rfl) ?_
 refine (av hs).u ?_
 refine (aI w 0 8 hw (by decide) (by decide)).u ?_
 refine al ?_
 (repeat' first|exact trivial|exact rfl|refine And.intro ?_ ?_)
 all_goals (show (_:Int)=_; (try dsimp only [bL,cn]); first|omega|(unfold ft; omega))
theorem Cv (f w:Int) (hF:1<=f/\f<=100) (hs:af f=15) (hw:dH w):aj gT 51 [.int .i64 f,.int .u32 w] (cZ (Mq f w)):=by
 have b0:=ae w 8 4
 have b1:=ae w 0 8
 unfold Mq
 refine Spec.enter ao BS 100 Tryz.func51 rfl (by kernel_rfl) ?_
 refine (av hs).u ?_
 refine (aI w 8 4 hw (by decide) (by decide)).u ?_
 refine (aI w 0 8 hw (by decide) (by decide)).u ?_
 refine⟨by decide,.inl ⟨aG (by rw[q1]; omega),?_⟩⟩
 refine⟨[],az,(kY (0+aa w 0 8*2 ^ 1) 8 (by decide) ⟨by omega,by omega⟩).use (And.intro (show aa w 0 8*Ev.aQ .i64 1=_ by rw[q1]; omega) (And.intro rfl trivial)) rfl rfl ?_⟩
 refine al ?_
 (repeat' first|exact trivial|exact rfl|refine And.intro ?_ ?_)
 all_goals (show (_:Int)=_; (try dsimp only [bL,cn]); first|omega|(unfold ft; omega))
theorem Cw (f w:Int) (hF:1<=f/\f<=100) (hs:af f=16) (hw:dH w):aj gT 51 [.int .i64 f,.int .u32 w] (cZ (Mr f w)):=by
 have b0:=ae w 0 11
 unfold Mr
 refine Spec.enter ao BS 100 Tryz.func51 rfl (by kernel_rfl) ?_
 refine (av hs).u ?_
 refine (aI w 0 11 hw (by decide) (by decide)).u ?_
 refine⟨by decide,.inl ⟨aG (by rw[q1]; omega),?_⟩⟩
 refine⟨[],az,(kY (0+aa w 0 11*2 ^ 1) 11 (by decide) ⟨by omega,by omega⟩).use (And.intro (show aa w 0 11*Ev.aQ .i64 1=_ by rw[q1]; omega) (And.intro rfl trivial)) rfl rfl ?_⟩
 refine al ?_
 (repeat' first|exact trivial|exact rfl|refine And.intro ?_ ?_)
 all_goals (show (_:Int)=_; (try dsimp only [bL,cn]); first|omega|(unfold ft; omega))
theorem xW (f w:Int) (hs:17<=af f) (hw:dH w):aj gT 51 [.int .i64 f,.int .u32 w] (cZ ⟨f,0,0,0,0,0,0,0,0,0,0⟩):=by
 refine Spec.enter ao BS 100 Tryz.func51 rfl (by kernel_rfl) ?_
 refine (mI f).u ?_
 iterate 15 (refine And.intro (fun h=>absurd (show af f=_ from h) (by omega)) (fun _=>?_))
 exact rA
end Go.Proofs.YtnbhdacpogplgaaGreatDoor.Pw

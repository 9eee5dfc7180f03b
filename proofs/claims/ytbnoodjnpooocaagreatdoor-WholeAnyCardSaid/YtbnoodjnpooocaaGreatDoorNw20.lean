/- What this claim is proved with: no condition. -/
import Derived.Test.YtbnoodjnpooocaaGreatDoorNw19
set_option maxRecDepth 100000
set_option maxHeartbeats 8000000
set_option linter.unusedVariables false
set_option linter.unusedSimpArgs false
namespace Go.Proofs.YtbnoodjnpooocaaGreatDoor.Pw
open Go Go.RowKit
theorem KH (i:IN) (hs:ab i.form=1) (hr:aW i (eF 1)) (hg:i.aq<=9223372036854775807):al gT 211 [dE i] (.int .u32 ((eQ i (ax 1):Nat):Int)):=by
 obtain⟨hf,h1,h2,h3,h4,h5,h6,h7,h8,h9,dd⟩:=hr
 have g0:=eG (r:=i.rd) h1
 have g1:=aB (r:=i.rn) h2
 have g2:=eG (r:=i.rm) h3
 have g3:=aB (r:=i.ra) h4
 have g4:0<=i.au/\i.au<=32/\i.au % 1=0:=e9 (s:=1) (by decide) h7
 have g5:i.kind=0:=(bo rfl h9).1
 have g6:i.bE=0:=bO (bo rfl h9).2
 have g7:i.set=0:=h8.elim id fun e=>absurd (show false=true from e.2) Bool.false_ne_true
 have g8:i.cond=0:=h6.elim id fun e=>absurd (show false=true from e.1) Bool.false_ne_true
 clear h1 h2 h3 h4 h5 h6 h7 h8 h9 dd
 have b0:=ae i.au 0 5
 refine Spec.enter aA mq 100 Tryz.func211 rfl (by kernel_rfl) ?_
 refine .inl ⟨ah (by omega),?_⟩
 refine .inl ⟨ah (by omega),?_⟩
 refine .inl ⟨ah (by omega),?_⟩
 refine (av hs).u ?_
 refine (mz i.au 0 5 (by unfold bQ; omega) (by decide) (by decide)).u ?_
 refine⟨by decide,.inl ⟨ah (by rw[r6]; omega),?_⟩⟩
 refine⟨by decide,.inl ⟨ah (by rw[r3]; omega),?_⟩⟩
 refine aF ?_
 have eo:eQ i (ax 1)=0 ||| B i.au 0 5 6 ||| B i.rm 0 3 3 ||| B i.rd 0 3 0:=rfl
 rw[eo]
 refine (show bits .or .u32 (bits .or .u32 (aa i.au 0 5*Ev.aQ .u32 6) (i.rm*Ev.aQ .u32 3)) (i.rd)=_ from ?_)
 refine ((((((uN i.au 0 5 6 (by decide) (by decide))).or (qE i.rm 3 3 (by decide) (by decide) (by omega)))).or (uk i.rd 3 (by decide) (by omega)))).1.trans (congrArg (fun n:Nat=>(n:Int)) ?_)
 first
 | (simp only[Nat.or_zero,Nat.zero_or]; done)
 | (simp only[Nat.or_zero,Nat.zero_or]
    generalize B i.au 0 5 6=n0
    generalize B i.rm 0 3 3=n1
    generalize B i.rd 0 3 0=n2
    ac_rfl)
theorem KI (i:IN) (hs:ab i.form=2) (hr:aW i (eF 2)) (hg:i.aq<=9223372036854775807):al gT 211 [dE i] (.int .u32 ((eQ i (ax 2):Nat):Int)):=by
 obtain⟨hf,h1,h2,h3,h4,h5,h6,h7,h8,h9,dd⟩:=hr
 have g0:=eG (r:=i.rd) h1
 have g1:=eG (r:=i.rn) h2
 have g2:=eG (r:=i.rm) h3
 have g3:=aB (r:=i.ra) h4
 have g4:i.au=0:=bO h7
 have g5:i.kind=0:=(bo rfl h9).1
 have g6:i.bE=0:=bO (bo rfl h9).2
 have g7:i.set=0:=h8.elim id fun e=>absurd (show false=true from e.2) Bool.false_ne_true
 have g8:i.cond=0:=h6.elim id fun e=>absurd (show false=true from e.1) Bool.false_ne_true
 clear h1 h2 h3 h4 h5 h6 h7 h8 h9 dd
 refine Spec.enter aA mq 100 Tryz.func211 rfl (by kernel_rfl) ?_
 refine .inl ⟨ah (by omega),?_⟩
 refine .inl ⟨ah (by omega),?_⟩
 refine .inl ⟨ah (by omega),?_⟩
 refine (av hs).u ?_
 refine (n9 i i.rm 3 (by omega) (by omega) (by omega) (by decide)).u ?_
 refine aF ?_
 have eo:eQ i (ax 2)=0 ||| B i.rm 0 3 6 ||| B i.rn 0 3 3 ||| B i.rd 0 3 0:=rfl
 rw[eo]
 refine (show _=_ from congrArg (fun n:Nat=>(n:Int)) ?_)
 simp only[Nat.zero_or]
theorem KJ (i:IN) (hs:ab i.form=3) (hr:aW i (eF 3)) (hg:i.aq<=9223372036854775807):al gT 211 [dE i] (.int .u32 ((eQ i (ax 3):Nat):Int)):=by
 obtain⟨hf,h1,h2,h3,h4,h5,h6,h7,h8,h9,dd⟩:=hr
 have g0:=eG (r:=i.rd) h1
 have g1:=eG (r:=i.rn) h2
 have g2:=aB (r:=i.rm) h3
 have g3:=aB (r:=i.ra) h4
 have g4:0<=i.au/\i.au<=7/\i.au % 1=0:=e9 (s:=1) (by decide) h7
 have g5:i.kind=0:=(bo rfl h9).1
 have g6:i.bE=0:=bO (bo rfl h9).2
 have g7:i.set=0:=h8.elim id fun e=>absurd (show false=true from e.2) Bool.false_ne_true
 have g8:i.cond=0:=h6.elim id fun e=>absurd (show false=true from e.1) Bool.false_ne_true
 clear h1 h2 h3 h4 h5 h6 h7 h8 h9 dd
 refine Spec.enter aA mq 100 Tryz.func211 rfl (by kernel_rfl) ?_
 refine .inl ⟨ah (by omega),?_⟩
 refine .inl ⟨ah (by omega),?_⟩
 refine .inl ⟨ah (by omega),?_⟩
 refine (av hs).u ?_
 refine (n9 i i.au 3 (by omega) (by omega) (by omega) (by decide)).u ?_
 refine aF ?_
 have eo:eQ i (ax 3)=0 ||| B i.au 0 3 6 ||| B i.rn 0 3 3 ||| B i.rd 0 3 0:=rfl
 rw[eo]
 refine (show _=_ from congrArg (fun n:Nat=>(n:Int)) ?_)
 simp only[Nat.zero_or]
theorem KK (i:IN) (hs:ab i.form=4) (hr:aW i (eF 4)) (hg:i.aq<=9223372036854775807):al gT 211 [dE i] (.int .u32 ((eQ i (ax 4):Nat):Int)):=by
 obtain⟨hf,h1,h2,h3,h4,h5,h6,h7,h8,h9,dd⟩:=hr
 have g0:=eG (r:=i.rd) h1
 have g1:=aB (r:=i.rn) h2
 have g2:=aB (r:=i.rm) h3
 have g3:=aB (r:=i.ra) h4
 have g4:0<=i.au/\i.au<=255/\i.au % 1=0:=e9 (s:=1) (by decide) h7
 have g5:i.kind=0:=(bo rfl h9).1
 have g6:i.bE=0:=bO (bo rfl h9).2
 have g7:i.set=0:=h8.elim id fun e=>absurd (show false=true from e.2) Bool.false_ne_true
 have g8:i.cond=0:=h6.elim id fun e=>absurd (show false=true from e.1) Bool.false_ne_true
 clear h1 h2 h3 h4 h5 h6 h7 h8 h9 dd
 refine Spec.enter aA mq 100 Tryz.func211 rfl (by kernel_rfl) ?_
 refine .inl ⟨ah (by omega),?_⟩
 refine .inl ⟨ah (by omega),?_⟩
 refine .inl ⟨ah (by omega),?_⟩
 refine (av hs).u ?_
 refine⟨by decide,.inl ⟨ah (by rw[r8]; omega),?_⟩⟩
 refine aF ?_
 have eo:eQ i (ax 4)=0 ||| B i.rd 0 3 8 ||| B i.au 0 8 0:=rfl
 rw[eo]
 refine (show bits .or .u32 (i.rd*Ev.aQ .u32 8) (i.au)=_ from ?_)
 refine ((((qE i.rd 3 8 (by decide) (by decide) (by omega))).or (uk i.au 8 (by decide) (by omega)))).1.trans (congrArg (fun n:Nat=>(n:Int)) ?_)
 first
 | (simp only[Nat.or_zero,Nat.zero_or]; done)
 | (simp only[Nat.or_zero,Nat.zero_or]
    generalize B i.rd 0 3 8=n0
    generalize B i.au 0 8 0=n1
    ac_rfl)
theorem KL (i:IN) (hs:ab i.form=5) (hr:aW i (eF 5)) (hg:i.aq<=9223372036854775807):al gT 211 [dE i] (.int .u32 ((eQ i (ax 5):Nat):Int)):=by
 obtain⟨hf,h1,h2,h3,h4,h5,h6,h7,h8,h9,dd⟩:=hr
 have g0:=eG (r:=i.rd) h1
 have g1:=aB (r:=i.rn) h2
 have g2:=eG (r:=i.rm) h3
 have g3:=aB (r:=i.ra) h4
 have g4:i.au=0:=bO h7
 have g5:i.kind=0:=(bo rfl h9).1
 have g6:i.bE=0:=bO (bo rfl h9).2
 have g7:i.set=0:=h8.elim id fun e=>absurd (show false=true from e.2) Bool.false_ne_true
 have g8:i.cond=0:=h6.elim id fun e=>absurd (show false=true from e.1) Bool.false_ne_true
 clear h1 h2 h3 h4 h5 h6 h7 h8 h9 dd
 refine Spec.enter aA mq 100 Tryz.func211 rfl (by kernel_rfl) ?_
 refine .inl ⟨ah (by omega),?_⟩
 refine .inl ⟨ah (by omega),?_⟩
 refine .inl ⟨ah (by omega),?_⟩
 refine (av hs).u ?_
 refine⟨by decide,.inl ⟨ah (by rw[r3]; omega),?_⟩⟩
 refine aF ?_
 have eo:eQ i (ax 5)=0 ||| B i.rm 0 3 3 ||| B i.rd 0 3 0:=rfl
 rw[eo]
 refine (show bits .or .u32 (i.rm*Ev.aQ .u32 3) (i.rd)=_ from ?_)
 refine ((((qE i.rm 3 3 (by decide) (by decide) (by omega))).or (uk i.rd 3 (by decide) (by omega)))).1.trans (congrArg (fun n:Nat=>(n:Int)) ?_)
 first
 | (simp only[Nat.or_zero,Nat.zero_or]; done)
 | (simp only[Nat.or_zero,Nat.zero_or]
    generalize B i.rm 0 3 3=n0
    generalize B i.rd 0 3 0=n1
    ac_rfl)
theorem KM (i:IN) (hs:ab i.form=6) (hr:aW i (eF 6)) (hg:i.aq<=9223372036854775807):al gT 211 [dE i] (.int .u32 ((eQ i (ax 6):Nat):Int)):=by
 obtain⟨hf,h1,h2,h3,h4,h5,h6,h7,h8,h9,dd⟩:=hr
 have g0:=nF (r:=i.rd) h1
 have g1:=aB (r:=i.rn) h2
 have g2:=nF (r:=i.rm) h3
 have g3:=aB (r:=i.ra) h4
 have g4:i.au=0:=bO h7
 have g5:i.kind=0:=(bo rfl h9).1
 have g6:i.bE=0:=bO (bo rfl h9).2
 have g7:i.set=0:=h8.elim id fun e=>absurd (show false=true from e.2) Bool.false_ne_true
 have g8:i.cond=0:=h6.elim id fun e=>absurd (show false=true from e.1) Bool.false_ne_true
 clear h1 h2 h3 h4 h5 h6 h7 h8 h9 dd
 have b0:=ae i.rd 3 1
 have b1:=ae i.rd 0 3
 refine Spec.enter aA mq 100 Tryz.func211 rfl (by kernel_rfl) ?_
 refine .inl ⟨ah (by omega),?_⟩
 refine .inl ⟨ah (by omega),?_⟩
 refine .inl ⟨ah (by omega),?_⟩
 refine (av hs).u ?_
 refine (mz i.rd 3 1 (by unfold bQ; omega) (by decide) (by decide)).u ?_
 refine⟨by decide,.inl ⟨ah (by rw[r7]; omega),?_⟩⟩
 refine⟨by decide,.inl ⟨ah (by rw[r3]; omega),?_⟩⟩
 refine (mz i.rd 0 3 (by unfold bQ; omega) (by decide) (by decide)).u ?_
 refine aF ?_
 have eo:eQ i (ax 6)=0 ||| B i.rd 3 1 7 ||| B i.rm 0 4 3 ||| B i.rd 0 3 0:=rfl
 rw[eo]
 refine (show bits .or .u32 (bits .or .u32 (aa i.rd 3 1*Ev.aQ .u32 7) (i.rm*Ev.aQ .u32 3)) (aa i.rd 0 3)=_ from ?_)
 refine ((((((uN i.rd 3 1 7 (by decide) (by decide))).or (qE i.rm 4 3 (by decide) (by decide) (by omega)))).or (ym i.rd 0 3 (by decide)))).1.trans (congrArg (fun n:Nat=>(n:Int)) ?_)
 first
 | (simp only[Nat.or_zero,Nat.zero_or]; done)
 | (simp only[Nat.or_zero,Nat.zero_or]
    generalize B i.rd 3 1 7=n0
    generalize B i.rm 0 4 3=n1
    generalize B i.rd 0 3 0=n2
    ac_rfl)
theorem KN (i:IN) (hs:ab i.form=7) (hr:aW i (eF 7)) (hg:i.aq<=9223372036854775807):al gT 211 [dE i] (.int .u32 ((eQ i (ax 7):Nat):Int)):=by
 obtain⟨hf,h1,h2,h3,h4,h5,h6,h7,h8,h9,dd⟩:=hr
 have g0:=aB (r:=i.rd) h1
 have g1:=aB (r:=i.rn) h2
 have g2:=nF (r:=i.rm) h3
 have g3:=aB (r:=i.ra) h4
 have g4:i.au=0:=bO h7
 have g5:i.kind=0:=(bo rfl h9).1
 have g6:i.bE=0:=bO (bo rfl h9).2
 have g7:i.set=0:=h8.elim id fun e=>absurd (show false=true from e.2) Bool.false_ne_true
 have g8:i.cond=0:=h6.elim id fun e=>absurd (show false=true from e.1) Bool.false_ne_true
 clear h1 h2 h3 h4 h5 h6 h7 h8 h9 dd
 refine Spec.enter aA mq 100 Tryz.func211 rfl (by kernel_rfl) ?_
 refine .inl ⟨ah (by omega),?_⟩
 refine .inl ⟨ah (by omega),?_⟩
 refine .inl ⟨ah (by omega),?_⟩
 refine (av hs).u ?_
 refine⟨by decide,.inl ⟨ah (by rw[r3]; omega),?_⟩⟩
 refine aF ?_
 have eo:eQ i (ax 7)=0 ||| B i.rm 0 4 3:=rfl
 rw[eo]
 refine (show i.rm*Ev.aQ .u32 3=_ from ?_)
 refine ((qE i.rm 4 3 (by decide) (by decide) (by omega))).1.trans (congrArg (fun n:Nat=>(n:Int)) ?_)
 first
 | (simp only[Nat.or_zero,Nat.zero_or]; done)
 | (simp only[Nat.or_zero,Nat.zero_or]
    generalize B i.rm 0 4 3=n0
    ac_rfl)
theorem KO (i:IN) (hs:ab i.form=8) (hr:aW i (eF 8)) (hg:i.aq<=9223372036854775807):al gT 211 [dE i] (.int .u32 ((eQ i (ax 8):Nat):Int)):=by
 obtain⟨hf,h1,h2,h3,h4,h5,h6,h7,h8,h9,dd⟩:=hr
 have g0:=eG (r:=i.rd) h1
 have g1:=aB (r:=i.rn) h2
 have g2:=aB (r:=i.rm) h3
 have g3:=aB (r:=i.ra) h4
 have g4:0<=i.au/\i.au<=1020/\i.au % 4=0:=e9 (s:=4) (by decide) h7
 have g5:i.kind=0:=(bo rfl h9).1
 have g6:i.bE=0:=bO (bo rfl h9).2
 have g7:i.set=0:=h8.elim id fun e=>absurd (show false=true from e.2) Bool.false_ne_true
 have g8:i.cond=0:=h6.elim id fun e=>absurd (show false=true from e.1) Bool.false_ne_true
 clear h1 h2 h3 h4 h5 h6 h7 h8 h9 dd
 refine Spec.enter aA mq 100 Tryz.func211 rfl (by kernel_rfl) ?_
 refine .inl ⟨ah (by omega),?_⟩
 refine .inl ⟨ah (by omega),?_⟩
 refine .inl ⟨ah (by omega),?_⟩
 refine (av hs).u ?_
 refine⟨by decide,.inl ⟨ah (by rw[r8]; omega),?_⟩⟩
 refine⟨by decide,.inl ⟨by omega,by first|exact (show (_:Int)<=4294967295 by omega)|omega,by decide,?_⟩⟩
 refine aF ?_
 have eo:eQ i (ax 8)=0 ||| B i.rd 0 3 8 ||| B i.au 2 8 0:=rfl
 rw[eo]
 refine (show bits .or .u32 (i.rd*Ev.aQ .u32 8) (i.au / 4)=_ from ?_)
 refine ((((qE i.rd 3 8 (by decide) (by decide) (by omega))).or (isD i.au 8 (by decide) (by omega) (by omega)))).1.trans (congrArg (fun n:Nat=>(n:Int)) ?_)
 first
 | (simp only[Nat.or_zero,Nat.zero_or]; done)
 | (simp only[Nat.or_zero,Nat.zero_or]
    generalize B i.rd 0 3 8=n0
    generalize B i.au 2 8 0=n1
    ac_rfl)
theorem KP (i:IN) (hs:ab i.form=9) (hr:aW i (eF 9)) (hg:i.aq<=9223372036854775807):al gT 211 [dE i] (.int .u32 ((eQ i (ax 9):Nat):Int)):=by
 obtain⟨hf,h1,h2,h3,h4,h5,h6,h7,h8,h9,dd⟩:=hr
 have g0:=eG (r:=i.rd) h1
 have g1:=eG (r:=i.rn) h2
 have g2:=aB (r:=i.rm) h3
 have g3:=aB (r:=i.ra) h4
 have g4:0<=i.au/\i.au<=124/\i.au % 4=0:=e9 (s:=4) (by decide) h7
 have g5:i.kind=0:=(bo rfl h9).1
 have g6:i.bE=0:=bO (bo rfl h9).2
 have g7:i.set=0:=h8.elim id fun e=>absurd (show false=true from e.2) Bool.false_ne_true
 have g8:i.cond=0:=h6.elim id fun e=>absurd (show false=true from e.1) Bool.false_ne_true
 clear h1 h2 h3 h4 h5 h6 h7 h8 h9 dd
 refine Spec.enter aA mq 100 Tryz.func211 rfl (by kernel_rfl) ?_
 refine .inl ⟨ah (by omega),?_⟩
 refine .inl ⟨ah (by omega),?_⟩
 refine .inl ⟨ah (by omega),?_⟩
 refine (av hs).u ?_
 refine⟨by decide,.inl ⟨by omega,by first|exact (show (_:Int)<=4294967295 by omega)|omega,by decide,?_⟩⟩
 refine (n9 i (i.au / 4) 5 (by omega) (by omega) (by omega) (by decide)).u ?_
 refine aF ?_
 have eo:eQ i (ax 9)=0 ||| B i.au 2 5 6 ||| B i.rn 0 3 3 ||| B i.rd 0 3 0:=rfl
 rw[eo]
 refine (show _=_ from congrArg (fun n:Nat=>(n:Int)) ?_)
 rw[Ra (by omega)]; simp only[Nat.zero_or]
theorem FV (i:IN) (hs:ab i.form=10) (hr:aW i (eF 10)) (hg:i.aq<=9223372036854775807):al gT 211 [dE i] (.int .u32 ((eQ i (ax 10):Nat):Int)):=by
 obtain⟨hf,h1,h2,h3,h4,h5,h6,h7,h8,h9,dd⟩:=hr
 have g0:=aB (r:=i.rd) h1
 have g1:=aB (r:=i.rn) h2
 have g2:=aB (r:=i.rm) h3
 have g3:=aB (r:=i.ra) h4
 have g4:0<=i.au/\i.au<=508/\i.au % 4=0:=e9 (s:=4) (by decide) h7
 have g5:i.kind=0:=(bo rfl h9).1
 have g6:i.bE=0:=bO (bo rfl h9).2
 have g7:i.set=0:=h8.elim id fun e=>absurd (show false=true from e.2) Bool.false_ne_true
 have g8:i.cond=0:=h6.elim id fun e=>absurd (show false=true from e.1) Bool.false_ne_true
 clear h1 h2 h3 h4 h5 h6 h7 h8 h9 dd
 refine Spec.enter aA mq 100 Tryz.func211 rfl (by kernel_rfl) ?_
 refine .inl ⟨ah (by omega),?_⟩
 refine .inl ⟨ah (by omega),?_⟩
 refine .inl ⟨ah (by omega),?_⟩
 refine (av hs).u ?_
 refine⟨by decide,.inl ⟨by omega,by first|exact (show (_:Int)<=4294967295 by omega)|omega,by decide,?_⟩⟩
 refine aF ?_
 have eo:eQ i (ax 10)=0 ||| B i.au 2 7 0:=rfl
 rw[eo]
 refine (show i.au / 4=_ from ?_)
 refine ((isD i.au 7 (by decide) (by omega) (by omega))).1.trans (congrArg (fun n:Nat=>(n:Int)) ?_)
 first
 | (simp only[Nat.or_zero,Nat.zero_or]; done)
 | (simp only[Nat.or_zero,Nat.zero_or]
    generalize B i.au 2 7 0=n0
    ac_rfl)
theorem FW (i:IN) (hs:ab i.form=11) (hr:aW i (eF 11)) (hg:i.aq<=9223372036854775807):al gT 211 [dE i] (.int .u32 ((eQ i (ax 11):Nat):Int)):=by
 obtain⟨hf,h1,h2,h3,h4,h5,h6,h7,h8,h9,dd⟩:=hr
 have g0:=aB (r:=i.rd) h1
 have g1:=aB (r:=i.rn) h2
 have g2:=aB (r:=i.rm) h3
 have g3:=aB (r:=i.ra) h4
 have g4:i.au=0:=bO h7
 have g5:i.kind=0:=(bo rfl h9).1
 have g6:i.bE=0:=bO (bo rfl h9).2
 have g7:i.set=0:=h8.elim id fun e=>absurd (show false=true from e.2) Bool.false_ne_true
 have g8:i.cond=0:=h6.elim id fun e=>absurd (show false=true from e.1) Bool.false_ne_true
 have g9:0 < i.aq/\i.aq / 16384 % 2*16384+i.aq % 256=i.aq:=D' 14 (by decide) (by decide) rfl h5 hg
 clear h1 h2 h3 h4 h5 h6 h7 h8 h9 dd
 have b0:=ae i.aq 14 1
 have b1:=ae i.aq 0 8
 refine Spec.enter aA mq 100 Tryz.func211 rfl (by kernel_rfl) ?_
 refine .inl ⟨ah (by omega),?_⟩
 refine .inl ⟨ah (by omega),?_⟩
 refine .inl ⟨ah (by omega),?_⟩
 refine (av hs).u ?_
 repeat (refine Or.inl (And.intro (ah (by omega)) ?_))
 refine (mz i.aq 14 1 (by unfold bQ; omega) (by decide) (by decide)).u ?_
 refine⟨by decide,.inl ⟨ah (by rw[r8]; omega),?_⟩⟩
 repeat (refine Or.inl (And.intro (ah (by omega)) ?_))
 refine (mz i.aq 0 8 (by unfold bQ; omega) (by decide) (by decide)).u ?_
 refine aF ?_
 have eo:eQ i (ax 11)=0 ||| B i.aq 14 1 8 ||| B i.aq 0 8 0:=rfl
 rw[eo]
 refine (show bits .or .u32 (aa i.aq 14 1*Ev.aQ .u32 8) (aa i.aq 0 8)=_ from ?_)
 refine ((((uN i.aq 14 1 8 (by decide) (by decide))).or (ym i.aq 0 8 (by decide)))).1.trans (congrArg (fun n:Nat=>(n:Int)) ?_)
 first
 | (simp only[Nat.or_zero,Nat.zero_or]; done)
 | (simp only[Nat.or_zero,Nat.zero_or]
    generalize B i.aq 14 1 8=n0
    generalize B i.aq 0 8 0=n1
    ac_rfl)
theorem FX (i:IN) (hs:ab i.form=12) (hr:aW i (eF 12)) (hg:i.aq<=9223372036854775807):al gT 211 [dE i] (.int .u32 ((eQ i (ax 12):Nat):Int)):=by
 obtain⟨hf,h1,h2,h3,h4,h5,h6,h7,h8,h9,dd⟩:=hr
 have g0:=aB (r:=i.rd) h1
 have g1:=aB (r:=i.rn) h2
 have g2:=aB (r:=i.rm) h3
 have g3:=aB (r:=i.ra) h4
 have g4:i.au=0:=bO h7
 have g5:i.kind=0:=(bo rfl h9).1
 have g6:i.bE=0:=bO (bo rfl h9).2
 have g7:i.set=0:=h8.elim id fun e=>absurd (show false=true from e.2) Bool.false_ne_true
 have g8:i.cond=0:=h6.elim id fun e=>absurd (show false=true from e.1) Bool.false_ne_true
 have g9:0 < i.aq/\i.aq / 32768 % 2*32768+i.aq % 256=i.aq:=D' 15 (by decide) (by decide) rfl h5 hg
 clear h1 h2 h3 h4 h5 h6 h7 h8 h9 dd
 have b0:=ae i.aq 15 1
 have b1:=ae i.aq 0 8
 refine Spec.enter aA mq 100 Tryz.func211 rfl (by kernel_rfl) ?_
 refine .inl ⟨ah (by omega),?_⟩
 refine .inl ⟨ah (by omega),?_⟩
 refine .inl ⟨ah (by omega),?_⟩
 refine (av hs).u ?_
 repeat (refine Or.inl (And.intro (ah (by omega)) ?_))
 refine (mz i.aq 15 1 (by unfold bQ; omega) (by decide) (by decide)).u ?_
 refine⟨by decide,.inl ⟨ah (by rw[r8]; omega),?_⟩⟩
 repeat (refine Or.inl (And.intro (ah (by omega)) ?_))
 refine (mz i.aq 0 8 (by unfold bQ; omega) (by decide) (by decide)).u ?_
 refine aF ?_
 have eo:eQ i (ax 12)=0 ||| B i.aq 15 1 8 ||| B i.aq 0 8 0:=rfl
 rw[eo]
 refine (show bits .or .u32 (aa i.aq 15 1*Ev.aQ .u32 8) (aa i.aq 0 8)=_ from ?_)
 refine ((((uN i.aq 15 1 8 (by decide) (by decide))).or (ym i.aq 0 8 (by decide)))).1.trans (congrArg (fun n:Nat=>(n:Int)) ?_)
 first
 | (simp only[Nat.or_zero,Nat.zero_or]; done)
 | (simp only[Nat.or_zero,Nat.zero_or]
    generalize B i.aq 15 1 8=n0
    generalize B i.aq 0 8 0=n1
    ac_rfl)
theorem FY (i:IN) (hs:ab i.form=13) (hr:aW i (eF 13)) (hg:i.aq<=9223372036854775807):al gT 211 [dE i] (.int .u32 ((eQ i (ax 13):Nat):Int)):=by
 obtain⟨hf,h1,h2,h3,h4,h5,h6,h7,h8,h9,dd⟩:=hr
 have g0:=aB (r:=i.rd) h1
 have g1:=aB (r:=i.rn) h2
 have g2:=aB (r:=i.rm) h3
 have g3:=aB (r:=i.ra) h4
 have g4:i.au=0:=bO h7
 have g5:i.kind=0:=(bo rfl h9).1
 have g6:i.bE=0:=bO (bo rfl h9).2
 have g7:i.set=0:=h8.elim id fun e=>absurd (show false=true from e.2) Bool.false_ne_true
 have g8:i.cond=0:=h6.elim id fun e=>absurd (show false=true from e.1) Bool.false_ne_true
 clear h1 h2 h3 h4 h5 h6 h7 h8 h9 dd
 refine Spec.enter aA mq 100 Tryz.func211 rfl (by kernel_rfl) ?_
 refine .inl ⟨ah (by omega),?_⟩
 refine .inl ⟨ah (by omega),?_⟩
 refine .inl ⟨ah (by omega),?_⟩
 refine (av hs).u ?_
 exact aF rfl
theorem FZ (i:IN) (hs:ab i.form=14) (hr:aW i (eF 14)) (hg:i.aq<=9223372036854775807):al gT 211 [dE i] (.int .u32 ((eQ i (ax 14):Nat):Int)):=by
 obtain⟨hf,h1,h2,h3,h4,h5,h6,h7,h8,h9,dd⟩:=hr
 have g0:=aB (r:=i.rd) h1
 have g1:=aB (r:=i.rn) h2
 have g2:=aB (r:=i.rm) h3
 have g3:=aB (r:=i.ra) h4
 have g4:0<=i.au/\i.au<=255/\i.au % 1=0:=e9 (s:=1) (by decide) h7
 have g5:i.kind=0:=(bo rfl h9).1
 have g6:i.bE=0:=bO (bo rfl h9).2
 have g7:i.set=0:=h8.elim id fun e=>absurd (show false=true from e.2) Bool.false_ne_true
 have g8:i.cond=0:=h6.elim id fun e=>absurd (show false=true from e.1) Bool.false_ne_true
 clear h1 h2 h3 h4 h5 h6 h7 h8 h9 dd
 refine Spec.enter aA mq 100 Tryz.func211 rfl (by kernel_rfl) ?_
 refine .inl ⟨ah (by omega),?_⟩
 refine .inl ⟨ah (by omega),?_⟩
 refine .inl ⟨ah (by omega),?_⟩
 refine (av hs).u ?_
 refine aF ?_
 have eo:eQ i (ax 14)=0 ||| B i.au 0 8 0:=rfl
 rw[eo]
 refine (show i.au=_ from ?_)
 refine ((uk i.au 8 (by decide) (by omega))).1.trans (congrArg (fun n:Nat=>(n:Int)) ?_)
 first
 | (simp only[Nat.or_zero,Nat.zero_or]; done)
 | (simp only[Nat.or_zero,Nat.zero_or]
    generalize B i.au 0 8 0=n0
    ac_rfl)
theorem F0 (i:IN) (hs:ab i.form=15) (hr:aW i (eF 15)) (hg:i.aq<=9223372036854775807):al gT 211 [dE i] (.int .u32 ((eQ i (ax 15):Nat):Int)):=by
 obtain⟨hf,h1,h2,h3,h4,h5,h6,h7,h8,h9,dd⟩:=hr
 have g0:=aB (r:=i.rd) h1
 have g1:=aB (r:=i.rn) h2
 have g2:=aB (r:=i.rm) h3
 have g3:=aB (r:=i.ra) h4
 have g4:-256<=i.au/\i.au<=254/\i.au % 2=0:=e9 (s:=2) (by decide) h7
 have g5:i.kind=0:=(bo rfl h9).1
 have g6:i.bE=0:=bO (bo rfl h9).2
 have g7:i.set=0:=h8.elim id fun e=>absurd (show false=true from e.2) Bool.false_ne_true
 have g8:0<=i.cond/\i.cond<=13:=by rcases h6 with h6|h6<;>omega
 clear h1 h2 h3 h4 h5 h6 h7 h8 h9 dd
 have b0:=ae i.au 1 8
 refine Spec.enter aA mq 100 Tryz.func211 rfl (by kernel_rfl) ?_
 refine .inr ?_
 refine .inl ⟨ah (by omega),?_⟩
 refine .inl ⟨ah (by omega),?_⟩
 refine (av hs).u ?_
 refine .inl ⟨ah (by omega),?_⟩
 refine⟨by decide,.inl ⟨ah (by rw[r8]; omega),?_⟩⟩
 refine (rU i.au 1 8 (by omega) (by decide) (by decide) (by decide)).u ?_
 refine aF ?_
 have eo:eQ i (ax 15)=0 ||| B i.cond 0 4 8 ||| B i.au 1 8 0:=rfl
 rw[eo]
 refine (show bits .or .u32 (i.cond*Ev.aQ .u32 8) (aa i.au 1 8)=_ from ?_)
 refine ((((qE i.cond 4 8 (by decide) (by decide) (by omega))).or (ym i.au 1 8 (by decide)))).1.trans (congrArg (fun n:Nat=>(n:Int)) ?_)
 first
 | (simp only[Nat.or_zero,Nat.zero_or]; done)
 | (simp only[Nat.or_zero,Nat.zero_or]
    generalize B i.cond 0 4 8=n0
    generalize B i.au 1 8 0=n1
    ac_rfl)
theorem F1 (i:IN) (hs:ab i.form=16) (hr:aW i (eF 16)) (hg:i.aq<=9223372036854775807):al gT 211 [dE i] (.int .u32 ((eQ i (ax 16):Nat):Int)):=by
 obtain⟨hf,h1,h2,h3,h4,h5,h6,h7,h8,h9,dd⟩:=hr
 have g0:=aB (r:=i.rd) h1
 have g1:=aB (r:=i.rn) h2
 have g2:=aB (r:=i.rm) h3
 have g3:=aB (r:=i.ra) h4
 have g4:-2048<=i.au/\i.au<=2046/\i.au % 2=0:=e9 (s:=2) (by decide) h7
 have g5:i.kind=0:=(bo rfl h9).1
 have g6:i.bE=0:=bO (bo rfl h9).2
 have g7:i.set=0:=h8.elim id fun e=>absurd (show false=true from e.2) Bool.false_ne_true
 have g8:i.cond=0:=h6.elim id fun e=>absurd (show false=true from e.1) Bool.false_ne_true
 clear h1 h2 h3 h4 h5 h6 h7 h8 h9 dd
 have b0:=ae i.au 1 11
 refine Spec.enter aA mq 100 Tryz.func211 rfl (by kernel_rfl) ?_
 refine .inr ?_
 refine .inl ⟨ah (by omega),?_⟩
 refine .inl ⟨ah (by omega),?_⟩
 refine (av hs).u ?_
 refine (rU i.au 1 11 (by omega) (by decide) (by decide) (by decide)).u ?_
 refine aF ?_
 have eo:eQ i (ax 16)=0 ||| B i.au 1 11 0:=rfl
 rw[eo]
 refine (show aa i.au 1 11=_ from ?_)
 refine ((ym i.au 1 11 (by decide))).1.trans (congrArg (fun n:Nat=>(n:Int)) ?_)
 first
 | (simp only[Nat.or_zero,Nat.zero_or]; done)
 | (simp only[Nat.or_zero,Nat.zero_or]
    generalize B i.au 1 11 0=n0
    ac_rfl)
theorem OI (i:IN) (hs:ab i.form=17) (hr:aW i (eF 17)) (hg:i.aq<=9223372036854775807):al gT 210 [dE i] (.int .u32 ((eQ i (ax 17):Nat):Int)):=by
 obtain⟨hf,h1,h2,h3,h4,h5,h6,h7,h8,h9,dd⟩:=hr
 have g0:=bB (r:=i.rd) h1
 have g1:=aB (r:=i.rn) h2
 have g2:=aB (r:=i.rm) h3
 have g3:=aB (r:=i.ra) h4
 have g4:0<=i.au/\i.au<=65535/\i.au % 1=0:=e9 (s:=1) (by decide) h7
 have g5:i.kind=0:=(bo rfl h9).1
 have g6:i.bE=0:=bO (bo rfl h9).2
 have g7:i.set=0:=h8.elim id fun e=>absurd (show false=true from e.2) Bool.false_ne_true
 have g8:i.cond=0:=h6.elim id fun e=>absurd (show false=true from e.1) Bool.false_ne_true
 clear h1 h2 h3 h4 h5 h6 h7 h8 h9 dd
 refine Spec.enter aA lj 100 Tryz.func210 rfl (by kernel_rfl) ?_
 refine .inl ⟨ah (by omega),?_⟩
 refine .inl ⟨ah (by omega),?_⟩
 refine (av hs).u ?_
 refine (dx i (by omega) (by omega) (by omega) (by omega) (by omega)).u ?_
 refine (iJ i.au (by unfold bQ; omega)).u ?_
 refine aF ?_
 have eo:eQ i (ax 17)=0 ||| B i.au 11 1 26 ||| B i.au 12 4 16 ||| B i.au 8 3 12 ||| B i.au 0 8 0 ||| B i.rd 0 4 8:=rfl
 rw[eo]
 refine (show bits .or .u32 (((B i.set 0 1 20 ||| B i.rn 0 4 16 ||| B i.ra 0 4 12 ||| B i.rd 0 4 8 ||| B i.rm 0 4 0:Nat):Int)) (((B i.au 11 1 26 ||| B i.au 12 4 16 ||| B i.au 8 3 12 ||| B i.au 0 8 0:Nat):Int))=_ from ?_)
 refine ((((fY i)).or (my i.au))).1.trans (congrArg (fun n:Nat=>(n:Int)) ?_)
 first
 | (simp only[iA g1,iA g2,iA g3,iA g7,Nat.or_zero,Nat.zero_or]; done)
 | (simp only[iA g1,iA g2,iA g3,iA g7,Nat.or_zero,Nat.zero_or]
    generalize B i.au 11 1 26=n0
    generalize B i.au 12 4 16=n1
    generalize B i.au 8 3 12=n2
    generalize B i.au 0 8 0=n3
    generalize B i.rd 0 4 8=n4
    ac_rfl)
theorem OJ (i:IN) (hs:ab i.form=18) (hr:aW i (eF 18)) (hg:i.aq<=9223372036854775807):al gT 210 [dE i] (.int .u32 ((eQ i (ax 18):Nat):Int)):=by
 obtain⟨hf,h1,h2,h3,h4,h5,h6,h7,h8,h9,dd⟩:=hr
 have g0:=bB (r:=i.rd) h1
 have g1:=bB (r:=i.rn) h2
 have g2:=aB (r:=i.rm) h3
 have g3:=aB (r:=i.ra) h4
 have g4:0<=i.au/\i.au<=4095/\i.au % 1=0:=e9 (s:=1) (by decide) h7
 have g5:i.kind=0:=(bo rfl h9).1
 have g6:i.bE=0:=bO (bo rfl h9).2
 have g7:i.set=0\/i.set=1:=h8.imp id fun e=>e.1
 have g8:i.cond=0:=h6.elim id fun e=>absurd (show false=true from e.1) Bool.false_ne_true
 clear h1 h2 h3 h4 h5 h6 h7 h8 h9 dd
 refine Spec.enter aA lj 100 Tryz.func210 rfl (by kernel_rfl) ?_
 refine .inl ⟨ah (by omega),?_⟩
 refine .inl ⟨ah (by omega),?_⟩
 refine (av hs).u ?_
 refine (dx i (by omega) (by omega) (by omega) (by omega) (by omega)).u ?_
 refine (iJ i.au (by unfold bQ; omega)).u ?_
 refine aF ?_
 have eo:eQ i (ax 18)=0 ||| B i.au 11 1 26 ||| B i.au 8 3 12 ||| B i.au 0 8 0 ||| B i.set 0 1 20 ||| B i.rn 0 4 16 ||| B i.rd 0 4 8:=rfl
 have KQ:B i.au 12 4 16=0:=um (by unfold aa; split<;>omega)
 rw[eo]
 refine (show bits .or .u32 (((B i.set 0 1 20 ||| B i.rn 0 4 16 ||| B i.ra 0 4 12 ||| B i.rd 0 4 8 ||| B i.rm 0 4 0:Nat):Int)) (((B i.au 11 1 26 ||| B i.au 12 4 16 ||| B i.au 8 3 12 ||| B i.au 0 8 0:Nat):Int))=_ from ?_)
 refine ((((fY i)).or (my i.au))).1.trans (congrArg (fun n:Nat=>(n:Int)) ?_)
 first
 | (simp only[iA g2,iA g3,KQ,Nat.or_zero,Nat.zero_or]; done)
 | (simp only[iA g2,iA g3,KQ,Nat.or_zero,Nat.zero_or]
    generalize B i.au 11 1 26=n0
    generalize B i.au 8 3 12=n1
    generalize B i.au 0 8 0=n2
    generalize B i.set 0 1 20=n3
    generalize B i.rn 0 4 16=n4
    generalize B i.rd 0 4 8=n5
    ac_rfl)
theorem OK (i:IN) (hs:ab i.form=19) (hr:aW i (eF 19)) (hg:i.aq<=9223372036854775807):al gT 210 [dE i] (.int .u32 ((eQ i (ax 19):Nat):Int)):=by
 obtain⟨hf,h1,h2,h3,h4,h5,h6,h7,h8,h9,dd⟩:=hr
 have g0:=bB (r:=i.rd) h1
 have g1:=aB (r:=i.rn) h2
 have g2:=aB (r:=i.rm) h3
 have g3:=aB (r:=i.ra) h4
 have g4:0<=i.au/\i.au<=4095/\i.au % 1=0:=e9 (s:=1) (by decide) h7
 have g5:i.kind=0:=(bo rfl h9).1
 have g6:i.bE=0:=bO (bo rfl h9).2
 have g7:i.set=0\/i.set=1:=h8.imp id fun e=>e.1
 have g8:i.cond=0:=h6.elim id fun e=>absurd (show false=true from e.1) Bool.false_ne_true
 clear h1 h2 h3 h4 h5 h6 h7 h8 h9 dd
 refine Spec.enter aA lj 100 Tryz.func210 rfl (by kernel_rfl) ?_
 refine .inl ⟨ah (by omega),?_⟩
 refine .inl ⟨ah (by omega),?_⟩
 refine (av hs).u ?_
 refine (dx i (by omega) (by omega) (by omega) (by omega) (by omega)).u ?_
 refine (iJ i.au (by unfold bQ; omega)).u ?_
 refine aF ?_
 have eo:eQ i (ax 19)=0 ||| B i.au 11 1 26 ||| B i.au 8 3 12 ||| B i.au 0 8 0 ||| B i.set 0 1 20 ||| B i.rd 0 4 8:=rfl
 have KQ:B i.au 12 4 16=0:=um (by unfold aa; split<;>omega)
 rw[eo]
 refine (show bits .or .u32 (((B i.set 0 1 20 ||| B i.rn 0 4 16 ||| B i.ra 0 4 12 ||| B i.rd 0 4 8 ||| B i.rm 0 4 0:Nat):Int)) (((B i.au 11 1 26 ||| B i.au 12 4 16 ||| B i.au 8 3 12 ||| B i.au 0 8 0:Nat):Int))=_ from ?_)
 refine ((((fY i)).or (my i.au))).1.trans (congrArg (fun n:Nat=>(n:Int)) ?_)
 first
 | (simp only[iA g1,iA g2,iA g3,KQ,Nat.or_zero,Nat.zero_or]; done)
 | (simp only[iA g1,iA g2,iA g3,KQ,Nat.or_zero,Nat.zero_or]
    generalize B i.au 11 1 26=n0
    generalize B i.au 8 3 12=n1
    generalize B i.au 0 8 0=n2
    generalize B i.set 0 1 20=n3
    generalize B i.rd 0 4 8=n4
    ac_rfl)
theorem OL (i:IN) (hs:ab i.form=20) (hr:aW i (eF 20)) (hg:i.aq<=9223372036854775807):al gT 210 [dE i] (.int .u32 ((eQ i (ax 20):Nat):Int)):=by
 obtain⟨hf,h1,h2,h3,h4,h5,h6,h7,h8,h9,dd⟩:=hr
 have g0:=aB (r:=i.rd) h1
 have g1:=bB (r:=i.rn) h2
 have g2:=aB (r:=i.rm) h3
 have g3:=aB (r:=i.ra) h4
 have g4:0<=i.au/\i.au<=4095/\i.au % 1=0:=e9 (s:=1) (by decide) h7
 have g5:i.kind=0:=(bo rfl h9).1
 have g6:i.bE=0:=bO (bo rfl h9).2
 have g7:i.set=0:=h8.elim id fun e=>absurd (show false=true from e.2) Bool.false_ne_true
 have g8:i.cond=0:=h6.elim id fun e=>absurd (show false=true from e.1) Bool.false_ne_true
 clear h1 h2 h3 h4 h5 h6 h7 h8 h9 dd
 refine Spec.enter aA lj 100 Tryz.func210 rfl (by kernel_rfl) ?_
 refine .inl ⟨ah (by omega),?_⟩
 refine .inl ⟨ah (by omega),?_⟩
 refine (av hs).u ?_
 refine (dx i (by omega) (by omega) (by omega) (by omega) (by omega)).u ?_
 refine (iJ i.au (by unfold bQ; omega)).u ?_
 refine aF ?_
 have eo:eQ i (ax 20)=0 ||| B i.au 11 1 26 ||| B i.au 8 3 12 ||| B i.au 0 8 0 ||| B i.rn 0 4 16:=rfl
 have KQ:B i.au 12 4 16=0:=um (by unfold aa; split<;>omega)
 rw[eo]
 refine (show bits .or .u32 (((B i.set 0 1 20 ||| B i.rn 0 4 16 ||| B i.ra 0 4 12 ||| B i.rd 0 4 8 ||| B i.rm 0 4 0:Nat):Int)) (((B i.au 11 1 26 ||| B i.au 12 4 16 ||| B i.au 8 3 12 ||| B i.au 0 8 0:Nat):Int))=_ from ?_)
 refine ((((fY i)).or (my i.au))).1.trans (congrArg (fun n:Nat=>(n:Int)) ?_)
 first
 | (simp only[iA g0,iA g2,iA g3,iA g7,KQ,Nat.or_zero,Nat.zero_or]; done)
 | (simp only[iA g0,iA g2,iA g3,iA g7,KQ,Nat.or_zero,Nat.zero_or]
    generalize B i.au 11 1 26=n0
    generalize B i.au 8 3 12=n1
    generalize B i.au 0 8 0=n2
    generalize B i.rn 0 4 16=n3
    ac_rfl)
theorem OM (i:IN) (hs:ab i.form=21) (hr:aW i (eF 21)) (hg:i.aq<=9223372036854775807):al gT 210 [dE i] (.int .u32 ((eQ i (ax 21):Nat):Int)):=by
 obtain⟨hf,h1,h2,h3,h4,h5,h6,h7,h8,h9,dd⟩:=hr
 have g0:=bB (r:=i.rd) h1
 have g1:=bB (r:=i.rn) h2
 have g2:=bB (r:=i.rm) h3
 have g3:=aB (r:=i.ra) h4
 have g4:i.au=0:=bO h7
 have g6:b_ i.kind i.bE:=FQ rfl h9
 have g5:=mT g6
 have g6b:0<=i.bE/\i.bE<=32:=by unfold b_ at g6; omega
 have g7:i.set=0\/i.set=1:=h8.imp id fun e=>e.1
 have g8:i.cond=0:=h6.elim id fun e=>absurd (show false=true from e.1) Bool.false_ne_true
 clear h1 h2 h3 h4 h5 h6 h7 h8 h9 dd
 have b0:=ae i.bE 2 3
 have b1:=ae i.bE 0 2
 refine Spec.enter aA lj 100 Tryz.func210 rfl (by kernel_rfl) ?_
 refine .inl ⟨ah (by omega),?_⟩
 refine .inl ⟨ah (by omega),?_⟩
 refine (av hs).u ?_
 refine .inl ⟨ah (by omega),?_⟩
 refine⟨by decide,.inl ⟨ah (by rw[r4]; omega),?_⟩⟩
 refine (dx i (by omega) (by omega) (by omega) (by omega) (by omega)).u ?_
 repeat (first
  | (refine⟨[],bI,(mz i.bE 2 3 (by unfold bQ; omega) (by decide) (by decide)).use (And.intro rfl (And.intro rfl (And.intro rfl trivial))) rfl rfl ?_⟩)
  | (refine⟨by decide,.inl ⟨ah (by rw[Q9]; omega),?_⟩⟩)
  | (refine⟨[],bI,(mz i.bE 0 2 (by unfold bQ; omega) (by decide) (by decide)).use (And.intro rfl (And.intro rfl (And.intro rfl trivial))) rfl rfl ?_⟩)
  | (refine⟨by decide,.inl ⟨ah (by rw[r6]; omega),?_⟩⟩)
  | (refine .inl ⟨ah (by omega),?_⟩)
  | (refine⟨by decide,.inl ⟨ah (by rw[r4]; omega),?_⟩⟩))
 refine aF ?_
 have eo:eQ i (ax 21)=0 ||| B i.bE 2 3 12 ||| B i.bE 0 2 6 ||| B i.kind 0 2 4 ||| B i.set 0 1 20 ||| B i.rn 0 4 16 ||| B i.rd 0 4 8 ||| B i.rm 0 4 0:=rfl
 rw[eo]
 refine (show bits .or .u32 (bits .or .u32 (bits .or .u32 (((B i.set 0 1 20 ||| B i.rn 0 4 16 ||| B i.ra 0 4 12 ||| B i.rd 0 4 8 ||| B i.rm 0 4 0:Nat):Int)) (aa i.bE 2 3*Ev.aQ .u32 12)) (aa i.bE 0 2*Ev.aQ .u32 6)) (i.kind*Ev.aQ .u32 4)=_ from ?_)
 refine ((((((((fY i)).or (uN i.bE 2 3 12 (by decide) (by decide)))).or (uN i.bE 0 2 6 (by decide) (by decide)))).or (qE i.kind 2 4 (by decide) (by decide) (by omega)))).1.trans (congrArg (fun n:Nat=>(n:Int)) ?_)
 first
 | (simp only[iA g3,Nat.or_zero,Nat.zero_or]; done)
 | (simp only[iA g3,Nat.or_zero,Nat.zero_or]
    generalize B i.bE 2 3 12=n0
    generalize B i.bE 0 2 6=n1
    generalize B i.kind 0 2 4=n2
    generalize B i.set 0 1 20=n3
    generalize B i.rn 0 4 16=n4
    generalize B i.rd 0 4 8=n5
    generalize B i.rm 0 4 0=n6
    ac_rfl)
theorem ON (i:IN) (hs:ab i.form=22) (hr:aW i (eF 22)) (hg:i.aq<=9223372036854775807):al gT 210 [dE i] (.int .u32 ((eQ i (ax 22):Nat):Int)):=by
 obtain⟨hf,h1,h2,h3,h4,h5,h6,h7,h8,h9,dd⟩:=hr
 have g0:=bB (r:=i.rd) h1
 have g1:=aB (r:=i.rn) h2
 have g2:=bB (r:=i.rm) h3
 have g3:=aB (r:=i.ra) h4
 have g4:i.au=0:=bO h7
 have g6:b_ i.kind i.bE:=FQ rfl h9
 have g5:=mT g6
 have g6b:0<=i.bE/\i.bE<=32:=by unfold b_ at g6; omega
 have g7:i.set=0\/i.set=1:=h8.imp id fun e=>e.1
 have g8:i.cond=0:=h6.elim id fun e=>absurd (show false=true from e.1) Bool.false_ne_true
 clear h1 h2 h3 h4 h5 h6 h7 h8 h9 dd
 have b0:=ae i.bE 2 3
 have b1:=ae i.bE 0 2
 refine Spec.enter aA lj 100 Tryz.func210 rfl (by kernel_rfl) ?_
 refine .inl ⟨ah (by omega),?_⟩
 refine .inl ⟨ah (by omega),?_⟩
 refine (av hs).u ?_
 refine .inl ⟨ah (by omega),?_⟩
 refine⟨by decide,.inl ⟨ah (by rw[r4]; omega),?_⟩⟩
 refine (dx i (by omega) (by omega) (by omega) (by omega) (by omega)).u ?_
 repeat (first
  | (refine⟨[],bI,(mz i.bE 2 3 (by unfold bQ; omega) (by decide) (by decide)).use (And.intro rfl (And.intro rfl (And.intro rfl trivial))) rfl rfl ?_⟩)
  | (refine⟨by decide,.inl ⟨ah (by rw[Q9]; omega),?_⟩⟩)
  | (refine⟨[],bI,(mz i.bE 0 2 (by unfold bQ; omega) (by decide) (by decide)).use (And.intro rfl (And.intro rfl (And.intro rfl trivial))) rfl rfl ?_⟩)
  | (refine⟨by decide,.inl ⟨ah (by rw[r6]; omega),?_⟩⟩)
  | (refine .inl ⟨ah (by omega),?_⟩)
  | (refine⟨by decide,.inl ⟨ah (by rw[r4]; omega),?_⟩⟩))
 refine aF ?_
 have eo:eQ i (ax 22)=0 ||| B i.bE 2 3 12 ||| B i.bE 0 2 6 ||| B i.kind 0 2 4 ||| B i.set 0 1 20 ||| B i.rd 0 4 8 ||| B i.rm 0 4 0:=rfl
 rw[eo]
 refine (show bits .or .u32 (bits .or .u32 (bits .or .u32 (((B i.set 0 1 20 ||| B i.rn 0 4 16 ||| B i.ra 0 4 12 ||| B i.rd 0 4 8 ||| B i.rm 0 4 0:Nat):Int)) (aa i.bE 2 3*Ev.aQ .u32 12)) (aa i.bE 0 2*Ev.aQ .u32 6)) (i.kind*Ev.aQ .u32 4)=_ from ?_)
 refine ((((((((fY i)).or (uN i.bE 2 3 12 (by decide) (by decide)))).or (uN i.bE 0 2 6 (by decide) (by decide)))).or (qE i.kind 2 4 (by decide) (by decide) (by omega)))).1.trans (congrArg (fun n:Nat=>(n:Int)) ?_)
 first
 | (simp only[iA g1,iA g3,Nat.or_zero,Nat.zero_or]; done)
 | (simp only[iA g1,iA g3,Nat.or_zero,Nat.zero_or]
    generalize B i.bE 2 3 12=n0
    generalize B i.bE 0 2 6=n1
    generalize B i.kind 0 2 4=n2
    generalize B i.set 0 1 20=n3
    generalize B i.rd 0 4 8=n4
    generalize B i.rm 0 4 0=n5
    ac_rfl)
theorem OO (i:IN) (hs:ab i.form=23) (hr:aW i (eF 23)) (hg:i.aq<=9223372036854775807):al gT 210 [dE i] (.int .u32 ((eQ i (ax 23):Nat):Int)):=by
 obtain⟨hf,h1,h2,h3,h4,h5,h6,h7,h8,h9,dd⟩:=hr
 have g0:=aB (r:=i.rd) h1
 have g1:=bB (r:=i.rn) h2
 have g2:=bB (r:=i.rm) h3
 have g3:=aB (r:=i.ra) h4
 have g4:i.au=0:=bO h7
 have g6:b_ i.kind i.bE:=FQ rfl h9
 have g5:=mT g6
 have g6b:0<=i.bE/\i.bE<=32:=by unfold b_ at g6; omega
 have g7:i.set=0:=h8.elim id fun e=>absurd (show false=true from e.2) Bool.false_ne_true
 have g8:i.cond=0:=h6.elim id fun e=>absurd (show false=true from e.1) Bool.false_ne_true
 clear h1 h2 h3 h4 h5 h6 h7 h8 h9 dd
 have b0:=ae i.bE 2 3
 have b1:=ae i.bE 0 2
 refine Spec.enter aA lj 100 Tryz.func210 rfl (by kernel_rfl) ?_
 refine .inl ⟨ah (by omega),?_⟩
 refine .inl ⟨ah (by omega),?_⟩
 refine (av hs).u ?_
 refine .inl ⟨ah (by omega),?_⟩
 refine⟨by decide,.inl ⟨ah (by rw[r4]; omega),?_⟩⟩
 refine (dx i (by omega) (by omega) (by omega) (by omega) (by omega)).u ?_
 repeat (first
  | (refine⟨[],bI,(mz i.bE 2 3 (by unfold bQ; omega) (by decide) (by decide)).use (And.intro rfl (And.intro rfl (And.intro rfl trivial))) rfl rfl ?_⟩)
  | (refine⟨by decide,.inl ⟨ah (by rw[Q9]; omega),?_⟩⟩)
  | (refine⟨[],bI,(mz i.bE 0 2 (by unfold bQ; omega) (by decide) (by decide)).use (And.intro rfl (And.intro rfl (And.intro rfl trivial))) rfl rfl ?_⟩)
  | (refine⟨by decide,.inl ⟨ah (by rw[r6]; omega),?_⟩⟩)
  | (refine .inl ⟨ah (by omega),?_⟩)
  | (refine⟨by decide,.inl ⟨ah (by rw[r4]; omega),?_⟩⟩))
 refine aF ?_
 have eo:eQ i (ax 23)=0 ||| B i.bE 2 3 12 ||| B i.bE 0 2 6 ||| B i.kind 0 2 4 ||| B i.rn 0 4 16 ||| B i.rm 0 4 0:=rfl
 rw[eo]
 refine (show bits .or .u32 (bits .or .u32 (bits .or .u32 (((B i.set 0 1 20 ||| B i.rn 0 4 16 ||| B i.ra 0 4 12 ||| B i.rd 0 4 8 ||| B i.rm 0 4 0:Nat):Int)) (aa i.bE 2 3*Ev.aQ .u32 12)) (aa i.bE 0 2*Ev.aQ .u32 6)) (i.kind*Ev.aQ .u32 4)=_ from ?_)
 refine ((((((((fY i)).or (uN i.bE 2 3 12 (by decide) (by decide)))).or (uN i.bE 0 2 6 (by decide) (by decide)))).or (qE i.kind 2 4 (by decide) (by decide) (by omega)))).1.trans (congrArg (fun n:Nat=>(n:Int)) ?_)
 first
 | (simp only[iA g0,iA g3,iA g7,Nat.or_zero,Nat.zero_or]; done)
 | (simp only[iA g0,iA g3,iA g7,Nat.or_zero,Nat.zero_or]
    generalize B i.bE 2 3 12=n0
    generalize B i.bE 0 2 6=n1
    generalize B i.kind 0 2 4=n2
    generalize B i.rn 0 4 16=n3
    generalize B i.rm 0 4 0=n4
    ac_rfl)
theorem OP (i:IN) (hs:ab i.form=24) (hr:aW i (eF 24)) (hg:i.aq<=9223372036854775807):al gT 210 [dE i] (.int .u32 ((eQ i (ax 24):Nat):Int)):=by
 obtain⟨hf,h1,h2,h3,h4,h5,h6,h7,h8,h9,dd⟩:=hr
 have g0:=bB (r:=i.rd) h1
 have g1:=bB (r:=i.rn) h2
 have g2:=aB (r:=i.rm) h3
 have g3:=aB (r:=i.ra) h4
 have g4:0<=i.au/\i.au<=4095/\i.au % 1=0:=e9 (s:=1) (by decide) h7
 have g5:i.kind=0:=(bo rfl h9).1
 have g6:i.bE=0:=bO (bo rfl h9).2
 have g7:i.set=0:=h8.elim id fun e=>absurd (show false=true from e.2) Bool.false_ne_true
 have g8:i.cond=0:=h6.elim id fun e=>absurd (show false=true from e.1) Bool.false_ne_true
 clear h1 h2 h3 h4 h5 h6 h7 h8 h9 dd
 refine Spec.enter aA lj 100 Tryz.func210 rfl (by kernel_rfl) ?_
 refine .inl ⟨ah (by omega),?_⟩
 refine .inl ⟨ah (by omega),?_⟩
 refine (av hs).u ?_
 refine (dx i (by omega) (by omega) (by omega) (by omega) (by omega)).u ?_
 refine (iJ i.au (by unfold bQ; omega)).u ?_
 refine aF ?_
 have eo:eQ i (ax 24)=0 ||| B i.au 11 1 26 ||| B i.au 8 3 12 ||| B i.au 0 8 0 ||| B i.rn 0 4 16 ||| B i.rd 0 4 8:=rfl
 have KQ:B i.au 12 4 16=0:=um (by unfold aa; split<;>omega)
 rw[eo]
 refine (show bits .or .u32 (((B i.set 0 1 20 ||| B i.rn 0 4 16 ||| B i.ra 0 4 12 ||| B i.rd 0 4 8 ||| B i.rm 0 4 0:Nat):Int)) (((B i.au 11 1 26 ||| B i.au 12 4 16 ||| B i.au 8 3 12 ||| B i.au 0 8 0:Nat):Int))=_ from ?_)
 refine ((((fY i)).or (my i.au))).1.trans (congrArg (fun n:Nat=>(n:Int)) ?_)
 first
 | (simp only[iA g2,iA g3,iA g7,KQ,Nat.or_zero,Nat.zero_or]; done)
 | (simp only[iA g2,iA g3,iA g7,KQ,Nat.or_zero,Nat.zero_or]
    generalize B i.au 11 1 26=n0
    generalize B i.au 8 3 12=n1
    generalize B i.au 0 8 0=n2
    generalize B i.rn 0 4 16=n3
    generalize B i.rd 0 4 8=n4
    ac_rfl)
theorem OQ (i:IN) (hs:ab i.form=25) (hr:aW i (eF 25)) (hg:i.aq<=9223372036854775807):al gT 210 [dE i] (.int .u32 ((eQ i (ax 25):Nat):Int)):=by
 obtain⟨hf,h1,h2,h3,h4,h5,h6,h7,h8,h9,dd⟩:=hr
 have g0:=bB (r:=i.rd) h1
 have g1:=nF (r:=i.rn) h2
 have g2:=aB (r:=i.rm) h3
 have g3:=aB (r:=i.ra) h4
 have g4:0<=i.au/\i.au<=4095/\i.au % 1=0:=e9 (s:=1) (by decide) h7
 have g5:i.kind=0:=(bo rfl h9).1
 have g6:i.bE=0:=bO (bo rfl h9).2
 have g7:i.set=0:=h8.elim id fun e=>absurd (show false=true from e.2) Bool.false_ne_true
 have g8:i.cond=0:=h6.elim id fun e=>absurd (show false=true from e.1) Bool.false_ne_true
 clear h1 h2 h3 h4 h5 h6 h7 h8 h9 dd
 refine Spec.enter aA lj 100 Tryz.func210 rfl (by kernel_rfl) ?_
 refine .inl ⟨ah (by omega),?_⟩
 refine .inl ⟨ah (by omega),?_⟩
 refine (av hs).u ?_
 refine .inl ⟨ah (by omega),?_⟩
 refine⟨by decide,.inl ⟨ah (by rw[Q_]; omega),?_⟩⟩
 refine .inl ⟨ah (by omega),?_⟩
 refine⟨by decide,.inl ⟨ah (by rw[Q9]; omega),?_⟩⟩
 refine aF ?_
 have eo:eQ i (ax 25)=0 ||| B i.rn 0 4 16 ||| B i.rd 0 4 12 ||| B i.au 0 12 0:=rfl
 rw[eo]
 refine (show bits .or .u32 (bits .or .u32 (i.rn*Ev.aQ .u32 16) (i.rd*Ev.aQ .u32 12)) (i.au)=_ from ?_)
 refine ((((((qE i.rn 4 16 (by decide) (by decide) (by omega))).or (qE i.rd 4 12 (by decide) (by decide) (by omega)))).or (uk i.au 12 (by decide) (by omega)))).1.trans (congrArg (fun n:Nat=>(n:Int)) ?_)
 first
 | (simp only[Nat.or_zero,Nat.zero_or]; done)
 | (simp only[Nat.or_zero,Nat.zero_or]
    generalize B i.rn 0 4 16=n0
    generalize B i.rd 0 4 12=n1
    generalize B i.au 0 12 0=n2
    ac_rfl)
theorem OR (i:IN) (hs:ab i.form=26) (hr:aW i (eF 26)) (hg:i.aq<=9223372036854775807):al gT 210 [dE i] (.int .u32 ((eQ i (ax 26):Nat):Int)):=by
 obtain⟨hf,h1,h2,h3,h4,h5,h6,h7,h8,h9,dd⟩:=hr
 have g0:=bB (r:=i.rd) h1
 have g1:=nF (r:=i.rn) h2
 have g2:=bB (r:=i.rm) h3
 have g3:=aB (r:=i.ra) h4
 have g4:i.au=0:=bO h7
 have g5:i.kind=0:=(bo rfl h9).1
 have g6:0<=i.bE/\i.bE<=3/\i.bE % 1=0:=e9 (s:=1) (by decide) (bo rfl h9).2
 have g7:i.set=0:=h8.elim id fun e=>absurd (show false=true from e.2) Bool.false_ne_true
 have g8:i.cond=0:=h6.elim id fun e=>absurd (show false=true from e.1) Bool.false_ne_true
 clear h1 h2 h3 h4 h5 h6 h7 h8 h9 dd
 refine Spec.enter aA lj 100 Tryz.func210 rfl (by kernel_rfl) ?_
 refine .inl ⟨ah (by omega),?_⟩
 refine .inl ⟨ah (by omega),?_⟩
 refine (av hs).u ?_
 refine .inl ⟨ah (by omega),?_⟩
 refine⟨by decide,.inl ⟨ah (by rw[Q_]; omega),?_⟩⟩
 refine .inl ⟨ah (by omega),?_⟩
 refine⟨by decide,.inl ⟨ah (by rw[Q9]; omega),?_⟩⟩
 refine⟨by decide,.inl ⟨ah (by rw[r4]; omega),?_⟩⟩
 refine .inl ⟨ah (by omega),?_⟩
 refine aF ?_
 have eo:eQ i (ax 26)=0 ||| B i.rn 0 4 16 ||| B i.rd 0 4 12 ||| B i.bE 0 2 4 ||| B i.rm 0 4 0:=rfl
 rw[eo]
 refine (show bits .or .u32 (bits .or .u32 (bits .or .u32 (i.rn*Ev.aQ .u32 16) (i.rd*Ev.aQ .u32 12)) (i.bE*Ev.aQ .u32 4)) (i.rm)=_ from ?_)
 refine ((((((((qE i.rn 4 16 (by decide) (by decide) (by omega))).or (qE i.rd 4 12 (by decide) (by decide) (by omega)))).or (qE i.bE 2 4 (by decide) (by decide) (by omega)))).or (uk i.rm 4 (by decide) (by omega)))).1.trans (congrArg (fun n:Nat=>(n:Int)) ?_)
 first
 | (simp only[Nat.or_zero,Nat.zero_or]; done)
 | (simp only[Nat.or_zero,Nat.zero_or]
    generalize B i.rn 0 4 16=n0
    generalize B i.rd 0 4 12=n1
    generalize B i.bE 0 2 4=n2
    generalize B i.rm 0 4 0=n3
    ac_rfl)
theorem OS (i:IN) (hs:ab i.form=27) (hr:aW i (eF 27)) (hg:i.aq<=9223372036854775807):al gT 210 [dE i] (.int .u32 ((eQ i (ax 27):Nat):Int)):=by
 obtain⟨hf,h1,h2,h3,h4,h5,h6,h7,h8,h9,dd⟩:=hr
 have g0:=bB (r:=i.rd) h1
 have g1:=bB (r:=i.rn) h2
 have g2:=bB (r:=i.rm) h3
 have g3:=aB (r:=i.ra) h4
 have g4:i.au=0:=bO h7
 have g5:i.kind=0:=(bo rfl h9).1
 have g6:i.bE=0:=bO (bo rfl h9).2
 have g7:i.set=0\/i.set=1:=h8.imp id fun e=>e.1
 have g8:i.cond=0:=h6.elim id fun e=>absurd (show false=true from e.1) Bool.false_ne_true
 clear h1 h2 h3 h4 h5 h6 h7 h8 h9 dd
 refine Spec.enter aA lj 100 Tryz.func210 rfl (by kernel_rfl) ?_
 refine .inl ⟨ah (by omega),?_⟩
 refine .inl ⟨ah (by omega),?_⟩
 refine (av hs).u ?_
 refine (dx i (by omega) (by omega) (by omega) (by omega) (by omega)).u ?_
 refine aF ?_
 have eo:eQ i (ax 27)=0 ||| B i.set 0 1 20 ||| B i.rn 0 4 16 ||| B i.rd 0 4 8 ||| B i.rm 0 4 0:=rfl
 rw[eo]
 refine (show ((B i.set 0 1 20 ||| B i.rn 0 4 16 ||| B i.ra 0 4 12 ||| B i.rd 0 4 8 ||| B i.rm 0 4 0:Nat):Int)=_ from ?_)
 refine ((fY i)).1.trans (congrArg (fun n:Nat=>(n:Int)) ?_)
 first
 | (simp only[iA g3,Nat.or_zero,Nat.zero_or]; done)
 | (simp only[iA g3,Nat.or_zero,Nat.zero_or]
    generalize B i.set 0 1 20=n0
    generalize B i.rn 0 4 16=n1
    generalize B i.rd 0 4 8=n2
    generalize B i.rm 0 4 0=n3
    ac_rfl)
theorem OT (i:IN) (hs:ab i.form=28) (hr:aW i (eF 28)) (hg:i.aq<=9223372036854775807):al gT 210 [dE i] (.int .u32 ((eQ i (ax 28):Nat):Int)):=by
 obtain⟨hf,h1,h2,h3,h4,h5,h6,h7,h8,h9,dd⟩:=hr
 have g0:=bB (r:=i.rd) h1
 have g1:=bB (r:=i.rn) h2
 have g2:=bB (r:=i.rm) h3
 have g3:=aB (r:=i.ra) h4
 have g4:i.au=0:=bO h7
 have g5:i.kind=0:=(bo rfl h9).1
 have g6:i.bE=0:=bO (bo rfl h9).2
 have g7:i.set=0:=h8.elim id fun e=>absurd (show false=true from e.2) Bool.false_ne_true
 have g8:i.cond=0:=h6.elim id fun e=>absurd (show false=true from e.1) Bool.false_ne_true
 clear h1 h2 h3 h4 h5 h6 h7 h8 h9 dd
 refine Spec.enter aA lj 100 Tryz.func210 rfl (by kernel_rfl) ?_
 refine .inl ⟨ah (by omega),?_⟩
 refine .inl ⟨ah (by omega),?_⟩
 refine (av hs).u ?_
 refine (dx i (by omega) (by omega) (by omega) (by omega) (by omega)).u ?_
 refine aF ?_
 have eo:eQ i (ax 28)=0 ||| B i.rn 0 4 16 ||| B i.rd 0 4 8 ||| B i.rm 0 4 0:=rfl
 rw[eo]
 refine (show ((B i.set 0 1 20 ||| B i.rn 0 4 16 ||| B i.ra 0 4 12 ||| B i.rd 0 4 8 ||| B i.rm 0 4 0:Nat):Int)=_ from ?_)
 refine ((fY i)).1.trans (congrArg (fun n:Nat=>(n:Int)) ?_)
 first
 | (simp only[iA g3,iA g7,Nat.or_zero,Nat.zero_or]; done)
 | (simp only[iA g3,iA g7,Nat.or_zero,Nat.zero_or]
    generalize B i.rn 0 4 16=n0
    generalize B i.rd 0 4 8=n1
    generalize B i.rm 0 4 0=n2
    ac_rfl)
theorem OU (i:IN) (hs:ab i.form=29) (hr:aW i (eF 29)) (hg:i.aq<=9223372036854775807):al gT 210 [dE i] (.int .u32 ((eQ i (ax 29):Nat):Int)):=by
 obtain⟨hf,h1,h2,h3,h4,h5,h6,h7,h8,h9,dd⟩:=hr
 have g0:=bB (r:=i.rd) h1
 have g1:=bB (r:=i.rn) h2
 have g2:=bB (r:=i.rm) h3
 have g3:=bB (r:=i.ra) h4
 have g4:i.au=0:=bO h7
 have g5:i.kind=0:=(bo rfl h9).1
 have g6:i.bE=0:=bO (bo rfl h9).2
 have g7:i.set=0:=h8.elim id fun e=>absurd (show false=true from e.2) Bool.false_ne_true
 have g8:i.cond=0:=h6.elim id fun e=>absurd (show false=true from e.1) Bool.false_ne_true
 clear h1 h2 h3 h4 h5 h6 h7 h8 h9 dd
 refine Spec.enter aA lj 100 Tryz.func210 rfl (by kernel_rfl) ?_
 refine .inl ⟨ah (by omega),?_⟩
 refine .inl ⟨ah (by omega),?_⟩
 refine (av hs).u ?_
 refine (dx i (by omega) (by omega) (by omega) (by omega) (by omega)).u ?_
 refine aF ?_
 have eo:eQ i (ax 29)=0 ||| B i.rn 0 4 16 ||| B i.ra 0 4 12 ||| B i.rd 0 4 8 ||| B i.rm 0 4 0:=rfl
 rw[eo]
 refine (show ((B i.set 0 1 20 ||| B i.rn 0 4 16 ||| B i.ra 0 4 12 ||| B i.rd 0 4 8 ||| B i.rm 0 4 0:Nat):Int)=_ from ?_)
 refine ((fY i)).1.trans (congrArg (fun n:Nat=>(n:Int)) ?_)
 first
 | (simp only[iA g7,Nat.or_zero,Nat.zero_or]; done)
 | (simp only[iA g7,Nat.or_zero,Nat.zero_or]
    generalize B i.rn 0 4 16=n0
    generalize B i.ra 0 4 12=n1
    generalize B i.rd 0 4 8=n2
    generalize B i.rm 0 4 0=n3
    ac_rfl)
theorem OV (i:IN) (hs:ab i.form=30) (hr:aW i (eF 30)) (hg:i.aq<=9223372036854775807):al gT 210 [dE i] (.int .u32 ((eQ i (ax 30):Nat):Int)):=by
 obtain⟨hf,h1,h2,h3,h4,h5,h6,h7,h8,h9,dd⟩:=hr
 have g0:=bB (r:=i.rd) h1
 have g1:=bB (r:=i.rn) h2
 have g2:=bB (r:=i.rm) h3
 have g3:=bB (r:=i.ra) h4
 have g4:i.au=0:=bO h7
 have g5:i.kind=0:=(bo rfl h9).1
 have g6:i.bE=0:=bO (bo rfl h9).2
 have g7:i.set=0:=h8.elim id fun e=>absurd (show false=true from e.2) Bool.false_ne_true
 have g8:i.cond=0:=h6.elim id fun e=>absurd (show false=true from e.1) Bool.false_ne_true
 clear h1 h2 h3 h4 h5 h6 h7 h8 h9 dd
 refine Spec.enter aA lj 100 Tryz.func210 rfl (by kernel_rfl) ?_
 refine .inl ⟨ah (by omega),?_⟩
 refine .inl ⟨ah (by omega),?_⟩
 refine (av hs).u ?_
 refine (dx i (by omega) (by omega) (by omega) (by omega) (by omega)).u ?_
 refine aF ?_
 have eo:eQ i (ax 30)=0 ||| B i.rn 0 4 16 ||| B i.ra 0 4 12 ||| B i.rd 0 4 8 ||| B i.rm 0 4 0:=rfl
 rw[eo]
 refine (show ((B i.set 0 1 20 ||| B i.rn 0 4 16 ||| B i.ra 0 4 12 ||| B i.rd 0 4 8 ||| B i.rm 0 4 0:Nat):Int)=_ from ?_)
 refine ((fY i)).1.trans (congrArg (fun n:Nat=>(n:Int)) ?_)
 first
 | (simp only[iA g7,Nat.or_zero,Nat.zero_or]; done)
 | (simp only[iA g7,Nat.or_zero,Nat.zero_or]
    generalize B i.rn 0 4 16=n0
    generalize B i.ra 0 4 12=n1
    generalize B i.rd 0 4 8=n2
    generalize B i.rm 0 4 0=n3
    ac_rfl)
theorem OW (i:IN) (hs:ab i.form=31) (hr:aW i (eF 31)) (hg:i.aq<=9223372036854775807):al gT 210 [dE i] (.int .u32 ((eQ i (ax 31):Nat):Int)):=by
 obtain⟨hf,h1,h2,h3,h4,h5,h6,h7,h8,h9,dd⟩:=hr
 have g0:=bB (r:=i.rd) h1
 have g1:=bB (r:=i.rn) h2
 have g2:=bB (r:=i.rm) h3
 have g3:=bB (r:=i.ra) h4
 have g4:i.au=0:=bO h7
 have g5:i.kind=0:=(bo rfl h9).1
 have g6:i.bE=0:=bO (bo rfl h9).2
 have g7:i.set=0:=h8.elim id fun e=>absurd (show false=true from e.2) Bool.false_ne_true
 have g8:i.cond=0:=h6.elim id fun e=>absurd (show false=true from e.1) Bool.false_ne_true
 clear h1 h2 h3 h4 h5 h6 h7 h8 h9 dd
 refine Spec.enter aA lj 100 Tryz.func210 rfl (by kernel_rfl) ?_
 refine .inl ⟨ah (by omega),?_⟩
 refine .inl ⟨ah (by omega),?_⟩
 refine (av hs).u ?_
 refine .inl ⟨ah (by omega),?_⟩
 refine⟨by decide,.inl ⟨ah (by rw[Q_]; omega),?_⟩⟩
 refine .inl ⟨ah (by omega),?_⟩
 refine⟨by decide,.inl ⟨ah (by rw[Q9]; omega),?_⟩⟩
 refine .inl ⟨ah (by omega),?_⟩
 refine⟨by decide,.inl ⟨ah (by rw[r8]; omega),?_⟩⟩
 refine .inl ⟨ah (by omega),?_⟩
 refine aF ?_
 have eo:eQ i (ax 31)=0 ||| B i.rn 0 4 16 ||| B i.rd 0 4 12 ||| B i.ra 0 4 8 ||| B i.rm 0 4 0:=rfl
 rw[eo]
 refine (show bits .or .u32 (bits .or .u32 (bits .or .u32 (i.rn*Ev.aQ .u32 16) (i.rd*Ev.aQ .u32 12)) (i.ra*Ev.aQ .u32 8)) (i.rm)=_ from ?_)
 refine ((((((((qE i.rn 4 16 (by decide) (by decide) (by omega))).or (qE i.rd 4 12 (by decide) (by decide) (by omega)))).or (qE i.ra 4 8 (by decide) (by decide) (by omega)))).or (uk i.rm 4 (by decide) (by omega)))).1.trans (congrArg (fun n:Nat=>(n:Int)) ?_)
 first
 | (simp only[Nat.or_zero,Nat.zero_or]; done)
 | (simp only[Nat.or_zero,Nat.zero_or]
    generalize B i.rn 0 4 16=n0
    generalize B i.rd 0 4 12=n1
    generalize B i.ra 0 4 8=n2
    generalize B i.rm 0 4 0=n3
    ac_rfl)
theorem OX (i:IN) (hs:ab i.form=32) (hr:aW i (eF 32)) (hg:i.aq<=9223372036854775807):al gT 210 [dE i] (.int .u32 ((eQ i (ax 32):Nat):Int)):=by
 obtain⟨hf,h1,h2,h3,h4,h5,h6,h7,h8,h9,dd⟩:=hr
 have g0:=bB (r:=i.rd) h1
 have g1:=aB (r:=i.rn) h2
 have g2:=bB (r:=i.rm) h3
 have g3:=aB (r:=i.ra) h4
 have g4:i.au=0:=bO h7
 have g5:i.kind=0:=(bo rfl h9).1
 have g6:i.bE=0:=bO (bo rfl h9).2
 have g7:i.set=0:=h8.elim id fun e=>absurd (show false=true from e.2) Bool.false_ne_true
 have g8:i.cond=0:=h6.elim id fun e=>absurd (show false=true from e.1) Bool.false_ne_true
 clear h1 h2 h3 h4 h5 h6 h7 h8 h9 dd
 refine Spec.enter aA lj 100 Tryz.func210 rfl (by kernel_rfl) ?_
 refine .inl ⟨ah (by omega),?_⟩
 refine .inl ⟨ah (by omega),?_⟩
 refine (av hs).u ?_
 refine .inl ⟨ah (by omega),?_⟩
 refine⟨by decide,.inl ⟨ah (by rw[Q_]; omega),?_⟩⟩
 refine .inl ⟨ah (by omega),?_⟩
 refine⟨by decide,.inl ⟨ah (by rw[r8]; omega),?_⟩⟩
 refine .inl ⟨ah (by omega),?_⟩
 refine aF ?_
 have eo:eQ i (ax 32)=0 ||| B i.rm 0 4 16 ||| B i.rd 0 4 8 ||| B i.rm 0 4 0:=rfl
 rw[eo]
 refine (show bits .or .u32 (bits .or .u32 (i.rm*Ev.aQ .u32 16) (i.rd*Ev.aQ .u32 8)) (i.rm)=_ from ?_)
 refine ((((((qE i.rm 4 16 (by decide) (by decide) (by omega))).or (qE i.rd 4 8 (by decide) (by decide) (by omega)))).or (uk i.rm 4 (by decide) (by omega)))).1.trans (congrArg (fun n:Nat=>(n:Int)) ?_)
 first
 | (simp only[Nat.or_zero,Nat.zero_or]; done)
 | (simp only[Nat.or_zero,Nat.zero_or]
    generalize B i.rm 0 4 16=n0
    generalize B i.rd 0 4 8=n1
    generalize B i.rm 0 4 0=n2
    ac_rfl)
theorem va (v c:Int) (hv:-1099511627776<=v) (hc:0<=c/\c < 16):al gT 284 [.int .u32 (IntKind.u32.wrap v),.int .u32 c] (.int .u32 ((B v 20 1 26 ||| B c 0 4 22 ||| B v 12 6 16 ||| B v 18 1 13 ||| B v 19 1 11 ||| B v 1 11 0:Nat):Int)):=by
 have b0:=ae v 20 1
 have b1:=ae v 12 6
 have b2:=ae v 18 1
 have b3:=ae v 19 1
 have b4:=ae v 1 11
 refine Spec.enter aA aah 100 Tryz.func284 rfl (by kernel_rfl) ?_
 refine (rU v 20 1 (by omega) (by decide) (by decide) (by decide)).u ?_
 refine⟨by decide,.inl ⟨ah (by rw[r26]; omega),?_⟩⟩
 refine⟨by decide,.inl ⟨ah (by rw[r22]; omega),?_⟩⟩
 refine (rU v 12 6 (by omega) (by decide) (by decide) (by decide)).u ?_
 refine⟨by decide,.inl ⟨ah (by rw[Q_]; omega),?_⟩⟩
 refine (rU v 18 1 (by omega) (by decide) (by decide) (by decide)).u ?_
 refine⟨by decide,.inl ⟨ah (by rw[r13]; omega),?_⟩⟩
 refine (rU v 19 1 (by omega) (by decide) (by decide) (by decide)).u ?_
 refine⟨by decide,.inl ⟨ah (by rw[r11]; omega),?_⟩⟩
 refine (rU v 1 11 (by omega) (by decide) (by decide) (by decide)).u ?_
 refine aF ?_
 exact (show bits .or .u32 (bits .or .u32 (bits .or .u32 (bits .or .u32 (bits .or .u32 (aa v 20 1*Ev.aQ .u32 26) (c*Ev.aQ .u32 22)) (aa v 12 6*Ev.aQ .u32 16)) (aa v 18 1*Ev.aQ .u32 13)) (aa v 19 1*Ev.aQ .u32 11)) (aa v 1 11)=_ from ((((((((((((uN v 20 1 26 (by decide) (by decide))).or (qE c 4 22 (by decide) (by decide) hc))).or (uN v 12 6 16 (by decide) (by decide)))).or (uN v 18 1 13 (by decide) (by decide)))).or (uN v 19 1 11 (by decide) (by decide)))).or (ym v 1 11 (by decide)))).1)
theorem OY (i:IN) (hs:ab i.form=33) (hr:aW i (eF 33)) (hg:i.aq<=9223372036854775807):al gT 210 [dE i] (.int .u32 ((eQ i (ax 33):Nat):Int)):=by
 obtain⟨hf,h1,h2,h3,h4,h5,h6,h7,h8,h9,dd⟩:=hr
 have g0:=aB (r:=i.rd) h1
 have g1:=aB (r:=i.rn) h2
 have g2:=aB (r:=i.rm) h3
 have g3:=aB (r:=i.ra) h4
 have g4:-1048576<=i.au/\i.au<=1048574/\i.au % 2=0:=e9 (s:=2) (by decide) h7
 have g5:i.kind=0:=(bo rfl h9).1
 have g6:i.bE=0:=bO (bo rfl h9).2
 have g7:i.set=0:=h8.elim id fun e=>absurd (show false=true from e.2) Bool.false_ne_true
 have g8:0<=i.cond/\i.cond<=13:=by rcases h6 with h6|h6<;>omega
 clear h1 h2 h3 h4 h5 h6 h7 h8 h9 dd
 refine Spec.enter aA lj 100 Tryz.func210 rfl (by kernel_rfl) ?_
 refine .inr ?_
 refine .inl ⟨ah (by omega),?_⟩
 refine (av hs).u ?_
 refine .inl ⟨ah (by omega),?_⟩
 refine (va i.au i.cond (by omega) (by omega)).u ?_
 refine aF ?_
 have eo:eQ i (ax 33)=0 ||| B i.au 20 1 26 ||| B i.cond 0 4 22 ||| B i.au 12 6 16 ||| B i.au 18 1 13 ||| B i.au 19 1 11 ||| B i.au 1 11 0:=rfl
 rw[eo]
 refine (show _=_ from congrArg (fun n:Nat=>(n:Int)) ?_)
 simp only[Nat.zero_or]
theorem AF (v:Int) (hv:-1099511627776<=v):aa (bL (aa v 0 25) 2) 24 1=aa v 24 1/\aa (bL (aa v 0 25) 2) 12 10=aa v 12 10/\aa (bL (aa v 0 25) 2) 23 1=(if aa v 23 1=aa v 24 1 then 1 else 0)/\aa (bL (aa v 0 25) 2) 22 1=(if aa v 22 1=aa v 24 1 then 1 else 0)/\aa (bL (aa v 0 25) 2) 1 11=aa v 1 11:=by
 obtain⟨u,hu⟩:∃ u,u=if v < 0 then v+1099511627776 else v:=⟨_,rfl⟩
 have u0:0<=u:=by rw[hu]; split<;>omega
 obtain⟨n,hn⟩:∃ n,n=aa v 0 25:=⟨_,rfl⟩
 have e:n=u % 33554432:=by
  rw[hn]; unfold aa; rw[← hu]; omega
 have hb:0<=n/\n < 33554432:=by omega
 have c:=mS hb
 have d:=pM hb
 rw[← hn]
 obtain⟨t,ht⟩:∃ t,t=bL n 2:=⟨_,rfl⟩
 rw[← ht] at c d ⊢
 have e1:aa v 24 1=n / 16777216:=by unfold aa; rw[← hu]; omega
 have e2:aa v 23 1=n / 8388608 % 2:=by unfold aa; rw[← hu]; omega
 have e3:aa v 22 1=n / 4194304 % 2:=by unfold aa; rw[← hu]; omega
 have e4:aa v 12 10=n % 4194304 / 4096:=by unfold aa; rw[← hu]; omega
 have e5:aa v 1 11=n % 4194304 / 2 % 2048:=by unfold aa; rw[← hu]; omega
 have f1:aa t 24 1=t / 16777216:=by unfold aa; rw[if_neg (by omega)]; omega
 have f2:aa t 23 1=t / 8388608 % 2:=by unfold aa; rw[if_neg (by omega)]; omega
 have f3:aa t 22 1=t / 4194304 % 2:=by unfold aa; rw[if_neg (by omega)]; omega
 have f4:aa t 12 10=t % 4194304 / 4096:=by unfold aa; rw[if_neg (by omega)]; omega
 have f5:aa t 1 11=t % 4194304 / 2 % 2048:=by unfold aa; rw[if_neg (by omega)]; omega
 have e6:n / 16777216 % 2=n / 16777216:=by omega
 rw[e1,e2,e3,e4,e5,f1,f2,f3,f4,f5,c.1,c.2.1]
 rw[e6] at c
 exact⟨rfl,rfl,c.2.2.2,c.2.2.1,rfl⟩
theorem KR (a b:Int):∃ m:Int,m=(if a=b then 1 else 0)/\0<=m/\m < 2:=⟨_,rfl,by split<;>omega,by split<;>omega⟩
theorem vb (v:Int) (hv:-1099511627776<=v):al gT 285 [.int .u32 (IntKind.u32.wrap v)] (.int .u32 ((B (bL (aa v 0 25) 2) 24 1 26 ||| B (bL (aa v 0 25) 2) 12 10 16 ||| B (bL (aa v 0 25) 2) 23 1 13 ||| B (bL (aa v 0 25) 2) 22 1 11 ||| B (bL (aa v 0 25) 2) 1 11 0:Nat):Int)):=by
 obtain⟨t1,t2,t3,t4,t5⟩:=AF v hv
 have s2:=mU (aa v 23 1) (aa v 24 1) (lv v 23) (lv v 24)
 have s3:=mU (aa v 22 1) (aa v 24 1) (lv v 22) (lv v 24)
 obtain⟨m2,De,c2⟩:=KR (aa v 23 1) (aa v 24 1)
 obtain⟨m3,Q2,c3⟩:=KR (aa v 22 1) (aa v 24 1)
 rw[← De] at s2 t3
 rw[← Q2] at s3 t4
 have b0:=ae v 24 1
 have b1:=ae v 12 10
 have b2:=ae v 1 11
 refine Spec.enter aA aai 100 Tryz.func285 rfl (by kernel_rfl) ?_
 refine (rU v 24 1 (by omega) (by decide) (by decide) (by decide)).u ?_
 refine⟨by decide,.inl ⟨ah (by rw[r26]; omega),?_⟩⟩
 refine (rU v 12 10 (by omega) (by decide) (by decide) (by decide)).u ?_
 refine⟨by decide,.inl ⟨ah (by rw[Q_]; omega),?_⟩⟩
 refine (rU v 23 1 (by omega) (by decide) (by decide) (by decide)).u ?_
 refine s2.u ?_
 refine⟨by decide,.inl ⟨ah (by rw[r13]; omega),?_⟩⟩
 refine (rU v 22 1 (by omega) (by decide) (by decide) (by decide)).u ?_
 refine s3.u ?_
 refine⟨by decide,.inl ⟨ah (by rw[r11]; omega),?_⟩⟩
 refine (rU v 1 11 (by omega) (by decide) (by decide) (by decide)).u ?_
 refine aF ?_
 have k1:Bh (aa v 24 1*Ev.aQ .u32 26) (B (bL (aa v 0 25) 2) 24 1 26):=by have:=uN (bL (aa v 0 25) 2) 24 1 26 (p:=Ev.aQ .u32 26) (by decide) (by decide); rwa [t1] at this
 have k2:Bh (aa v 12 10*Ev.aQ .u32 16) (B (bL (aa v 0 25) 2) 12 10 16):=by have:=uN (bL (aa v 0 25) 2) 12 10 16 (p:=Ev.aQ .u32 16) (by decide) (by decide); rwa [t2] at this
 have k3:Bh (m2*Ev.aQ .u32 13) (B (bL (aa v 0 25) 2) 23 1 13):=by have:=uN (bL (aa v 0 25) 2) 23 1 13 (p:=Ev.aQ .u32 13) (by decide) (by decide); rwa [t3] at this
 have k4:Bh (m3*Ev.aQ .u32 11) (B (bL (aa v 0 25) 2) 22 1 11):=by have:=uN (bL (aa v 0 25) 2) 22 1 11 (p:=Ev.aQ .u32 11) (by decide) (by decide); rwa [t4] at this
 have k5:Bh (aa v 1 11) (B (bL (aa v 0 25) 2) 1 11 0):=by have:=ym (bL (aa v 0 25) 2) 1 11 (by decide); rwa [t5] at this
 exact (show bits .or .u32 (bits .or .u32 (bits .or .u32 (bits .or .u32 (aa v 24 1*Ev.aQ .u32 26) (aa v 12 10*Ev.aQ .u32 16)) (m2*Ev.aQ .u32 13)) (m3*Ev.aQ .u32 11)) (aa v 1 11)=_ from ((((k1.or k2).or k3).or k4).or k5).1)
theorem OZ (i:IN) (hs:ab i.form=34) (hr:aW i (eF 34)) (hg:i.aq<=9223372036854775807):al gT 210 [dE i] (.int .u32 ((eQ (eh i) (ax 34):Nat):Int)):=by
 obtain⟨hf,h1,h2,h3,h4,h5,h6,h7,h8,h9,dd⟩:=hr
 have g0:=aB (r:=i.rd) h1
 have g1:=aB (r:=i.rn) h2
 have g2:=aB (r:=i.rm) h3
 have g3:=aB (r:=i.ra) h4
 have g4:-16777216<=i.au/\i.au<=16777214/\i.au % 2=0:=e9 (s:=2) (by decide) h7
 have g5:i.kind=0:=(bo rfl h9).1
 have g6:i.bE=0:=bO (bo rfl h9).2
 have g7:i.set=0:=h8.elim id fun e=>absurd (show false=true from e.2) Bool.false_ne_true
 have g8:i.cond=0:=h6.elim id fun e=>absurd (show false=true from e.1) Bool.false_ne_true
 clear h1 h2 h3 h4 h5 h6 h7 h8 h9 dd
 have et:=sh34 hs
 rw[et]
 refine Spec.enter aA lj 100 Tryz.func210 rfl (by kernel_rfl) ?_
 refine .inr ?_
 refine .inl ⟨ah (by omega),?_⟩
 refine (av hs).u ?_
 refine (vb i.au (by omega)).u ?_
 refine aF ?_
 have eo:eQ {i with au:=bL (aa i.au 0 25) 2} (ax 34)=0 ||| B (bL (aa i.au 0 25) 2) 24 1 26 ||| B (bL (aa i.au 0 25) 2) 12 10 16 ||| B (bL (aa i.au 0 25) 2) 23 1 13 ||| B (bL (aa i.au 0 25) 2) 22 1 11 ||| B (bL (aa i.au 0 25) 2) 1 11 0:=rfl
 rw[eo]
 refine (show _=_ from congrArg (fun n:Nat=>(n:Int)) ?_)
 simp only[Nat.zero_or]
theorem jH:∀ (i:IN),ma (dE i) (dE i):=fun i=>⟨rfl,rfl,rfl,rfl,rfl,rfl,rfl,rfl,rfl,rfl,rfl,trivial⟩
theorem q2:Ev.aQ .i64 2=4:=by decide
theorem q14:Ev.aQ .i64 14=16384:=by decide
theorem q15:Ev.aQ .i64 15=32768:=by decide
theorem Cr (f w:Int) (hF:1<=f/\f<=100) (hs:ab f=1) (hw:bQ w):al gT 116 [.int .i64 f,.int .u32 w] (dE (Xt f w)):=by
 have b0:=ae w 6 5
 have b1:=ae w 3 3
 have b2:=ae w 0 3
 unfold Xt
 refine Spec.enter aA lK 100 Tryz.func116 rfl (by kernel_rfl) ?_
 have h3:=wh hF hs
 have e:∀ x:Int,x=0+x*2 ^ 0:=fun x=>by omega
 refine (av hs).u ?_
 refine (aJ w 0 3 hw (by decide) (by decide)).u ?_
 refine (aJ w 3 3 hw (by decide) (by decide)).u ?_
 refine (aJ w 6 5 hw (by decide) (by decide)).u ?_
 refine⟨fun h1=>?_,fun h1=>?_⟩
 ·refine⟨[],bI,(fw 1 (0+aa w 6 5*2 ^ 0)).use (And.intro rfl (And.intro (e _) trivial)) rfl rfl ?_⟩
  refine aF ?_
  (repeat' first|exact trivial|exact rfl|exact e _|refine And.intro ?_ ?_)
  show (if 0+aa w 6 5*2 ^ 0=0/\((1:Int)=1\/(1:Int)=2) then (32:Int) else _)=if 1 < f/\0+aa w 6 5*2 ^ 0=0 then (32:Int) else 0+aa w 6 5*2 ^ 0
  have nP:¬ f=1:=h1
  (repeat' split)<;>omega
 ·refine aF ?_
  (repeat' first|exact trivial|exact rfl|exact e _|refine And.intro ?_ ?_)
  show aa w 6 5=if 1 < f/\0+aa w 6 5*2 ^ 0=0 then (32:Int) else 0+aa w 6 5*2 ^ 0
  have nP:¬ ¬ f=1:=h1
  (repeat' split)<;>omega
theorem Cs (f w:Int) (hF:1<=f/\f<=100) (hs:ab f=2) (hw:bQ w):al gT 116 [.int .i64 f,.int .u32 w] (dE (Xu f w)):=by
 have b0:=ae w 6 3
 have b1:=ae w 3 3
 have b2:=ae w 0 3
 unfold Xu
 refine Spec.enter aA lK 100 Tryz.func116 rfl (by kernel_rfl) ?_
 refine (av hs).u ?_
 refine (n7 ⟨f,0,0,0,0,0,0,0,0,0,0⟩ w hw).u ?_
 refine (aJ w 6 3 hw (by decide) (by decide)).u ?_
 refine aF ?_
 (repeat' first|exact trivial|exact rfl|refine And.intro ?_ ?_)
 all_goals (show (_:Int)=_; (try dsimp only [bY,cD]); first|omega|(unfold eS; omega))
theorem Ct (f w:Int) (hF:1<=f/\f<=100) (hs:ab f=3) (hw:bQ w):al gT 116 [.int .i64 f,.int .u32 w] (dE (Xv f w)):=by
 have b0:=ae w 6 3
 have b1:=ae w 3 3
 have b2:=ae w 0 3
 unfold Xv
 refine Spec.enter aA lK 100 Tryz.func116 rfl (by kernel_rfl) ?_
 refine (av hs).u ?_
 refine (n7 ⟨f,0,0,0,0,0,0,0,0,0,0⟩ w hw).u ?_
 refine (aJ w 6 3 hw (by decide) (by decide)).u ?_
 refine aF ?_
 (repeat' first|exact trivial|exact rfl|refine And.intro ?_ ?_)
 all_goals (show (_:Int)=_; (try dsimp only [bY,cD]); first|omega|(unfold eS; omega))
theorem Cu (f w:Int) (hF:1<=f/\f<=100) (hs:ab f=4) (hw:bQ w):al gT 116 [.int .i64 f,.int .u32 w] (dE (Xw f w)):=by
 have b0:=ae w 8 3
 have b1:=ae w 0 8
 unfold Xw
 refine Spec.enter aA lK 100 Tryz.func116 rfl (by kernel_rfl) ?_
 refine (av hs).u ?_
 refine (aJ w 8 3 hw (by decide) (by decide)).u ?_
 refine (aJ w 0 8 hw (by decide) (by decide)).u ?_
 refine aF ?_
 (repeat' first|exact trivial|exact rfl|refine And.intro ?_ ?_)
 all_goals (show (_:Int)=_; (try dsimp only [bY,cD]); first|omega|(unfold eS; omega))
theorem Cv (f w:Int) (hF:1<=f/\f<=100) (hs:ab f=5) (hw:bQ w):al gT 116 [.int .i64 f,.int .u32 w] (dE (Xx f w)):=by
 have b0:=ae w 3 3
 have b1:=ae w 0 3
 unfold Xx
 refine Spec.enter aA lK 100 Tryz.func116 rfl (by kernel_rfl) ?_
 refine (av hs).u ?_
 refine (aJ w 0 3 hw (by decide) (by decide)).u ?_
 refine (aJ w 3 3 hw (by decide) (by decide)).u ?_
 refine aF ?_
 (repeat' first|exact trivial|exact rfl|refine And.intro ?_ ?_)
 all_goals (show (_:Int)=_; (try dsimp only [bY,cD]); first|omega|(unfold eS; omega))
theorem Cw (f w:Int) (hF:1<=f/\f<=100) (hs:ab f=6) (hw:bQ w):al gT 116 [.int .i64 f,.int .u32 w] (dE (Xy f w)):=by
 have b0:=ae w 7 1
 have b1:=ae w 3 4
 have b2:=ae w 0 3
 unfold Xy
 refine Spec.enter aA lK 100 Tryz.func116 rfl (by kernel_rfl) ?_
 refine (av hs).u ?_
 refine (aJ w 7 1 hw (by decide) (by decide)).u ?_
 refine⟨by decide,.inl ⟨bf (by rw[q3]; omega),?_⟩⟩
 refine (aJ w 0 3 hw (by decide) (by decide)).u ?_
 refine (aJ w 3 4 hw (by decide) (by decide)).u ?_
 have e:bits .or .i64 (aa w 7 1*Ev.aQ .i64 3) (aa w 0 3)=0+aa w 7 1*2 ^ 3+aa w 0 3*2 ^ 0:=by
  rw[q3,Rm.dm (aa w 7 1*8) (aa w 0 3) 3 (by omega) (by omega) (by omega) (by omega) (by omega) (by omega)]; omega
 refine aF ?_
 (repeat' first|exact trivial|exact rfl|exact e|refine And.intro ?_ ?_)
 all_goals (show (_:Int)=_; (try dsimp only [bY,cD]); omega)
theorem Cy (f w:Int) (hF:1<=f/\f<=100) (hs:ab f=7) (hw:bQ w):al gT 116 [.int .i64 f,.int .u32 w] (dE (Xz f w)):=by
 have b0:=ae w 3 4
 unfold Xz
 refine Spec.enter aA lK 100 Tryz.func116 rfl (by kernel_rfl) ?_
 refine (av hs).u ?_
 refine (aJ w 3 4 hw (by decide) (by decide)).u ?_
 refine aF ?_
 (repeat' first|exact trivial|exact rfl|refine And.intro ?_ ?_)
 all_goals (show (_:Int)=_; (try dsimp only [bY,cD]); first|omega|(unfold eS; omega))
theorem Cz (f w:Int) (hF:1<=f/\f<=100) (hs:ab f=8) (hw:bQ w):al gT 116 [.int .i64 f,.int .u32 w] (dE (XA f w)):=by
 have b0:=ae w 8 3
 have b1:=ae w 0 8
 unfold XA
 refine Spec.enter aA lK 100 Tryz.func116 rfl (by kernel_rfl) ?_
 refine (av hs).u ?_
 refine (aJ w 8 3 hw (by decide) (by decide)).u ?_
 refine (aJ w 0 8 hw (by decide) (by decide)).u ?_
 refine li ?_
 refine aF ?_
 (repeat' first|exact trivial|exact rfl|refine And.intro ?_ ?_)
 all_goals (show (_:Int)=_; (try dsimp only [bY,cD]); first|omega|(unfold eS; omega))
theorem CA (f w:Int) (hF:1<=f/\f<=100) (hs:ab f=9) (hw:bQ w):al gT 116 [.int .i64 f,.int .u32 w] (dE (XB f w)):=by
 have b0:=ae w 6 5
 have b1:=ae w 3 3
 have b2:=ae w 0 3
 unfold XB
 refine Spec.enter aA lK 100 Tryz.func116 rfl (by kernel_rfl) ?_
 refine (av hs).u ?_
 refine (n7 ⟨f,0,0,0,0,0,0,0,0,0,0⟩ w hw).u ?_
 refine (aJ w 6 5 hw (by decide) (by decide)).u ?_
 refine li ?_
 refine aF ?_
 (repeat' first|exact trivial|exact rfl|refine And.intro ?_ ?_)
 all_goals (show (_:Int)=_; (try dsimp only [bY,cD]); first|omega|(unfold eS; omega))
theorem AG (f w:Int) (hF:1<=f/\f<=100) (hs:ab f=10) (hw:bQ w):al gT 116 [.int .i64 f,.int .u32 w] (dE (Kj f w)):=by
 have b0:=ae w 0 7
 unfold Kj
 refine Spec.enter aA lK 100 Tryz.func116 rfl (by kernel_rfl) ?_
 refine (av hs).u ?_
 refine (aJ w 0 7 hw (by decide) (by decide)).u ?_
 refine li ?_
 refine aF ?_
 (repeat' first|exact trivial|exact rfl|refine And.intro ?_ ?_)
 all_goals (show (_:Int)=_; (try dsimp only [bY,cD]); first|omega|(unfold eS; omega))
theorem AH (f w:Int) (hF:1<=f/\f<=100) (hs:ab f=11) (hw:bQ w):al gT 116 [.int .i64 f,.int .u32 w] (dE (Kk f w)):=by
 have b0:=ae w 8 1
 have b1:=ae w 0 8
 unfold Kk
 refine Spec.enter aA lK 100 Tryz.func116 rfl (by kernel_rfl) ?_
 refine (av hs).u ?_
 refine (aJ w 8 1 hw (by decide) (by decide)).u ?_
 refine⟨by decide,.inl ⟨bf (by rw[q14]; omega),?_⟩⟩
 refine (aJ w 0 8 hw (by decide) (by decide)).u ?_
 have e:bits .or .i64 (aa w 8 1*Ev.aQ .i64 14) (aa w 0 8)=0+aa w 8 1*2 ^ 14+aa w 0 8*2 ^ 0:=by
  rw[q14,Rm.dm (aa w 8 1*16384) (aa w 0 8) 14 (by omega) (by omega) (by omega) (by omega) (by omega) (by omega)]; omega
 refine aF ?_
 (repeat' first|exact trivial|exact rfl|exact e|refine And.intro ?_ ?_)
 all_goals (show (_:Int)=_; (try dsimp only [bY,cD]); omega)
theorem AI (f w:Int) (hF:1<=f/\f<=100) (hs:ab f=12) (hw:bQ w):al gT 116 [.int .i64 f,.int .u32 w] (dE (Kl f w)):=by
 have b0:=ae w 8 1
 have b1:=ae w 0 8
 unfold Kl
 refine Spec.enter aA lK 100 Tryz.func116 rfl (by kernel_rfl) ?_
 refine (av hs).u ?_
 refine (aJ w 8 1 hw (by decide) (by decide)).u ?_
 refine⟨by decide,.inl ⟨bf (by rw[q15]; omega),?_⟩⟩
 refine (aJ w 0 8 hw (by decide) (by decide)).u ?_
 have e:bits .or .i64 (aa w 8 1*Ev.aQ .i64 15) (aa w 0 8)=0+aa w 8 1*2 ^ 15+aa w 0 8*2 ^ 0:=by
  rw[q15,Rm.dm (aa w 8 1*32768) (aa w 0 8) 15 (by omega) (by omega) (by omega) (by omega) (by omega) (by omega)]; omega
 refine aF ?_
 (repeat' first|exact trivial|exact rfl|exact e|refine And.intro ?_ ?_)
 all_goals (show (_:Int)=_; (try dsimp only [bY,cD]); omega)
theorem AJ (f w:Int) (hF:1<=f/\f<=100) (hs:ab f=13) (hw:bQ w):al gT 116 [.int .i64 f,.int .u32 w] (dE (Km f w)):=by
 unfold Km
 refine Spec.enter aA lK 100 Tryz.func116 rfl (by kernel_rfl) ?_
 refine (av hs).u ?_
 exact rA
theorem AK (f w:Int) (hF:1<=f/\f<=100) (hs:ab f=14) (hw:bQ w):al gT 116 [.int .i64 f,.int .u32 w] (dE (Kn f w)):=by
 have b0:=ae w 0 8
 unfold Kn
 refine Spec.enter aA lK 100 Tryz.func116 rfl (by kernel_rfl) ?_
 refine (av hs).u ?_
 refine (aJ w 0 8 hw (by decide) (by decide)).u ?_
 refine aF ?_
 (repeat' first|exact trivial|exact rfl|refine And.intro ?_ ?_)
 all_goals (show (_:Int)=_; (try dsimp only [bY,cD]); first|omega|(unfold eS; omega))
theorem AL (f w:Int) (hF:1<=f/\f<=100) (hs:ab f=15) (hw:bQ w):al gT 116 [.int .i64 f,.int .u32 w] (dE (Ko f w)):=by
 have b0:=ae w 8 4
 have b1:=ae w 0 8
 unfold Ko
 refine Spec.enter aA lK 100 Tryz.func116 rfl (by kernel_rfl) ?_
 refine (av hs).u ?_
 refine (aJ w 8 4 hw (by decide) (by decide)).u ?_
 refine (aJ w 0 8 hw (by decide) (by decide)).u ?_
 refine⟨by decide,.inl ⟨bf (by rw[q1]; omega),?_⟩⟩
 refine⟨[],bI,(jX (0+aa w 0 8*2 ^ 1) 8 (by decide) ⟨by omega,by omega⟩).use (And.intro (show aa w 0 8*Ev.aQ .i64 1=_ by rw[q1]; omega) (And.intro rfl trivial)) rfl rfl ?_⟩
 refine aF ?_
 (repeat' first|exact trivial|exact rfl|refine And.intro ?_ ?_)
 all_goals (show (_:Int)=_; (try dsimp only [bY,cD]); first|omega|(unfold eS; omega))
theorem AM (f w:Int) (hF:1<=f/\f<=100) (hs:ab f=16) (hw:bQ w):al gT 116 [.int .i64 f,.int .u32 w] (dE (Kp f w)):=by
 have b0:=ae w 0 11
 unfold Kp
 refine Spec.enter aA lK 100 Tryz.func116 rfl (by kernel_rfl) ?_
 refine (av hs).u ?_
 refine (aJ w 0 11 hw (by decide) (by decide)).u ?_
 refine⟨by decide,.inl ⟨bf (by rw[q1]; omega),?_⟩⟩
 refine⟨[],bI,(jX (0+aa w 0 11*2 ^ 1) 11 (by decide) ⟨by omega,by omega⟩).use (And.intro (show aa w 0 11*Ev.aQ .i64 1=_ by rw[q1]; omega) (And.intro rfl trivial)) rfl rfl ?_⟩
 refine aF ?_
 (repeat' first|exact trivial|exact rfl|refine And.intro ?_ ?_)
 all_goals (show (_:Int)=_; (try dsimp only [bY,cD]); first|omega|(unfold eS; omega))
theorem vc (f w:Int) (hs:17<=ab f) (hw:bQ w):al gT 116 [.int .i64 f,.int .u32 w] (dE ⟨f,0,0,0,0,0,0,0,0,0,0⟩):=by
 refine Spec.enter aA lK 100 Tryz.func116 rfl (by kernel_rfl) ?_
 refine (gb f).u ?_
 iterate 15 (refine And.intro (fun h=>absurd (show ab f=_ from h) (by omega)) (fun _=>?_))
 exact rA
end Go.Proofs.YtbnoodjnpooocaaGreatDoor.Pw

/- What this claim is proved with: no condition. -/
import Derived.Test.YtnbngokbamifbaaGreatDoorNr18
set_option maxRecDepth 100000
set_option maxHeartbeats 8000000
set_option linter.unusedVariables false
set_option linter.unusedSimpArgs false
namespace Go.Proofs.YtnbngokbamifbaaGreatDoor.Pw
open Go Go.RowKit
theorem HK (i:IN) (hs:ae i.form=1) (hr:aC i (cU 1)) (hg:i.an<=9223372036854775807):ah gT 178 [bX i] (.int .u32 ((eH i (aq 1):Nat):Int)):=by
 obtain⟨hf,h1,h2,h3,h4,h5,h6,h7,h8,h9,cY⟩:=hr
 have g0:=d_ (r:=i.rd) h1
 have g1:=aA (r:=i.rn) h2
 have g2:=d_ (r:=i.rm) h3
 have g3:=aA (r:=i.ra) h4
 have g4:0<=i.av/\i.av<=32/\i.av % 1=0:=eR (s:=1) (by decide) h7
 have g5:i.kind=0:=(bo rfl h9).1
 have g6:i.bG=0:=bO (bo rfl h9).2
 have g7:i.set=0:=h8.elim id fun e=>absurd (show false=true from e.2) Bool.false_ne_true
 have g8:i.cond=0:=h6.elim id fun e=>absurd (show false=true from e.1) Bool.false_ne_true
 clear h1 h2 h3 h4 h5 h6 h7 h8 h9 cY
 have b0:=ab i.av 0 5
 refine Spec.enter ar m1 100 Tryz.func178 rfl (by kernel_rfl) ?_
 refine .inl ⟨af (by omega),?_⟩
 refine .inl ⟨af (by omega),?_⟩
 refine .inl ⟨af (by omega),?_⟩
 refine (aw hs).u ?_
 refine (lV i.av 0 5 (by unfold aP; omega) (by decide) (by decide)).u ?_
 refine⟨by decide,.inl ⟨af (by rw[r6]; omega),?_⟩⟩
 refine⟨by decide,.inl ⟨af (by rw[r3]; omega),?_⟩⟩
 refine ao ?_
 have eo:eH i (aq 1)=0 ||| B i.av 0 5 6 ||| B i.rm 0 3 3 ||| B i.rd 0 3 0:=rfl
 rw[eo]
 refine (show bits .or .u32 (bits .or .u32 (aa i.av 0 5*Ev.aD .u32 6) (i.rm*Ev.aD .u32 3)) (i.rd)=_ from ?_)
 refine ((((((tQ i.av 0 5 6 (by decide) (by decide))).or (pH i.rm 3 3 (by decide) (by decide) (by omega)))).or (sU i.rd 3 (by decide) (by omega)))).1.trans (congrArg (fun n:Nat=>(n:Int)) ?_)
 first
 | (simp only[Nat.or_zero,Nat.zero_or]; done)
 | (simp only[Nat.or_zero,Nat.zero_or]
    generalize B i.av 0 5 6=n0
    generalize B i.rm 0 3 3=n1
    generalize B i.rd 0 3 0=n2
    ac_rfl)
theorem HL (i:IN) (hs:ae i.form=2) (hr:aC i (cU 2)) (hg:i.an<=9223372036854775807):ah gT 178 [bX i] (.int .u32 ((eH i (aq 2):Nat):Int)):=by
 obtain⟨hf,h1,h2,h3,h4,h5,h6,h7,h8,h9,cY⟩:=hr
 have g0:=d_ (r:=i.rd) h1
 have g1:=d_ (r:=i.rn) h2
 have g2:=d_ (r:=i.rm) h3
 have g3:=aA (r:=i.ra) h4
 have g4:i.av=0:=bO h7
 have g5:i.kind=0:=(bo rfl h9).1
 have g6:i.bG=0:=bO (bo rfl h9).2
 have g7:i.set=0:=h8.elim id fun e=>absurd (show false=true from e.2) Bool.false_ne_true
 have g8:i.cond=0:=h6.elim id fun e=>absurd (show false=true from e.1) Bool.false_ne_true
 clear h1 h2 h3 h4 h5 h6 h7 h8 h9 cY
 refine Spec.enter ar m1 100 Tryz.func178 rfl (by kernel_rfl) ?_
 refine .inl ⟨af (by omega),?_⟩
 refine .inl ⟨af (by omega),?_⟩
 refine .inl ⟨af (by omega),?_⟩
 refine (aw hs).u ?_
 refine (nM i i.rm 3 (by omega) (by omega) (by omega) (by decide)).u ?_
 refine ao ?_
 have eo:eH i (aq 2)=0 ||| B i.rm 0 3 6 ||| B i.rn 0 3 3 ||| B i.rd 0 3 0:=rfl
 rw[eo]
 refine (show _=_ from congrArg (fun n:Nat=>(n:Int)) ?_)
 simp only[Nat.zero_or]
theorem HM (i:IN) (hs:ae i.form=3) (hr:aC i (cU 3)) (hg:i.an<=9223372036854775807):ah gT 178 [bX i] (.int .u32 ((eH i (aq 3):Nat):Int)):=by
 obtain⟨hf,h1,h2,h3,h4,h5,h6,h7,h8,h9,cY⟩:=hr
 have g0:=d_ (r:=i.rd) h1
 have g1:=d_ (r:=i.rn) h2
 have g2:=aA (r:=i.rm) h3
 have g3:=aA (r:=i.ra) h4
 have g4:0<=i.av/\i.av<=7/\i.av % 1=0:=eR (s:=1) (by decide) h7
 have g5:i.kind=0:=(bo rfl h9).1
 have g6:i.bG=0:=bO (bo rfl h9).2
 have g7:i.set=0:=h8.elim id fun e=>absurd (show false=true from e.2) Bool.false_ne_true
 have g8:i.cond=0:=h6.elim id fun e=>absurd (show false=true from e.1) Bool.false_ne_true
 clear h1 h2 h3 h4 h5 h6 h7 h8 h9 cY
 refine Spec.enter ar m1 100 Tryz.func178 rfl (by kernel_rfl) ?_
 refine .inl ⟨af (by omega),?_⟩
 refine .inl ⟨af (by omega),?_⟩
 refine .inl ⟨af (by omega),?_⟩
 refine (aw hs).u ?_
 refine (nM i i.av 3 (by omega) (by omega) (by omega) (by decide)).u ?_
 refine ao ?_
 have eo:eH i (aq 3)=0 ||| B i.av 0 3 6 ||| B i.rn 0 3 3 ||| B i.rd 0 3 0:=rfl
 rw[eo]
 refine (show _=_ from congrArg (fun n:Nat=>(n:Int)) ?_)
 simp only[Nat.zero_or]
theorem HN (i:IN) (hs:ae i.form=4) (hr:aC i (cU 4)) (hg:i.an<=9223372036854775807):ah gT 178 [bX i] (.int .u32 ((eH i (aq 4):Nat):Int)):=by
 obtain⟨hf,h1,h2,h3,h4,h5,h6,h7,h8,h9,cY⟩:=hr
 have g0:=d_ (r:=i.rd) h1
 have g1:=aA (r:=i.rn) h2
 have g2:=aA (r:=i.rm) h3
 have g3:=aA (r:=i.ra) h4
 have g4:0<=i.av/\i.av<=255/\i.av % 1=0:=eR (s:=1) (by decide) h7
 have g5:i.kind=0:=(bo rfl h9).1
 have g6:i.bG=0:=bO (bo rfl h9).2
 have g7:i.set=0:=h8.elim id fun e=>absurd (show false=true from e.2) Bool.false_ne_true
 have g8:i.cond=0:=h6.elim id fun e=>absurd (show false=true from e.1) Bool.false_ne_true
 clear h1 h2 h3 h4 h5 h6 h7 h8 h9 cY
 refine Spec.enter ar m1 100 Tryz.func178 rfl (by kernel_rfl) ?_
 refine .inl ⟨af (by omega),?_⟩
 refine .inl ⟨af (by omega),?_⟩
 refine .inl ⟨af (by omega),?_⟩
 refine (aw hs).u ?_
 refine⟨by decide,.inl ⟨af (by rw[r8]; omega),?_⟩⟩
 refine ao ?_
 have eo:eH i (aq 4)=0 ||| B i.rd 0 3 8 ||| B i.av 0 8 0:=rfl
 rw[eo]
 refine (show bits .or .u32 (i.rd*Ev.aD .u32 8) (i.av)=_ from ?_)
 refine ((((pH i.rd 3 8 (by decide) (by decide) (by omega))).or (sU i.av 8 (by decide) (by omega)))).1.trans (congrArg (fun n:Nat=>(n:Int)) ?_)
 first
 | (simp only[Nat.or_zero,Nat.zero_or]; done)
 | (simp only[Nat.or_zero,Nat.zero_or]
    generalize B i.rd 0 3 8=n0
    generalize B i.av 0 8 0=n1
    ac_rfl)
theorem HO (i:IN) (hs:ae i.form=5) (hr:aC i (cU 5)) (hg:i.an<=9223372036854775807):ah gT 178 [bX i] (.int .u32 ((eH i (aq 5):Nat):Int)):=by
 obtain⟨hf,h1,h2,h3,h4,h5,h6,h7,h8,h9,cY⟩:=hr
 have g0:=d_ (r:=i.rd) h1
 have g1:=aA (r:=i.rn) h2
 have g2:=d_ (r:=i.rm) h3
 have g3:=aA (r:=i.ra) h4
 have g4:i.av=0:=bO h7
 have g5:i.kind=0:=(bo rfl h9).1
 have g6:i.bG=0:=bO (bo rfl h9).2
 have g7:i.set=0:=h8.elim id fun e=>absurd (show false=true from e.2) Bool.false_ne_true
 have g8:i.cond=0:=h6.elim id fun e=>absurd (show false=true from e.1) Bool.false_ne_true
 clear h1 h2 h3 h4 h5 h6 h7 h8 h9 cY
 refine Spec.enter ar m1 100 Tryz.func178 rfl (by kernel_rfl) ?_
 refine .inl ⟨af (by omega),?_⟩
 refine .inl ⟨af (by omega),?_⟩
 refine .inl ⟨af (by omega),?_⟩
 refine (aw hs).u ?_
 refine⟨by decide,.inl ⟨af (by rw[r3]; omega),?_⟩⟩
 refine ao ?_
 have eo:eH i (aq 5)=0 ||| B i.rm 0 3 3 ||| B i.rd 0 3 0:=rfl
 rw[eo]
 refine (show bits .or .u32 (i.rm*Ev.aD .u32 3) (i.rd)=_ from ?_)
 refine ((((pH i.rm 3 3 (by decide) (by decide) (by omega))).or (sU i.rd 3 (by decide) (by omega)))).1.trans (congrArg (fun n:Nat=>(n:Int)) ?_)
 first
 | (simp only[Nat.or_zero,Nat.zero_or]; done)
 | (simp only[Nat.or_zero,Nat.zero_or]
    generalize B i.rm 0 3 3=n0
    generalize B i.rd 0 3 0=n1
    ac_rfl)
theorem HP (i:IN) (hs:ae i.form=6) (hr:aC i (cU 6)) (hg:i.an<=9223372036854775807):ah gT 178 [bX i] (.int .u32 ((eH i (aq 6):Nat):Int)):=by
 obtain⟨hf,h1,h2,h3,h4,h5,h6,h7,h8,h9,cY⟩:=hr
 have g0:=na (r:=i.rd) h1
 have g1:=aA (r:=i.rn) h2
 have g2:=na (r:=i.rm) h3
 have g3:=aA (r:=i.ra) h4
 have g4:i.av=0:=bO h7
 have g5:i.kind=0:=(bo rfl h9).1
 have g6:i.bG=0:=bO (bo rfl h9).2
 have g7:i.set=0:=h8.elim id fun e=>absurd (show false=true from e.2) Bool.false_ne_true
 have g8:i.cond=0:=h6.elim id fun e=>absurd (show false=true from e.1) Bool.false_ne_true
 clear h1 h2 h3 h4 h5 h6 h7 h8 h9 cY
 have b0:=ab i.rd 3 1
 have b1:=ab i.rd 0 3
 refine Spec.enter ar m1 100 Tryz.func178 rfl (by kernel_rfl) ?_
 refine .inl ⟨af (by omega),?_⟩
 refine .inl ⟨af (by omega),?_⟩
 refine .inl ⟨af (by omega),?_⟩
 refine (aw hs).u ?_
 refine (lV i.rd 3 1 (by unfold aP; omega) (by decide) (by decide)).u ?_
 refine⟨by decide,.inl ⟨af (by rw[r7]; omega),?_⟩⟩
 refine⟨by decide,.inl ⟨af (by rw[r3]; omega),?_⟩⟩
 refine (lV i.rd 0 3 (by unfold aP; omega) (by decide) (by decide)).u ?_
 refine ao ?_
 have eo:eH i (aq 6)=0 ||| B i.rd 3 1 7 ||| B i.rm 0 4 3 ||| B i.rd 0 3 0:=rfl
 rw[eo]
 refine (show bits .or .u32 (bits .or .u32 (aa i.rd 3 1*Ev.aD .u32 7) (i.rm*Ev.aD .u32 3)) (aa i.rd 0 3)=_ from ?_)
 refine ((((((tQ i.rd 3 1 7 (by decide) (by decide))).or (pH i.rm 4 3 (by decide) (by decide) (by omega)))).or (wV i.rd 0 3 (by decide)))).1.trans (congrArg (fun n:Nat=>(n:Int)) ?_)
 first
 | (simp only[Nat.or_zero,Nat.zero_or]; done)
 | (simp only[Nat.or_zero,Nat.zero_or]
    generalize B i.rd 3 1 7=n0
    generalize B i.rm 0 4 3=n1
    generalize B i.rd 0 3 0=n2
    ac_rfl)
theorem HQ (i:IN) (hs:ae i.form=7) (hr:aC i (cU 7)) (hg:i.an<=9223372036854775807):ah gT 178 [bX i] (.int .u32 ((eH i (aq 7):Nat):Int)):=by
 obtain⟨hf,h1,h2,h3,h4,h5,h6,h7,h8,h9,cY⟩:=hr
 have g0:=aA (r:=i.rd) h1
 have g1:=aA (r:=i.rn) h2
 have g2:=na (r:=i.rm) h3
 have g3:=aA (r:=i.ra) h4
 have g4:i.av=0:=bO h7
 have g5:i.kind=0:=(bo rfl h9).1
 have g6:i.bG=0:=bO (bo rfl h9).2
 have g7:i.set=0:=h8.elim id fun e=>absurd (show false=true from e.2) Bool.false_ne_true
 have g8:i.cond=0:=h6.elim id fun e=>absurd (show false=true from e.1) Bool.false_ne_true
 clear h1 h2 h3 h4 h5 h6 h7 h8 h9 cY
 refine Spec.enter ar m1 100 Tryz.func178 rfl (by kernel_rfl) ?_
 refine .inl ⟨af (by omega),?_⟩
 refine .inl ⟨af (by omega),?_⟩
 refine .inl ⟨af (by omega),?_⟩
 refine (aw hs).u ?_
 refine⟨by decide,.inl ⟨af (by rw[r3]; omega),?_⟩⟩
 refine ao ?_
 have eo:eH i (aq 7)=0 ||| B i.rm 0 4 3:=rfl
 rw[eo]
 refine (show i.rm*Ev.aD .u32 3=_ from ?_)
 refine ((pH i.rm 4 3 (by decide) (by decide) (by omega))).1.trans (congrArg (fun n:Nat=>(n:Int)) ?_)
 first
 | (simp only[Nat.or_zero,Nat.zero_or]; done)
 | (simp only[Nat.or_zero,Nat.zero_or]
    generalize B i.rm 0 4 3=n0
    ac_rfl)
theorem HR (i:IN) (hs:ae i.form=8) (hr:aC i (cU 8)) (hg:i.an<=9223372036854775807):ah gT 178 [bX i] (.int .u32 ((eH i (aq 8):Nat):Int)):=by
 obtain⟨hf,h1,h2,h3,h4,h5,h6,h7,h8,h9,cY⟩:=hr
 have g0:=d_ (r:=i.rd) h1
 have g1:=aA (r:=i.rn) h2
 have g2:=aA (r:=i.rm) h3
 have g3:=aA (r:=i.ra) h4
 have g4:0<=i.av/\i.av<=1020/\i.av % 4=0:=eR (s:=4) (by decide) h7
 have g5:i.kind=0:=(bo rfl h9).1
 have g6:i.bG=0:=bO (bo rfl h9).2
 have g7:i.set=0:=h8.elim id fun e=>absurd (show false=true from e.2) Bool.false_ne_true
 have g8:i.cond=0:=h6.elim id fun e=>absurd (show false=true from e.1) Bool.false_ne_true
 clear h1 h2 h3 h4 h5 h6 h7 h8 h9 cY
 refine Spec.enter ar m1 100 Tryz.func178 rfl (by kernel_rfl) ?_
 refine .inl ⟨af (by omega),?_⟩
 refine .inl ⟨af (by omega),?_⟩
 refine .inl ⟨af (by omega),?_⟩
 refine (aw hs).u ?_
 refine⟨by decide,.inl ⟨af (by rw[r8]; omega),?_⟩⟩
 refine⟨by decide,.inl ⟨by omega,by first|exact (show (_:Int)<=4294967295 by omega)|omega,by decide,?_⟩⟩
 refine ao ?_
 have eo:eH i (aq 8)=0 ||| B i.rd 0 3 8 ||| B i.av 2 8 0:=rfl
 rw[eo]
 refine (show bits .or .u32 (i.rd*Ev.aD .u32 8) (i.av / 4)=_ from ?_)
 refine ((((pH i.rd 3 8 (by decide) (by decide) (by omega))).or (isD i.av 8 (by decide) (by omega) (by omega)))).1.trans (congrArg (fun n:Nat=>(n:Int)) ?_)
 first
 | (simp only[Nat.or_zero,Nat.zero_or]; done)
 | (simp only[Nat.or_zero,Nat.zero_or]
    generalize B i.rd 0 3 8=n0
    generalize B i.av 2 8 0=n1
    ac_rfl)
theorem HS (i:IN) (hs:ae i.form=9) (hr:aC i (cU 9)) (hg:i.an<=9223372036854775807):ah gT 178 [bX i] (.int .u32 ((eH i (aq 9):Nat):Int)):=by
 obtain⟨hf,h1,h2,h3,h4,h5,h6,h7,h8,h9,cY⟩:=hr
 have g0:=d_ (r:=i.rd) h1
 have g1:=d_ (r:=i.rn) h2
 have g2:=aA (r:=i.rm) h3
 have g3:=aA (r:=i.ra) h4
 have g4:0<=i.av/\i.av<=124/\i.av % 4=0:=eR (s:=4) (by decide) h7
 have g5:i.kind=0:=(bo rfl h9).1
 have g6:i.bG=0:=bO (bo rfl h9).2
 have g7:i.set=0:=h8.elim id fun e=>absurd (show false=true from e.2) Bool.false_ne_true
 have g8:i.cond=0:=h6.elim id fun e=>absurd (show false=true from e.1) Bool.false_ne_true
 clear h1 h2 h3 h4 h5 h6 h7 h8 h9 cY
 refine Spec.enter ar m1 100 Tryz.func178 rfl (by kernel_rfl) ?_
 refine .inl ⟨af (by omega),?_⟩
 refine .inl ⟨af (by omega),?_⟩
 refine .inl ⟨af (by omega),?_⟩
 refine (aw hs).u ?_
 refine⟨by decide,.inl ⟨by omega,by first|exact (show (_:Int)<=4294967295 by omega)|omega,by decide,?_⟩⟩
 refine (nM i (i.av / 4) 5 (by omega) (by omega) (by omega) (by decide)).u ?_
 refine ao ?_
 have eo:eH i (aq 9)=0 ||| B i.av 2 5 6 ||| B i.rn 0 3 3 ||| B i.rd 0 3 0:=rfl
 rw[eo]
 refine (show _=_ from congrArg (fun n:Nat=>(n:Int)) ?_)
 rw[Pg (by omega)]; simp only[Nat.zero_or]
theorem EJ (i:IN) (hs:ae i.form=10) (hr:aC i (cU 10)) (hg:i.an<=9223372036854775807):ah gT 178 [bX i] (.int .u32 ((eH i (aq 10):Nat):Int)):=by
 obtain⟨hf,h1,h2,h3,h4,h5,h6,h7,h8,h9,cY⟩:=hr
 have g0:=aA (r:=i.rd) h1
 have g1:=aA (r:=i.rn) h2
 have g2:=aA (r:=i.rm) h3
 have g3:=aA (r:=i.ra) h4
 have g4:0<=i.av/\i.av<=508/\i.av % 4=0:=eR (s:=4) (by decide) h7
 have g5:i.kind=0:=(bo rfl h9).1
 have g6:i.bG=0:=bO (bo rfl h9).2
 have g7:i.set=0:=h8.elim id fun e=>absurd (show false=true from e.2) Bool.false_ne_true
 have g8:i.cond=0:=h6.elim id fun e=>absurd (show false=true from e.1) Bool.false_ne_true
 clear h1 h2 h3 h4 h5 h6 h7 h8 h9 cY
 refine Spec.enter ar m1 100 Tryz.func178 rfl (by kernel_rfl) ?_
 refine .inl ⟨af (by omega),?_⟩
 refine .inl ⟨af (by omega),?_⟩
 refine .inl ⟨af (by omega),?_⟩
 refine (aw hs).u ?_
 refine⟨by decide,.inl ⟨by omega,by first|exact (show (_:Int)<=4294967295 by omega)|omega,by decide,?_⟩⟩
 refine ao ?_
 have eo:eH i (aq 10)=0 ||| B i.av 2 7 0:=rfl
 rw[eo]
 refine (show i.av / 4=_ from ?_)
 refine ((isD i.av 7 (by decide) (by omega) (by omega))).1.trans (congrArg (fun n:Nat=>(n:Int)) ?_)
 first
 | (simp only[Nat.or_zero,Nat.zero_or]; done)
 | (simp only[Nat.or_zero,Nat.zero_or]
    generalize B i.av 2 7 0=n0
    ac_rfl)
theorem EK (i:IN) (hs:ae i.form=11) (hr:aC i (cU 11)) (hg:i.an<=9223372036854775807):ah gT 178 [bX i] (.int .u32 ((eH i (aq 11):Nat):Int)):=by
 obtain⟨hf,h1,h2,h3,h4,h5,h6,h7,h8,h9,cY⟩:=hr
 have g0:=aA (r:=i.rd) h1
 have g1:=aA (r:=i.rn) h2
 have g2:=aA (r:=i.rm) h3
 have g3:=aA (r:=i.ra) h4
 have g4:i.av=0:=bO h7
 have g5:i.kind=0:=(bo rfl h9).1
 have g6:i.bG=0:=bO (bo rfl h9).2
 have g7:i.set=0:=h8.elim id fun e=>absurd (show false=true from e.2) Bool.false_ne_true
 have g8:i.cond=0:=h6.elim id fun e=>absurd (show false=true from e.1) Bool.false_ne_true
 have g9:0 < i.an/\i.an / 16384 % 2*16384+i.an % 256=i.an:=Cp 14 (by decide) (by decide) rfl h5 hg
 clear h1 h2 h3 h4 h5 h6 h7 h8 h9 cY
 have b0:=ab i.an 14 1
 have b1:=ab i.an 0 8
 refine Spec.enter ar m1 100 Tryz.func178 rfl (by kernel_rfl) ?_
 refine .inl ⟨af (by omega),?_⟩
 refine .inl ⟨af (by omega),?_⟩
 refine .inl ⟨af (by omega),?_⟩
 refine (aw hs).u ?_
 repeat (refine Or.inl (And.intro (af (by omega)) ?_))
 refine (lV i.an 14 1 (by unfold aP; omega) (by decide) (by decide)).u ?_
 refine⟨by decide,.inl ⟨af (by rw[r8]; omega),?_⟩⟩
 repeat (refine Or.inl (And.intro (af (by omega)) ?_))
 refine (lV i.an 0 8 (by unfold aP; omega) (by decide) (by decide)).u ?_
 refine ao ?_
 have eo:eH i (aq 11)=0 ||| B i.an 14 1 8 ||| B i.an 0 8 0:=rfl
 rw[eo]
 refine (show bits .or .u32 (aa i.an 14 1*Ev.aD .u32 8) (aa i.an 0 8)=_ from ?_)
 refine ((((tQ i.an 14 1 8 (by decide) (by decide))).or (wV i.an 0 8 (by decide)))).1.trans (congrArg (fun n:Nat=>(n:Int)) ?_)
 first
 | (simp only[Nat.or_zero,Nat.zero_or]; done)
 | (simp only[Nat.or_zero,Nat.zero_or]
    generalize B i.an 14 1 8=n0
    generalize B i.an 0 8 0=n1
    ac_rfl)
theorem EL (i:IN) (hs:ae i.form=12) (hr:aC i (cU 12)) (hg:i.an<=9223372036854775807):ah gT 178 [bX i] (.int .u32 ((eH i (aq 12):Nat):Int)):=by
 obtain⟨hf,h1,h2,h3,h4,h5,h6,h7,h8,h9,cY⟩:=hr
 have g0:=aA (r:=i.rd) h1
 have g1:=aA (r:=i.rn) h2
 have g2:=aA (r:=i.rm) h3
 have g3:=aA (r:=i.ra) h4
 have g4:i.av=0:=bO h7
 have g5:i.kind=0:=(bo rfl h9).1
 have g6:i.bG=0:=bO (bo rfl h9).2
 have g7:i.set=0:=h8.elim id fun e=>absurd (show false=true from e.2) Bool.false_ne_true
 have g8:i.cond=0:=h6.elim id fun e=>absurd (show false=true from e.1) Bool.false_ne_true
 have g9:0 < i.an/\i.an / 32768 % 2*32768+i.an % 256=i.an:=Cp 15 (by decide) (by decide) rfl h5 hg
 clear h1 h2 h3 h4 h5 h6 h7 h8 h9 cY
 have b0:=ab i.an 15 1
 have b1:=ab i.an 0 8
 refine Spec.enter ar m1 100 Tryz.func178 rfl (by kernel_rfl) ?_
 refine .inl ⟨af (by omega),?_⟩
 refine .inl ⟨af (by omega),?_⟩
 refine .inl ⟨af (by omega),?_⟩
 refine (aw hs).u ?_
 repeat (refine Or.inl (And.intro (af (by omega)) ?_))
 refine (lV i.an 15 1 (by unfold aP; omega) (by decide) (by decide)).u ?_
 refine⟨by decide,.inl ⟨af (by rw[r8]; omega),?_⟩⟩
 repeat (refine Or.inl (And.intro (af (by omega)) ?_))
 refine (lV i.an 0 8 (by unfold aP; omega) (by decide) (by decide)).u ?_
 refine ao ?_
 have eo:eH i (aq 12)=0 ||| B i.an 15 1 8 ||| B i.an 0 8 0:=rfl
 rw[eo]
 refine (show bits .or .u32 (aa i.an 15 1*Ev.aD .u32 8) (aa i.an 0 8)=_ from ?_)
 refine ((((tQ i.an 15 1 8 (by decide) (by decide))).or (wV i.an 0 8 (by decide)))).1.trans (congrArg (fun n:Nat=>(n:Int)) ?_)
 first
 | (simp only[Nat.or_zero,Nat.zero_or]; done)
 | (simp only[Nat.or_zero,Nat.zero_or]
    generalize B i.an 15 1 8=n0
    generalize B i.an 0 8 0=n1
    ac_rfl)
theorem EM (i:IN) (hs:ae i.form=13) (hr:aC i (cU 13)) (hg:i.an<=9223372036854775807):ah gT 178 [bX i] (.int .u32 ((eH i (aq 13):Nat):Int)):=by
 obtain⟨hf,h1,h2,h3,h4,h5,h6,h7,h8,h9,cY⟩:=hr
 have g0:=aA (r:=i.rd) h1
 have g1:=aA (r:=i.rn) h2
 have g2:=aA (r:=i.rm) h3
 have g3:=aA (r:=i.ra) h4
 have g4:i.av=0:=bO h7
 have g5:i.kind=0:=(bo rfl h9).1
 have g6:i.bG=0:=bO (bo rfl h9).2
 have g7:i.set=0:=h8.elim id fun e=>absurd (show false=true from e.2) Bool.false_ne_true
 have g8:i.cond=0:=h6.elim id fun e=>absurd (show false=true from e.1) Bool.false_ne_true
 clear h1 h2 h3 h4 h5 h6 h7 h8 h9 cY
 refine Spec.enter ar m1 100 Tryz.func178 rfl (by kernel_rfl) ?_
 refine .inl ⟨af (by omega),?_⟩
 refine .inl ⟨af (by omega),?_⟩
 refine .inl ⟨af (by omega),?_⟩
 refine (aw hs).u ?_
 exact ao rfl
theorem EN (i:IN) (hs:ae i.form=14) (hr:aC i (cU 14)) (hg:i.an<=9223372036854775807):ah gT 178 [bX i] (.int .u32 ((eH i (aq 14):Nat):Int)):=by
 obtain⟨hf,h1,h2,h3,h4,h5,h6,h7,h8,h9,cY⟩:=hr
 have g0:=aA (r:=i.rd) h1
 have g1:=aA (r:=i.rn) h2
 have g2:=aA (r:=i.rm) h3
 have g3:=aA (r:=i.ra) h4
 have g4:0<=i.av/\i.av<=255/\i.av % 1=0:=eR (s:=1) (by decide) h7
 have g5:i.kind=0:=(bo rfl h9).1
 have g6:i.bG=0:=bO (bo rfl h9).2
 have g7:i.set=0:=h8.elim id fun e=>absurd (show false=true from e.2) Bool.false_ne_true
 have g8:i.cond=0:=h6.elim id fun e=>absurd (show false=true from e.1) Bool.false_ne_true
 clear h1 h2 h3 h4 h5 h6 h7 h8 h9 cY
 refine Spec.enter ar m1 100 Tryz.func178 rfl (by kernel_rfl) ?_
 refine .inl ⟨af (by omega),?_⟩
 refine .inl ⟨af (by omega),?_⟩
 refine .inl ⟨af (by omega),?_⟩
 refine (aw hs).u ?_
 refine ao ?_
 have eo:eH i (aq 14)=0 ||| B i.av 0 8 0:=rfl
 rw[eo]
 refine (show i.av=_ from ?_)
 refine ((sU i.av 8 (by decide) (by omega))).1.trans (congrArg (fun n:Nat=>(n:Int)) ?_)
 first
 | (simp only[Nat.or_zero,Nat.zero_or]; done)
 | (simp only[Nat.or_zero,Nat.zero_or]
    generalize B i.av 0 8 0=n0
    ac_rfl)
theorem EO (i:IN) (hs:ae i.form=15) (hr:aC i (cU 15)) (hg:i.an<=9223372036854775807):ah gT 178 [bX i] (.int .u32 ((eH i (aq 15):Nat):Int)):=by
 obtain⟨hf,h1,h2,h3,h4,h5,h6,h7,h8,h9,cY⟩:=hr
 have g0:=aA (r:=i.rd) h1
 have g1:=aA (r:=i.rn) h2
 have g2:=aA (r:=i.rm) h3
 have g3:=aA (r:=i.ra) h4
 have g4:-256<=i.av/\i.av<=254/\i.av % 2=0:=eR (s:=2) (by decide) h7
 have g5:i.kind=0:=(bo rfl h9).1
 have g6:i.bG=0:=bO (bo rfl h9).2
 have g7:i.set=0:=h8.elim id fun e=>absurd (show false=true from e.2) Bool.false_ne_true
 have g8:0<=i.cond/\i.cond<=13:=by rcases h6 with h6|h6<;>omega
 clear h1 h2 h3 h4 h5 h6 h7 h8 h9 cY
 have b0:=ab i.av 1 8
 refine Spec.enter ar m1 100 Tryz.func178 rfl (by kernel_rfl) ?_
 refine .inr ?_
 refine .inl ⟨af (by omega),?_⟩
 refine .inl ⟨af (by omega),?_⟩
 refine (aw hs).u ?_
 refine .inl ⟨af (by omega),?_⟩
 refine⟨by decide,.inl ⟨af (by rw[r8]; omega),?_⟩⟩
 refine (qI i.av 1 8 (by omega) (by decide) (by decide) (by decide)).u ?_
 refine ao ?_
 have eo:eH i (aq 15)=0 ||| B i.cond 0 4 8 ||| B i.av 1 8 0:=rfl
 rw[eo]
 refine (show bits .or .u32 (i.cond*Ev.aD .u32 8) (aa i.av 1 8)=_ from ?_)
 refine ((((pH i.cond 4 8 (by decide) (by decide) (by omega))).or (wV i.av 1 8 (by decide)))).1.trans (congrArg (fun n:Nat=>(n:Int)) ?_)
 first
 | (simp only[Nat.or_zero,Nat.zero_or]; done)
 | (simp only[Nat.or_zero,Nat.zero_or]
    generalize B i.cond 0 4 8=n0
    generalize B i.av 1 8 0=n1
    ac_rfl)
theorem EP (i:IN) (hs:ae i.form=16) (hr:aC i (cU 16)) (hg:i.an<=9223372036854775807):ah gT 178 [bX i] (.int .u32 ((eH i (aq 16):Nat):Int)):=by
 obtain⟨hf,h1,h2,h3,h4,h5,h6,h7,h8,h9,cY⟩:=hr
 have g0:=aA (r:=i.rd) h1
 have g1:=aA (r:=i.rn) h2
 have g2:=aA (r:=i.rm) h3
 have g3:=aA (r:=i.ra) h4
 have g4:-2048<=i.av/\i.av<=2046/\i.av % 2=0:=eR (s:=2) (by decide) h7
 have g5:i.kind=0:=(bo rfl h9).1
 have g6:i.bG=0:=bO (bo rfl h9).2
 have g7:i.set=0:=h8.elim id fun e=>absurd (show false=true from e.2) Bool.false_ne_true
 have g8:i.cond=0:=h6.elim id fun e=>absurd (show false=true from e.1) Bool.false_ne_true
 clear h1 h2 h3 h4 h5 h6 h7 h8 h9 cY
 have b0:=ab i.av 1 11
 refine Spec.enter ar m1 100 Tryz.func178 rfl (by kernel_rfl) ?_
 refine .inr ?_
 refine .inl ⟨af (by omega),?_⟩
 refine .inl ⟨af (by omega),?_⟩
 refine (aw hs).u ?_
 refine (qI i.av 1 11 (by omega) (by decide) (by decide) (by decide)).u ?_
 refine ao ?_
 have eo:eH i (aq 16)=0 ||| B i.av 1 11 0:=rfl
 rw[eo]
 refine (show aa i.av 1 11=_ from ?_)
 refine ((wV i.av 1 11 (by decide))).1.trans (congrArg (fun n:Nat=>(n:Int)) ?_)
 first
 | (simp only[Nat.or_zero,Nat.zero_or]; done)
 | (simp only[Nat.or_zero,Nat.zero_or]
    generalize B i.av 1 11 0=n0
    ac_rfl)
end Go.Proofs.YtnbngokbamifbaaGreatDoor.Pw

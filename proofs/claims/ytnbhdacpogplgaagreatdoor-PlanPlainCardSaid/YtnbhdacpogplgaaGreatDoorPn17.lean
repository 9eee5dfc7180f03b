/- What this claim is proved with: no condition. -/
import Derived.Test.YtnbhdacpogplgaaGreatDoorPn16
set_option maxRecDepth 100000
set_option maxHeartbeats 8000000
set_option linter.unusedVariables false
set_option linter.unusedSimpArgs false
namespace Go.Proofs.YtnbhdacpogplgaaGreatDoor.Pw
open Go Go.RowKit
theorem Aq (i:IN) (hs:af i.form=1) (hr:aD i (cw 1)) (hg:i.aq<=9223372036854775807):ai gT 104 [bJ i] (.int .u32 ((cK i (ao 1):Nat):Int)):=by
 obtain⟨hf,h1,h2,h3,h4,h5,h6,h7,h8,h9,bI⟩:=hr
 have g0:=cu (r:=i.rd) h1
 have g1:=ar (r:=i.rn) h2
 have g2:=cu (r:=i.rm) h3
 have g3:=ar (r:=i.ra) h4
 have g4:0<=i.av/\i.av<=32/\i.av % 1=0:=cJ (s:=1) (by decide) h7
 have g5:i.kind=0:=(aJ rfl h9).1
 have g6:i.ba=0:=aW (aJ rfl h9).2
 have g7:i.set=0:=h8.elim id fun e=>absurd (show false=true from e.2) Bool.false_ne_true
 have g8:i.cond=0:=h6.elim id fun e=>absurd (show false=true from e.1) Bool.false_ne_true
 clear h1 h2 h3 h4 h5 h6 h7 h8 h9 bI
 have b0:=ae i.av 0 5
 refine Spec.enter aw iQ 100 Tryz.func104 rfl (by kernel_rfl) ?_
 refine .inl ⟨ah (by omega),?_⟩
 refine .inl ⟨ah (by omega),?_⟩
 refine .inl ⟨ah (by omega),?_⟩
 refine (ak hs).u ?_
 refine (ic i.av 0 5 (by unfold cb; omega) (by decide) (by decide)).u ?_
 refine⟨by decide,.inl ⟨ah (by rw[r6]; omega),?_⟩⟩
 refine⟨by decide,.inl ⟨ah (by rw[r3]; omega),?_⟩⟩
 refine al ?_
 have eo:cK i (ao 1)=0 ||| B i.av 0 5 6 ||| B i.rm 0 3 3 ||| B i.rd 0 3 0:=rfl
 rw[eo]
 refine (show bits .or .u32 (bits .or .u32 (aa i.av 0 5*Ev.aC .u32 6) (i.rm*Ev.aC .u32 3)) (i.rd)=_ from ?_)
 refine ((((((nO i.av 0 5 6 (by decide) (by decide))).or (kR i.rm 3 3 (by decide) (by decide) (by omega)))).or (m6 i.rd 3 (by decide) (by omega)))).1.trans (congrArg (fun n:Nat=>(n:Int)) ?_)
 first
 | (simp only[Nat.or_zero,Nat.zero_or]; done)
 | (simp only[Nat.or_zero,Nat.zero_or]
    generalize B i.av 0 5 6=n0
    generalize B i.rm 0 3 3=n1
    generalize B i.rd 0 3 0=n2
    ac_rfl)
theorem Ar (i:IN) (hs:af i.form=2) (hr:aD i (cw 2)) (hg:i.aq<=9223372036854775807):ai gT 104 [bJ i] (.int .u32 ((cK i (ao 2):Nat):Int)):=by
 obtain⟨hf,h1,h2,h3,h4,h5,h6,h7,h8,h9,bI⟩:=hr
 have g0:=cu (r:=i.rd) h1
 have g1:=cu (r:=i.rn) h2
 have g2:=cu (r:=i.rm) h3
 have g3:=ar (r:=i.ra) h4
 have g4:i.av=0:=aW h7
 have g5:i.kind=0:=(aJ rfl h9).1
 have g6:i.ba=0:=aW (aJ rfl h9).2
 have g7:i.set=0:=h8.elim id fun e=>absurd (show false=true from e.2) Bool.false_ne_true
 have g8:i.cond=0:=h6.elim id fun e=>absurd (show false=true from e.1) Bool.false_ne_true
 clear h1 h2 h3 h4 h5 h6 h7 h8 h9 bI
 refine Spec.enter aw iQ 100 Tryz.func104 rfl (by kernel_rfl) ?_
 refine .inl ⟨ah (by omega),?_⟩
 refine .inl ⟨ah (by omega),?_⟩
 refine .inl ⟨ah (by omega),?_⟩
 refine (ak hs).u ?_
 refine (jB i i.rm 3 (by omega) (by omega) (by omega) (by decide)).u ?_
 refine al ?_
 have eo:cK i (ao 2)=0 ||| B i.rm 0 3 6 ||| B i.rn 0 3 3 ||| B i.rd 0 3 0:=rfl
 rw[eo]
 refine (show _=_ from congrArg (fun n:Nat=>(n:Int)) ?_)
 simp only[Nat.zero_or]
theorem As (i:IN) (hs:af i.form=3) (hr:aD i (cw 3)) (hg:i.aq<=9223372036854775807):ai gT 104 [bJ i] (.int .u32 ((cK i (ao 3):Nat):Int)):=by
 obtain⟨hf,h1,h2,h3,h4,h5,h6,h7,h8,h9,bI⟩:=hr
 have g0:=cu (r:=i.rd) h1
 have g1:=cu (r:=i.rn) h2
 have g2:=ar (r:=i.rm) h3
 have g3:=ar (r:=i.ra) h4
 have g4:0<=i.av/\i.av<=7/\i.av % 1=0:=cJ (s:=1) (by decide) h7
 have g5:i.kind=0:=(aJ rfl h9).1
 have g6:i.ba=0:=aW (aJ rfl h9).2
 have g7:i.set=0:=h8.elim id fun e=>absurd (show false=true from e.2) Bool.false_ne_true
 have g8:i.cond=0:=h6.elim id fun e=>absurd (show false=true from e.1) Bool.false_ne_true
 clear h1 h2 h3 h4 h5 h6 h7 h8 h9 bI
 refine Spec.enter aw iQ 100 Tryz.func104 rfl (by kernel_rfl) ?_
 refine .inl ⟨ah (by omega),?_⟩
 refine .inl ⟨ah (by omega),?_⟩
 refine .inl ⟨ah (by omega),?_⟩
 refine (ak hs).u ?_
 refine (jB i i.av 3 (by omega) (by omega) (by omega) (by decide)).u ?_
 refine al ?_
 have eo:cK i (ao 3)=0 ||| B i.av 0 3 6 ||| B i.rn 0 3 3 ||| B i.rd 0 3 0:=rfl
 rw[eo]
 refine (show _=_ from congrArg (fun n:Nat=>(n:Int)) ?_)
 simp only[Nat.zero_or]
theorem At (i:IN) (hs:af i.form=4) (hr:aD i (cw 4)) (hg:i.aq<=9223372036854775807):ai gT 104 [bJ i] (.int .u32 ((cK i (ao 4):Nat):Int)):=by
 obtain⟨hf,h1,h2,h3,h4,h5,h6,h7,h8,h9,bI⟩:=hr
 have g0:=cu (r:=i.rd) h1
 have g1:=ar (r:=i.rn) h2
 have g2:=ar (r:=i.rm) h3
 have g3:=ar (r:=i.ra) h4
 have g4:0<=i.av/\i.av<=255/\i.av % 1=0:=cJ (s:=1) (by decide) h7
 have g5:i.kind=0:=(aJ rfl h9).1
 have g6:i.ba=0:=aW (aJ rfl h9).2
 have g7:i.set=0:=h8.elim id fun e=>absurd (show false=true from e.2) Bool.false_ne_true
 have g8:i.cond=0:=h6.elim id fun e=>absurd (show false=true from e.1) Bool.false_ne_true
 clear h1 h2 h3 h4 h5 h6 h7 h8 h9 bI
 refine Spec.enter aw iQ 100 Tryz.func104 rfl (by kernel_rfl) ?_
 refine .inl ⟨ah (by omega),?_⟩
 refine .inl ⟨ah (by omega),?_⟩
 refine .inl ⟨ah (by omega),?_⟩
 refine (ak hs).u ?_
 refine⟨by decide,.inl ⟨ah (by rw[r8]; omega),?_⟩⟩
 refine al ?_
 have eo:cK i (ao 4)=0 ||| B i.rd 0 3 8 ||| B i.av 0 8 0:=rfl
 rw[eo]
 refine (show bits .or .u32 (i.rd*Ev.aC .u32 8) (i.av)=_ from ?_)
 refine ((((kR i.rd 3 8 (by decide) (by decide) (by omega))).or (m6 i.av 8 (by decide) (by omega)))).1.trans (congrArg (fun n:Nat=>(n:Int)) ?_)
 first
 | (simp only[Nat.or_zero,Nat.zero_or]; done)
 | (simp only[Nat.or_zero,Nat.zero_or]
    generalize B i.rd 0 3 8=n0
    generalize B i.av 0 8 0=n1
    ac_rfl)
theorem Au (i:IN) (hs:af i.form=5) (hr:aD i (cw 5)) (hg:i.aq<=9223372036854775807):ai gT 104 [bJ i] (.int .u32 ((cK i (ao 5):Nat):Int)):=by
 obtain⟨hf,h1,h2,h3,h4,h5,h6,h7,h8,h9,bI⟩:=hr
 have g0:=cu (r:=i.rd) h1
 have g1:=ar (r:=i.rn) h2
 have g2:=cu (r:=i.rm) h3
 have g3:=ar (r:=i.ra) h4
 have g4:i.av=0:=aW h7
 have g5:i.kind=0:=(aJ rfl h9).1
 have g6:i.ba=0:=aW (aJ rfl h9).2
 have g7:i.set=0:=h8.elim id fun e=>absurd (show false=true from e.2) Bool.false_ne_true
 have g8:i.cond=0:=h6.elim id fun e=>absurd (show false=true from e.1) Bool.false_ne_true
 clear h1 h2 h3 h4 h5 h6 h7 h8 h9 bI
 refine Spec.enter aw iQ 100 Tryz.func104 rfl (by kernel_rfl) ?_
 refine .inl ⟨ah (by omega),?_⟩
 refine .inl ⟨ah (by omega),?_⟩
 refine .inl ⟨ah (by omega),?_⟩
 refine (ak hs).u ?_
 refine⟨by decide,.inl ⟨ah (by rw[r3]; omega),?_⟩⟩
 refine al ?_
 have eo:cK i (ao 5)=0 ||| B i.rm 0 3 3 ||| B i.rd 0 3 0:=rfl
 rw[eo]
 refine (show bits .or .u32 (i.rm*Ev.aC .u32 3) (i.rd)=_ from ?_)
 refine ((((kR i.rm 3 3 (by decide) (by decide) (by omega))).or (m6 i.rd 3 (by decide) (by omega)))).1.trans (congrArg (fun n:Nat=>(n:Int)) ?_)
 first
 | (simp only[Nat.or_zero,Nat.zero_or]; done)
 | (simp only[Nat.or_zero,Nat.zero_or]
    generalize B i.rm 0 3 3=n0
    generalize B i.rd 0 3 0=n1
    ac_rfl)
theorem Av (i:IN) (hs:af i.form=6) (hr:aD i (cw 6)) (hg:i.aq<=9223372036854775807):ai gT 104 [bJ i] (.int .u32 ((cK i (ao 6):Nat):Int)):=by
 obtain⟨hf,h1,h2,h3,h4,h5,h6,h7,h8,h9,bI⟩:=hr
 have g0:=iX (r:=i.rd) h1
 have g1:=ar (r:=i.rn) h2
 have g2:=iX (r:=i.rm) h3
 have g3:=ar (r:=i.ra) h4
 have g4:i.av=0:=aW h7
 have g5:i.kind=0:=(aJ rfl h9).1
 have g6:i.ba=0:=aW (aJ rfl h9).2
 have g7:i.set=0:=h8.elim id fun e=>absurd (show false=true from e.2) Bool.false_ne_true
 have g8:i.cond=0:=h6.elim id fun e=>absurd (show false=true from e.1) Bool.false_ne_true
 clear h1 h2 h3 h4 h5 h6 h7 h8 h9 bI
 have b0:=ae i.rd 3 1
 have b1:=ae i.rd 0 3
 refine Spec.enter aw iQ 100 Tryz.func104 rfl (by kernel_rfl) ?_
 refine .inl ⟨ah (by omega),?_⟩
 refine .inl ⟨ah (by omega),?_⟩
 refine .inl ⟨ah (by omega),?_⟩
 refine (ak hs).u ?_
 refine (ic i.rd 3 1 (by unfold cb; omega) (by decide) (by decide)).u ?_
 refine⟨by decide,.inl ⟨ah (by rw[r7]; omega),?_⟩⟩
 refine⟨by decide,.inl ⟨ah (by rw[r3]; omega),?_⟩⟩
 refine (ic i.rd 0 3 (by unfold cb; omega) (by decide) (by decide)).u ?_
 refine al ?_
 have eo:cK i (ao 6)=0 ||| B i.rd 3 1 7 ||| B i.rm 0 4 3 ||| B i.rd 0 3 0:=rfl
 rw[eo]
 refine (show bits .or .u32 (bits .or .u32 (aa i.rd 3 1*Ev.aC .u32 7) (i.rm*Ev.aC .u32 3)) (aa i.rd 0 3)=_ from ?_)
 refine ((((((nO i.rd 3 1 7 (by decide) (by decide))).or (kR i.rm 4 3 (by decide) (by decide) (by omega)))).or (qb i.rd 0 3 (by decide)))).1.trans (congrArg (fun n:Nat=>(n:Int)) ?_)
 first
 | (simp only[Nat.or_zero,Nat.zero_or]; done)
 | (simp only[Nat.or_zero,Nat.zero_or]
    generalize B i.rd 3 1 7=n0
    generalize B i.rm 0 4 3=n1
    generalize B i.rd 0 3 0=n2
    ac_rfl)
theorem Aw (i:IN) (hs:af i.form=7) (hr:aD i (cw 7)) (hg:i.aq<=9223372036854775807):ai gT 104 [bJ i] (.int .u32 ((cK i (ao 7):Nat):Int)):=by
 obtain⟨hf,h1,h2,h3,h4,h5,h6,h7,h8,h9,bI⟩:=hr
 have g0:=ar (r:=i.rd) h1
 have g1:=ar (r:=i.rn) h2
 have g2:=iX (r:=i.rm) h3
 have g3:=ar (r:=i.ra) h4
 have g4:i.av=0:=aW h7
 have g5:i.kind=0:=(aJ rfl h9).1
 have g6:i.ba=0:=aW (aJ rfl h9).2
 have g7:i.set=0:=h8.elim id fun e=>absurd (show false=true from e.2) Bool.false_ne_true
 have g8:i.cond=0:=h6.elim id fun e=>absurd (show false=true from e.1) Bool.false_ne_true
 clear h1 h2 h3 h4 h5 h6 h7 h8 h9 bI
 refine Spec.enter aw iQ 100 Tryz.func104 rfl (by kernel_rfl) ?_
 refine .inl ⟨ah (by omega),?_⟩
 refine .inl ⟨ah (by omega),?_⟩
 refine .inl ⟨ah (by omega),?_⟩
 refine (ak hs).u ?_
 refine⟨by decide,.inl ⟨ah (by rw[r3]; omega),?_⟩⟩
 refine al ?_
 have eo:cK i (ao 7)=0 ||| B i.rm 0 4 3:=rfl
 rw[eo]
 refine (show i.rm*Ev.aC .u32 3=_ from ?_)
 refine ((kR i.rm 4 3 (by decide) (by decide) (by omega))).1.trans (congrArg (fun n:Nat=>(n:Int)) ?_)
 first
 | (simp only[Nat.or_zero,Nat.zero_or]; done)
 | (simp only[Nat.or_zero,Nat.zero_or]
    generalize B i.rm 0 4 3=n0
    ac_rfl)
theorem Ax (i:IN) (hs:af i.form=8) (hr:aD i (cw 8)) (hg:i.aq<=9223372036854775807):ai gT 104 [bJ i] (.int .u32 ((cK i (ao 8):Nat):Int)):=by
 obtain⟨hf,h1,h2,h3,h4,h5,h6,h7,h8,h9,bI⟩:=hr
 have g0:=cu (r:=i.rd) h1
 have g1:=ar (r:=i.rn) h2
 have g2:=ar (r:=i.rm) h3
 have g3:=ar (r:=i.ra) h4
 have g4:0<=i.av/\i.av<=1020/\i.av % 4=0:=cJ (s:=4) (by decide) h7
 have g5:i.kind=0:=(aJ rfl h9).1
 have g6:i.ba=0:=aW (aJ rfl h9).2
 have g7:i.set=0:=h8.elim id fun e=>absurd (show false=true from e.2) Bool.false_ne_true
 have g8:i.cond=0:=h6.elim id fun e=>absurd (show false=true from e.1) Bool.false_ne_true
 clear h1 h2 h3 h4 h5 h6 h7 h8 h9 bI
 refine Spec.enter aw iQ 100 Tryz.func104 rfl (by kernel_rfl) ?_
 refine .inl ⟨ah (by omega),?_⟩
 refine .inl ⟨ah (by omega),?_⟩
 refine .inl ⟨ah (by omega),?_⟩
 refine (ak hs).u ?_
 refine⟨by decide,.inl ⟨ah (by rw[r8]; omega),?_⟩⟩
 refine⟨by decide,.inl ⟨by omega,by first|exact (show (_:Int)<=4294967295 by omega)|omega,by decide,?_⟩⟩
 refine al ?_
 have eo:cK i (ao 8)=0 ||| B i.rd 0 3 8 ||| B i.av 2 8 0:=rfl
 rw[eo]
 refine (show bits .or .u32 (i.rd*Ev.aC .u32 8) (i.av / 4)=_ from ?_)
 refine ((((kR i.rd 3 8 (by decide) (by decide) (by omega))).or (TG i.av 8 (by decide) (by omega) (by omega)))).1.trans (congrArg (fun n:Nat=>(n:Int)) ?_)
 first
 | (simp only[Nat.or_zero,Nat.zero_or]; done)
 | (simp only[Nat.or_zero,Nat.zero_or]
    generalize B i.rd 0 3 8=n0
    generalize B i.av 2 8 0=n1
    ac_rfl)
theorem Ay (i:IN) (hs:af i.form=9) (hr:aD i (cw 9)) (hg:i.aq<=9223372036854775807):ai gT 104 [bJ i] (.int .u32 ((cK i (ao 9):Nat):Int)):=by
 obtain⟨hf,h1,h2,h3,h4,h5,h6,h7,h8,h9,bI⟩:=hr
 have g0:=cu (r:=i.rd) h1
 have g1:=cu (r:=i.rn) h2
 have g2:=ar (r:=i.rm) h3
 have g3:=ar (r:=i.ra) h4
 have g4:0<=i.av/\i.av<=124/\i.av % 4=0:=cJ (s:=4) (by decide) h7
 have g5:i.kind=0:=(aJ rfl h9).1
 have g6:i.ba=0:=aW (aJ rfl h9).2
 have g7:i.set=0:=h8.elim id fun e=>absurd (show false=true from e.2) Bool.false_ne_true
 have g8:i.cond=0:=h6.elim id fun e=>absurd (show false=true from e.1) Bool.false_ne_true
 clear h1 h2 h3 h4 h5 h6 h7 h8 h9 bI
 refine Spec.enter aw iQ 100 Tryz.func104 rfl (by kernel_rfl) ?_
 refine .inl ⟨ah (by omega),?_⟩
 refine .inl ⟨ah (by omega),?_⟩
 refine .inl ⟨ah (by omega),?_⟩
 refine (ak hs).u ?_
 refine⟨by decide,.inl ⟨by omega,by first|exact (show (_:Int)<=4294967295 by omega)|omega,by decide,?_⟩⟩
 refine (jB i (i.av / 4) 5 (by omega) (by omega) (by omega) (by decide)).u ?_
 refine al ?_
 have eo:cK i (ao 9)=0 ||| B i.av 2 5 6 ||| B i.rn 0 3 3 ||| B i.rd 0 3 0:=rfl
 rw[eo]
 refine (show _=_ from congrArg (fun n:Nat=>(n:Int)) ?_)
 rw[EZ (by omega)]; simp only[Nat.zero_or]
theorem xo (i:IN) (hs:af i.form=10) (hr:aD i (cw 10)) (hg:i.aq<=9223372036854775807):ai gT 104 [bJ i] (.int .u32 ((cK i (ao 10):Nat):Int)):=by
 obtain⟨hf,h1,h2,h3,h4,h5,h6,h7,h8,h9,bI⟩:=hr
 have g0:=ar (r:=i.rd) h1
 have g1:=ar (r:=i.rn) h2
 have g2:=ar (r:=i.rm) h3
 have g3:=ar (r:=i.ra) h4
 have g4:0<=i.av/\i.av<=508/\i.av % 4=0:=cJ (s:=4) (by decide) h7
 have g5:i.kind=0:=(aJ rfl h9).1
 have g6:i.ba=0:=aW (aJ rfl h9).2
 have g7:i.set=0:=h8.elim id fun e=>absurd (show false=true from e.2) Bool.false_ne_true
 have g8:i.cond=0:=h6.elim id fun e=>absurd (show false=true from e.1) Bool.false_ne_true
 clear h1 h2 h3 h4 h5 h6 h7 h8 h9 bI
 refine Spec.enter aw iQ 100 Tryz.func104 rfl (by kernel_rfl) ?_
 refine .inl ⟨ah (by omega),?_⟩
 refine .inl ⟨ah (by omega),?_⟩
 refine .inl ⟨ah (by omega),?_⟩
 refine (ak hs).u ?_
 refine⟨by decide,.inl ⟨by omega,by first|exact (show (_:Int)<=4294967295 by omega)|omega,by decide,?_⟩⟩
 refine al ?_
 have eo:cK i (ao 10)=0 ||| B i.av 2 7 0:=rfl
 rw[eo]
 refine (show i.av / 4=_ from ?_)
 refine ((TG i.av 7 (by decide) (by omega) (by omega))).1.trans (congrArg (fun n:Nat=>(n:Int)) ?_)
 first
 | (simp only[Nat.or_zero,Nat.zero_or]; done)
 | (simp only[Nat.or_zero,Nat.zero_or]
    generalize B i.av 2 7 0=n0
    ac_rfl)
theorem xp (i:IN) (hs:af i.form=11) (hr:aD i (cw 11)) (hg:i.aq<=9223372036854775807):ai gT 104 [bJ i] (.int .u32 ((cK i (ao 11):Nat):Int)):=by
 obtain⟨hf,h1,h2,h3,h4,h5,h6,h7,h8,h9,bI⟩:=hr
 have g0:=ar (r:=i.rd) h1
 have g1:=ar (r:=i.rn) h2
 have g2:=ar (r:=i.rm) h3
 have g3:=ar (r:=i.ra) h4
 have g4:i.av=0:=aW h7
 have g5:i.kind=0:=(aJ rfl h9).1
 have g6:i.ba=0:=aW (aJ rfl h9).2
 have g7:i.set=0:=h8.elim id fun e=>absurd (show false=true from e.2) Bool.false_ne_true
 have g8:i.cond=0:=h6.elim id fun e=>absurd (show false=true from e.1) Bool.false_ne_true
 have g9:0 < i.aq/\i.aq / 16384 % 2*16384+i.aq % 256=i.aq:=vp 14 (by decide) (by decide) rfl h5 hg
 clear h1 h2 h3 h4 h5 h6 h7 h8 h9 bI
 have b0:=ae i.aq 14 1
 have b1:=ae i.aq 0 8
 refine Spec.enter aw iQ 100 Tryz.func104 rfl (by kernel_rfl) ?_
 refine .inl ⟨ah (by omega),?_⟩
 refine .inl ⟨ah (by omega),?_⟩
 refine .inl ⟨ah (by omega),?_⟩
 refine (ak hs).u ?_
 repeat (refine Or.inl (And.intro (ah (by omega)) ?_))
 refine (ic i.aq 14 1 (by unfold cb; omega) (by decide) (by decide)).u ?_
 refine⟨by decide,.inl ⟨ah (by rw[r8]; omega),?_⟩⟩
 repeat (refine Or.inl (And.intro (ah (by omega)) ?_))
 refine (ic i.aq 0 8 (by unfold cb; omega) (by decide) (by decide)).u ?_
 refine al ?_
 have eo:cK i (ao 11)=0 ||| B i.aq 14 1 8 ||| B i.aq 0 8 0:=rfl
 rw[eo]
 refine (show bits .or .u32 (aa i.aq 14 1*Ev.aC .u32 8) (aa i.aq 0 8)=_ from ?_)
 refine ((((nO i.aq 14 1 8 (by decide) (by decide))).or (qb i.aq 0 8 (by decide)))).1.trans (congrArg (fun n:Nat=>(n:Int)) ?_)
 first
 | (simp only[Nat.or_zero,Nat.zero_or]; done)
 | (simp only[Nat.or_zero,Nat.zero_or]
    generalize B i.aq 14 1 8=n0
    generalize B i.aq 0 8 0=n1
    ac_rfl)
theorem xq (i:IN) (hs:af i.form=12) (hr:aD i (cw 12)) (hg:i.aq<=9223372036854775807):ai gT 104 [bJ i] (.int .u32 ((cK i (ao 12):Nat):Int)):=by
 obtain⟨hf,h1,h2,h3,h4,h5,h6,h7,h8,h9,bI⟩:=hr
 have g0:=ar (r:=i.rd) h1
 have g1:=ar (r:=i.rn) h2
 have g2:=ar (r:=i.rm) h3
 have g3:=ar (r:=i.ra) h4
 have g4:i.av=0:=aW h7
 have g5:i.kind=0:=(aJ rfl h9).1
 have g6:i.ba=0:=aW (aJ rfl h9).2
 have g7:i.set=0:=h8.elim id fun e=>absurd (show false=true from e.2) Bool.false_ne_true
 have g8:i.cond=0:=h6.elim id fun e=>absurd (show false=true from e.1) Bool.false_ne_true
 have g9:0 < i.aq/\i.aq / 32768 % 2*32768+i.aq % 256=i.aq:=vp 15 (by decide) (by decide) rfl h5 hg
 clear h1 h2 h3 h4 h5 h6 h7 h8 h9 bI
 have b0:=ae i.aq 15 1
 have b1:=ae i.aq 0 8
 refine Spec.enter aw iQ 100 Tryz.func104 rfl (by kernel_rfl) ?_
 refine .inl ⟨ah (by omega),?_⟩
 refine .inl ⟨ah (by omega),?_⟩
 refine .inl ⟨ah (by omega),?_⟩
 refine (ak hs).u ?_
 repeat (refine Or.inl (And.intro (ah (by omega)) ?_))
 refine (ic i.aq 15 1 (by unfold cb; omega) (by decide) (by decide)).u ?_
 refine⟨by decide,.inl ⟨ah (by rw[r8]; omega),?_⟩⟩
 repeat (refine Or.inl (And.intro (ah (by omega)) ?_))
 refine (ic i.aq 0 8 (by unfold cb; omega) (by decide) (by decide)).u ?_
 refine al ?_
 have eo:cK i (ao 12)=0 ||| B i.aq 15 1 8 ||| B i.aq 0 8 0:=rfl
 rw[eo]
 refine (show bits .or .u32 (aa i.aq 15 1*Ev.aC .u32 8) (aa i.aq 0 8)=_ from ?_)
 refine ((((nO i.aq 15 1 8 (by decide) (by decide))).or (qb i.aq 0 8 (by decide)))).1.trans (congrArg (fun n:Nat=>(n:Int)) ?_)
 first
 | (simp only[Nat.or_zero,Nat.zero_or]; done)
 | (simp only[Nat.or_zero,Nat.zero_or]
    generalize B i.aq 15 1 8=n0
    generalize B i.aq 0 8 0=n1
    ac_rfl)
theorem xr (i:IN) (hs:af i.form=13) (hr:aD i (cw 13)) (hg:i.aq<=9223372036854775807):ai gT 104 [bJ i] (.int .u32 ((cK i (ao 13):Nat):Int)):=by
 obtain⟨hf,h1,h2,h3,h4,h5,h6,h7,h8,h9,bI⟩:=hr
 have g0:=ar (r:=i.rd) h1
 have g1:=ar (r:=i.rn) h2
 have g2:=ar (r:=i.rm) h3
 have g3:=ar (r:=i.ra) h4
 have g4:i.av=0:=aW h7
 have g5:i.kind=0:=(aJ rfl h9).1
 have g6:i.ba=0:=aW (aJ rfl h9).2
 have g7:i.set=0:=h8.elim id fun e=>absurd (show false=true from e.2) Bool.false_ne_true
 have g8:i.cond=0:=h6.elim id fun e=>absurd (show false=true from e.1) Bool.false_ne_true
 clear h1 h2 h3 h4 h5 h6 h7 h8 h9 bI
 refine Spec.enter aw iQ 100 Tryz.func104 rfl (by kernel_rfl) ?_
 refine .inl ⟨ah (by omega),?_⟩
 refine .inl ⟨ah (by omega),?_⟩
 refine .inl ⟨ah (by omega),?_⟩
 refine (ak hs).u ?_
 exact al rfl
theorem xu (i:IN) (hs:af i.form=14) (hr:aD i (cw 14)) (hg:i.aq<=9223372036854775807):ai gT 104 [bJ i] (.int .u32 ((cK i (ao 14):Nat):Int)):=by
 obtain⟨hf,h1,h2,h3,h4,h5,h6,h7,h8,h9,bI⟩:=hr
 have g0:=ar (r:=i.rd) h1
 have g1:=ar (r:=i.rn) h2
 have g2:=ar (r:=i.rm) h3
 have g3:=ar (r:=i.ra) h4
 have g4:0<=i.av/\i.av<=255/\i.av % 1=0:=cJ (s:=1) (by decide) h7
 have g5:i.kind=0:=(aJ rfl h9).1
 have g6:i.ba=0:=aW (aJ rfl h9).2
 have g7:i.set=0:=h8.elim id fun e=>absurd (show false=true from e.2) Bool.false_ne_true
 have g8:i.cond=0:=h6.elim id fun e=>absurd (show false=true from e.1) Bool.false_ne_true
 clear h1 h2 h3 h4 h5 h6 h7 h8 h9 bI
 refine Spec.enter aw iQ 100 Tryz.func104 rfl (by kernel_rfl) ?_
 refine .inl ⟨ah (by omega),?_⟩
 refine .inl ⟨ah (by omega),?_⟩
 refine .inl ⟨ah (by omega),?_⟩
 refine (ak hs).u ?_
 refine al ?_
 have eo:cK i (ao 14)=0 ||| B i.av 0 8 0:=rfl
 rw[eo]
 refine (show i.av=_ from ?_)
 refine ((m6 i.av 8 (by decide) (by omega))).1.trans (congrArg (fun n:Nat=>(n:Int)) ?_)
 first
 | (simp only[Nat.or_zero,Nat.zero_or]; done)
 | (simp only[Nat.or_zero,Nat.zero_or]
    generalize B i.av 0 8 0=n0
    ac_rfl)
theorem xv (i:IN) (hs:af i.form=15) (hr:aD i (cw 15)) (hg:i.aq<=9223372036854775807):ai gT 104 [bJ i] (.int .u32 ((cK i (ao 15):Nat):Int)):=by
 obtain⟨hf,h1,h2,h3,h4,h5,h6,h7,h8,h9,bI⟩:=hr
 have g0:=ar (r:=i.rd) h1
 have g1:=ar (r:=i.rn) h2
 have g2:=ar (r:=i.rm) h3
 have g3:=ar (r:=i.ra) h4
 have g4:-256<=i.av/\i.av<=254/\i.av % 2=0:=cJ (s:=2) (by decide) h7
 have g5:i.kind=0:=(aJ rfl h9).1
 have g6:i.ba=0:=aW (aJ rfl h9).2
 have g7:i.set=0:=h8.elim id fun e=>absurd (show false=true from e.2) Bool.false_ne_true
 have g8:0<=i.cond/\i.cond<=13:=by rcases h6 with h6|h6<;>omega
 clear h1 h2 h3 h4 h5 h6 h7 h8 h9 bI
 have b0:=ae i.av 1 8
 refine Spec.enter aw iQ 100 Tryz.func104 rfl (by kernel_rfl) ?_
 refine .inr ?_
 refine .inl ⟨ah (by omega),?_⟩
 refine .inl ⟨ah (by omega),?_⟩
 refine (ak hs).u ?_
 refine .inl ⟨ah (by omega),?_⟩
 refine⟨by decide,.inl ⟨ah (by rw[r8]; omega),?_⟩⟩
 refine (lQ i.av 1 8 (by omega) (by decide) (by decide) (by decide)).u ?_
 refine al ?_
 have eo:cK i (ao 15)=0 ||| B i.cond 0 4 8 ||| B i.av 1 8 0:=rfl
 rw[eo]
 refine (show bits .or .u32 (i.cond*Ev.aC .u32 8) (aa i.av 1 8)=_ from ?_)
 refine ((((kR i.cond 4 8 (by decide) (by decide) (by omega))).or (qb i.av 1 8 (by decide)))).1.trans (congrArg (fun n:Nat=>(n:Int)) ?_)
 first
 | (simp only[Nat.or_zero,Nat.zero_or]; done)
 | (simp only[Nat.or_zero,Nat.zero_or]
    generalize B i.cond 0 4 8=n0
    generalize B i.av 1 8 0=n1
    ac_rfl)
theorem xw (i:IN) (hs:af i.form=16) (hr:aD i (cw 16)) (hg:i.aq<=9223372036854775807):ai gT 104 [bJ i] (.int .u32 ((cK i (ao 16):Nat):Int)):=by
 obtain⟨hf,h1,h2,h3,h4,h5,h6,h7,h8,h9,bI⟩:=hr
 have g0:=ar (r:=i.rd) h1
 have g1:=ar (r:=i.rn) h2
 have g2:=ar (r:=i.rm) h3
 have g3:=ar (r:=i.ra) h4
 have g4:-2048<=i.av/\i.av<=2046/\i.av % 2=0:=cJ (s:=2) (by decide) h7
 have g5:i.kind=0:=(aJ rfl h9).1
 have g6:i.ba=0:=aW (aJ rfl h9).2
 have g7:i.set=0:=h8.elim id fun e=>absurd (show false=true from e.2) Bool.false_ne_true
 have g8:i.cond=0:=h6.elim id fun e=>absurd (show false=true from e.1) Bool.false_ne_true
 clear h1 h2 h3 h4 h5 h6 h7 h8 h9 bI
 have b0:=ae i.av 1 11
 refine Spec.enter aw iQ 100 Tryz.func104 rfl (by kernel_rfl) ?_
 refine .inr ?_
 refine .inl ⟨ah (by omega),?_⟩
 refine .inl ⟨ah (by omega),?_⟩
 refine (ak hs).u ?_
 refine (lQ i.av 1 11 (by omega) (by decide) (by decide) (by decide)).u ?_
 refine al ?_
 have eo:cK i (ao 16)=0 ||| B i.av 1 11 0:=rfl
 rw[eo]
 refine (show aa i.av 1 11=_ from ?_)
 refine ((qb i.av 1 11 (by decide))).1.trans (congrArg (fun n:Nat=>(n:Int)) ?_)
 first
 | (simp only[Nat.or_zero,Nat.zero_or]; done)
 | (simp only[Nat.or_zero,Nat.zero_or]
    generalize B i.av 1 11 0=n0
    ac_rfl)
end Go.Proofs.YtnbhdacpogplgaaGreatDoor.Pw

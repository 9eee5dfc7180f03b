/- What this claim is proved with: no condition. -/
import Derived.Test.YtnbhdacpogplgaaGreatDoorPn16
set_option maxRecDepth 100000
set_option maxHeartbeats 8000000
set_option linter.unusedVariables false
set_option linter.unusedSimpArgs false
namespace Go.Proofs.YtnbhdacpogplgaaGreatDoor.Pw
open Go Go.RowKit
theorem Df (i:IN) (hs:af i.form=17) (hr:aD i (cw 17)) (hg:i.aq<=9223372036854775807):ai gT 103 [bJ i] (.int .u32 ((cK i (ao 17):Nat):Int)):=by
 obtain⟨hf,h1,h2,h3,h4,h5,h6,h7,h8,h9,bI⟩:=hr
 have g0:=aQ (r:=i.rd) h1
 have g1:=ar (r:=i.rn) h2
 have g2:=ar (r:=i.rm) h3
 have g3:=ar (r:=i.ra) h4
 have g4:0<=i.av/\i.av<=65535/\i.av % 1=0:=cJ (s:=1) (by decide) h7
 have g5:i.kind=0:=(aJ rfl h9).1
 have g6:i.ba=0:=aW (aJ rfl h9).2
 have g7:i.set=0:=h8.elim id fun e=>absurd (show false=true from e.2) Bool.false_ne_true
 have g8:i.cond=0:=h6.elim id fun e=>absurd (show false=true from e.1) Bool.false_ne_true
 clear h1 h2 h3 h4 h5 h6 h7 h8 h9 bI
 refine Spec.enter aw gH 100 Tryz.func103 rfl (by kernel_rfl) ?_
 refine .inl ⟨ah (by omega),?_⟩
 refine .inl ⟨ah (by omega),?_⟩
 refine (ak hs).u ?_
 refine (bP i (by omega) (by omega) (by omega) (by omega) (by omega)).u ?_
 refine (dS i.av (by unfold cb; omega)).u ?_
 refine al ?_
 have eo:cK i (ao 17)=0 ||| B i.av 11 1 26 ||| B i.av 12 4 16 ||| B i.av 8 3 12 ||| B i.av 0 8 0 ||| B i.rd 0 4 8:=rfl
 rw[eo]
 refine (show bits .or .u32 (((B i.set 0 1 20 ||| B i.rn 0 4 16 ||| B i.ra 0 4 12 ||| B i.rd 0 4 8 ||| B i.rm 0 4 0:Nat):Int)) (((B i.av 11 1 26 ||| B i.av 12 4 16 ||| B i.av 8 3 12 ||| B i.av 0 8 0:Nat):Int))=_ from ?_)
 refine ((((de i)).or (ib i.av))).1.trans (congrArg (fun n:Nat=>(n:Int)) ?_)
 first
 | (simp only[dQ g1,dQ g2,dQ g3,dQ g7,Nat.or_zero,Nat.zero_or]; done)
 | (simp only[dQ g1,dQ g2,dQ g3,dQ g7,Nat.or_zero,Nat.zero_or]
    generalize B i.av 11 1 26=n0
    generalize B i.av 12 4 16=n1
    generalize B i.av 8 3 12=n2
    generalize B i.av 0 8 0=n3
    generalize B i.rd 0 4 8=n4
    ac_rfl)
theorem Dg (i:IN) (hs:af i.form=18) (hr:aD i (cw 18)) (hg:i.aq<=9223372036854775807):ai gT 103 [bJ i] (.int .u32 ((cK i (ao 18):Nat):Int)):=by
 obtain⟨hf,h1,h2,h3,h4,h5,h6,h7,h8,h9,bI⟩:=hr
 have g0:=aQ (r:=i.rd) h1
 have g1:=aQ (r:=i.rn) h2
 have g2:=ar (r:=i.rm) h3
 have g3:=ar (r:=i.ra) h4
 have g4:0<=i.av/\i.av<=4095/\i.av % 1=0:=cJ (s:=1) (by decide) h7
 have g5:i.kind=0:=(aJ rfl h9).1
 have g6:i.ba=0:=aW (aJ rfl h9).2
 have g7:i.set=0\/i.set=1:=h8.imp id fun e=>e.1
 have g8:i.cond=0:=h6.elim id fun e=>absurd (show false=true from e.1) Bool.false_ne_true
 clear h1 h2 h3 h4 h5 h6 h7 h8 h9 bI
 refine Spec.enter aw gH 100 Tryz.func103 rfl (by kernel_rfl) ?_
 refine .inl ⟨ah (by omega),?_⟩
 refine .inl ⟨ah (by omega),?_⟩
 refine (ak hs).u ?_
 refine (bP i (by omega) (by omega) (by omega) (by omega) (by omega)).u ?_
 refine (dS i.av (by unfold cb; omega)).u ?_
 refine al ?_
 have eo:cK i (ao 18)=0 ||| B i.av 11 1 26 ||| B i.av 8 3 12 ||| B i.av 0 8 0 ||| B i.set 0 1 20 ||| B i.rn 0 4 16 ||| B i.rd 0 4 8:=rfl
 have Ao:B i.av 12 4 16=0:=m7 (by unfold aa; split<;>omega)
 rw[eo]
 refine (show bits .or .u32 (((B i.set 0 1 20 ||| B i.rn 0 4 16 ||| B i.ra 0 4 12 ||| B i.rd 0 4 8 ||| B i.rm 0 4 0:Nat):Int)) (((B i.av 11 1 26 ||| B i.av 12 4 16 ||| B i.av 8 3 12 ||| B i.av 0 8 0:Nat):Int))=_ from ?_)
 refine ((((de i)).or (ib i.av))).1.trans (congrArg (fun n:Nat=>(n:Int)) ?_)
 first
 | (simp only[dQ g2,dQ g3,Ao,Nat.or_zero,Nat.zero_or]; done)
 | (simp only[dQ g2,dQ g3,Ao,Nat.or_zero,Nat.zero_or]
    generalize B i.av 11 1 26=n0
    generalize B i.av 8 3 12=n1
    generalize B i.av 0 8 0=n2
    generalize B i.set 0 1 20=n3
    generalize B i.rn 0 4 16=n4
    generalize B i.rd 0 4 8=n5
    ac_rfl)
theorem Dh (i:IN) (hs:af i.form=19) (hr:aD i (cw 19)) (hg:i.aq<=9223372036854775807):ai gT 103 [bJ i] (.int .u32 ((cK i (ao 19):Nat):Int)):=by
 obtain⟨hf,h1,h2,h3,h4,h5,h6,h7,h8,h9,bI⟩:=hr
 have g0:=aQ (r:=i.rd) h1
 have g1:=ar (r:=i.rn) h2
 have g2:=ar (r:=i.rm) h3
 have g3:=ar (r:=i.ra) h4
 have g4:0<=i.av/\i.av<=4095/\i.av % 1=0:=cJ (s:=1) (by decide) h7
 have g5:i.kind=0:=(aJ rfl h9).1
 have g6:i.ba=0:=aW (aJ rfl h9).2
 have g7:i.set=0\/i.set=1:=h8.imp id fun e=>e.1
 have g8:i.cond=0:=h6.elim id fun e=>absurd (show false=true from e.1) Bool.false_ne_true
 clear h1 h2 h3 h4 h5 h6 h7 h8 h9 bI
 refine Spec.enter aw gH 100 Tryz.func103 rfl (by kernel_rfl) ?_
 refine .inl ⟨ah (by omega),?_⟩
 refine .inl ⟨ah (by omega),?_⟩
 refine (ak hs).u ?_
 refine (bP i (by omega) (by omega) (by omega) (by omega) (by omega)).u ?_
 refine (dS i.av (by unfold cb; omega)).u ?_
 refine al ?_
 have eo:cK i (ao 19)=0 ||| B i.av 11 1 26 ||| B i.av 8 3 12 ||| B i.av 0 8 0 ||| B i.set 0 1 20 ||| B i.rd 0 4 8:=rfl
 have Ao:B i.av 12 4 16=0:=m7 (by unfold aa; split<;>omega)
 rw[eo]
 refine (show bits .or .u32 (((B i.set 0 1 20 ||| B i.rn 0 4 16 ||| B i.ra 0 4 12 ||| B i.rd 0 4 8 ||| B i.rm 0 4 0:Nat):Int)) (((B i.av 11 1 26 ||| B i.av 12 4 16 ||| B i.av 8 3 12 ||| B i.av 0 8 0:Nat):Int))=_ from ?_)
 refine ((((de i)).or (ib i.av))).1.trans (congrArg (fun n:Nat=>(n:Int)) ?_)
 first
 | (simp only[dQ g1,dQ g2,dQ g3,Ao,Nat.or_zero,Nat.zero_or]; done)
 | (simp only[dQ g1,dQ g2,dQ g3,Ao,Nat.or_zero,Nat.zero_or]
    generalize B i.av 11 1 26=n0
    generalize B i.av 8 3 12=n1
    generalize B i.av 0 8 0=n2
    generalize B i.set 0 1 20=n3
    generalize B i.rd 0 4 8=n4
    ac_rfl)
theorem Di (i:IN) (hs:af i.form=20) (hr:aD i (cw 20)) (hg:i.aq<=9223372036854775807):ai gT 103 [bJ i] (.int .u32 ((cK i (ao 20):Nat):Int)):=by
 obtain⟨hf,h1,h2,h3,h4,h5,h6,h7,h8,h9,bI⟩:=hr
 have g0:=ar (r:=i.rd) h1
 have g1:=aQ (r:=i.rn) h2
 have g2:=ar (r:=i.rm) h3
 have g3:=ar (r:=i.ra) h4
 have g4:0<=i.av/\i.av<=4095/\i.av % 1=0:=cJ (s:=1) (by decide) h7
 have g5:i.kind=0:=(aJ rfl h9).1
 have g6:i.ba=0:=aW (aJ rfl h9).2
 have g7:i.set=0:=h8.elim id fun e=>absurd (show false=true from e.2) Bool.false_ne_true
 have g8:i.cond=0:=h6.elim id fun e=>absurd (show false=true from e.1) Bool.false_ne_true
 clear h1 h2 h3 h4 h5 h6 h7 h8 h9 bI
 refine Spec.enter aw gH 100 Tryz.func103 rfl (by kernel_rfl) ?_
 refine .inl ⟨ah (by omega),?_⟩
 refine .inl ⟨ah (by omega),?_⟩
 refine (ak hs).u ?_
 refine (bP i (by omega) (by omega) (by omega) (by omega) (by omega)).u ?_
 refine (dS i.av (by unfold cb; omega)).u ?_
 refine al ?_
 have eo:cK i (ao 20)=0 ||| B i.av 11 1 26 ||| B i.av 8 3 12 ||| B i.av 0 8 0 ||| B i.rn 0 4 16:=rfl
 have Ao:B i.av 12 4 16=0:=m7 (by unfold aa; split<;>omega)
 rw[eo]
 refine (show bits .or .u32 (((B i.set 0 1 20 ||| B i.rn 0 4 16 ||| B i.ra 0 4 12 ||| B i.rd 0 4 8 ||| B i.rm 0 4 0:Nat):Int)) (((B i.av 11 1 26 ||| B i.av 12 4 16 ||| B i.av 8 3 12 ||| B i.av 0 8 0:Nat):Int))=_ from ?_)
 refine ((((de i)).or (ib i.av))).1.trans (congrArg (fun n:Nat=>(n:Int)) ?_)
 first
 | (simp only[dQ g0,dQ g2,dQ g3,dQ g7,Ao,Nat.or_zero,Nat.zero_or]; done)
 | (simp only[dQ g0,dQ g2,dQ g3,dQ g7,Ao,Nat.or_zero,Nat.zero_or]
    generalize B i.av 11 1 26=n0
    generalize B i.av 8 3 12=n1
    generalize B i.av 0 8 0=n2
    generalize B i.rn 0 4 16=n3
    ac_rfl)
theorem Dj (i:IN) (hs:af i.form=21) (hr:aD i (cw 21)) (hg:i.aq<=9223372036854775807):ai gT 103 [bJ i] (.int .u32 ((cK i (ao 21):Nat):Int)):=by
 obtain⟨hf,h1,h2,h3,h4,h5,h6,h7,h8,h9,bI⟩:=hr
 have g0:=aQ (r:=i.rd) h1
 have g1:=aQ (r:=i.rn) h2
 have g2:=aQ (r:=i.rm) h3
 have g3:=ar (r:=i.ra) h4
 have g4:i.av=0:=aW h7
 have g6:bE i.kind i.ba:=wU rfl h9
 have g5:=iI g6
 have TH:0<=i.ba/\i.ba<=32:=by unfold bE at g6; omega
 have g7:i.set=0\/i.set=1:=h8.imp id fun e=>e.1
 have g8:i.cond=0:=h6.elim id fun e=>absurd (show false=true from e.1) Bool.false_ne_true
 clear h1 h2 h3 h4 h5 h6 h7 h8 h9 bI
 have b0:=ae i.ba 2 3
 have b1:=ae i.ba 0 2
 refine Spec.enter aw gH 100 Tryz.func103 rfl (by kernel_rfl) ?_
 refine .inl ⟨ah (by omega),?_⟩
 refine .inl ⟨ah (by omega),?_⟩
 refine (ak hs).u ?_
 refine .inl ⟨ah (by omega),?_⟩
 refine⟨by decide,.inl ⟨ah (by rw[r4]; omega),?_⟩⟩
 refine (bP i (by omega) (by omega) (by omega) (by omega) (by omega)).u ?_
 repeat (first
  | (refine⟨[],aE,(ic i.ba 2 3 (by unfold cb; omega) (by decide) (by decide)).use (And.intro rfl (And.intro rfl (And.intro rfl trivial))) rfl rfl ?_⟩)
  | (refine⟨by decide,.inl ⟨ah (by rw[EX]; omega),?_⟩⟩)
  | (refine⟨[],aE,(ic i.ba 0 2 (by unfold cb; omega) (by decide) (by decide)).use (And.intro rfl (And.intro rfl (And.intro rfl trivial))) rfl rfl ?_⟩)
  | (refine⟨by decide,.inl ⟨ah (by rw[r6]; omega),?_⟩⟩)
  | (refine .inl ⟨ah (by omega),?_⟩)
  | (refine⟨by decide,.inl ⟨ah (by rw[r4]; omega),?_⟩⟩))
 refine al ?_
 have eo:cK i (ao 21)=0 ||| B i.ba 2 3 12 ||| B i.ba 0 2 6 ||| B i.kind 0 2 4 ||| B i.set 0 1 20 ||| B i.rn 0 4 16 ||| B i.rd 0 4 8 ||| B i.rm 0 4 0:=rfl
 rw[eo]
 refine (show bits .or .u32 (bits .or .u32 (bits .or .u32 (((B i.set 0 1 20 ||| B i.rn 0 4 16 ||| B i.ra 0 4 12 ||| B i.rd 0 4 8 ||| B i.rm 0 4 0:Nat):Int)) (aa i.ba 2 3*Ev.aC .u32 12)) (aa i.ba 0 2*Ev.aC .u32 6)) (i.kind*Ev.aC .u32 4)=_ from ?_)
 refine ((((((((de i)).or (nO i.ba 2 3 12 (by decide) (by decide)))).or (nO i.ba 0 2 6 (by decide) (by decide)))).or (kR i.kind 2 4 (by decide) (by decide) (by omega)))).1.trans (congrArg (fun n:Nat=>(n:Int)) ?_)
 first
 | (simp only[dQ g3,Nat.or_zero,Nat.zero_or]; done)
 | (simp only[dQ g3,Nat.or_zero,Nat.zero_or]
    generalize B i.ba 2 3 12=n0
    generalize B i.ba 0 2 6=n1
    generalize B i.kind 0 2 4=n2
    generalize B i.set 0 1 20=n3
    generalize B i.rn 0 4 16=n4
    generalize B i.rd 0 4 8=n5
    generalize B i.rm 0 4 0=n6
    ac_rfl)
theorem Dk (i:IN) (hs:af i.form=22) (hr:aD i (cw 22)) (hg:i.aq<=9223372036854775807):ai gT 103 [bJ i] (.int .u32 ((cK i (ao 22):Nat):Int)):=by
 obtain⟨hf,h1,h2,h3,h4,h5,h6,h7,h8,h9,bI⟩:=hr
 have g0:=aQ (r:=i.rd) h1
 have g1:=ar (r:=i.rn) h2
 have g2:=aQ (r:=i.rm) h3
 have g3:=ar (r:=i.ra) h4
 have g4:i.av=0:=aW h7
 have g6:bE i.kind i.ba:=wU rfl h9
 have g5:=iI g6
 have TH:0<=i.ba/\i.ba<=32:=by unfold bE at g6; omega
 have g7:i.set=0\/i.set=1:=h8.imp id fun e=>e.1
 have g8:i.cond=0:=h6.elim id fun e=>absurd (show false=true from e.1) Bool.false_ne_true
 clear h1 h2 h3 h4 h5 h6 h7 h8 h9 bI
 have b0:=ae i.ba 2 3
 have b1:=ae i.ba 0 2
 refine Spec.enter aw gH 100 Tryz.func103 rfl (by kernel_rfl) ?_
 refine .inl ⟨ah (by omega),?_⟩
 refine .inl ⟨ah (by omega),?_⟩
 refine (ak hs).u ?_
 refine .inl ⟨ah (by omega),?_⟩
 refine⟨by decide,.inl ⟨ah (by rw[r4]; omega),?_⟩⟩
 refine (bP i (by omega) (by omega) (by omega) (by omega) (by omega)).u ?_
 repeat (first
  | (refine⟨[],aE,(ic i.ba 2 3 (by unfold cb; omega) (by decide) (by decide)).use (And.intro rfl (And.intro rfl (And.intro rfl trivial))) rfl rfl ?_⟩)
  | (refine⟨by decide,.inl ⟨ah (by rw[EX]; omega),?_⟩⟩)
  | (refine⟨[],aE,(ic i.ba 0 2 (by unfold cb; omega) (by decide) (by decide)).use (And.intro rfl (And.intro rfl (And.intro rfl trivial))) rfl rfl ?_⟩)
  | (refine⟨by decide,.inl ⟨ah (by rw[r6]; omega),?_⟩⟩)
  | (refine .inl ⟨ah (by omega),?_⟩)
  | (refine⟨by decide,.inl ⟨ah (by rw[r4]; omega),?_⟩⟩))
 refine al ?_
 have eo:cK i (ao 22)=0 ||| B i.ba 2 3 12 ||| B i.ba 0 2 6 ||| B i.kind 0 2 4 ||| B i.set 0 1 20 ||| B i.rd 0 4 8 ||| B i.rm 0 4 0:=rfl
 rw[eo]
 refine (show bits .or .u32 (bits .or .u32 (bits .or .u32 (((B i.set 0 1 20 ||| B i.rn 0 4 16 ||| B i.ra 0 4 12 ||| B i.rd 0 4 8 ||| B i.rm 0 4 0:Nat):Int)) (aa i.ba 2 3*Ev.aC .u32 12)) (aa i.ba 0 2*Ev.aC .u32 6)) (i.kind*Ev.aC .u32 4)=_ from ?_)
 refine ((((((((de i)).or (nO i.ba 2 3 12 (by decide) (by decide)))).or (nO i.ba 0 2 6 (by decide) (by decide)))).or (kR i.kind 2 4 (by decide) (by decide) (by omega)))).1.trans (congrArg (fun n:Nat=>(n:Int)) ?_)
 first
 | (simp only[dQ g1,dQ g3,Nat.or_zero,Nat.zero_or]; done)
 | (simp only[dQ g1,dQ g3,Nat.or_zero,Nat.zero_or]
    generalize B i.ba 2 3 12=n0
    generalize B i.ba 0 2 6=n1
    generalize B i.kind 0 2 4=n2
    generalize B i.set 0 1 20=n3
    generalize B i.rd 0 4 8=n4
    generalize B i.rm 0 4 0=n5
    ac_rfl)
theorem Dl (i:IN) (hs:af i.form=23) (hr:aD i (cw 23)) (hg:i.aq<=9223372036854775807):ai gT 103 [bJ i] (.int .u32 ((cK i (ao 23):Nat):Int)):=by
 obtain⟨hf,h1,h2,h3,h4,h5,h6,h7,h8,h9,bI⟩:=hr
 have g0:=ar (r:=i.rd) h1
 have g1:=aQ (r:=i.rn) h2
 have g2:=aQ (r:=i.rm) h3
 have g3:=ar (r:=i.ra) h4
 have g4:i.av=0:=aW h7
 have g6:bE i.kind i.ba:=wU rfl h9
 have g5:=iI g6
 have TH:0<=i.ba/\i.ba<=32:=by unfold bE at g6; omega
 have g7:i.set=0:=h8.elim id fun e=>absurd (show false=true from e.2) Bool.false_ne_true
 have g8:i.cond=0:=h6.elim id fun e=>absurd (show false=true from e.1) Bool.false_ne_true
 clear h1 h2 h3 h4 h5 h6 h7 h8 h9 bI
 have b0:=ae i.ba 2 3
 have b1:=ae i.ba 0 2
 refine Spec.enter aw gH 100 Tryz.func103 rfl (by kernel_rfl) ?_
 refine .inl ⟨ah (by omega),?_⟩
 refine .inl ⟨ah (by omega),?_⟩
 refine (ak hs).u ?_
 refine .inl ⟨ah (by omega),?_⟩
 refine⟨by decide,.inl ⟨ah (by rw[r4]; omega),?_⟩⟩
 refine (bP i (by omega) (by omega) (by omega) (by omega) (by omega)).u ?_
 repeat (first
  | (refine⟨[],aE,(ic i.ba 2 3 (by unfold cb; omega) (by decide) (by decide)).use (And.intro rfl (And.intro rfl (And.intro rfl trivial))) rfl rfl ?_⟩)
  | (refine⟨by decide,.inl ⟨ah (by rw[EX]; omega),?_⟩⟩)
  | (refine⟨[],aE,(ic i.ba 0 2 (by unfold cb; omega) (by decide) (by decide)).use (And.intro rfl (And.intro rfl (And.intro rfl trivial))) rfl rfl ?_⟩)
  | (refine⟨by decide,.inl ⟨ah (by rw[r6]; omega),?_⟩⟩)
  | (refine .inl ⟨ah (by omega),?_⟩)
  | (refine⟨by decide,.inl ⟨ah (by rw[r4]; omega),?_⟩⟩))
 refine al ?_
 have eo:cK i (ao 23)=0 ||| B i.ba 2 3 12 ||| B i.ba 0 2 6 ||| B i.kind 0 2 4 ||| B i.rn 0 4 16 ||| B i.rm 0 4 0:=rfl
 rw[eo]
 refine (show bits .or .u32 (bits .or .u32 (bits .or .u32 (((B i.set 0 1 20 ||| B i.rn 0 4 16 ||| B i.ra 0 4 12 ||| B i.rd 0 4 8 ||| B i.rm 0 4 0:Nat):Int)) (aa i.ba 2 3*Ev.aC .u32 12)) (aa i.ba 0 2*Ev.aC .u32 6)) (i.kind*Ev.aC .u32 4)=_ from ?_)
 refine ((((((((de i)).or (nO i.ba 2 3 12 (by decide) (by decide)))).or (nO i.ba 0 2 6 (by decide) (by decide)))).or (kR i.kind 2 4 (by decide) (by decide) (by omega)))).1.trans (congrArg (fun n:Nat=>(n:Int)) ?_)
 first
 | (simp only[dQ g0,dQ g3,dQ g7,Nat.or_zero,Nat.zero_or]; done)
 | (simp only[dQ g0,dQ g3,dQ g7,Nat.or_zero,Nat.zero_or]
    generalize B i.ba 2 3 12=n0
    generalize B i.ba 0 2 6=n1
    generalize B i.kind 0 2 4=n2
    generalize B i.rn 0 4 16=n3
    generalize B i.rm 0 4 0=n4
    ac_rfl)
theorem Dm (i:IN) (hs:af i.form=24) (hr:aD i (cw 24)) (hg:i.aq<=9223372036854775807):ai gT 103 [bJ i] (.int .u32 ((cK i (ao 24):Nat):Int)):=by
 obtain⟨hf,h1,h2,h3,h4,h5,h6,h7,h8,h9,bI⟩:=hr
 have g0:=aQ (r:=i.rd) h1
 have g1:=aQ (r:=i.rn) h2
 have g2:=ar (r:=i.rm) h3
 have g3:=ar (r:=i.ra) h4
 have g4:0<=i.av/\i.av<=4095/\i.av % 1=0:=cJ (s:=1) (by decide) h7
 have g5:i.kind=0:=(aJ rfl h9).1
 have g6:i.ba=0:=aW (aJ rfl h9).2
 have g7:i.set=0:=h8.elim id fun e=>absurd (show false=true from e.2) Bool.false_ne_true
 have g8:i.cond=0:=h6.elim id fun e=>absurd (show false=true from e.1) Bool.false_ne_true
 clear h1 h2 h3 h4 h5 h6 h7 h8 h9 bI
 refine Spec.enter aw gH 100 Tryz.func103 rfl (by kernel_rfl) ?_
 refine .inl ⟨ah (by omega),?_⟩
 refine .inl ⟨ah (by omega),?_⟩
 refine (ak hs).u ?_
 refine (bP i (by omega) (by omega) (by omega) (by omega) (by omega)).u ?_
 refine (dS i.av (by unfold cb; omega)).u ?_
 refine al ?_
 have eo:cK i (ao 24)=0 ||| B i.av 11 1 26 ||| B i.av 8 3 12 ||| B i.av 0 8 0 ||| B i.rn 0 4 16 ||| B i.rd 0 4 8:=rfl
 have Ao:B i.av 12 4 16=0:=m7 (by unfold aa; split<;>omega)
 rw[eo]
 refine (show bits .or .u32 (((B i.set 0 1 20 ||| B i.rn 0 4 16 ||| B i.ra 0 4 12 ||| B i.rd 0 4 8 ||| B i.rm 0 4 0:Nat):Int)) (((B i.av 11 1 26 ||| B i.av 12 4 16 ||| B i.av 8 3 12 ||| B i.av 0 8 0:Nat):Int))=_ from ?_)
 refine ((((de i)).or (ib i.av))).1.trans (congrArg (fun n:Nat=>(n:Int)) ?_)
 first
 | (simp only[dQ g2,dQ g3,dQ g7,Ao,Nat.or_zero,Nat.zero_or]; done)
 | (simp only[dQ g2,dQ g3,dQ g7,Ao,Nat.or_zero,Nat.zero_or]
    generalize B i.av 11 1 26=n0
    generalize B i.av 8 3 12=n1
    generalize B i.av 0 8 0=n2
    generalize B i.rn 0 4 16=n3
    generalize B i.rd 0 4 8=n4
    ac_rfl)
theorem Dn (i:IN) (hs:af i.form=25) (hr:aD i (cw 25)) (hg:i.aq<=9223372036854775807):ai gT 103 [bJ i] (.int .u32 ((cK i (ao 25):Nat):Int)):=by
 obtain⟨hf,h1,h2,h3,h4,h5,h6,h7,h8,h9,bI⟩:=hr
 have g0:=aQ (r:=i.rd) h1
 have g1:=iX (r:=i.rn) h2
 have g2:=ar (r:=i.rm) h3
 have g3:=ar (r:=i.ra) h4
 have g4:0<=i.av/\i.av<=4095/\i.av % 1=0:=cJ (s:=1) (by decide) h7
 have g5:i.kind=0:=(aJ rfl h9).1
 have g6:i.ba=0:=aW (aJ rfl h9).2
 have g7:i.set=0:=h8.elim id fun e=>absurd (show false=true from e.2) Bool.false_ne_true
 have g8:i.cond=0:=h6.elim id fun e=>absurd (show false=true from e.1) Bool.false_ne_true
 clear h1 h2 h3 h4 h5 h6 h7 h8 h9 bI
 refine Spec.enter aw gH 100 Tryz.func103 rfl (by kernel_rfl) ?_
 refine .inl ⟨ah (by omega),?_⟩
 refine .inl ⟨ah (by omega),?_⟩
 refine (ak hs).u ?_
 refine .inl ⟨ah (by omega),?_⟩
 refine⟨by decide,.inl ⟨ah (by rw[EY]; omega),?_⟩⟩
 refine .inl ⟨ah (by omega),?_⟩
 refine⟨by decide,.inl ⟨ah (by rw[EX]; omega),?_⟩⟩
 refine al ?_
 have eo:cK i (ao 25)=0 ||| B i.rn 0 4 16 ||| B i.rd 0 4 12 ||| B i.av 0 12 0:=rfl
 rw[eo]
 refine (show bits .or .u32 (bits .or .u32 (i.rn*Ev.aC .u32 16) (i.rd*Ev.aC .u32 12)) (i.av)=_ from ?_)
 refine ((((((kR i.rn 4 16 (by decide) (by decide) (by omega))).or (kR i.rd 4 12 (by decide) (by decide) (by omega)))).or (m6 i.av 12 (by decide) (by omega)))).1.trans (congrArg (fun n:Nat=>(n:Int)) ?_)
 first
 | (simp only[Nat.or_zero,Nat.zero_or]; done)
 | (simp only[Nat.or_zero,Nat.zero_or]
    generalize B i.rn 0 4 16=n0
    generalize B i.rd 0 4 12=n1
    generalize B i.av 0 12 0=n2
    ac_rfl)
theorem Dp (i:IN) (hs:af i.form=26) (hr:aD i (cw 26)) (hg:i.aq<=9223372036854775807):ai gT 103 [bJ i] (.int .u32 ((cK i (ao 26):Nat):Int)):=by
 obtain⟨hf,h1,h2,h3,h4,h5,h6,h7,h8,h9,bI⟩:=hr
 have g0:=aQ (r:=i.rd) h1
 have g1:=iX (r:=i.rn) h2
 have g2:=aQ (r:=i.rm) h3
 have g3:=ar (r:=i.ra) h4
 have g4:i.av=0:=aW h7
 have g5:i.kind=0:=(aJ rfl h9).1
 have g6:0<=i.ba/\i.ba<=3/\i.ba % 1=0:=cJ (s:=1) (by decide) (aJ rfl h9).2
 have g7:i.set=0:=h8.elim id fun e=>absurd (show false=true from e.2) Bool.false_ne_true
 have g8:i.cond=0:=h6.elim id fun e=>absurd (show false=true from e.1) Bool.false_ne_true
 clear h1 h2 h3 h4 h5 h6 h7 h8 h9 bI
 refine Spec.enter aw gH 100 Tryz.func103 rfl (by kernel_rfl) ?_
 refine .inl ⟨ah (by omega),?_⟩
 refine .inl ⟨ah (by omega),?_⟩
 refine (ak hs).u ?_
 refine .inl ⟨ah (by omega),?_⟩
 refine⟨by decide,.inl ⟨ah (by rw[EY]; omega),?_⟩⟩
 refine .inl ⟨ah (by omega),?_⟩
 refine⟨by decide,.inl ⟨ah (by rw[EX]; omega),?_⟩⟩
 refine⟨by decide,.inl ⟨ah (by rw[r4]; omega),?_⟩⟩
 refine .inl ⟨ah (by omega),?_⟩
 refine al ?_
 have eo:cK i (ao 26)=0 ||| B i.rn 0 4 16 ||| B i.rd 0 4 12 ||| B i.ba 0 2 4 ||| B i.rm 0 4 0:=rfl
 rw[eo]
 refine (show bits .or .u32 (bits .or .u32 (bits .or .u32 (i.rn*Ev.aC .u32 16) (i.rd*Ev.aC .u32 12)) (i.ba*Ev.aC .u32 4)) (i.rm)=_ from ?_)
 refine ((((((((kR i.rn 4 16 (by decide) (by decide) (by omega))).or (kR i.rd 4 12 (by decide) (by decide) (by omega)))).or (kR i.ba 2 4 (by decide) (by decide) (by omega)))).or (m6 i.rm 4 (by decide) (by omega)))).1.trans (congrArg (fun n:Nat=>(n:Int)) ?_)
 first
 | (simp only[Nat.or_zero,Nat.zero_or]; done)
 | (simp only[Nat.or_zero,Nat.zero_or]
    generalize B i.rn 0 4 16=n0
    generalize B i.rd 0 4 12=n1
    generalize B i.ba 0 2 4=n2
    generalize B i.rm 0 4 0=n3
    ac_rfl)
theorem Dq (i:IN) (hs:af i.form=27) (hr:aD i (cw 27)) (hg:i.aq<=9223372036854775807):ai gT 103 [bJ i] (.int .u32 ((cK i (ao 27):Nat):Int)):=by
 obtain⟨hf,h1,h2,h3,h4,h5,h6,h7,h8,h9,bI⟩:=hr
 have g0:=aQ (r:=i.rd) h1
 have g1:=aQ (r:=i.rn) h2
 have g2:=aQ (r:=i.rm) h3
 have g3:=ar (r:=i.ra) h4
 have g4:i.av=0:=aW h7
 have g5:i.kind=0:=(aJ rfl h9).1
 have g6:i.ba=0:=aW (aJ rfl h9).2
 have g7:i.set=0\/i.set=1:=h8.imp id fun e=>e.1
 have g8:i.cond=0:=h6.elim id fun e=>absurd (show false=true from e.1) Bool.false_ne_true
 clear h1 h2 h3 h4 h5 h6 h7 h8 h9 bI
 refine Spec.enter aw gH 100 Tryz.func103 rfl (by kernel_rfl) ?_
 refine .inl ⟨ah (by omega),?_⟩
 refine .inl ⟨ah (by omega),?_⟩
 refine (ak hs).u ?_
 refine (bP i (by omega) (by omega) (by omega) (by omega) (by omega)).u ?_
 refine al ?_
 have eo:cK i (ao 27)=0 ||| B i.set 0 1 20 ||| B i.rn 0 4 16 ||| B i.rd 0 4 8 ||| B i.rm 0 4 0:=rfl
 rw[eo]
 refine (show ((B i.set 0 1 20 ||| B i.rn 0 4 16 ||| B i.ra 0 4 12 ||| B i.rd 0 4 8 ||| B i.rm 0 4 0:Nat):Int)=_ from ?_)
 refine ((de i)).1.trans (congrArg (fun n:Nat=>(n:Int)) ?_)
 first
 | (simp only[dQ g3,Nat.or_zero,Nat.zero_or]; done)
 | (simp only[dQ g3,Nat.or_zero,Nat.zero_or]
    generalize B i.set 0 1 20=n0
    generalize B i.rn 0 4 16=n1
    generalize B i.rd 0 4 8=n2
    generalize B i.rm 0 4 0=n3
    ac_rfl)
theorem Dr (i:IN) (hs:af i.form=28) (hr:aD i (cw 28)) (hg:i.aq<=9223372036854775807):ai gT 103 [bJ i] (.int .u32 ((cK i (ao 28):Nat):Int)):=by
 obtain⟨hf,h1,h2,h3,h4,h5,h6,h7,h8,h9,bI⟩:=hr
 have g0:=aQ (r:=i.rd) h1
 have g1:=aQ (r:=i.rn) h2
 have g2:=aQ (r:=i.rm) h3
 have g3:=ar (r:=i.ra) h4
 have g4:i.av=0:=aW h7
 have g5:i.kind=0:=(aJ rfl h9).1
 have g6:i.ba=0:=aW (aJ rfl h9).2
 have g7:i.set=0:=h8.elim id fun e=>absurd (show false=true from e.2) Bool.false_ne_true
 have g8:i.cond=0:=h6.elim id fun e=>absurd (show false=true from e.1) Bool.false_ne_true
 clear h1 h2 h3 h4 h5 h6 h7 h8 h9 bI
 refine Spec.enter aw gH 100 Tryz.func103 rfl (by kernel_rfl) ?_
 refine .inl ⟨ah (by omega),?_⟩
 refine .inl ⟨ah (by omega),?_⟩
 refine (ak hs).u ?_
 refine (bP i (by omega) (by omega) (by omega) (by omega) (by omega)).u ?_
 refine al ?_
 have eo:cK i (ao 28)=0 ||| B i.rn 0 4 16 ||| B i.rd 0 4 8 ||| B i.rm 0 4 0:=rfl
 rw[eo]
 refine (show ((B i.set 0 1 20 ||| B i.rn 0 4 16 ||| B i.ra 0 4 12 ||| B i.rd 0 4 8 ||| B i.rm 0 4 0:Nat):Int)=_ from ?_)
 refine ((de i)).1.trans (congrArg (fun n:Nat=>(n:Int)) ?_)
 first
 | (simp only[dQ g3,dQ g7,Nat.or_zero,Nat.zero_or]; done)
 | (simp only[dQ g3,dQ g7,Nat.or_zero,Nat.zero_or]
    generalize B i.rn 0 4 16=n0
    generalize B i.rd 0 4 8=n1
    generalize B i.rm 0 4 0=n2
    ac_rfl)
theorem Ds (i:IN) (hs:af i.form=29) (hr:aD i (cw 29)) (hg:i.aq<=9223372036854775807):ai gT 103 [bJ i] (.int .u32 ((cK i (ao 29):Nat):Int)):=by
 obtain⟨hf,h1,h2,h3,h4,h5,h6,h7,h8,h9,bI⟩:=hr
 have g0:=aQ (r:=i.rd) h1
 have g1:=aQ (r:=i.rn) h2
 have g2:=aQ (r:=i.rm) h3
 have g3:=aQ (r:=i.ra) h4
 have g4:i.av=0:=aW h7
 have g5:i.kind=0:=(aJ rfl h9).1
 have g6:i.ba=0:=aW (aJ rfl h9).2
 have g7:i.set=0:=h8.elim id fun e=>absurd (show false=true from e.2) Bool.false_ne_true
 have g8:i.cond=0:=h6.elim id fun e=>absurd (show false=true from e.1) Bool.false_ne_true
 clear h1 h2 h3 h4 h5 h6 h7 h8 h9 bI
 refine Spec.enter aw gH 100 Tryz.func103 rfl (by kernel_rfl) ?_
 refine .inl ⟨ah (by omega),?_⟩
 refine .inl ⟨ah (by omega),?_⟩
 refine (ak hs).u ?_
 refine (bP i (by omega) (by omega) (by omega) (by omega) (by omega)).u ?_
 refine al ?_
 have eo:cK i (ao 29)=0 ||| B i.rn 0 4 16 ||| B i.ra 0 4 12 ||| B i.rd 0 4 8 ||| B i.rm 0 4 0:=rfl
 rw[eo]
 refine (show ((B i.set 0 1 20 ||| B i.rn 0 4 16 ||| B i.ra 0 4 12 ||| B i.rd 0 4 8 ||| B i.rm 0 4 0:Nat):Int)=_ from ?_)
 refine ((de i)).1.trans (congrArg (fun n:Nat=>(n:Int)) ?_)
 first
 | (simp only[dQ g7,Nat.or_zero,Nat.zero_or]; done)
 | (simp only[dQ g7,Nat.or_zero,Nat.zero_or]
    generalize B i.rn 0 4 16=n0
    generalize B i.ra 0 4 12=n1
    generalize B i.rd 0 4 8=n2
    generalize B i.rm 0 4 0=n3
    ac_rfl)
theorem Dt (i:IN) (hs:af i.form=30) (hr:aD i (cw 30)) (hg:i.aq<=9223372036854775807):ai gT 103 [bJ i] (.int .u32 ((cK i (ao 30):Nat):Int)):=by
 obtain⟨hf,h1,h2,h3,h4,h5,h6,h7,h8,h9,bI⟩:=hr
 have g0:=aQ (r:=i.rd) h1
 have g1:=aQ (r:=i.rn) h2
 have g2:=aQ (r:=i.rm) h3
 have g3:=aQ (r:=i.ra) h4
 have g4:i.av=0:=aW h7
 have g5:i.kind=0:=(aJ rfl h9).1
 have g6:i.ba=0:=aW (aJ rfl h9).2
 have g7:i.set=0:=h8.elim id fun e=>absurd (show false=true from e.2) Bool.false_ne_true
 have g8:i.cond=0:=h6.elim id fun e=>absurd (show false=true from e.1) Bool.false_ne_true
 clear h1 h2 h3 h4 h5 h6 h7 h8 h9 bI
 refine Spec.enter aw gH 100 Tryz.func103 rfl (by kernel_rfl) ?_
 refine .inl ⟨ah (by omega),?_⟩
 refine .inl ⟨ah (by omega),?_⟩
 refine (ak hs).u ?_
 refine (bP i (by omega) (by omega) (by omega) (by omega) (by omega)).u ?_
 refine al ?_
 have eo:cK i (ao 30)=0 ||| B i.rn 0 4 16 ||| B i.ra 0 4 12 ||| B i.rd 0 4 8 ||| B i.rm 0 4 0:=rfl
 rw[eo]
 refine (show ((B i.set 0 1 20 ||| B i.rn 0 4 16 ||| B i.ra 0 4 12 ||| B i.rd 0 4 8 ||| B i.rm 0 4 0:Nat):Int)=_ from ?_)
 refine ((de i)).1.trans (congrArg (fun n:Nat=>(n:Int)) ?_)
 first
 | (simp only[dQ g7,Nat.or_zero,Nat.zero_or]; done)
 | (simp only[dQ g7,Nat.or_zero,Nat.zero_or]
    generalize B i.rn 0 4 16=n0
    generalize B i.ra 0 4 12=n1
    generalize B i.rd 0 4 8=n2
    generalize B i.rm 0 4 0=n3
    ac_rfl)
theorem Du (i:IN) (hs:af i.form=31) (hr:aD i (cw 31)) (hg:i.aq<=9223372036854775807):ai gT 103 [bJ i] (.int .u32 ((cK i (ao 31):Nat):Int)):=by
 obtain⟨hf,h1,h2,h3,h4,h5,h6,h7,h8,h9,bI⟩:=hr
 have g0:=aQ (r:=i.rd) h1
 have g1:=aQ (r:=i.rn) h2
 have g2:=aQ (r:=i.rm) h3
 have g3:=aQ (r:=i.ra) h4
 have g4:i.av=0:=aW h7
 have g5:i.kind=0:=(aJ rfl h9).1
 have g6:i.ba=0:=aW (aJ rfl h9).2
 have g7:i.set=0:=h8.elim id fun e=>absurd (show false=true from e.2) Bool.false_ne_true
 have g8:i.cond=0:=h6.elim id fun e=>absurd (show false=true from e.1) Bool.false_ne_true
 clear h1 h2 h3 h4 h5 h6 h7 h8 h9 bI
 refine Spec.enter aw gH 100 Tryz.func103 rfl (by kernel_rfl) ?_
 refine .inl ⟨ah (by omega),?_⟩
 refine .inl ⟨ah (by omega),?_⟩
 refine (ak hs).u ?_
 refine .inl ⟨ah (by omega),?_⟩
 refine⟨by decide,.inl ⟨ah (by rw[EY]; omega),?_⟩⟩
 refine .inl ⟨ah (by omega),?_⟩
 refine⟨by decide,.inl ⟨ah (by rw[EX]; omega),?_⟩⟩
 refine .inl ⟨ah (by omega),?_⟩
 refine⟨by decide,.inl ⟨ah (by rw[r8]; omega),?_⟩⟩
 refine .inl ⟨ah (by omega),?_⟩
 refine al ?_
 have eo:cK i (ao 31)=0 ||| B i.rn 0 4 16 ||| B i.rd 0 4 12 ||| B i.ra 0 4 8 ||| B i.rm 0 4 0:=rfl
 rw[eo]
 refine (show bits .or .u32 (bits .or .u32 (bits .or .u32 (i.rn*Ev.aC .u32 16) (i.rd*Ev.aC .u32 12)) (i.ra*Ev.aC .u32 8)) (i.rm)=_ from ?_)
 refine ((((((((kR i.rn 4 16 (by decide) (by decide) (by omega))).or (kR i.rd 4 12 (by decide) (by decide) (by omega)))).or (kR i.ra 4 8 (by decide) (by decide) (by omega)))).or (m6 i.rm 4 (by decide) (by omega)))).1.trans (congrArg (fun n:Nat=>(n:Int)) ?_)
 first
 | (simp only[Nat.or_zero,Nat.zero_or]; done)
 | (simp only[Nat.or_zero,Nat.zero_or]
    generalize B i.rn 0 4 16=n0
    generalize B i.rd 0 4 12=n1
    generalize B i.ra 0 4 8=n2
    generalize B i.rm 0 4 0=n3
    ac_rfl)
theorem Dv (i:IN) (hs:af i.form=32) (hr:aD i (cw 32)) (hg:i.aq<=9223372036854775807):ai gT 103 [bJ i] (.int .u32 ((cK i (ao 32):Nat):Int)):=by
 obtain⟨hf,h1,h2,h3,h4,h5,h6,h7,h8,h9,bI⟩:=hr
 have g0:=aQ (r:=i.rd) h1
 have g1:=ar (r:=i.rn) h2
 have g2:=aQ (r:=i.rm) h3
 have g3:=ar (r:=i.ra) h4
 have g4:i.av=0:=aW h7
 have g5:i.kind=0:=(aJ rfl h9).1
 have g6:i.ba=0:=aW (aJ rfl h9).2
 have g7:i.set=0:=h8.elim id fun e=>absurd (show false=true from e.2) Bool.false_ne_true
 have g8:i.cond=0:=h6.elim id fun e=>absurd (show false=true from e.1) Bool.false_ne_true
 clear h1 h2 h3 h4 h5 h6 h7 h8 h9 bI
 refine Spec.enter aw gH 100 Tryz.func103 rfl (by kernel_rfl) ?_
 refine .inl ⟨ah (by omega),?_⟩
 refine .inl ⟨ah (by omega),?_⟩
 refine (ak hs).u ?_
 refine .inl ⟨ah (by omega),?_⟩
 refine⟨by decide,.inl ⟨ah (by rw[EY]; omega),?_⟩⟩
 refine .inl ⟨ah (by omega),?_⟩
 refine⟨by decide,.inl ⟨ah (by rw[r8]; omega),?_⟩⟩
 refine .inl ⟨ah (by omega),?_⟩
 refine al ?_
 have eo:cK i (ao 32)=0 ||| B i.rm 0 4 16 ||| B i.rd 0 4 8 ||| B i.rm 0 4 0:=rfl
 rw[eo]
 refine (show bits .or .u32 (bits .or .u32 (i.rm*Ev.aC .u32 16) (i.rd*Ev.aC .u32 8)) (i.rm)=_ from ?_)
 refine ((((((kR i.rm 4 16 (by decide) (by decide) (by omega))).or (kR i.rd 4 8 (by decide) (by decide) (by omega)))).or (m6 i.rm 4 (by decide) (by omega)))).1.trans (congrArg (fun n:Nat=>(n:Int)) ?_)
 first
 | (simp only[Nat.or_zero,Nat.zero_or]; done)
 | (simp only[Nat.or_zero,Nat.zero_or]
    generalize B i.rm 0 4 16=n0
    generalize B i.rd 0 4 8=n1
    generalize B i.rm 0 4 0=n2
    ac_rfl)
theorem nZ (v c:Int) (hv:-1099511627776<=v) (hc:0<=c/\c < 16):ai gT 132 [.int .u32 (IntKind.u32.wrap v),.int .u32 c] (.int .u32 ((B v 20 1 26 ||| B c 0 4 22 ||| B v 12 6 16 ||| B v 18 1 13 ||| B v 19 1 11 ||| B v 1 11 0:Nat):Int)):=by
 have b0:=ae v 20 1
 have b1:=ae v 12 6
 have b2:=ae v 18 1
 have b3:=ae v 19 1
 have b4:=ae v 1 11
 refine Spec.enter aw Rg 100 Tryz.func132 rfl (by kernel_rfl) ?_
 refine (lQ v 20 1 (by omega) (by decide) (by decide) (by decide)).u ?_
 refine⟨by decide,.inl ⟨ah (by rw[RR]; omega),?_⟩⟩
 refine⟨by decide,.inl ⟨ah (by rw[V1]; omega),?_⟩⟩
 refine (lQ v 12 6 (by omega) (by decide) (by decide) (by decide)).u ?_
 refine⟨by decide,.inl ⟨ah (by rw[EY]; omega),?_⟩⟩
 refine (lQ v 18 1 (by omega) (by decide) (by decide) (by decide)).u ?_
 refine⟨by decide,.inl ⟨ah (by rw[TF]; omega),?_⟩⟩
 refine (lQ v 19 1 (by omega) (by decide) (by decide) (by decide)).u ?_
 refine⟨by decide,.inl ⟨ah (by rw[RQ]; omega),?_⟩⟩
 refine (lQ v 1 11 (by omega) (by decide) (by decide) (by decide)).u ?_
 refine al ?_
 exact (show bits .or .u32 (bits .or .u32 (bits .or .u32 (bits .or .u32 (bits .or .u32 (aa v 20 1*Ev.aC .u32 26) (c*Ev.aC .u32 22)) (aa v 12 6*Ev.aC .u32 16)) (aa v 18 1*Ev.aC .u32 13)) (aa v 19 1*Ev.aC .u32 11)) (aa v 1 11)=_ from ((((((((((((nO v 20 1 26 (by decide) (by decide))).or (kR c 4 22 (by decide) (by decide) hc))).or (nO v 12 6 16 (by decide) (by decide)))).or (nO v 18 1 13 (by decide) (by decide)))).or (nO v 19 1 11 (by decide) (by decide)))).or (qb v 1 11 (by decide)))).1)
theorem Dw (i:IN) (hs:af i.form=33) (hr:aD i (cw 33)) (hg:i.aq<=9223372036854775807):ai gT 103 [bJ i] (.int .u32 ((cK i (ao 33):Nat):Int)):=by
 obtain⟨hf,h1,h2,h3,h4,h5,h6,h7,h8,h9,bI⟩:=hr
 have g0:=ar (r:=i.rd) h1
 have g1:=ar (r:=i.rn) h2
 have g2:=ar (r:=i.rm) h3
 have g3:=ar (r:=i.ra) h4
 have g4:-1048576<=i.av/\i.av<=1048574/\i.av % 2=0:=cJ (s:=2) (by decide) h7
 have g5:i.kind=0:=(aJ rfl h9).1
 have g6:i.ba=0:=aW (aJ rfl h9).2
 have g7:i.set=0:=h8.elim id fun e=>absurd (show false=true from e.2) Bool.false_ne_true
 have g8:0<=i.cond/\i.cond<=13:=by rcases h6 with h6|h6<;>omega
 clear h1 h2 h3 h4 h5 h6 h7 h8 h9 bI
 refine Spec.enter aw gH 100 Tryz.func103 rfl (by kernel_rfl) ?_
 refine .inr ?_
 refine .inl ⟨ah (by omega),?_⟩
 refine (ak hs).u ?_
 refine .inl ⟨ah (by omega),?_⟩
 refine (nZ i.av i.cond (by omega) (by omega)).u ?_
 refine al ?_
 have eo:cK i (ao 33)=0 ||| B i.av 20 1 26 ||| B i.cond 0 4 22 ||| B i.av 12 6 16 ||| B i.av 18 1 13 ||| B i.av 19 1 11 ||| B i.av 1 11 0:=rfl
 rw[eo]
 refine (show _=_ from congrArg (fun n:Nat=>(n:Int)) ?_)
 simp only[Nat.zero_or]
theorem so (v:Int) (hv:-1099511627776<=v):aa (aV (aa v 0 25) 2) 24 1=aa v 24 1/\aa (aV (aa v 0 25) 2) 12 10=aa v 12 10/\aa (aV (aa v 0 25) 2) 23 1=(if aa v 23 1=aa v 24 1 then 1 else 0)/\aa (aV (aa v 0 25) 2) 22 1=(if aa v 22 1=aa v 24 1 then 1 else 0)/\aa (aV (aa v 0 25) 2) 1 11=aa v 1 11:=by
 obtain⟨u,hu⟩:∃ u,u=if v < 0 then v+1099511627776 else v:=⟨_,rfl⟩
 have u0:0<=u:=by rw[hu]; split<;>omega
 obtain⟨n,hn⟩:∃ n,n=aa v 0 25:=⟨_,rfl⟩
 have e:n=u % 33554432:=by
  rw[hn]; unfold aa; rw[← hu]; omega
 have hb:0<=n/\n < 33554432:=by omega
 have c:=iH hb
 have d:=kd hb
 rw[← hn]
 obtain⟨t,ht⟩:∃ t,t=aV n 2:=⟨_,rfl⟩
 rw[← ht] at c d ⊢
 have e1:aa v 24 1=n / 16777216:=by unfold aa; rw[← hu]; omega
 have e2:aa v 23 1=n / 8388608 % 2:=by unfold aa; rw[← hu]; omega
 have e3:aa v 22 1=n / 4194304 % 2:=by unfold aa; rw[← hu]; omega
 have e4:aa v 12 10=n % 4194304 / 4096:=by unfold aa; rw[← hu]; omega
 have e5:aa v 1 11=n % 4194304 / 2 % 2048:=by unfold aa; rw[← hu]; omega
 have f1:aa t 24 1=t / 16777216:=by unfold aa; rw[if_neg (by omega)]; omega
 have f2:aa t 23 1=t / 8388608 % 2:=by unfold aa; rw[if_neg (by omega)]; omega
 have f3:aa t 22 1=t / 4194304 % 2:=by unfold aa; rw[if_neg (by omega)]; omega
 have f4:aa t 12 10=t % 4194304 / 4096:=by unfold aa; rw[if_neg (by omega)]; omega
 have f5:aa t 1 11=t % 4194304 / 2 % 2048:=by unfold aa; rw[if_neg (by omega)]; omega
 have e6:n / 16777216 % 2=n / 16777216:=by omega
 rw[e1,e2,e3,e4,e5,f1,f2,f3,f4,f5,c.1,c.2.1]
 rw[e6] at c
 exact⟨rfl,rfl,c.2.2.2,c.2.2.1,rfl⟩
theorem Ap (a b:Int):∃ m:Int,m=(if a=b then 1 else 0)/\0<=m/\m < 2:=⟨_,rfl,by split<;>omega,by split<;>omega⟩
theorem n7 (v:Int) (hv:-1099511627776<=v):ai gT 133 [.int .u32 (IntKind.u32.wrap v)] (.int .u32 ((B (aV (aa v 0 25) 2) 24 1 26 ||| B (aV (aa v 0 25) 2) 12 10 16 ||| B (aV (aa v 0 25) 2) 23 1 13 ||| B (aV (aa v 0 25) 2) 22 1 11 ||| B (aV (aa v 0 25) 2) 1 11 0:Nat):Int)):=by
 obtain⟨t1,t2,t3,t4,t5⟩:=so v hv
 have s2:=iJ (aa v 23 1) (aa v 24 1) (gv v 23) (gv v 24)
 have s3:=iJ (aa v 22 1) (aa v 24 1) (gv v 22) (gv v 24)
 obtain⟨m2,qQ,c2⟩:=Ap (aa v 23 1) (aa v 24 1)
 obtain⟨m3,OI,c3⟩:=Ap (aa v 22 1) (aa v 24 1)
 rw[← qQ] at s2 t3
 rw[← OI] at s3 t4
 have b0:=ae v 24 1
 have b1:=ae v 12 10
 have b2:=ae v 1 11
 refine Spec.enter aw Rh 100 Tryz.func133 rfl (by kernel_rfl) ?_
 refine (lQ v 24 1 (by omega) (by decide) (by decide) (by decide)).u ?_
 refine⟨by decide,.inl ⟨ah (by rw[RR]; omega),?_⟩⟩
 refine (lQ v 12 10 (by omega) (by decide) (by decide) (by decide)).u ?_
 refine⟨by decide,.inl ⟨ah (by rw[EY]; omega),?_⟩⟩
 refine (lQ v 23 1 (by omega) (by decide) (by decide) (by decide)).u ?_
 refine s2.u ?_
 refine⟨by decide,.inl ⟨ah (by rw[TF]; omega),?_⟩⟩
 refine (lQ v 22 1 (by omega) (by decide) (by decide) (by decide)).u ?_
 refine s3.u ?_
 refine⟨by decide,.inl ⟨ah (by rw[RQ]; omega),?_⟩⟩
 refine (lQ v 1 11 (by omega) (by decide) (by decide) (by decide)).u ?_
 refine al ?_
 have k1:s_ (aa v 24 1*Ev.aC .u32 26) (B (aV (aa v 0 25) 2) 24 1 26):=by have:=nO (aV (aa v 0 25) 2) 24 1 26 (p:=Ev.aC .u32 26) (by decide) (by decide); rwa [t1] at this
 have k2:s_ (aa v 12 10*Ev.aC .u32 16) (B (aV (aa v 0 25) 2) 12 10 16):=by have:=nO (aV (aa v 0 25) 2) 12 10 16 (p:=Ev.aC .u32 16) (by decide) (by decide); rwa [t2] at this
 have k3:s_ (m2*Ev.aC .u32 13) (B (aV (aa v 0 25) 2) 23 1 13):=by have:=nO (aV (aa v 0 25) 2) 23 1 13 (p:=Ev.aC .u32 13) (by decide) (by decide); rwa [t3] at this
 have k4:s_ (m3*Ev.aC .u32 11) (B (aV (aa v 0 25) 2) 22 1 11):=by have:=nO (aV (aa v 0 25) 2) 22 1 11 (p:=Ev.aC .u32 11) (by decide) (by decide); rwa [t4] at this
 have k5:s_ (aa v 1 11) (B (aV (aa v 0 25) 2) 1 11 0):=by have:=qb (aV (aa v 0 25) 2) 1 11 (by decide); rwa [t5] at this
 exact (show bits .or .u32 (bits .or .u32 (bits .or .u32 (bits .or .u32 (aa v 24 1*Ev.aC .u32 26) (aa v 12 10*Ev.aC .u32 16)) (m2*Ev.aC .u32 13)) (m3*Ev.aC .u32 11)) (aa v 1 11)=_ from ((((k1.or k2).or k3).or k4).or k5).1)
theorem Dx (i:IN) (hs:af i.form=34) (hr:aD i (cw 34)) (hg:i.aq<=9223372036854775807):ai gT 103 [bJ i] (.int .u32 ((cK (cI i) (ao 34):Nat):Int)):=by
 obtain⟨hf,h1,h2,h3,h4,h5,h6,h7,h8,h9,bI⟩:=hr
 have g0:=ar (r:=i.rd) h1
 have g1:=ar (r:=i.rn) h2
 have g2:=ar (r:=i.rm) h3
 have g3:=ar (r:=i.ra) h4
 have g4:-16777216<=i.av/\i.av<=16777214/\i.av % 2=0:=cJ (s:=2) (by decide) h7
 have g5:i.kind=0:=(aJ rfl h9).1
 have g6:i.ba=0:=aW (aJ rfl h9).2
 have g7:i.set=0:=h8.elim id fun e=>absurd (show false=true from e.2) Bool.false_ne_true
 have g8:i.cond=0:=h6.elim id fun e=>absurd (show false=true from e.1) Bool.false_ne_true
 clear h1 h2 h3 h4 h5 h6 h7 h8 h9 bI
 have et:=ML hs
 rw[et]
 refine Spec.enter aw gH 100 Tryz.func103 rfl (by kernel_rfl) ?_
 refine .inr ?_
 refine .inl ⟨ah (by omega),?_⟩
 refine (ak hs).u ?_
 refine (n7 i.av (by omega)).u ?_
 refine al ?_
 have eo:cK {i with av:=aV (aa i.av 0 25) 2} (ao 34)=0 ||| B (aV (aa i.av 0 25) 2) 24 1 26 ||| B (aV (aa i.av 0 25) 2) 12 10 16 ||| B (aV (aa i.av 0 25) 2) 23 1 13 ||| B (aV (aa i.av 0 25) 2) 22 1 11 ||| B (aV (aa i.av 0 25) 2) 1 11 0:=rfl
 rw[eo]
 refine (show _=_ from congrArg (fun n:Nat=>(n:Int)) ?_)
 simp only[Nat.zero_or]
theorem eW:∀ (i:IN),kq (bJ i) (bJ i):=fun i=>⟨rfl,rfl,rfl,rfl,rfl,rfl,rfl,rfl,rfl,rfl,rfl,trivial⟩
theorem q2:Ev.aC .i64 2=4:=by decide
theorem TJ:Ev.aC .i64 14=16384:=by decide
theorem TK:Ev.aC .i64 15=32768:=by decide
theorem uq (f w:Int) (hF:1<=f/\f<=100) (hs:af f=1) (hw:cb w):ai gT 51 [.int .i64 f,.int .u32 w] (bJ (KF f w)):=by
 have b0:=ae w 6 5
 have b1:=ae w 3 3
 have b2:=ae w 0 3
 unfold KF
 refine Spec.enter aw rJ 100 Tryz.func51 rfl (by kernel_rfl) ?_
 have h3:=oP hF hs
 have e:∀ x:Int,x=0+x*2 ^ 0:=fun x=>by omega
 refine (ak hs).u ?_
 refine (az w 0 3 hw (by decide) (by decide)).u ?_
 refine (az w 3 3 hw (by decide) (by decide)).u ?_
 refine (az w 6 5 hw (by decide) (by decide)).u ?_
 refine⟨fun h1=>?_,fun h1=>?_⟩
 ·refine⟨[],aE,(cO 1 (0+aa w 6 5*2 ^ 0)).use (And.intro rfl (And.intro (e _) trivial)) rfl rfl ?_⟩
  refine al ?_
  (repeat' first|exact trivial|exact rfl|exact e _|refine And.intro ?_ ?_)
  show (if 0+aa w 6 5*2 ^ 0=0/\((1:Int)=1\/(1:Int)=2) then (32:Int) else _)=if 1 < f/\0+aa w 6 5*2 ^ 0=0 then (32:Int) else 0+aa w 6 5*2 ^ 0
  have iT:¬ f=1:=h1
  (repeat' split)<;>omega
 ·refine al ?_
  (repeat' first|exact trivial|exact rfl|exact e _|refine And.intro ?_ ?_)
  show aa w 6 5=if 1 < f/\0+aa w 6 5*2 ^ 0=0 then (32:Int) else 0+aa w 6 5*2 ^ 0
  have iT:¬ ¬ f=1:=h1
  (repeat' split)<;>omega
theorem ur (f w:Int) (hF:1<=f/\f<=100) (hs:af f=2) (hw:cb w):ai gT 51 [.int .i64 f,.int .u32 w] (bJ (KG f w)):=by
 have b0:=ae w 6 3
 have b1:=ae w 3 3
 have b2:=ae w 0 3
 unfold KG
 refine Spec.enter aw rJ 100 Tryz.func51 rfl (by kernel_rfl) ?_
 refine (ak hs).u ?_
 refine (jz ⟨f,0,0,0,0,0,0,0,0,0,0⟩ w hw).u ?_
 refine (az w 6 3 hw (by decide) (by decide)).u ?_
 refine al ?_
 (repeat' first|exact trivial|exact rfl|refine And.intro ?_ ?_)
 all_goals (show (_:Int)=_; (try dsimp only [bf,bq]); first|omega|(unfold cF; omega))
theorem uu (f w:Int) (hF:1<=f/\f<=100) (hs:af f=3) (hw:cb w):ai gT 51 [.int .i64 f,.int .u32 w] (bJ (KH f w)):=by
 have b0:=ae w 6 3
 have b1:=ae w 3 3
 have b2:=ae w 0 3
 unfold KH
 refine Spec.enter aw rJ 100 Tryz.func51 rfl (by kernel_rfl) ?_
 refine (ak hs).u ?_
 refine (jz ⟨f,0,0,0,0,0,0,0,0,0,0⟩ w hw).u ?_
 refine (az w 6 3 hw (by decide) (by decide)).u ?_
 refine al ?_
 (repeat' first|exact trivial|exact rfl|refine And.intro ?_ ?_)
 all_goals (show (_:Int)=_; (try dsimp only [bf,bq]); first|omega|(unfold cF; omega))
theorem uv (f w:Int) (hF:1<=f/\f<=100) (hs:af f=4) (hw:cb w):ai gT 51 [.int .i64 f,.int .u32 w] (bJ (KI f w)):=by
 have b0:=ae w 8 3
 have b1:=ae w 0 8
 unfold KI
 refine Spec.enter aw rJ 100 Tryz.func51 rfl (by kernel_rfl) ?_
 refine (ak hs).u ?_
 refine (az w 8 3 hw (by decide) (by decide)).u ?_
 refine (az w 0 8 hw (by decide) (by decide)).u ?_
 refine al ?_
 (repeat' first|exact trivial|exact rfl|refine And.intro ?_ ?_)
 all_goals (show (_:Int)=_; (try dsimp only [bf,bq]); first|omega|(unfold cF; omega))
theorem uw (f w:Int) (hF:1<=f/\f<=100) (hs:af f=5) (hw:cb w):ai gT 51 [.int .i64 f,.int .u32 w] (bJ (KJ f w)):=by
 have b0:=ae w 3 3
 have b1:=ae w 0 3
 unfold KJ
 refine Spec.enter aw rJ 100 Tryz.func51 rfl (by kernel_rfl) ?_
 refine (ak hs).u ?_
 refine (az w 0 3 hw (by decide) (by decide)).u ?_
 refine (az w 3 3 hw (by decide) (by decide)).u ?_
 refine al ?_
 (repeat' first|exact trivial|exact rfl|refine And.intro ?_ ?_)
 all_goals (show (_:Int)=_; (try dsimp only [bf,bq]); first|omega|(unfold cF; omega))
theorem ux (f w:Int) (hF:1<=f/\f<=100) (hs:af f=6) (hw:cb w):ai gT 51 [.int .i64 f,.int .u32 w] (bJ (KK f w)):=by
 have b0:=ae w 7 1
 have b1:=ae w 3 4
 have b2:=ae w 0 3
 unfold KK
 refine Spec.enter aw rJ 100 Tryz.func51 rfl (by kernel_rfl) ?_
 refine (ak hs).u ?_
 refine (az w 7 1 hw (by decide) (by decide)).u ?_
 refine⟨by decide,.inl ⟨aA (by rw[q3]; omega),?_⟩⟩
 refine (az w 0 3 hw (by decide) (by decide)).u ?_
 refine (az w 3 4 hw (by decide) (by decide)).u ?_
 have e:bits .or .i64 (aa w 7 1*Ev.aC .i64 3) (aa w 0 3)=0+aa w 7 1*2 ^ 3+aa w 0 3*2 ^ 0:=by
  rw[q3,Rm.bG (aa w 7 1*8) (aa w 0 3) 3 (by omega) (by omega) (by omega) (by omega) (by omega) (by omega)]; omega
 refine al ?_
 (repeat' first|exact trivial|exact rfl|exact e|refine And.intro ?_ ?_)
 all_goals (show (_:Int)=_; (try dsimp only [bf,bq]); omega)
theorem uy (f w:Int) (hF:1<=f/\f<=100) (hs:af f=7) (hw:cb w):ai gT 51 [.int .i64 f,.int .u32 w] (bJ (KM f w)):=by
 have b0:=ae w 3 4
 unfold KM
 refine Spec.enter aw rJ 100 Tryz.func51 rfl (by kernel_rfl) ?_
 refine (ak hs).u ?_
 refine (az w 3 4 hw (by decide) (by decide)).u ?_
 refine al ?_
 (repeat' first|exact trivial|exact rfl|refine And.intro ?_ ?_)
 all_goals (show (_:Int)=_; (try dsimp only [bf,bq]); first|omega|(unfold cF; omega))
theorem uz (f w:Int) (hF:1<=f/\f<=100) (hs:af f=8) (hw:cb w):ai gT 51 [.int .i64 f,.int .u32 w] (bJ (KN f w)):=by
 have b0:=ae w 8 3
 have b1:=ae w 0 8
 unfold KN
 refine Spec.enter aw rJ 100 Tryz.func51 rfl (by kernel_rfl) ?_
 refine (ak hs).u ?_
 refine (az w 8 3 hw (by decide) (by decide)).u ?_
 refine (az w 0 8 hw (by decide) (by decide)).u ?_
 refine li ?_
 refine al ?_
 (repeat' first|exact trivial|exact rfl|refine And.intro ?_ ?_)
 all_goals (show (_:Int)=_; (try dsimp only [bf,bq]); first|omega|(unfold cF; omega))
theorem uA (f w:Int) (hF:1<=f/\f<=100) (hs:af f=9) (hw:cb w):ai gT 51 [.int .i64 f,.int .u32 w] (bJ (KO f w)):=by
 have b0:=ae w 6 5
 have b1:=ae w 3 3
 have b2:=ae w 0 3
 unfold KO
 refine Spec.enter aw rJ 100 Tryz.func51 rfl (by kernel_rfl) ?_
 refine (ak hs).u ?_
 refine (jz ⟨f,0,0,0,0,0,0,0,0,0,0⟩ w hw).u ?_
 refine (az w 6 5 hw (by decide) (by decide)).u ?_
 refine li ?_
 refine al ?_
 (repeat' first|exact trivial|exact rfl|refine And.intro ?_ ?_)
 all_goals (show (_:Int)=_; (try dsimp only [bf,bq]); first|omega|(unfold cF; omega))
theorem sq (f w:Int) (hF:1<=f/\f<=100) (hs:af f=10) (hw:cb w):ai gT 51 [.int .i64 f,.int .u32 w] (bJ (z4 f w)):=by
 have b0:=ae w 0 7
 unfold z4
 refine Spec.enter aw rJ 100 Tryz.func51 rfl (by kernel_rfl) ?_
 refine (ak hs).u ?_
 refine (az w 0 7 hw (by decide) (by decide)).u ?_
 refine li ?_
 refine al ?_
 (repeat' first|exact trivial|exact rfl|refine And.intro ?_ ?_)
 all_goals (show (_:Int)=_; (try dsimp only [bf,bq]); first|omega|(unfold cF; omega))
theorem sr (f w:Int) (hF:1<=f/\f<=100) (hs:af f=11) (hw:cb w):ai gT 51 [.int .i64 f,.int .u32 w] (bJ (z5 f w)):=by
 have b0:=ae w 8 1
 have b1:=ae w 0 8
 unfold z5
 refine Spec.enter aw rJ 100 Tryz.func51 rfl (by kernel_rfl) ?_
 refine (ak hs).u ?_
 refine (az w 8 1 hw (by decide) (by decide)).u ?_
 refine⟨by decide,.inl ⟨aA (by rw[TJ]; omega),?_⟩⟩
 refine (az w 0 8 hw (by decide) (by decide)).u ?_
 have e:bits .or .i64 (aa w 8 1*Ev.aC .i64 14) (aa w 0 8)=0+aa w 8 1*2 ^ 14+aa w 0 8*2 ^ 0:=by
  rw[TJ,Rm.bG (aa w 8 1*16384) (aa w 0 8) 14 (by omega) (by omega) (by omega) (by omega) (by omega) (by omega)]; omega
 refine al ?_
 (repeat' first|exact trivial|exact rfl|exact e|refine And.intro ?_ ?_)
 all_goals (show (_:Int)=_; (try dsimp only [bf,bq]); omega)
theorem ss (f w:Int) (hF:1<=f/\f<=100) (hs:af f=12) (hw:cb w):ai gT 51 [.int .i64 f,.int .u32 w] (bJ (z6 f w)):=by
 have b0:=ae w 8 1
 have b1:=ae w 0 8
 unfold z6
 refine Spec.enter aw rJ 100 Tryz.func51 rfl (by kernel_rfl) ?_
 refine (ak hs).u ?_
 refine (az w 8 1 hw (by decide) (by decide)).u ?_
 refine⟨by decide,.inl ⟨aA (by rw[TK]; omega),?_⟩⟩
 refine (az w 0 8 hw (by decide) (by decide)).u ?_
 have e:bits .or .i64 (aa w 8 1*Ev.aC .i64 15) (aa w 0 8)=0+aa w 8 1*2 ^ 15+aa w 0 8*2 ^ 0:=by
  rw[TK,Rm.bG (aa w 8 1*32768) (aa w 0 8) 15 (by omega) (by omega) (by omega) (by omega) (by omega) (by omega)]; omega
 refine al ?_
 (repeat' first|exact trivial|exact rfl|exact e|refine And.intro ?_ ?_)
 all_goals (show (_:Int)=_; (try dsimp only [bf,bq]); omega)
theorem su (f w:Int) (hF:1<=f/\f<=100) (hs:af f=13) (hw:cb w):ai gT 51 [.int .i64 f,.int .u32 w] (bJ (z7 f w)):=by
 unfold z7
 refine Spec.enter aw rJ 100 Tryz.func51 rfl (by kernel_rfl) ?_
 refine (ak hs).u ?_
 exact rA
theorem sv (f w:Int) (hF:1<=f/\f<=100) (hs:af f=14) (hw:cb w):ai gT 51 [.int .i64 f,.int .u32 w] (bJ (z8 f w)):=by
 have b0:=ae w 0 8
 unfold z8
 refine Spec.enter aw rJ 100 Tryz.func51 rfl (by kernel_rfl) ?_
 refine (ak hs).u ?_
 refine (az w 0 8 hw (by decide) (by decide)).u ?_
 refine al ?_
 (repeat' first|exact trivial|exact rfl|refine And.intro ?_ ?_)
 all_goals (show (_:Int)=_; (try dsimp only [bf,bq]); first|omega|(unfold cF; omega))
theorem sw (f w:Int) (hF:1<=f/\f<=100) (hs:af f=15) (hw:cb w):ai gT 51 [.int .i64 f,.int .u32 w] (bJ (z9 f w)):=by
 have b0:=ae w 8 4
 have b1:=ae w 0 8
 unfold z9
 refine Spec.enter aw rJ 100 Tryz.func51 rfl (by kernel_rfl) ?_
 refine (ak hs).u ?_
 refine (az w 8 4 hw (by decide) (by decide)).u ?_
 refine (az w 0 8 hw (by decide) (by decide)).u ?_
 refine⟨by decide,.inl ⟨aA (by rw[q1]; omega),?_⟩⟩
 refine⟨[],aE,(fu (0+aa w 0 8*2 ^ 1) 8 (by decide) ⟨by omega,by omega⟩).use (And.intro (show aa w 0 8*Ev.aC .i64 1=_ by rw[q1]; omega) (And.intro rfl trivial)) rfl rfl ?_⟩
 refine al ?_
 (repeat' first|exact trivial|exact rfl|refine And.intro ?_ ?_)
 all_goals (show (_:Int)=_; (try dsimp only [bf,bq]); first|omega|(unfold cF; omega))
theorem sA (f w:Int) (hF:1<=f/\f<=100) (hs:af f=16) (hw:cb w):ai gT 51 [.int .i64 f,.int .u32 w] (bJ (z_ f w)):=by
 have b0:=ae w 0 11
 unfold z_
 refine Spec.enter aw rJ 100 Tryz.func51 rfl (by kernel_rfl) ?_
 refine (ak hs).u ?_
 refine (az w 0 11 hw (by decide) (by decide)).u ?_
 refine⟨by decide,.inl ⟨aA (by rw[q1]; omega),?_⟩⟩
 refine⟨[],aE,(fu (0+aa w 0 11*2 ^ 1) 11 (by decide) ⟨by omega,by omega⟩).use (And.intro (show aa w 0 11*Ev.aC .i64 1=_ by rw[q1]; omega) (And.intro rfl trivial)) rfl rfl ?_⟩
 refine al ?_
 (repeat' first|exact trivial|exact rfl|refine And.intro ?_ ?_)
 all_goals (show (_:Int)=_; (try dsimp only [bf,bq]); first|omega|(unfold cF; omega))
theorem n8 (f w:Int) (hs:17<=af f) (hw:cb w):ai gT 51 [.int .i64 f,.int .u32 w] (bJ ⟨f,0,0,0,0,0,0,0,0,0,0⟩):=by
 refine Spec.enter aw rJ 100 Tryz.func51 rfl (by kernel_rfl) ?_
 refine (gr f).u ?_
 iterate 15 (refine And.intro (fun h=>absurd (show af f=_ from h) (by omega)) (fun _=>?_))
 exact rA
end Go.Proofs.YtnbhdacpogplgaaGreatDoor.Pw

/- What this claim is proved with: no condition. -/
import Derived.Test.YtnbngokbamifbaaGreatDoorNr18
set_option maxRecDepth 100000
set_option maxHeartbeats 8000000
set_option linter.unusedVariables false
set_option linter.unusedSimpArgs false
namespace Go.Proofs.YtnbngokbamifbaaGreatDoor.Pw
open Go Go.RowKit
theorem L4 (i:IN) (hs:ae i.form=17) (hr:aC i (cU 17)) (hg:i.an<=9223372036854775807):ah gT 177 [bX i] (.int .u32 ((eH i (aq 17):Nat):Int)):=by
 obtain⟨hf,h1,h2,h3,h4,h5,h6,h7,h8,h9,cY⟩:=hr
 have g0:=bE (r:=i.rd) h1
 have g1:=aA (r:=i.rn) h2
 have g2:=aA (r:=i.rm) h3
 have g3:=aA (r:=i.ra) h4
 have g4:0<=i.av/\i.av<=65535/\i.av % 1=0:=eR (s:=1) (by decide) h7
 have g5:i.kind=0:=(bo rfl h9).1
 have g6:i.bG=0:=bO (bo rfl h9).2
 have g7:i.set=0:=h8.elim id fun e=>absurd (show false=true from e.2) Bool.false_ne_true
 have g8:i.cond=0:=h6.elim id fun e=>absurd (show false=true from e.1) Bool.false_ne_true
 clear h1 h2 h3 h4 h5 h6 h7 h8 h9 cY
 refine Spec.enter ar k_ 100 Tryz.func177 rfl (by kernel_rfl) ?_
 refine .inl ⟨af (by omega),?_⟩
 refine .inl ⟨af (by omega),?_⟩
 refine (aw hs).u ?_
 refine (dq i (by omega) (by omega) (by omega) (by omega) (by omega)).u ?_
 refine (g_ i.av (by unfold aP; omega)).u ?_
 refine ao ?_
 have eo:eH i (aq 17)=0 ||| B i.av 11 1 26 ||| B i.av 12 4 16 ||| B i.av 8 3 12 ||| B i.av 0 8 0 ||| B i.rd 0 4 8:=rfl
 rw[eo]
 refine (show bits .or .u32 (((B i.set 0 1 20 ||| B i.rn 0 4 16 ||| B i.ra 0 4 12 ||| B i.rd 0 4 8 ||| B i.rm 0 4 0:Nat):Int)) (((B i.av 11 1 26 ||| B i.av 12 4 16 ||| B i.av 8 3 12 ||| B i.av 0 8 0:Nat):Int))=_ from ?_)
 refine ((((fK i)).or (lU i.av))).1.trans (congrArg (fun n:Nat=>(n:Int)) ?_)
 first
 | (simp only[gW g1,gW g2,gW g3,gW g7,Nat.or_zero,Nat.zero_or]; done)
 | (simp only[gW g1,gW g2,gW g3,gW g7,Nat.or_zero,Nat.zero_or]
    generalize B i.av 11 1 26=n0
    generalize B i.av 12 4 16=n1
    generalize B i.av 8 3 12=n2
    generalize B i.av 0 8 0=n3
    generalize B i.rd 0 4 8=n4
    ac_rfl)
theorem L5 (i:IN) (hs:ae i.form=18) (hr:aC i (cU 18)) (hg:i.an<=9223372036854775807):ah gT 177 [bX i] (.int .u32 ((eH i (aq 18):Nat):Int)):=by
 obtain⟨hf,h1,h2,h3,h4,h5,h6,h7,h8,h9,cY⟩:=hr
 have g0:=bE (r:=i.rd) h1
 have g1:=bE (r:=i.rn) h2
 have g2:=aA (r:=i.rm) h3
 have g3:=aA (r:=i.ra) h4
 have g4:0<=i.av/\i.av<=4095/\i.av % 1=0:=eR (s:=1) (by decide) h7
 have g5:i.kind=0:=(bo rfl h9).1
 have g6:i.bG=0:=bO (bo rfl h9).2
 have g7:i.set=0\/i.set=1:=h8.imp id fun e=>e.1
 have g8:i.cond=0:=h6.elim id fun e=>absurd (show false=true from e.1) Bool.false_ne_true
 clear h1 h2 h3 h4 h5 h6 h7 h8 h9 cY
 refine Spec.enter ar k_ 100 Tryz.func177 rfl (by kernel_rfl) ?_
 refine .inl ⟨af (by omega),?_⟩
 refine .inl ⟨af (by omega),?_⟩
 refine (aw hs).u ?_
 refine (dq i (by omega) (by omega) (by omega) (by omega) (by omega)).u ?_
 refine (g_ i.av (by unfold aP; omega)).u ?_
 refine ao ?_
 have eo:eH i (aq 18)=0 ||| B i.av 11 1 26 ||| B i.av 8 3 12 ||| B i.av 0 8 0 ||| B i.set 0 1 20 ||| B i.rn 0 4 16 ||| B i.rd 0 4 8:=rfl
 have HT:B i.av 12 4 16=0:=sV (by unfold aa; split<;>omega)
 rw[eo]
 refine (show bits .or .u32 (((B i.set 0 1 20 ||| B i.rn 0 4 16 ||| B i.ra 0 4 12 ||| B i.rd 0 4 8 ||| B i.rm 0 4 0:Nat):Int)) (((B i.av 11 1 26 ||| B i.av 12 4 16 ||| B i.av 8 3 12 ||| B i.av 0 8 0:Nat):Int))=_ from ?_)
 refine ((((fK i)).or (lU i.av))).1.trans (congrArg (fun n:Nat=>(n:Int)) ?_)
 first
 | (simp only[gW g2,gW g3,HT,Nat.or_zero,Nat.zero_or]; done)
 | (simp only[gW g2,gW g3,HT,Nat.or_zero,Nat.zero_or]
    generalize B i.av 11 1 26=n0
    generalize B i.av 8 3 12=n1
    generalize B i.av 0 8 0=n2
    generalize B i.set 0 1 20=n3
    generalize B i.rn 0 4 16=n4
    generalize B i.rd 0 4 8=n5
    ac_rfl)
theorem L6 (i:IN) (hs:ae i.form=19) (hr:aC i (cU 19)) (hg:i.an<=9223372036854775807):ah gT 177 [bX i] (.int .u32 ((eH i (aq 19):Nat):Int)):=by
 obtain⟨hf,h1,h2,h3,h4,h5,h6,h7,h8,h9,cY⟩:=hr
 have g0:=bE (r:=i.rd) h1
 have g1:=aA (r:=i.rn) h2
 have g2:=aA (r:=i.rm) h3
 have g3:=aA (r:=i.ra) h4
 have g4:0<=i.av/\i.av<=4095/\i.av % 1=0:=eR (s:=1) (by decide) h7
 have g5:i.kind=0:=(bo rfl h9).1
 have g6:i.bG=0:=bO (bo rfl h9).2
 have g7:i.set=0\/i.set=1:=h8.imp id fun e=>e.1
 have g8:i.cond=0:=h6.elim id fun e=>absurd (show false=true from e.1) Bool.false_ne_true
 clear h1 h2 h3 h4 h5 h6 h7 h8 h9 cY
 refine Spec.enter ar k_ 100 Tryz.func177 rfl (by kernel_rfl) ?_
 refine .inl ⟨af (by omega),?_⟩
 refine .inl ⟨af (by omega),?_⟩
 refine (aw hs).u ?_
 refine (dq i (by omega) (by omega) (by omega) (by omega) (by omega)).u ?_
 refine (g_ i.av (by unfold aP; omega)).u ?_
 refine ao ?_
 have eo:eH i (aq 19)=0 ||| B i.av 11 1 26 ||| B i.av 8 3 12 ||| B i.av 0 8 0 ||| B i.set 0 1 20 ||| B i.rd 0 4 8:=rfl
 have HT:B i.av 12 4 16=0:=sV (by unfold aa; split<;>omega)
 rw[eo]
 refine (show bits .or .u32 (((B i.set 0 1 20 ||| B i.rn 0 4 16 ||| B i.ra 0 4 12 ||| B i.rd 0 4 8 ||| B i.rm 0 4 0:Nat):Int)) (((B i.av 11 1 26 ||| B i.av 12 4 16 ||| B i.av 8 3 12 ||| B i.av 0 8 0:Nat):Int))=_ from ?_)
 refine ((((fK i)).or (lU i.av))).1.trans (congrArg (fun n:Nat=>(n:Int)) ?_)
 first
 | (simp only[gW g1,gW g2,gW g3,HT,Nat.or_zero,Nat.zero_or]; done)
 | (simp only[gW g1,gW g2,gW g3,HT,Nat.or_zero,Nat.zero_or]
    generalize B i.av 11 1 26=n0
    generalize B i.av 8 3 12=n1
    generalize B i.av 0 8 0=n2
    generalize B i.set 0 1 20=n3
    generalize B i.rd 0 4 8=n4
    ac_rfl)
theorem L7 (i:IN) (hs:ae i.form=20) (hr:aC i (cU 20)) (hg:i.an<=9223372036854775807):ah gT 177 [bX i] (.int .u32 ((eH i (aq 20):Nat):Int)):=by
 obtain⟨hf,h1,h2,h3,h4,h5,h6,h7,h8,h9,cY⟩:=hr
 have g0:=aA (r:=i.rd) h1
 have g1:=bE (r:=i.rn) h2
 have g2:=aA (r:=i.rm) h3
 have g3:=aA (r:=i.ra) h4
 have g4:0<=i.av/\i.av<=4095/\i.av % 1=0:=eR (s:=1) (by decide) h7
 have g5:i.kind=0:=(bo rfl h9).1
 have g6:i.bG=0:=bO (bo rfl h9).2
 have g7:i.set=0:=h8.elim id fun e=>absurd (show false=true from e.2) Bool.false_ne_true
 have g8:i.cond=0:=h6.elim id fun e=>absurd (show false=true from e.1) Bool.false_ne_true
 clear h1 h2 h3 h4 h5 h6 h7 h8 h9 cY
 refine Spec.enter ar k_ 100 Tryz.func177 rfl (by kernel_rfl) ?_
 refine .inl ⟨af (by omega),?_⟩
 refine .inl ⟨af (by omega),?_⟩
 refine (aw hs).u ?_
 refine (dq i (by omega) (by omega) (by omega) (by omega) (by omega)).u ?_
 refine (g_ i.av (by unfold aP; omega)).u ?_
 refine ao ?_
 have eo:eH i (aq 20)=0 ||| B i.av 11 1 26 ||| B i.av 8 3 12 ||| B i.av 0 8 0 ||| B i.rn 0 4 16:=rfl
 have HT:B i.av 12 4 16=0:=sV (by unfold aa; split<;>omega)
 rw[eo]
 refine (show bits .or .u32 (((B i.set 0 1 20 ||| B i.rn 0 4 16 ||| B i.ra 0 4 12 ||| B i.rd 0 4 8 ||| B i.rm 0 4 0:Nat):Int)) (((B i.av 11 1 26 ||| B i.av 12 4 16 ||| B i.av 8 3 12 ||| B i.av 0 8 0:Nat):Int))=_ from ?_)
 refine ((((fK i)).or (lU i.av))).1.trans (congrArg (fun n:Nat=>(n:Int)) ?_)
 first
 | (simp only[gW g0,gW g2,gW g3,gW g7,HT,Nat.or_zero,Nat.zero_or]; done)
 | (simp only[gW g0,gW g2,gW g3,gW g7,HT,Nat.or_zero,Nat.zero_or]
    generalize B i.av 11 1 26=n0
    generalize B i.av 8 3 12=n1
    generalize B i.av 0 8 0=n2
    generalize B i.rn 0 4 16=n3
    ac_rfl)
theorem L8 (i:IN) (hs:ae i.form=21) (hr:aC i (cU 21)) (hg:i.an<=9223372036854775807):ah gT 177 [bX i] (.int .u32 ((eH i (aq 21):Nat):Int)):=by
 obtain⟨hf,h1,h2,h3,h4,h5,h6,h7,h8,h9,cY⟩:=hr
 have g0:=bE (r:=i.rd) h1
 have g1:=bE (r:=i.rn) h2
 have g2:=bE (r:=i.rm) h3
 have g3:=aA (r:=i.ra) h4
 have g4:i.av=0:=bO h7
 have g6:bM i.kind i.bG:=Eh rfl h9
 have g5:=mE g6
 have g6b:0<=i.bG/\i.bG<=32:=by unfold bM at g6; omega
 have g7:i.set=0\/i.set=1:=h8.imp id fun e=>e.1
 have g8:i.cond=0:=h6.elim id fun e=>absurd (show false=true from e.1) Bool.false_ne_true
 clear h1 h2 h3 h4 h5 h6 h7 h8 h9 cY
 have b0:=ab i.bG 2 3
 have b1:=ab i.bG 0 2
 refine Spec.enter ar k_ 100 Tryz.func177 rfl (by kernel_rfl) ?_
 refine .inl ⟨af (by omega),?_⟩
 refine .inl ⟨af (by omega),?_⟩
 refine (aw hs).u ?_
 refine .inl ⟨af (by omega),?_⟩
 refine⟨by decide,.inl ⟨af (by rw[r4]; omega),?_⟩⟩
 refine (dq i (by omega) (by omega) (by omega) (by omega) (by omega)).u ?_
 repeat (first
  | (refine⟨[],aT,(lV i.bG 2 3 (by unfold aP; omega) (by decide) (by decide)).use (And.intro rfl (And.intro rfl (And.intro rfl trivial))) rfl rfl ?_⟩)
  | (refine⟨by decide,.inl ⟨af (by rw[Pe]; omega),?_⟩⟩)
  | (refine⟨[],aT,(lV i.bG 0 2 (by unfold aP; omega) (by decide) (by decide)).use (And.intro rfl (And.intro rfl (And.intro rfl trivial))) rfl rfl ?_⟩)
  | (refine⟨by decide,.inl ⟨af (by rw[r6]; omega),?_⟩⟩)
  | (refine .inl ⟨af (by omega),?_⟩)
  | (refine⟨by decide,.inl ⟨af (by rw[r4]; omega),?_⟩⟩))
 refine ao ?_
 have eo:eH i (aq 21)=0 ||| B i.bG 2 3 12 ||| B i.bG 0 2 6 ||| B i.kind 0 2 4 ||| B i.set 0 1 20 ||| B i.rn 0 4 16 ||| B i.rd 0 4 8 ||| B i.rm 0 4 0:=rfl
 rw[eo]
 refine (show bits .or .u32 (bits .or .u32 (bits .or .u32 (((B i.set 0 1 20 ||| B i.rn 0 4 16 ||| B i.ra 0 4 12 ||| B i.rd 0 4 8 ||| B i.rm 0 4 0:Nat):Int)) (aa i.bG 2 3*Ev.aD .u32 12)) (aa i.bG 0 2*Ev.aD .u32 6)) (i.kind*Ev.aD .u32 4)=_ from ?_)
 refine ((((((((fK i)).or (tQ i.bG 2 3 12 (by decide) (by decide)))).or (tQ i.bG 0 2 6 (by decide) (by decide)))).or (pH i.kind 2 4 (by decide) (by decide) (by omega)))).1.trans (congrArg (fun n:Nat=>(n:Int)) ?_)
 first
 | (simp only[gW g3,Nat.or_zero,Nat.zero_or]; done)
 | (simp only[gW g3,Nat.or_zero,Nat.zero_or]
    generalize B i.bG 2 3 12=n0
    generalize B i.bG 0 2 6=n1
    generalize B i.kind 0 2 4=n2
    generalize B i.set 0 1 20=n3
    generalize B i.rn 0 4 16=n4
    generalize B i.rd 0 4 8=n5
    generalize B i.rm 0 4 0=n6
    ac_rfl)
theorem L9 (i:IN) (hs:ae i.form=22) (hr:aC i (cU 22)) (hg:i.an<=9223372036854775807):ah gT 177 [bX i] (.int .u32 ((eH i (aq 22):Nat):Int)):=by
 obtain⟨hf,h1,h2,h3,h4,h5,h6,h7,h8,h9,cY⟩:=hr
 have g0:=bE (r:=i.rd) h1
 have g1:=aA (r:=i.rn) h2
 have g2:=bE (r:=i.rm) h3
 have g3:=aA (r:=i.ra) h4
 have g4:i.av=0:=bO h7
 have g6:bM i.kind i.bG:=Eh rfl h9
 have g5:=mE g6
 have g6b:0<=i.bG/\i.bG<=32:=by unfold bM at g6; omega
 have g7:i.set=0\/i.set=1:=h8.imp id fun e=>e.1
 have g8:i.cond=0:=h6.elim id fun e=>absurd (show false=true from e.1) Bool.false_ne_true
 clear h1 h2 h3 h4 h5 h6 h7 h8 h9 cY
 have b0:=ab i.bG 2 3
 have b1:=ab i.bG 0 2
 refine Spec.enter ar k_ 100 Tryz.func177 rfl (by kernel_rfl) ?_
 refine .inl ⟨af (by omega),?_⟩
 refine .inl ⟨af (by omega),?_⟩
 refine (aw hs).u ?_
 refine .inl ⟨af (by omega),?_⟩
 refine⟨by decide,.inl ⟨af (by rw[r4]; omega),?_⟩⟩
 refine (dq i (by omega) (by omega) (by omega) (by omega) (by omega)).u ?_
 repeat (first
  | (refine⟨[],aT,(lV i.bG 2 3 (by unfold aP; omega) (by decide) (by decide)).use (And.intro rfl (And.intro rfl (And.intro rfl trivial))) rfl rfl ?_⟩)
  | (refine⟨by decide,.inl ⟨af (by rw[Pe]; omega),?_⟩⟩)
  | (refine⟨[],aT,(lV i.bG 0 2 (by unfold aP; omega) (by decide) (by decide)).use (And.intro rfl (And.intro rfl (And.intro rfl trivial))) rfl rfl ?_⟩)
  | (refine⟨by decide,.inl ⟨af (by rw[r6]; omega),?_⟩⟩)
  | (refine .inl ⟨af (by omega),?_⟩)
  | (refine⟨by decide,.inl ⟨af (by rw[r4]; omega),?_⟩⟩))
 refine ao ?_
 have eo:eH i (aq 22)=0 ||| B i.bG 2 3 12 ||| B i.bG 0 2 6 ||| B i.kind 0 2 4 ||| B i.set 0 1 20 ||| B i.rd 0 4 8 ||| B i.rm 0 4 0:=rfl
 rw[eo]
 refine (show bits .or .u32 (bits .or .u32 (bits .or .u32 (((B i.set 0 1 20 ||| B i.rn 0 4 16 ||| B i.ra 0 4 12 ||| B i.rd 0 4 8 ||| B i.rm 0 4 0:Nat):Int)) (aa i.bG 2 3*Ev.aD .u32 12)) (aa i.bG 0 2*Ev.aD .u32 6)) (i.kind*Ev.aD .u32 4)=_ from ?_)
 refine ((((((((fK i)).or (tQ i.bG 2 3 12 (by decide) (by decide)))).or (tQ i.bG 0 2 6 (by decide) (by decide)))).or (pH i.kind 2 4 (by decide) (by decide) (by omega)))).1.trans (congrArg (fun n:Nat=>(n:Int)) ?_)
 first
 | (simp only[gW g1,gW g3,Nat.or_zero,Nat.zero_or]; done)
 | (simp only[gW g1,gW g3,Nat.or_zero,Nat.zero_or]
    generalize B i.bG 2 3 12=n0
    generalize B i.bG 0 2 6=n1
    generalize B i.kind 0 2 4=n2
    generalize B i.set 0 1 20=n3
    generalize B i.rd 0 4 8=n4
    generalize B i.rm 0 4 0=n5
    ac_rfl)
theorem L' (i:IN) (hs:ae i.form=23) (hr:aC i (cU 23)) (hg:i.an<=9223372036854775807):ah gT 177 [bX i] (.int .u32 ((eH i (aq 23):Nat):Int)):=by
 obtain⟨hf,h1,h2,h3,h4,h5,h6,h7,h8,h9,cY⟩:=hr
 have g0:=aA (r:=i.rd) h1
 have g1:=bE (r:=i.rn) h2
 have g2:=bE (r:=i.rm) h3
 have g3:=aA (r:=i.ra) h4
 have g4:i.av=0:=bO h7
 have g6:bM i.kind i.bG:=Eh rfl h9
 have g5:=mE g6
 have g6b:0<=i.bG/\i.bG<=32:=by unfold bM at g6; omega
 have g7:i.set=0:=h8.elim id fun e=>absurd (show false=true from e.2) Bool.false_ne_true
 have g8:i.cond=0:=h6.elim id fun e=>absurd (show false=true from e.1) Bool.false_ne_true
 clear h1 h2 h3 h4 h5 h6 h7 h8 h9 cY
 have b0:=ab i.bG 2 3
 have b1:=ab i.bG 0 2
 refine Spec.enter ar k_ 100 Tryz.func177 rfl (by kernel_rfl) ?_
 refine .inl ⟨af (by omega),?_⟩
 refine .inl ⟨af (by omega),?_⟩
 refine (aw hs).u ?_
 refine .inl ⟨af (by omega),?_⟩
 refine⟨by decide,.inl ⟨af (by rw[r4]; omega),?_⟩⟩
 refine (dq i (by omega) (by omega) (by omega) (by omega) (by omega)).u ?_
 repeat (first
  | (refine⟨[],aT,(lV i.bG 2 3 (by unfold aP; omega) (by decide) (by decide)).use (And.intro rfl (And.intro rfl (And.intro rfl trivial))) rfl rfl ?_⟩)
  | (refine⟨by decide,.inl ⟨af (by rw[Pe]; omega),?_⟩⟩)
  | (refine⟨[],aT,(lV i.bG 0 2 (by unfold aP; omega) (by decide) (by decide)).use (And.intro rfl (And.intro rfl (And.intro rfl trivial))) rfl rfl ?_⟩)
  | (refine⟨by decide,.inl ⟨af (by rw[r6]; omega),?_⟩⟩)
  | (refine .inl ⟨af (by omega),?_⟩)
  | (refine⟨by decide,.inl ⟨af (by rw[r4]; omega),?_⟩⟩))
 refine ao ?_
 have eo:eH i (aq 23)=0 ||| B i.bG 2 3 12 ||| B i.bG 0 2 6 ||| B i.kind 0 2 4 ||| B i.rn 0 4 16 ||| B i.rm 0 4 0:=rfl
 rw[eo]
 refine (show bits .or .u32 (bits .or .u32 (bits .or .u32 (((B i.set 0 1 20 ||| B i.rn 0 4 16 ||| B i.ra 0 4 12 ||| B i.rd 0 4 8 ||| B i.rm 0 4 0:Nat):Int)) (aa i.bG 2 3*Ev.aD .u32 12)) (aa i.bG 0 2*Ev.aD .u32 6)) (i.kind*Ev.aD .u32 4)=_ from ?_)
 refine ((((((((fK i)).or (tQ i.bG 2 3 12 (by decide) (by decide)))).or (tQ i.bG 0 2 6 (by decide) (by decide)))).or (pH i.kind 2 4 (by decide) (by decide) (by omega)))).1.trans (congrArg (fun n:Nat=>(n:Int)) ?_)
 first
 | (simp only[gW g0,gW g3,gW g7,Nat.or_zero,Nat.zero_or]; done)
 | (simp only[gW g0,gW g3,gW g7,Nat.or_zero,Nat.zero_or]
    generalize B i.bG 2 3 12=n0
    generalize B i.bG 0 2 6=n1
    generalize B i.kind 0 2 4=n2
    generalize B i.rn 0 4 16=n3
    generalize B i.rm 0 4 0=n4
    ac_rfl)
theorem L_ (i:IN) (hs:ae i.form=24) (hr:aC i (cU 24)) (hg:i.an<=9223372036854775807):ah gT 177 [bX i] (.int .u32 ((eH i (aq 24):Nat):Int)):=by
 obtain⟨hf,h1,h2,h3,h4,h5,h6,h7,h8,h9,cY⟩:=hr
 have g0:=bE (r:=i.rd) h1
 have g1:=bE (r:=i.rn) h2
 have g2:=aA (r:=i.rm) h3
 have g3:=aA (r:=i.ra) h4
 have g4:0<=i.av/\i.av<=4095/\i.av % 1=0:=eR (s:=1) (by decide) h7
 have g5:i.kind=0:=(bo rfl h9).1
 have g6:i.bG=0:=bO (bo rfl h9).2
 have g7:i.set=0:=h8.elim id fun e=>absurd (show false=true from e.2) Bool.false_ne_true
 have g8:i.cond=0:=h6.elim id fun e=>absurd (show false=true from e.1) Bool.false_ne_true
 clear h1 h2 h3 h4 h5 h6 h7 h8 h9 cY
 refine Spec.enter ar k_ 100 Tryz.func177 rfl (by kernel_rfl) ?_
 refine .inl ⟨af (by omega),?_⟩
 refine .inl ⟨af (by omega),?_⟩
 refine (aw hs).u ?_
 refine (dq i (by omega) (by omega) (by omega) (by omega) (by omega)).u ?_
 refine (g_ i.av (by unfold aP; omega)).u ?_
 refine ao ?_
 have eo:eH i (aq 24)=0 ||| B i.av 11 1 26 ||| B i.av 8 3 12 ||| B i.av 0 8 0 ||| B i.rn 0 4 16 ||| B i.rd 0 4 8:=rfl
 have HT:B i.av 12 4 16=0:=sV (by unfold aa; split<;>omega)
 rw[eo]
 refine (show bits .or .u32 (((B i.set 0 1 20 ||| B i.rn 0 4 16 ||| B i.ra 0 4 12 ||| B i.rd 0 4 8 ||| B i.rm 0 4 0:Nat):Int)) (((B i.av 11 1 26 ||| B i.av 12 4 16 ||| B i.av 8 3 12 ||| B i.av 0 8 0:Nat):Int))=_ from ?_)
 refine ((((fK i)).or (lU i.av))).1.trans (congrArg (fun n:Nat=>(n:Int)) ?_)
 first
 | (simp only[gW g2,gW g3,gW g7,HT,Nat.or_zero,Nat.zero_or]; done)
 | (simp only[gW g2,gW g3,gW g7,HT,Nat.or_zero,Nat.zero_or]
    generalize B i.av 11 1 26=n0
    generalize B i.av 8 3 12=n1
    generalize B i.av 0 8 0=n2
    generalize B i.rn 0 4 16=n3
    generalize B i.rd 0 4 8=n4
    ac_rfl)
theorem Ma (i:IN) (hs:ae i.form=25) (hr:aC i (cU 25)) (hg:i.an<=9223372036854775807):ah gT 177 [bX i] (.int .u32 ((eH i (aq 25):Nat):Int)):=by
 obtain⟨hf,h1,h2,h3,h4,h5,h6,h7,h8,h9,cY⟩:=hr
 have g0:=bE (r:=i.rd) h1
 have g1:=na (r:=i.rn) h2
 have g2:=aA (r:=i.rm) h3
 have g3:=aA (r:=i.ra) h4
 have g4:0<=i.av/\i.av<=4095/\i.av % 1=0:=eR (s:=1) (by decide) h7
 have g5:i.kind=0:=(bo rfl h9).1
 have g6:i.bG=0:=bO (bo rfl h9).2
 have g7:i.set=0:=h8.elim id fun e=>absurd (show false=true from e.2) Bool.false_ne_true
 have g8:i.cond=0:=h6.elim id fun e=>absurd (show false=true from e.1) Bool.false_ne_true
 clear h1 h2 h3 h4 h5 h6 h7 h8 h9 cY
 refine Spec.enter ar k_ 100 Tryz.func177 rfl (by kernel_rfl) ?_
 refine .inl ⟨af (by omega),?_⟩
 refine .inl ⟨af (by omega),?_⟩
 refine (aw hs).u ?_
 refine .inl ⟨af (by omega),?_⟩
 refine⟨by decide,.inl ⟨af (by rw[Pf]; omega),?_⟩⟩
 refine .inl ⟨af (by omega),?_⟩
 refine⟨by decide,.inl ⟨af (by rw[Pe]; omega),?_⟩⟩
 refine ao ?_
 have eo:eH i (aq 25)=0 ||| B i.rn 0 4 16 ||| B i.rd 0 4 12 ||| B i.av 0 12 0:=rfl
 rw[eo]
 refine (show bits .or .u32 (bits .or .u32 (i.rn*Ev.aD .u32 16) (i.rd*Ev.aD .u32 12)) (i.av)=_ from ?_)
 refine ((((((pH i.rn 4 16 (by decide) (by decide) (by omega))).or (pH i.rd 4 12 (by decide) (by decide) (by omega)))).or (sU i.av 12 (by decide) (by omega)))).1.trans (congrArg (fun n:Nat=>(n:Int)) ?_)
 first
 | (simp only[Nat.or_zero,Nat.zero_or]; done)
 | (simp only[Nat.or_zero,Nat.zero_or]
    generalize B i.rn 0 4 16=n0
    generalize B i.rd 0 4 12=n1
    generalize B i.av 0 12 0=n2
    ac_rfl)
theorem Mb (i:IN) (hs:ae i.form=26) (hr:aC i (cU 26)) (hg:i.an<=9223372036854775807):ah gT 177 [bX i] (.int .u32 ((eH i (aq 26):Nat):Int)):=by
 obtain⟨hf,h1,h2,h3,h4,h5,h6,h7,h8,h9,cY⟩:=hr
 have g0:=bE (r:=i.rd) h1
 have g1:=na (r:=i.rn) h2
 have g2:=bE (r:=i.rm) h3
 have g3:=aA (r:=i.ra) h4
 have g4:i.av=0:=bO h7
 have g5:i.kind=0:=(bo rfl h9).1
 have g6:0<=i.bG/\i.bG<=3/\i.bG % 1=0:=eR (s:=1) (by decide) (bo rfl h9).2
 have g7:i.set=0:=h8.elim id fun e=>absurd (show false=true from e.2) Bool.false_ne_true
 have g8:i.cond=0:=h6.elim id fun e=>absurd (show false=true from e.1) Bool.false_ne_true
 clear h1 h2 h3 h4 h5 h6 h7 h8 h9 cY
 refine Spec.enter ar k_ 100 Tryz.func177 rfl (by kernel_rfl) ?_
 refine .inl ⟨af (by omega),?_⟩
 refine .inl ⟨af (by omega),?_⟩
 refine (aw hs).u ?_
 refine .inl ⟨af (by omega),?_⟩
 refine⟨by decide,.inl ⟨af (by rw[Pf]; omega),?_⟩⟩
 refine .inl ⟨af (by omega),?_⟩
 refine⟨by decide,.inl ⟨af (by rw[Pe]; omega),?_⟩⟩
 refine⟨by decide,.inl ⟨af (by rw[r4]; omega),?_⟩⟩
 refine .inl ⟨af (by omega),?_⟩
 refine ao ?_
 have eo:eH i (aq 26)=0 ||| B i.rn 0 4 16 ||| B i.rd 0 4 12 ||| B i.bG 0 2 4 ||| B i.rm 0 4 0:=rfl
 rw[eo]
 refine (show bits .or .u32 (bits .or .u32 (bits .or .u32 (i.rn*Ev.aD .u32 16) (i.rd*Ev.aD .u32 12)) (i.bG*Ev.aD .u32 4)) (i.rm)=_ from ?_)
 refine ((((((((pH i.rn 4 16 (by decide) (by decide) (by omega))).or (pH i.rd 4 12 (by decide) (by decide) (by omega)))).or (pH i.bG 2 4 (by decide) (by decide) (by omega)))).or (sU i.rm 4 (by decide) (by omega)))).1.trans (congrArg (fun n:Nat=>(n:Int)) ?_)
 first
 | (simp only[Nat.or_zero,Nat.zero_or]; done)
 | (simp only[Nat.or_zero,Nat.zero_or]
    generalize B i.rn 0 4 16=n0
    generalize B i.rd 0 4 12=n1
    generalize B i.bG 0 2 4=n2
    generalize B i.rm 0 4 0=n3
    ac_rfl)
theorem Mc (i:IN) (hs:ae i.form=27) (hr:aC i (cU 27)) (hg:i.an<=9223372036854775807):ah gT 177 [bX i] (.int .u32 ((eH i (aq 27):Nat):Int)):=by
 obtain⟨hf,h1,h2,h3,h4,h5,h6,h7,h8,h9,cY⟩:=hr
 have g0:=bE (r:=i.rd) h1
 have g1:=bE (r:=i.rn) h2
 have g2:=bE (r:=i.rm) h3
 have g3:=aA (r:=i.ra) h4
 have g4:i.av=0:=bO h7
 have g5:i.kind=0:=(bo rfl h9).1
 have g6:i.bG=0:=bO (bo rfl h9).2
 have g7:i.set=0\/i.set=1:=h8.imp id fun e=>e.1
 have g8:i.cond=0:=h6.elim id fun e=>absurd (show false=true from e.1) Bool.false_ne_true
 clear h1 h2 h3 h4 h5 h6 h7 h8 h9 cY
 refine Spec.enter ar k_ 100 Tryz.func177 rfl (by kernel_rfl) ?_
 refine .inl ⟨af (by omega),?_⟩
 refine .inl ⟨af (by omega),?_⟩
 refine (aw hs).u ?_
 refine (dq i (by omega) (by omega) (by omega) (by omega) (by omega)).u ?_
 refine ao ?_
 have eo:eH i (aq 27)=0 ||| B i.set 0 1 20 ||| B i.rn 0 4 16 ||| B i.rd 0 4 8 ||| B i.rm 0 4 0:=rfl
 rw[eo]
 refine (show ((B i.set 0 1 20 ||| B i.rn 0 4 16 ||| B i.ra 0 4 12 ||| B i.rd 0 4 8 ||| B i.rm 0 4 0:Nat):Int)=_ from ?_)
 refine ((fK i)).1.trans (congrArg (fun n:Nat=>(n:Int)) ?_)
 first
 | (simp only[gW g3,Nat.or_zero,Nat.zero_or]; done)
 | (simp only[gW g3,Nat.or_zero,Nat.zero_or]
    generalize B i.set 0 1 20=n0
    generalize B i.rn 0 4 16=n1
    generalize B i.rd 0 4 8=n2
    generalize B i.rm 0 4 0=n3
    ac_rfl)
theorem Me (i:IN) (hs:ae i.form=28) (hr:aC i (cU 28)) (hg:i.an<=9223372036854775807):ah gT 177 [bX i] (.int .u32 ((eH i (aq 28):Nat):Int)):=by
 obtain⟨hf,h1,h2,h3,h4,h5,h6,h7,h8,h9,cY⟩:=hr
 have g0:=bE (r:=i.rd) h1
 have g1:=bE (r:=i.rn) h2
 have g2:=bE (r:=i.rm) h3
 have g3:=aA (r:=i.ra) h4
 have g4:i.av=0:=bO h7
 have g5:i.kind=0:=(bo rfl h9).1
 have g6:i.bG=0:=bO (bo rfl h9).2
 have g7:i.set=0:=h8.elim id fun e=>absurd (show false=true from e.2) Bool.false_ne_true
 have g8:i.cond=0:=h6.elim id fun e=>absurd (show false=true from e.1) Bool.false_ne_true
 clear h1 h2 h3 h4 h5 h6 h7 h8 h9 cY
 refine Spec.enter ar k_ 100 Tryz.func177 rfl (by kernel_rfl) ?_
 refine .inl ⟨af (by omega),?_⟩
 refine .inl ⟨af (by omega),?_⟩
 refine (aw hs).u ?_
 refine (dq i (by omega) (by omega) (by omega) (by omega) (by omega)).u ?_
 refine ao ?_
 have eo:eH i (aq 28)=0 ||| B i.rn 0 4 16 ||| B i.rd 0 4 8 ||| B i.rm 0 4 0:=rfl
 rw[eo]
 refine (show ((B i.set 0 1 20 ||| B i.rn 0 4 16 ||| B i.ra 0 4 12 ||| B i.rd 0 4 8 ||| B i.rm 0 4 0:Nat):Int)=_ from ?_)
 refine ((fK i)).1.trans (congrArg (fun n:Nat=>(n:Int)) ?_)
 first
 | (simp only[gW g3,gW g7,Nat.or_zero,Nat.zero_or]; done)
 | (simp only[gW g3,gW g7,Nat.or_zero,Nat.zero_or]
    generalize B i.rn 0 4 16=n0
    generalize B i.rd 0 4 8=n1
    generalize B i.rm 0 4 0=n2
    ac_rfl)
theorem Mf (i:IN) (hs:ae i.form=29) (hr:aC i (cU 29)) (hg:i.an<=9223372036854775807):ah gT 177 [bX i] (.int .u32 ((eH i (aq 29):Nat):Int)):=by
 obtain⟨hf,h1,h2,h3,h4,h5,h6,h7,h8,h9,cY⟩:=hr
 have g0:=bE (r:=i.rd) h1
 have g1:=bE (r:=i.rn) h2
 have g2:=bE (r:=i.rm) h3
 have g3:=bE (r:=i.ra) h4
 have g4:i.av=0:=bO h7
 have g5:i.kind=0:=(bo rfl h9).1
 have g6:i.bG=0:=bO (bo rfl h9).2
 have g7:i.set=0:=h8.elim id fun e=>absurd (show false=true from e.2) Bool.false_ne_true
 have g8:i.cond=0:=h6.elim id fun e=>absurd (show false=true from e.1) Bool.false_ne_true
 clear h1 h2 h3 h4 h5 h6 h7 h8 h9 cY
 refine Spec.enter ar k_ 100 Tryz.func177 rfl (by kernel_rfl) ?_
 refine .inl ⟨af (by omega),?_⟩
 refine .inl ⟨af (by omega),?_⟩
 refine (aw hs).u ?_
 refine (dq i (by omega) (by omega) (by omega) (by omega) (by omega)).u ?_
 refine ao ?_
 have eo:eH i (aq 29)=0 ||| B i.rn 0 4 16 ||| B i.ra 0 4 12 ||| B i.rd 0 4 8 ||| B i.rm 0 4 0:=rfl
 rw[eo]
 refine (show ((B i.set 0 1 20 ||| B i.rn 0 4 16 ||| B i.ra 0 4 12 ||| B i.rd 0 4 8 ||| B i.rm 0 4 0:Nat):Int)=_ from ?_)
 refine ((fK i)).1.trans (congrArg (fun n:Nat=>(n:Int)) ?_)
 first
 | (simp only[gW g7,Nat.or_zero,Nat.zero_or]; done)
 | (simp only[gW g7,Nat.or_zero,Nat.zero_or]
    generalize B i.rn 0 4 16=n0
    generalize B i.ra 0 4 12=n1
    generalize B i.rd 0 4 8=n2
    generalize B i.rm 0 4 0=n3
    ac_rfl)
theorem Mg (i:IN) (hs:ae i.form=30) (hr:aC i (cU 30)) (hg:i.an<=9223372036854775807):ah gT 177 [bX i] (.int .u32 ((eH i (aq 30):Nat):Int)):=by
 obtain⟨hf,h1,h2,h3,h4,h5,h6,h7,h8,h9,cY⟩:=hr
 have g0:=bE (r:=i.rd) h1
 have g1:=bE (r:=i.rn) h2
 have g2:=bE (r:=i.rm) h3
 have g3:=bE (r:=i.ra) h4
 have g4:i.av=0:=bO h7
 have g5:i.kind=0:=(bo rfl h9).1
 have g6:i.bG=0:=bO (bo rfl h9).2
 have g7:i.set=0:=h8.elim id fun e=>absurd (show false=true from e.2) Bool.false_ne_true
 have g8:i.cond=0:=h6.elim id fun e=>absurd (show false=true from e.1) Bool.false_ne_true
 clear h1 h2 h3 h4 h5 h6 h7 h8 h9 cY
 refine Spec.enter ar k_ 100 Tryz.func177 rfl (by kernel_rfl) ?_
 refine .inl ⟨af (by omega),?_⟩
 refine .inl ⟨af (by omega),?_⟩
 refine (aw hs).u ?_
 refine (dq i (by omega) (by omega) (by omega) (by omega) (by omega)).u ?_
 refine ao ?_
 have eo:eH i (aq 30)=0 ||| B i.rn 0 4 16 ||| B i.ra 0 4 12 ||| B i.rd 0 4 8 ||| B i.rm 0 4 0:=rfl
 rw[eo]
 refine (show ((B i.set 0 1 20 ||| B i.rn 0 4 16 ||| B i.ra 0 4 12 ||| B i.rd 0 4 8 ||| B i.rm 0 4 0:Nat):Int)=_ from ?_)
 refine ((fK i)).1.trans (congrArg (fun n:Nat=>(n:Int)) ?_)
 first
 | (simp only[gW g7,Nat.or_zero,Nat.zero_or]; done)
 | (simp only[gW g7,Nat.or_zero,Nat.zero_or]
    generalize B i.rn 0 4 16=n0
    generalize B i.ra 0 4 12=n1
    generalize B i.rd 0 4 8=n2
    generalize B i.rm 0 4 0=n3
    ac_rfl)
theorem Mh (i:IN) (hs:ae i.form=31) (hr:aC i (cU 31)) (hg:i.an<=9223372036854775807):ah gT 177 [bX i] (.int .u32 ((eH i (aq 31):Nat):Int)):=by
 obtain⟨hf,h1,h2,h3,h4,h5,h6,h7,h8,h9,cY⟩:=hr
 have g0:=bE (r:=i.rd) h1
 have g1:=bE (r:=i.rn) h2
 have g2:=bE (r:=i.rm) h3
 have g3:=bE (r:=i.ra) h4
 have g4:i.av=0:=bO h7
 have g5:i.kind=0:=(bo rfl h9).1
 have g6:i.bG=0:=bO (bo rfl h9).2
 have g7:i.set=0:=h8.elim id fun e=>absurd (show false=true from e.2) Bool.false_ne_true
 have g8:i.cond=0:=h6.elim id fun e=>absurd (show false=true from e.1) Bool.false_ne_true
 clear h1 h2 h3 h4 h5 h6 h7 h8 h9 cY
 refine Spec.enter ar k_ 100 Tryz.func177 rfl (by kernel_rfl) ?_
 refine .inl ⟨af (by omega),?_⟩
 refine .inl ⟨af (by omega),?_⟩
 refine (aw hs).u ?_
 refine .inl ⟨af (by omega),?_⟩
 refine⟨by decide,.inl ⟨af (by rw[Pf]; omega),?_⟩⟩
 refine .inl ⟨af (by omega),?_⟩
 refine⟨by decide,.inl ⟨af (by rw[Pe]; omega),?_⟩⟩
 refine .inl ⟨af (by omega),?_⟩
 refine⟨by decide,.inl ⟨af (by rw[r8]; omega),?_⟩⟩
 refine .inl ⟨af (by omega),?_⟩
 refine ao ?_
 have eo:eH i (aq 31)=0 ||| B i.rn 0 4 16 ||| B i.rd 0 4 12 ||| B i.ra 0 4 8 ||| B i.rm 0 4 0:=rfl
 rw[eo]
 refine (show bits .or .u32 (bits .or .u32 (bits .or .u32 (i.rn*Ev.aD .u32 16) (i.rd*Ev.aD .u32 12)) (i.ra*Ev.aD .u32 8)) (i.rm)=_ from ?_)
 refine ((((((((pH i.rn 4 16 (by decide) (by decide) (by omega))).or (pH i.rd 4 12 (by decide) (by decide) (by omega)))).or (pH i.ra 4 8 (by decide) (by decide) (by omega)))).or (sU i.rm 4 (by decide) (by omega)))).1.trans (congrArg (fun n:Nat=>(n:Int)) ?_)
 first
 | (simp only[Nat.or_zero,Nat.zero_or]; done)
 | (simp only[Nat.or_zero,Nat.zero_or]
    generalize B i.rn 0 4 16=n0
    generalize B i.rd 0 4 12=n1
    generalize B i.ra 0 4 8=n2
    generalize B i.rm 0 4 0=n3
    ac_rfl)
theorem Mi (i:IN) (hs:ae i.form=32) (hr:aC i (cU 32)) (hg:i.an<=9223372036854775807):ah gT 177 [bX i] (.int .u32 ((eH i (aq 32):Nat):Int)):=by
 obtain⟨hf,h1,h2,h3,h4,h5,h6,h7,h8,h9,cY⟩:=hr
 have g0:=bE (r:=i.rd) h1
 have g1:=aA (r:=i.rn) h2
 have g2:=bE (r:=i.rm) h3
 have g3:=aA (r:=i.ra) h4
 have g4:i.av=0:=bO h7
 have g5:i.kind=0:=(bo rfl h9).1
 have g6:i.bG=0:=bO (bo rfl h9).2
 have g7:i.set=0:=h8.elim id fun e=>absurd (show false=true from e.2) Bool.false_ne_true
 have g8:i.cond=0:=h6.elim id fun e=>absurd (show false=true from e.1) Bool.false_ne_true
 clear h1 h2 h3 h4 h5 h6 h7 h8 h9 cY
 refine Spec.enter ar k_ 100 Tryz.func177 rfl (by kernel_rfl) ?_
 refine .inl ⟨af (by omega),?_⟩
 refine .inl ⟨af (by omega),?_⟩
 refine (aw hs).u ?_
 refine .inl ⟨af (by omega),?_⟩
 refine⟨by decide,.inl ⟨af (by rw[Pf]; omega),?_⟩⟩
 refine .inl ⟨af (by omega),?_⟩
 refine⟨by decide,.inl ⟨af (by rw[r8]; omega),?_⟩⟩
 refine .inl ⟨af (by omega),?_⟩
 refine ao ?_
 have eo:eH i (aq 32)=0 ||| B i.rm 0 4 16 ||| B i.rd 0 4 8 ||| B i.rm 0 4 0:=rfl
 rw[eo]
 refine (show bits .or .u32 (bits .or .u32 (i.rm*Ev.aD .u32 16) (i.rd*Ev.aD .u32 8)) (i.rm)=_ from ?_)
 refine ((((((pH i.rm 4 16 (by decide) (by decide) (by omega))).or (pH i.rd 4 8 (by decide) (by decide) (by omega)))).or (sU i.rm 4 (by decide) (by omega)))).1.trans (congrArg (fun n:Nat=>(n:Int)) ?_)
 first
 | (simp only[Nat.or_zero,Nat.zero_or]; done)
 | (simp only[Nat.or_zero,Nat.zero_or]
    generalize B i.rm 0 4 16=n0
    generalize B i.rd 0 4 8=n1
    generalize B i.rm 0 4 0=n2
    ac_rfl)
theorem uc (v c:Int) (hv:-1099511627776<=v) (hc:0<=c/\c < 16):ah gT 199 [.int .u32 (IntKind.u32.wrap v),.int .u32 c] (.int .u32 ((B v 20 1 26 ||| B c 0 4 22 ||| B v 12 6 16 ||| B v 18 1 13 ||| B v 19 1 11 ||| B v 1 11 0:Nat):Int)):=by
 have b0:=ab v 20 1
 have b1:=ab v 12 6
 have b2:=ab v 18 1
 have b3:=ab v 19 1
 have b4:=ab v 1 11
 refine Spec.enter ar P199 100 Tryz.func199 rfl (by kernel_rfl) ?_
 refine (qI v 20 1 (by omega) (by decide) (by decide) (by decide)).u ?_
 refine⟨by decide,.inl ⟨af (by rw[r26]; omega),?_⟩⟩
 refine⟨by decide,.inl ⟨af (by rw[r22]; omega),?_⟩⟩
 refine (qI v 12 6 (by omega) (by decide) (by decide) (by decide)).u ?_
 refine⟨by decide,.inl ⟨af (by rw[Pf]; omega),?_⟩⟩
 refine (qI v 18 1 (by omega) (by decide) (by decide) (by decide)).u ?_
 refine⟨by decide,.inl ⟨af (by rw[r13]; omega),?_⟩⟩
 refine (qI v 19 1 (by omega) (by decide) (by decide) (by decide)).u ?_
 refine⟨by decide,.inl ⟨af (by rw[r11]; omega),?_⟩⟩
 refine (qI v 1 11 (by omega) (by decide) (by decide) (by decide)).u ?_
 refine ao ?_
 exact (show bits .or .u32 (bits .or .u32 (bits .or .u32 (bits .or .u32 (bits .or .u32 (aa v 20 1*Ev.aD .u32 26) (c*Ev.aD .u32 22)) (aa v 12 6*Ev.aD .u32 16)) (aa v 18 1*Ev.aD .u32 13)) (aa v 19 1*Ev.aD .u32 11)) (aa v 1 11)=_ from ((((((((((((tQ v 20 1 26 (by decide) (by decide))).or (pH c 4 22 (by decide) (by decide) hc))).or (tQ v 12 6 16 (by decide) (by decide)))).or (tQ v 18 1 13 (by decide) (by decide)))).or (tQ v 19 1 11 (by decide) (by decide)))).or (wV v 1 11 (by decide)))).1)
theorem Mj (i:IN) (hs:ae i.form=33) (hr:aC i (cU 33)) (hg:i.an<=9223372036854775807):ah gT 177 [bX i] (.int .u32 ((eH i (aq 33):Nat):Int)):=by
 obtain⟨hf,h1,h2,h3,h4,h5,h6,h7,h8,h9,cY⟩:=hr
 have g0:=aA (r:=i.rd) h1
 have g1:=aA (r:=i.rn) h2
 have g2:=aA (r:=i.rm) h3
 have g3:=aA (r:=i.ra) h4
 have g4:-1048576<=i.av/\i.av<=1048574/\i.av % 2=0:=eR (s:=2) (by decide) h7
 have g5:i.kind=0:=(bo rfl h9).1
 have g6:i.bG=0:=bO (bo rfl h9).2
 have g7:i.set=0:=h8.elim id fun e=>absurd (show false=true from e.2) Bool.false_ne_true
 have g8:0<=i.cond/\i.cond<=13:=by rcases h6 with h6|h6<;>omega
 clear h1 h2 h3 h4 h5 h6 h7 h8 h9 cY
 refine Spec.enter ar k_ 100 Tryz.func177 rfl (by kernel_rfl) ?_
 refine .inr ?_
 refine .inl ⟨af (by omega),?_⟩
 refine (aw hs).u ?_
 refine .inl ⟨af (by omega),?_⟩
 refine (uc i.av i.cond (by omega) (by omega)).u ?_
 refine ao ?_
 have eo:eH i (aq 33)=0 ||| B i.av 20 1 26 ||| B i.cond 0 4 22 ||| B i.av 12 6 16 ||| B i.av 18 1 13 ||| B i.av 19 1 11 ||| B i.av 1 11 0:=rfl
 rw[eo]
 refine (show _=_ from congrArg (fun n:Nat=>(n:Int)) ?_)
 simp only[Nat.zero_or]
theorem zi (v:Int) (hv:-1099511627776<=v):aa (aB (aa v 0 25) 2) 24 1=aa v 24 1/\aa (aB (aa v 0 25) 2) 12 10=aa v 12 10/\aa (aB (aa v 0 25) 2) 23 1=(if aa v 23 1=aa v 24 1 then 1 else 0)/\aa (aB (aa v 0 25) 2) 22 1=(if aa v 22 1=aa v 24 1 then 1 else 0)/\aa (aB (aa v 0 25) 2) 1 11=aa v 1 11:=by
 obtain⟨u,hu⟩:∃ u,u=if v < 0 then v+1099511627776 else v:=⟨_,rfl⟩
 have u0:0<=u:=by rw[hu]; split<;>omega
 obtain⟨n,hn⟩:∃ n,n=aa v 0 25:=⟨_,rfl⟩
 have e:n=u % 33554432:=by
  rw[hn]; unfold aa; rw[← hu]; omega
 have hb:0<=n/\n < 33554432:=by omega
 have c:=mD hb
 have d:=mC hb
 rw[← hn]
 obtain⟨t,ht⟩:∃ t,t=aB n 2:=⟨_,rfl⟩
 rw[← ht] at c d ⊢
 have e1:aa v 24 1=n / 16777216:=by unfold aa; rw[← hu]; omega
 have e2:aa v 23 1=n / 8388608 % 2:=by unfold aa; rw[← hu]; omega
 have e3:aa v 22 1=n / 4194304 % 2:=by unfold aa; rw[← hu]; omega
 have e4:aa v 12 10=n % 4194304 / 4096:=by unfold aa; rw[← hu]; omega
 have e5:aa v 1 11=n % 4194304 / 2 % 2048:=by unfold aa; rw[← hu]; omega
 have f1:aa t 24 1=t / 16777216:=by unfold aa; rw[if_neg (by omega)]; omega
 have f2:aa t 23 1=t / 8388608 % 2:=by unfold aa; rw[if_neg (by omega)]; omega
 have f3:aa t 22 1=t / 4194304 % 2:=by unfold aa; rw[if_neg (by omega)]; omega
 have f4:aa t 12 10=t % 4194304 / 4096:=by unfold aa; rw[if_neg (by omega)]; omega
 have f5:aa t 1 11=t % 4194304 / 2 % 2048:=by unfold aa; rw[if_neg (by omega)]; omega
 have e6:n / 16777216 % 2=n / 16777216:=by omega
 rw[e1,e2,e3,e4,e5,f1,f2,f3,f4,f5,c.1,c.2.1]
 rw[e6] at c
 exact⟨rfl,rfl,c.2.2.2,c.2.2.1,rfl⟩
theorem HU (a b:Int):∃ m:Int,m=(if a=b then 1 else 0)/\0<=m/\m < 2:=⟨_,rfl,by split<;>omega,by split<;>omega⟩
theorem ud (v:Int) (hv:-1099511627776<=v):ah gT 200 [.int .u32 (IntKind.u32.wrap v)] (.int .u32 ((B (aB (aa v 0 25) 2) 24 1 26 ||| B (aB (aa v 0 25) 2) 12 10 16 ||| B (aB (aa v 0 25) 2) 23 1 13 ||| B (aB (aa v 0 25) 2) 22 1 11 ||| B (aB (aa v 0 25) 2) 1 11 0:Nat):Int)):=by
 obtain⟨t1,t2,t3,t4,t5⟩:=zi v hv
 have s2:=mF (aa v 23 1) (aa v 24 1) (jB v 23) (jB v 24)
 have s3:=mF (aa v 22 1) (aa v 24 1) (jB v 22) (jB v 24)
 obtain⟨m2,xA,c2⟩:=HU (aa v 23 1) (aa v 24 1)
 obtain⟨m3,LV,c3⟩:=HU (aa v 22 1) (aa v 24 1)
 rw[← xA] at s2 t3
 rw[← LV] at s3 t4
 have b0:=ab v 24 1
 have b1:=ab v 12 10
 have b2:=ab v 1 11
 refine Spec.enter ar P200 100 Tryz.func200 rfl (by kernel_rfl) ?_
 refine (qI v 24 1 (by omega) (by decide) (by decide) (by decide)).u ?_
 refine⟨by decide,.inl ⟨af (by rw[r26]; omega),?_⟩⟩
 refine (qI v 12 10 (by omega) (by decide) (by decide) (by decide)).u ?_
 refine⟨by decide,.inl ⟨af (by rw[Pf]; omega),?_⟩⟩
 refine (qI v 23 1 (by omega) (by decide) (by decide) (by decide)).u ?_
 refine s2.u ?_
 refine⟨by decide,.inl ⟨af (by rw[r13]; omega),?_⟩⟩
 refine (qI v 22 1 (by omega) (by decide) (by decide) (by decide)).u ?_
 refine s3.u ?_
 refine⟨by decide,.inl ⟨af (by rw[r11]; omega),?_⟩⟩
 refine (qI v 1 11 (by omega) (by decide) (by decide) (by decide)).u ?_
 refine ao ?_
 have k1:Ab (aa v 24 1*Ev.aD .u32 26) (B (aB (aa v 0 25) 2) 24 1 26):=by have:=tQ (aB (aa v 0 25) 2) 24 1 26 (p:=Ev.aD .u32 26) (by decide) (by decide); rwa [t1] at this
 have k2:Ab (aa v 12 10*Ev.aD .u32 16) (B (aB (aa v 0 25) 2) 12 10 16):=by have:=tQ (aB (aa v 0 25) 2) 12 10 16 (p:=Ev.aD .u32 16) (by decide) (by decide); rwa [t2] at this
 have k3:Ab (m2*Ev.aD .u32 13) (B (aB (aa v 0 25) 2) 23 1 13):=by have:=tQ (aB (aa v 0 25) 2) 23 1 13 (p:=Ev.aD .u32 13) (by decide) (by decide); rwa [t3] at this
 have k4:Ab (m3*Ev.aD .u32 11) (B (aB (aa v 0 25) 2) 22 1 11):=by have:=tQ (aB (aa v 0 25) 2) 22 1 11 (p:=Ev.aD .u32 11) (by decide) (by decide); rwa [t4] at this
 have k5:Ab (aa v 1 11) (B (aB (aa v 0 25) 2) 1 11 0):=by have:=wV (aB (aa v 0 25) 2) 1 11 (by decide); rwa [t5] at this
 exact (show bits .or .u32 (bits .or .u32 (bits .or .u32 (bits .or .u32 (aa v 24 1*Ev.aD .u32 26) (aa v 12 10*Ev.aD .u32 16)) (m2*Ev.aD .u32 13)) (m3*Ev.aD .u32 11)) (aa v 1 11)=_ from ((((k1.or k2).or k3).or k4).or k5).1)
theorem Mk (i:IN) (hs:ae i.form=34) (hr:aC i (cU 34)) (hg:i.an<=9223372036854775807):ah gT 177 [bX i] (.int .u32 ((eH (dB i) (aq 34):Nat):Int)):=by
 obtain⟨hf,h1,h2,h3,h4,h5,h6,h7,h8,h9,cY⟩:=hr
 have g0:=aA (r:=i.rd) h1
 have g1:=aA (r:=i.rn) h2
 have g2:=aA (r:=i.rm) h3
 have g3:=aA (r:=i.ra) h4
 have g4:-16777216<=i.av/\i.av<=16777214/\i.av % 2=0:=eR (s:=2) (by decide) h7
 have g5:i.kind=0:=(bo rfl h9).1
 have g6:i.bG=0:=bO (bo rfl h9).2
 have g7:i.set=0:=h8.elim id fun e=>absurd (show false=true from e.2) Bool.false_ne_true
 have g8:i.cond=0:=h6.elim id fun e=>absurd (show false=true from e.1) Bool.false_ne_true
 clear h1 h2 h3 h4 h5 h6 h7 h8 h9 cY
 have et:=XY hs
 rw[et]
 refine Spec.enter ar k_ 100 Tryz.func177 rfl (by kernel_rfl) ?_
 refine .inr ?_
 refine .inl ⟨af (by omega),?_⟩
 refine (aw hs).u ?_
 refine (ud i.av (by omega)).u ?_
 refine ao ?_
 have eo:eH {i with av:=aB (aa i.av 0 25) 2} (aq 34)=0 ||| B (aB (aa i.av 0 25) 2) 24 1 26 ||| B (aB (aa i.av 0 25) 2) 12 10 16 ||| B (aB (aa i.av 0 25) 2) 23 1 13 ||| B (aB (aa i.av 0 25) 2) 22 1 11 ||| B (aB (aa i.av 0 25) 2) 1 11 0:=rfl
 rw[eo]
 refine (show _=_ from congrArg (fun n:Nat=>(n:Int)) ?_)
 simp only[Nat.zero_or]
end Go.Proofs.YtnbngokbamifbaaGreatDoor.Pw

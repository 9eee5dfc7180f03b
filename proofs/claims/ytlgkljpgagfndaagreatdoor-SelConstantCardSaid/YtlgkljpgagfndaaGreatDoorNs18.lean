/- What this claim is proved with: no condition. -/
import Derived.Test.YtlgkljpgagfndaaGreatDoorNs16
set_option maxRecDepth 100000
set_option maxHeartbeats 8000000
set_option linter.unusedVariables false
set_option linter.unusedSimpArgs false
namespace Go.Proofs.YtlgkljpgagfndaaGreatDoor.Pw
open Go Go.RowKit
theorem GZ (i:IN) (hs:aa i.form=17) (hr:aF i (bX 17)) (hg:i.ao<=9223372036854775807):ai gT 131 [cG i] (.int .u32 ((dS i (ax 17):Nat):Int)):=by
 obtain⟨hf,h1,h2,h3,h4,h5,h6,h7,h8,h9,cC⟩:=hr
 have g0:=bu (r:=i.rd) h1
 have g1:=aA (r:=i.rn) h2
 have g2:=aA (r:=i.rm) h3
 have g3:=aA (r:=i.ra) h4
 have g4:0<=i.az/\i.az<=65535/\i.az % 1=0:=dZ (s:=1) (by decide) h7
 have g5:i.kind=0:=(bd rfl h9).1
 have g6:i.bC=0:=bK (bd rfl h9).2
 have g7:i.set=0:=h8.elim id fun e=>absurd (show false=true from e.2) Bool.false_ne_true
 have g8:i.cond=0:=h6.elim id fun e=>absurd (show false=true from e.1) Bool.false_ne_true
 clear h1 h2 h3 h4 h5 h6 h7 h8 h9 cC
 refine Spec.enter an jd 100 Tryz.func131 rfl (by kernel_rfl) ?_
 refine .inl ⟨af (by omega),?_⟩
 refine .inl ⟨af (by omega),?_⟩
 refine (ar hs).u ?_
 refine (cP i (by omega) (by omega) (by omega) (by omega) (by omega)).u ?_
 refine (fP i.az (by unfold bO; omega)).u ?_
 refine aD ?_
 have eo:dS i (ax 17)=0 ||| B i.az 11 1 26 ||| B i.az 12 4 16 ||| B i.az 8 3 12 ||| B i.az 0 8 0 ||| B i.rd 0 4 8:=rfl
 rw[eo]
 refine (show bits .or .u32 (((B i.set 0 1 20 ||| B i.rn 0 4 16 ||| B i.ra 0 4 12 ||| B i.rd 0 4 8 ||| B i.rm 0 4 0:Nat):Int)) (((B i.az 11 1 26 ||| B i.az 12 4 16 ||| B i.az 8 3 12 ||| B i.az 0 8 0:Nat):Int))=_ from ?_)
 refine ((((eS i)).or (jF i.az))).1.trans (congrArg (fun n:Nat=>(n:Int)) ?_)
 first
 | (simp only[fL g1,fL g2,fL g3,fL g7,Nat.or_zero,Nat.zero_or]; done)
 | (simp only[fL g1,fL g2,fL g3,fL g7,Nat.or_zero,Nat.zero_or]
    generalize B i.az 11 1 26=n0
    generalize B i.az 12 4 16=n1
    generalize B i.az 8 3 12=n2
    generalize B i.az 0 8 0=n3
    generalize B i.rd 0 4 8=n4
    ac_rfl)
theorem G0 (i:IN) (hs:aa i.form=18) (hr:aF i (bX 18)) (hg:i.ao<=9223372036854775807):ai gT 131 [cG i] (.int .u32 ((dS i (ax 18):Nat):Int)):=by
 obtain⟨hf,h1,h2,h3,h4,h5,h6,h7,h8,h9,cC⟩:=hr
 have g0:=bu (r:=i.rd) h1
 have g1:=bu (r:=i.rn) h2
 have g2:=aA (r:=i.rm) h3
 have g3:=aA (r:=i.ra) h4
 have g4:0<=i.az/\i.az<=4095/\i.az % 1=0:=dZ (s:=1) (by decide) h7
 have g5:i.kind=0:=(bd rfl h9).1
 have g6:i.bC=0:=bK (bd rfl h9).2
 have g7:i.set=0\/i.set=1:=h8.imp id fun e=>e.1
 have g8:i.cond=0:=h6.elim id fun e=>absurd (show false=true from e.1) Bool.false_ne_true
 clear h1 h2 h3 h4 h5 h6 h7 h8 h9 cC
 refine Spec.enter an jd 100 Tryz.func131 rfl (by kernel_rfl) ?_
 refine .inl ⟨af (by omega),?_⟩
 refine .inl ⟨af (by omega),?_⟩
 refine (ar hs).u ?_
 refine (cP i (by omega) (by omega) (by omega) (by omega) (by omega)).u ?_
 refine (fP i.az (by unfold bO; omega)).u ?_
 refine aD ?_
 have eo:dS i (ax 18)=0 ||| B i.az 11 1 26 ||| B i.az 8 3 12 ||| B i.az 0 8 0 ||| B i.set 0 1 20 ||| B i.rn 0 4 16 ||| B i.rd 0 4 8:=rfl
 have C_:B i.az 12 4 16=0:=o_ (by unfold ab; split<;>omega)
 rw[eo]
 refine (show bits .or .u32 (((B i.set 0 1 20 ||| B i.rn 0 4 16 ||| B i.ra 0 4 12 ||| B i.rd 0 4 8 ||| B i.rm 0 4 0:Nat):Int)) (((B i.az 11 1 26 ||| B i.az 12 4 16 ||| B i.az 8 3 12 ||| B i.az 0 8 0:Nat):Int))=_ from ?_)
 refine ((((eS i)).or (jF i.az))).1.trans (congrArg (fun n:Nat=>(n:Int)) ?_)
 first
 | (simp only[fL g2,fL g3,C_,Nat.or_zero,Nat.zero_or]; done)
 | (simp only[fL g2,fL g3,C_,Nat.or_zero,Nat.zero_or]
    generalize B i.az 11 1 26=n0
    generalize B i.az 8 3 12=n1
    generalize B i.az 0 8 0=n2
    generalize B i.set 0 1 20=n3
    generalize B i.rn 0 4 16=n4
    generalize B i.rd 0 4 8=n5
    ac_rfl)
theorem G1 (i:IN) (hs:aa i.form=19) (hr:aF i (bX 19)) (hg:i.ao<=9223372036854775807):ai gT 131 [cG i] (.int .u32 ((dS i (ax 19):Nat):Int)):=by
 obtain⟨hf,h1,h2,h3,h4,h5,h6,h7,h8,h9,cC⟩:=hr
 have g0:=bu (r:=i.rd) h1
 have g1:=aA (r:=i.rn) h2
 have g2:=aA (r:=i.rm) h3
 have g3:=aA (r:=i.ra) h4
 have g4:0<=i.az/\i.az<=4095/\i.az % 1=0:=dZ (s:=1) (by decide) h7
 have g5:i.kind=0:=(bd rfl h9).1
 have g6:i.bC=0:=bK (bd rfl h9).2
 have g7:i.set=0\/i.set=1:=h8.imp id fun e=>e.1
 have g8:i.cond=0:=h6.elim id fun e=>absurd (show false=true from e.1) Bool.false_ne_true
 clear h1 h2 h3 h4 h5 h6 h7 h8 h9 cC
 refine Spec.enter an jd 100 Tryz.func131 rfl (by kernel_rfl) ?_
 refine .inl ⟨af (by omega),?_⟩
 refine .inl ⟨af (by omega),?_⟩
 refine (ar hs).u ?_
 refine (cP i (by omega) (by omega) (by omega) (by omega) (by omega)).u ?_
 refine (fP i.az (by unfold bO; omega)).u ?_
 refine aD ?_
 have eo:dS i (ax 19)=0 ||| B i.az 11 1 26 ||| B i.az 8 3 12 ||| B i.az 0 8 0 ||| B i.set 0 1 20 ||| B i.rd 0 4 8:=rfl
 have C_:B i.az 12 4 16=0:=o_ (by unfold ab; split<;>omega)
 rw[eo]
 refine (show bits .or .u32 (((B i.set 0 1 20 ||| B i.rn 0 4 16 ||| B i.ra 0 4 12 ||| B i.rd 0 4 8 ||| B i.rm 0 4 0:Nat):Int)) (((B i.az 11 1 26 ||| B i.az 12 4 16 ||| B i.az 8 3 12 ||| B i.az 0 8 0:Nat):Int))=_ from ?_)
 refine ((((eS i)).or (jF i.az))).1.trans (congrArg (fun n:Nat=>(n:Int)) ?_)
 first
 | (simp only[fL g1,fL g2,fL g3,C_,Nat.or_zero,Nat.zero_or]; done)
 | (simp only[fL g1,fL g2,fL g3,C_,Nat.or_zero,Nat.zero_or]
    generalize B i.az 11 1 26=n0
    generalize B i.az 8 3 12=n1
    generalize B i.az 0 8 0=n2
    generalize B i.set 0 1 20=n3
    generalize B i.rd 0 4 8=n4
    ac_rfl)
theorem G2 (i:IN) (hs:aa i.form=20) (hr:aF i (bX 20)) (hg:i.ao<=9223372036854775807):ai gT 131 [cG i] (.int .u32 ((dS i (ax 20):Nat):Int)):=by
 obtain⟨hf,h1,h2,h3,h4,h5,h6,h7,h8,h9,cC⟩:=hr
 have g0:=aA (r:=i.rd) h1
 have g1:=bu (r:=i.rn) h2
 have g2:=aA (r:=i.rm) h3
 have g3:=aA (r:=i.ra) h4
 have g4:0<=i.az/\i.az<=4095/\i.az % 1=0:=dZ (s:=1) (by decide) h7
 have g5:i.kind=0:=(bd rfl h9).1
 have g6:i.bC=0:=bK (bd rfl h9).2
 have g7:i.set=0:=h8.elim id fun e=>absurd (show false=true from e.2) Bool.false_ne_true
 have g8:i.cond=0:=h6.elim id fun e=>absurd (show false=true from e.1) Bool.false_ne_true
 clear h1 h2 h3 h4 h5 h6 h7 h8 h9 cC
 refine Spec.enter an jd 100 Tryz.func131 rfl (by kernel_rfl) ?_
 refine .inl ⟨af (by omega),?_⟩
 refine .inl ⟨af (by omega),?_⟩
 refine (ar hs).u ?_
 refine (cP i (by omega) (by omega) (by omega) (by omega) (by omega)).u ?_
 refine (fP i.az (by unfold bO; omega)).u ?_
 refine aD ?_
 have eo:dS i (ax 20)=0 ||| B i.az 11 1 26 ||| B i.az 8 3 12 ||| B i.az 0 8 0 ||| B i.rn 0 4 16:=rfl
 have C_:B i.az 12 4 16=0:=o_ (by unfold ab; split<;>omega)
 rw[eo]
 refine (show bits .or .u32 (((B i.set 0 1 20 ||| B i.rn 0 4 16 ||| B i.ra 0 4 12 ||| B i.rd 0 4 8 ||| B i.rm 0 4 0:Nat):Int)) (((B i.az 11 1 26 ||| B i.az 12 4 16 ||| B i.az 8 3 12 ||| B i.az 0 8 0:Nat):Int))=_ from ?_)
 refine ((((eS i)).or (jF i.az))).1.trans (congrArg (fun n:Nat=>(n:Int)) ?_)
 first
 | (simp only[fL g0,fL g2,fL g3,fL g7,C_,Nat.or_zero,Nat.zero_or]; done)
 | (simp only[fL g0,fL g2,fL g3,fL g7,C_,Nat.or_zero,Nat.zero_or]
    generalize B i.az 11 1 26=n0
    generalize B i.az 8 3 12=n1
    generalize B i.az 0 8 0=n2
    generalize B i.rn 0 4 16=n3
    ac_rfl)
theorem G3 (i:IN) (hs:aa i.form=21) (hr:aF i (bX 21)) (hg:i.ao<=9223372036854775807):ai gT 131 [cG i] (.int .u32 ((dS i (ax 21):Nat):Int)):=by
 obtain⟨hf,h1,h2,h3,h4,h5,h6,h7,h8,h9,cC⟩:=hr
 have g0:=bu (r:=i.rd) h1
 have g1:=bu (r:=i.rn) h2
 have g2:=bu (r:=i.rm) h3
 have g3:=aA (r:=i.ra) h4
 have g4:i.az=0:=bK h7
 have g6:ct i.kind i.bC:=zj rfl h9
 have g5:=ke g6
 have ZT:0<=i.bC/\i.bC<=32:=by unfold ct at g6; omega
 have g7:i.set=0\/i.set=1:=h8.imp id fun e=>e.1
 have g8:i.cond=0:=h6.elim id fun e=>absurd (show false=true from e.1) Bool.false_ne_true
 clear h1 h2 h3 h4 h5 h6 h7 h8 h9 cC
 have b0:=ae i.bC 2 3
 have b1:=ae i.bC 0 2
 refine Spec.enter an jd 100 Tryz.func131 rfl (by kernel_rfl) ?_
 refine .inl ⟨af (by omega),?_⟩
 refine .inl ⟨af (by omega),?_⟩
 refine (ar hs).u ?_
 refine .inl ⟨af (by omega),?_⟩
 refine⟨by decide,.inl ⟨af (by rw[r4]; omega),?_⟩⟩
 refine (cP i (by omega) (by omega) (by omega) (by omega) (by omega)).u ?_
 repeat (first
  | (refine⟨[],br,(jG i.bC 2 3 (by unfold bO; omega) (by decide) (by decide)).use (And.intro rfl (And.intro rfl (And.intro rfl trivial))) rfl rfl ?_⟩)
  | (refine⟨by decide,.inl ⟨af (by rw[JP]; omega),?_⟩⟩)
  | (refine⟨[],br,(jG i.bC 0 2 (by unfold bO; omega) (by decide) (by decide)).use (And.intro rfl (And.intro rfl (And.intro rfl trivial))) rfl rfl ?_⟩)
  | (refine⟨by decide,.inl ⟨af (by rw[r6]; omega),?_⟩⟩)
  | (refine .inl ⟨af (by omega),?_⟩)
  | (refine⟨by decide,.inl ⟨af (by rw[r4]; omega),?_⟩⟩))
 refine aD ?_
 have eo:dS i (ax 21)=0 ||| B i.bC 2 3 12 ||| B i.bC 0 2 6 ||| B i.kind 0 2 4 ||| B i.set 0 1 20 ||| B i.rn 0 4 16 ||| B i.rd 0 4 8 ||| B i.rm 0 4 0:=rfl
 rw[eo]
 refine (show bits .or .u32 (bits .or .u32 (bits .or .u32 (((B i.set 0 1 20 ||| B i.rn 0 4 16 ||| B i.ra 0 4 12 ||| B i.rd 0 4 8 ||| B i.rm 0 4 0:Nat):Int)) (ab i.bC 2 3*Ev.aO .u32 12)) (ab i.bC 0 2*Ev.aO .u32 6)) (i.kind*Ev.aO .u32 4)=_ from ?_)
 refine ((((((((eS i)).or (pL i.bC 2 3 12 (by decide) (by decide)))).or (pL i.bC 0 2 6 (by decide) (by decide)))).or (mN i.kind 2 4 (by decide) (by decide) (by omega)))).1.trans (congrArg (fun n:Nat=>(n:Int)) ?_)
 first
 | (simp only[fL g3,Nat.or_zero,Nat.zero_or]; done)
 | (simp only[fL g3,Nat.or_zero,Nat.zero_or]
    generalize B i.bC 2 3 12=n0
    generalize B i.bC 0 2 6=n1
    generalize B i.kind 0 2 4=n2
    generalize B i.set 0 1 20=n3
    generalize B i.rn 0 4 16=n4
    generalize B i.rd 0 4 8=n5
    generalize B i.rm 0 4 0=n6
    ac_rfl)
theorem G4 (i:IN) (hs:aa i.form=22) (hr:aF i (bX 22)) (hg:i.ao<=9223372036854775807):ai gT 131 [cG i] (.int .u32 ((dS i (ax 22):Nat):Int)):=by
 obtain⟨hf,h1,h2,h3,h4,h5,h6,h7,h8,h9,cC⟩:=hr
 have g0:=bu (r:=i.rd) h1
 have g1:=aA (r:=i.rn) h2
 have g2:=bu (r:=i.rm) h3
 have g3:=aA (r:=i.ra) h4
 have g4:i.az=0:=bK h7
 have g6:ct i.kind i.bC:=zj rfl h9
 have g5:=ke g6
 have ZT:0<=i.bC/\i.bC<=32:=by unfold ct at g6; omega
 have g7:i.set=0\/i.set=1:=h8.imp id fun e=>e.1
 have g8:i.cond=0:=h6.elim id fun e=>absurd (show false=true from e.1) Bool.false_ne_true
 clear h1 h2 h3 h4 h5 h6 h7 h8 h9 cC
 have b0:=ae i.bC 2 3
 have b1:=ae i.bC 0 2
 refine Spec.enter an jd 100 Tryz.func131 rfl (by kernel_rfl) ?_
 refine .inl ⟨af (by omega),?_⟩
 refine .inl ⟨af (by omega),?_⟩
 refine (ar hs).u ?_
 refine .inl ⟨af (by omega),?_⟩
 refine⟨by decide,.inl ⟨af (by rw[r4]; omega),?_⟩⟩
 refine (cP i (by omega) (by omega) (by omega) (by omega) (by omega)).u ?_
 repeat (first
  | (refine⟨[],br,(jG i.bC 2 3 (by unfold bO; omega) (by decide) (by decide)).use (And.intro rfl (And.intro rfl (And.intro rfl trivial))) rfl rfl ?_⟩)
  | (refine⟨by decide,.inl ⟨af (by rw[JP]; omega),?_⟩⟩)
  | (refine⟨[],br,(jG i.bC 0 2 (by unfold bO; omega) (by decide) (by decide)).use (And.intro rfl (And.intro rfl (And.intro rfl trivial))) rfl rfl ?_⟩)
  | (refine⟨by decide,.inl ⟨af (by rw[r6]; omega),?_⟩⟩)
  | (refine .inl ⟨af (by omega),?_⟩)
  | (refine⟨by decide,.inl ⟨af (by rw[r4]; omega),?_⟩⟩))
 refine aD ?_
 have eo:dS i (ax 22)=0 ||| B i.bC 2 3 12 ||| B i.bC 0 2 6 ||| B i.kind 0 2 4 ||| B i.set 0 1 20 ||| B i.rd 0 4 8 ||| B i.rm 0 4 0:=rfl
 rw[eo]
 refine (show bits .or .u32 (bits .or .u32 (bits .or .u32 (((B i.set 0 1 20 ||| B i.rn 0 4 16 ||| B i.ra 0 4 12 ||| B i.rd 0 4 8 ||| B i.rm 0 4 0:Nat):Int)) (ab i.bC 2 3*Ev.aO .u32 12)) (ab i.bC 0 2*Ev.aO .u32 6)) (i.kind*Ev.aO .u32 4)=_ from ?_)
 refine ((((((((eS i)).or (pL i.bC 2 3 12 (by decide) (by decide)))).or (pL i.bC 0 2 6 (by decide) (by decide)))).or (mN i.kind 2 4 (by decide) (by decide) (by omega)))).1.trans (congrArg (fun n:Nat=>(n:Int)) ?_)
 first
 | (simp only[fL g1,fL g3,Nat.or_zero,Nat.zero_or]; done)
 | (simp only[fL g1,fL g3,Nat.or_zero,Nat.zero_or]
    generalize B i.bC 2 3 12=n0
    generalize B i.bC 0 2 6=n1
    generalize B i.kind 0 2 4=n2
    generalize B i.set 0 1 20=n3
    generalize B i.rd 0 4 8=n4
    generalize B i.rm 0 4 0=n5
    ac_rfl)
theorem G5 (i:IN) (hs:aa i.form=23) (hr:aF i (bX 23)) (hg:i.ao<=9223372036854775807):ai gT 131 [cG i] (.int .u32 ((dS i (ax 23):Nat):Int)):=by
 obtain⟨hf,h1,h2,h3,h4,h5,h6,h7,h8,h9,cC⟩:=hr
 have g0:=aA (r:=i.rd) h1
 have g1:=bu (r:=i.rn) h2
 have g2:=bu (r:=i.rm) h3
 have g3:=aA (r:=i.ra) h4
 have g4:i.az=0:=bK h7
 have g6:ct i.kind i.bC:=zj rfl h9
 have g5:=ke g6
 have ZT:0<=i.bC/\i.bC<=32:=by unfold ct at g6; omega
 have g7:i.set=0:=h8.elim id fun e=>absurd (show false=true from e.2) Bool.false_ne_true
 have g8:i.cond=0:=h6.elim id fun e=>absurd (show false=true from e.1) Bool.false_ne_true
 clear h1 h2 h3 h4 h5 h6 h7 h8 h9 cC
 have b0:=ae i.bC 2 3
 have b1:=ae i.bC 0 2
 refine Spec.enter an jd 100 Tryz.func131 rfl (by kernel_rfl) ?_
 refine .inl ⟨af (by omega),?_⟩
 refine .inl ⟨af (by omega),?_⟩
 refine (ar hs).u ?_
 refine .inl ⟨af (by omega),?_⟩
 refine⟨by decide,.inl ⟨af (by rw[r4]; omega),?_⟩⟩
 refine (cP i (by omega) (by omega) (by omega) (by omega) (by omega)).u ?_
 repeat (first
  | (refine⟨[],br,(jG i.bC 2 3 (by unfold bO; omega) (by decide) (by decide)).use (And.intro rfl (And.intro rfl (And.intro rfl trivial))) rfl rfl ?_⟩)
  | (refine⟨by decide,.inl ⟨af (by rw[JP]; omega),?_⟩⟩)
  | (refine⟨[],br,(jG i.bC 0 2 (by unfold bO; omega) (by decide) (by decide)).use (And.intro rfl (And.intro rfl (And.intro rfl trivial))) rfl rfl ?_⟩)
  | (refine⟨by decide,.inl ⟨af (by rw[r6]; omega),?_⟩⟩)
  | (refine .inl ⟨af (by omega),?_⟩)
  | (refine⟨by decide,.inl ⟨af (by rw[r4]; omega),?_⟩⟩))
 refine aD ?_
 have eo:dS i (ax 23)=0 ||| B i.bC 2 3 12 ||| B i.bC 0 2 6 ||| B i.kind 0 2 4 ||| B i.rn 0 4 16 ||| B i.rm 0 4 0:=rfl
 rw[eo]
 refine (show bits .or .u32 (bits .or .u32 (bits .or .u32 (((B i.set 0 1 20 ||| B i.rn 0 4 16 ||| B i.ra 0 4 12 ||| B i.rd 0 4 8 ||| B i.rm 0 4 0:Nat):Int)) (ab i.bC 2 3*Ev.aO .u32 12)) (ab i.bC 0 2*Ev.aO .u32 6)) (i.kind*Ev.aO .u32 4)=_ from ?_)
 refine ((((((((eS i)).or (pL i.bC 2 3 12 (by decide) (by decide)))).or (pL i.bC 0 2 6 (by decide) (by decide)))).or (mN i.kind 2 4 (by decide) (by decide) (by omega)))).1.trans (congrArg (fun n:Nat=>(n:Int)) ?_)
 first
 | (simp only[fL g0,fL g3,fL g7,Nat.or_zero,Nat.zero_or]; done)
 | (simp only[fL g0,fL g3,fL g7,Nat.or_zero,Nat.zero_or]
    generalize B i.bC 2 3 12=n0
    generalize B i.bC 0 2 6=n1
    generalize B i.kind 0 2 4=n2
    generalize B i.rn 0 4 16=n3
    generalize B i.rm 0 4 0=n4
    ac_rfl)
theorem G6 (i:IN) (hs:aa i.form=24) (hr:aF i (bX 24)) (hg:i.ao<=9223372036854775807):ai gT 131 [cG i] (.int .u32 ((dS i (ax 24):Nat):Int)):=by
 obtain⟨hf,h1,h2,h3,h4,h5,h6,h7,h8,h9,cC⟩:=hr
 have g0:=bu (r:=i.rd) h1
 have g1:=bu (r:=i.rn) h2
 have g2:=aA (r:=i.rm) h3
 have g3:=aA (r:=i.ra) h4
 have g4:0<=i.az/\i.az<=4095/\i.az % 1=0:=dZ (s:=1) (by decide) h7
 have g5:i.kind=0:=(bd rfl h9).1
 have g6:i.bC=0:=bK (bd rfl h9).2
 have g7:i.set=0:=h8.elim id fun e=>absurd (show false=true from e.2) Bool.false_ne_true
 have g8:i.cond=0:=h6.elim id fun e=>absurd (show false=true from e.1) Bool.false_ne_true
 clear h1 h2 h3 h4 h5 h6 h7 h8 h9 cC
 refine Spec.enter an jd 100 Tryz.func131 rfl (by kernel_rfl) ?_
 refine .inl ⟨af (by omega),?_⟩
 refine .inl ⟨af (by omega),?_⟩
 refine (ar hs).u ?_
 refine (cP i (by omega) (by omega) (by omega) (by omega) (by omega)).u ?_
 refine (fP i.az (by unfold bO; omega)).u ?_
 refine aD ?_
 have eo:dS i (ax 24)=0 ||| B i.az 11 1 26 ||| B i.az 8 3 12 ||| B i.az 0 8 0 ||| B i.rn 0 4 16 ||| B i.rd 0 4 8:=rfl
 have C_:B i.az 12 4 16=0:=o_ (by unfold ab; split<;>omega)
 rw[eo]
 refine (show bits .or .u32 (((B i.set 0 1 20 ||| B i.rn 0 4 16 ||| B i.ra 0 4 12 ||| B i.rd 0 4 8 ||| B i.rm 0 4 0:Nat):Int)) (((B i.az 11 1 26 ||| B i.az 12 4 16 ||| B i.az 8 3 12 ||| B i.az 0 8 0:Nat):Int))=_ from ?_)
 refine ((((eS i)).or (jF i.az))).1.trans (congrArg (fun n:Nat=>(n:Int)) ?_)
 first
 | (simp only[fL g2,fL g3,fL g7,C_,Nat.or_zero,Nat.zero_or]; done)
 | (simp only[fL g2,fL g3,fL g7,C_,Nat.or_zero,Nat.zero_or]
    generalize B i.az 11 1 26=n0
    generalize B i.az 8 3 12=n1
    generalize B i.az 0 8 0=n2
    generalize B i.rn 0 4 16=n3
    generalize B i.rd 0 4 8=n4
    ac_rfl)
theorem G7 (i:IN) (hs:aa i.form=25) (hr:aF i (bX 25)) (hg:i.ao<=9223372036854775807):ai gT 131 [cG i] (.int .u32 ((dS i (ax 25):Nat):Int)):=by
 obtain⟨hf,h1,h2,h3,h4,h5,h6,h7,h8,h9,cC⟩:=hr
 have g0:=bu (r:=i.rd) h1
 have g1:=kz (r:=i.rn) h2
 have g2:=aA (r:=i.rm) h3
 have g3:=aA (r:=i.ra) h4
 have g4:0<=i.az/\i.az<=4095/\i.az % 1=0:=dZ (s:=1) (by decide) h7
 have g5:i.kind=0:=(bd rfl h9).1
 have g6:i.bC=0:=bK (bd rfl h9).2
 have g7:i.set=0:=h8.elim id fun e=>absurd (show false=true from e.2) Bool.false_ne_true
 have g8:i.cond=0:=h6.elim id fun e=>absurd (show false=true from e.1) Bool.false_ne_true
 clear h1 h2 h3 h4 h5 h6 h7 h8 h9 cC
 refine Spec.enter an jd 100 Tryz.func131 rfl (by kernel_rfl) ?_
 refine .inl ⟨af (by omega),?_⟩
 refine .inl ⟨af (by omega),?_⟩
 refine (ar hs).u ?_
 refine .inl ⟨af (by omega),?_⟩
 refine⟨by decide,.inl ⟨af (by rw[JQ]; omega),?_⟩⟩
 refine .inl ⟨af (by omega),?_⟩
 refine⟨by decide,.inl ⟨af (by rw[JP]; omega),?_⟩⟩
 refine aD ?_
 have eo:dS i (ax 25)=0 ||| B i.rn 0 4 16 ||| B i.rd 0 4 12 ||| B i.az 0 12 0:=rfl
 rw[eo]
 refine (show bits .or .u32 (bits .or .u32 (i.rn*Ev.aO .u32 16) (i.rd*Ev.aO .u32 12)) (i.az)=_ from ?_)
 refine ((((((mN i.rn 4 16 (by decide) (by decide) (by omega))).or (mN i.rd 4 12 (by decide) (by decide) (by omega)))).or (o9 i.az 12 (by decide) (by omega)))).1.trans (congrArg (fun n:Nat=>(n:Int)) ?_)
 first
 | (simp only[Nat.or_zero,Nat.zero_or]; done)
 | (simp only[Nat.or_zero,Nat.zero_or]
    generalize B i.rn 0 4 16=n0
    generalize B i.rd 0 4 12=n1
    generalize B i.az 0 12 0=n2
    ac_rfl)
theorem G8 (i:IN) (hs:aa i.form=26) (hr:aF i (bX 26)) (hg:i.ao<=9223372036854775807):ai gT 131 [cG i] (.int .u32 ((dS i (ax 26):Nat):Int)):=by
 obtain⟨hf,h1,h2,h3,h4,h5,h6,h7,h8,h9,cC⟩:=hr
 have g0:=bu (r:=i.rd) h1
 have g1:=kz (r:=i.rn) h2
 have g2:=bu (r:=i.rm) h3
 have g3:=aA (r:=i.ra) h4
 have g4:i.az=0:=bK h7
 have g5:i.kind=0:=(bd rfl h9).1
 have g6:0<=i.bC/\i.bC<=3/\i.bC % 1=0:=dZ (s:=1) (by decide) (bd rfl h9).2
 have g7:i.set=0:=h8.elim id fun e=>absurd (show false=true from e.2) Bool.false_ne_true
 have g8:i.cond=0:=h6.elim id fun e=>absurd (show false=true from e.1) Bool.false_ne_true
 clear h1 h2 h3 h4 h5 h6 h7 h8 h9 cC
 refine Spec.enter an jd 100 Tryz.func131 rfl (by kernel_rfl) ?_
 refine .inl ⟨af (by omega),?_⟩
 refine .inl ⟨af (by omega),?_⟩
 refine (ar hs).u ?_
 refine .inl ⟨af (by omega),?_⟩
 refine⟨by decide,.inl ⟨af (by rw[JQ]; omega),?_⟩⟩
 refine .inl ⟨af (by omega),?_⟩
 refine⟨by decide,.inl ⟨af (by rw[JP]; omega),?_⟩⟩
 refine⟨by decide,.inl ⟨af (by rw[r4]; omega),?_⟩⟩
 refine .inl ⟨af (by omega),?_⟩
 refine aD ?_
 have eo:dS i (ax 26)=0 ||| B i.rn 0 4 16 ||| B i.rd 0 4 12 ||| B i.bC 0 2 4 ||| B i.rm 0 4 0:=rfl
 rw[eo]
 refine (show bits .or .u32 (bits .or .u32 (bits .or .u32 (i.rn*Ev.aO .u32 16) (i.rd*Ev.aO .u32 12)) (i.bC*Ev.aO .u32 4)) (i.rm)=_ from ?_)
 refine ((((((((mN i.rn 4 16 (by decide) (by decide) (by omega))).or (mN i.rd 4 12 (by decide) (by decide) (by omega)))).or (mN i.bC 2 4 (by decide) (by decide) (by omega)))).or (o9 i.rm 4 (by decide) (by omega)))).1.trans (congrArg (fun n:Nat=>(n:Int)) ?_)
 first
 | (simp only[Nat.or_zero,Nat.zero_or]; done)
 | (simp only[Nat.or_zero,Nat.zero_or]
    generalize B i.rn 0 4 16=n0
    generalize B i.rd 0 4 12=n1
    generalize B i.bC 0 2 4=n2
    generalize B i.rm 0 4 0=n3
    ac_rfl)
theorem G9 (i:IN) (hs:aa i.form=27) (hr:aF i (bX 27)) (hg:i.ao<=9223372036854775807):ai gT 131 [cG i] (.int .u32 ((dS i (ax 27):Nat):Int)):=by
 obtain⟨hf,h1,h2,h3,h4,h5,h6,h7,h8,h9,cC⟩:=hr
 have g0:=bu (r:=i.rd) h1
 have g1:=bu (r:=i.rn) h2
 have g2:=bu (r:=i.rm) h3
 have g3:=aA (r:=i.ra) h4
 have g4:i.az=0:=bK h7
 have g5:i.kind=0:=(bd rfl h9).1
 have g6:i.bC=0:=bK (bd rfl h9).2
 have g7:i.set=0\/i.set=1:=h8.imp id fun e=>e.1
 have g8:i.cond=0:=h6.elim id fun e=>absurd (show false=true from e.1) Bool.false_ne_true
 clear h1 h2 h3 h4 h5 h6 h7 h8 h9 cC
 refine Spec.enter an jd 100 Tryz.func131 rfl (by kernel_rfl) ?_
 refine .inl ⟨af (by omega),?_⟩
 refine .inl ⟨af (by omega),?_⟩
 refine (ar hs).u ?_
 refine (cP i (by omega) (by omega) (by omega) (by omega) (by omega)).u ?_
 refine aD ?_
 have eo:dS i (ax 27)=0 ||| B i.set 0 1 20 ||| B i.rn 0 4 16 ||| B i.rd 0 4 8 ||| B i.rm 0 4 0:=rfl
 rw[eo]
 refine (show ((B i.set 0 1 20 ||| B i.rn 0 4 16 ||| B i.ra 0 4 12 ||| B i.rd 0 4 8 ||| B i.rm 0 4 0:Nat):Int)=_ from ?_)
 refine ((eS i)).1.trans (congrArg (fun n:Nat=>(n:Int)) ?_)
 first
 | (simp only[fL g3,Nat.or_zero,Nat.zero_or]; done)
 | (simp only[fL g3,Nat.or_zero,Nat.zero_or]
    generalize B i.set 0 1 20=n0
    generalize B i.rn 0 4 16=n1
    generalize B i.rd 0 4 8=n2
    generalize B i.rm 0 4 0=n3
    ac_rfl)
theorem G' (i:IN) (hs:aa i.form=28) (hr:aF i (bX 28)) (hg:i.ao<=9223372036854775807):ai gT 131 [cG i] (.int .u32 ((dS i (ax 28):Nat):Int)):=by
 obtain⟨hf,h1,h2,h3,h4,h5,h6,h7,h8,h9,cC⟩:=hr
 have g0:=bu (r:=i.rd) h1
 have g1:=bu (r:=i.rn) h2
 have g2:=bu (r:=i.rm) h3
 have g3:=aA (r:=i.ra) h4
 have g4:i.az=0:=bK h7
 have g5:i.kind=0:=(bd rfl h9).1
 have g6:i.bC=0:=bK (bd rfl h9).2
 have g7:i.set=0:=h8.elim id fun e=>absurd (show false=true from e.2) Bool.false_ne_true
 have g8:i.cond=0:=h6.elim id fun e=>absurd (show false=true from e.1) Bool.false_ne_true
 clear h1 h2 h3 h4 h5 h6 h7 h8 h9 cC
 refine Spec.enter an jd 100 Tryz.func131 rfl (by kernel_rfl) ?_
 refine .inl ⟨af (by omega),?_⟩
 refine .inl ⟨af (by omega),?_⟩
 refine (ar hs).u ?_
 refine (cP i (by omega) (by omega) (by omega) (by omega) (by omega)).u ?_
 refine aD ?_
 have eo:dS i (ax 28)=0 ||| B i.rn 0 4 16 ||| B i.rd 0 4 8 ||| B i.rm 0 4 0:=rfl
 rw[eo]
 refine (show ((B i.set 0 1 20 ||| B i.rn 0 4 16 ||| B i.ra 0 4 12 ||| B i.rd 0 4 8 ||| B i.rm 0 4 0:Nat):Int)=_ from ?_)
 refine ((eS i)).1.trans (congrArg (fun n:Nat=>(n:Int)) ?_)
 first
 | (simp only[fL g3,fL g7,Nat.or_zero,Nat.zero_or]; done)
 | (simp only[fL g3,fL g7,Nat.or_zero,Nat.zero_or]
    generalize B i.rn 0 4 16=n0
    generalize B i.rd 0 4 8=n1
    generalize B i.rm 0 4 0=n2
    ac_rfl)
theorem G_ (i:IN) (hs:aa i.form=29) (hr:aF i (bX 29)) (hg:i.ao<=9223372036854775807):ai gT 131 [cG i] (.int .u32 ((dS i (ax 29):Nat):Int)):=by
 obtain⟨hf,h1,h2,h3,h4,h5,h6,h7,h8,h9,cC⟩:=hr
 have g0:=bu (r:=i.rd) h1
 have g1:=bu (r:=i.rn) h2
 have g2:=bu (r:=i.rm) h3
 have g3:=bu (r:=i.ra) h4
 have g4:i.az=0:=bK h7
 have g5:i.kind=0:=(bd rfl h9).1
 have g6:i.bC=0:=bK (bd rfl h9).2
 have g7:i.set=0:=h8.elim id fun e=>absurd (show false=true from e.2) Bool.false_ne_true
 have g8:i.cond=0:=h6.elim id fun e=>absurd (show false=true from e.1) Bool.false_ne_true
 clear h1 h2 h3 h4 h5 h6 h7 h8 h9 cC
 refine Spec.enter an jd 100 Tryz.func131 rfl (by kernel_rfl) ?_
 refine .inl ⟨af (by omega),?_⟩
 refine .inl ⟨af (by omega),?_⟩
 refine (ar hs).u ?_
 refine (cP i (by omega) (by omega) (by omega) (by omega) (by omega)).u ?_
 refine aD ?_
 have eo:dS i (ax 29)=0 ||| B i.rn 0 4 16 ||| B i.ra 0 4 12 ||| B i.rd 0 4 8 ||| B i.rm 0 4 0:=rfl
 rw[eo]
 refine (show ((B i.set 0 1 20 ||| B i.rn 0 4 16 ||| B i.ra 0 4 12 ||| B i.rd 0 4 8 ||| B i.rm 0 4 0:Nat):Int)=_ from ?_)
 refine ((eS i)).1.trans (congrArg (fun n:Nat=>(n:Int)) ?_)
 first
 | (simp only[fL g7,Nat.or_zero,Nat.zero_or]; done)
 | (simp only[fL g7,Nat.or_zero,Nat.zero_or]
    generalize B i.rn 0 4 16=n0
    generalize B i.ra 0 4 12=n1
    generalize B i.rd 0 4 8=n2
    generalize B i.rm 0 4 0=n3
    ac_rfl)
theorem Ha (i:IN) (hs:aa i.form=30) (hr:aF i (bX 30)) (hg:i.ao<=9223372036854775807):ai gT 131 [cG i] (.int .u32 ((dS i (ax 30):Nat):Int)):=by
 obtain⟨hf,h1,h2,h3,h4,h5,h6,h7,h8,h9,cC⟩:=hr
 have g0:=bu (r:=i.rd) h1
 have g1:=bu (r:=i.rn) h2
 have g2:=bu (r:=i.rm) h3
 have g3:=bu (r:=i.ra) h4
 have g4:i.az=0:=bK h7
 have g5:i.kind=0:=(bd rfl h9).1
 have g6:i.bC=0:=bK (bd rfl h9).2
 have g7:i.set=0:=h8.elim id fun e=>absurd (show false=true from e.2) Bool.false_ne_true
 have g8:i.cond=0:=h6.elim id fun e=>absurd (show false=true from e.1) Bool.false_ne_true
 clear h1 h2 h3 h4 h5 h6 h7 h8 h9 cC
 refine Spec.enter an jd 100 Tryz.func131 rfl (by kernel_rfl) ?_
 refine .inl ⟨af (by omega),?_⟩
 refine .inl ⟨af (by omega),?_⟩
 refine (ar hs).u ?_
 refine (cP i (by omega) (by omega) (by omega) (by omega) (by omega)).u ?_
 refine aD ?_
 have eo:dS i (ax 30)=0 ||| B i.rn 0 4 16 ||| B i.ra 0 4 12 ||| B i.rd 0 4 8 ||| B i.rm 0 4 0:=rfl
 rw[eo]
 refine (show ((B i.set 0 1 20 ||| B i.rn 0 4 16 ||| B i.ra 0 4 12 ||| B i.rd 0 4 8 ||| B i.rm 0 4 0:Nat):Int)=_ from ?_)
 refine ((eS i)).1.trans (congrArg (fun n:Nat=>(n:Int)) ?_)
 first
 | (simp only[fL g7,Nat.or_zero,Nat.zero_or]; done)
 | (simp only[fL g7,Nat.or_zero,Nat.zero_or]
    generalize B i.rn 0 4 16=n0
    generalize B i.ra 0 4 12=n1
    generalize B i.rd 0 4 8=n2
    generalize B i.rm 0 4 0=n3
    ac_rfl)
theorem Hb (i:IN) (hs:aa i.form=31) (hr:aF i (bX 31)) (hg:i.ao<=9223372036854775807):ai gT 131 [cG i] (.int .u32 ((dS i (ax 31):Nat):Int)):=by
 obtain⟨hf,h1,h2,h3,h4,h5,h6,h7,h8,h9,cC⟩:=hr
 have g0:=bu (r:=i.rd) h1
 have g1:=bu (r:=i.rn) h2
 have g2:=bu (r:=i.rm) h3
 have g3:=bu (r:=i.ra) h4
 have g4:i.az=0:=bK h7
 have g5:i.kind=0:=(bd rfl h9).1
 have g6:i.bC=0:=bK (bd rfl h9).2
 have g7:i.set=0:=h8.elim id fun e=>absurd (show false=true from e.2) Bool.false_ne_true
 have g8:i.cond=0:=h6.elim id fun e=>absurd (show false=true from e.1) Bool.false_ne_true
 clear h1 h2 h3 h4 h5 h6 h7 h8 h9 cC
 refine Spec.enter an jd 100 Tryz.func131 rfl (by kernel_rfl) ?_
 refine .inl ⟨af (by omega),?_⟩
 refine .inl ⟨af (by omega),?_⟩
 refine (ar hs).u ?_
 refine .inl ⟨af (by omega),?_⟩
 refine⟨by decide,.inl ⟨af (by rw[JQ]; omega),?_⟩⟩
 refine .inl ⟨af (by omega),?_⟩
 refine⟨by decide,.inl ⟨af (by rw[JP]; omega),?_⟩⟩
 refine .inl ⟨af (by omega),?_⟩
 refine⟨by decide,.inl ⟨af (by rw[r8]; omega),?_⟩⟩
 refine .inl ⟨af (by omega),?_⟩
 refine aD ?_
 have eo:dS i (ax 31)=0 ||| B i.rn 0 4 16 ||| B i.rd 0 4 12 ||| B i.ra 0 4 8 ||| B i.rm 0 4 0:=rfl
 rw[eo]
 refine (show bits .or .u32 (bits .or .u32 (bits .or .u32 (i.rn*Ev.aO .u32 16) (i.rd*Ev.aO .u32 12)) (i.ra*Ev.aO .u32 8)) (i.rm)=_ from ?_)
 refine ((((((((mN i.rn 4 16 (by decide) (by decide) (by omega))).or (mN i.rd 4 12 (by decide) (by decide) (by omega)))).or (mN i.ra 4 8 (by decide) (by decide) (by omega)))).or (o9 i.rm 4 (by decide) (by omega)))).1.trans (congrArg (fun n:Nat=>(n:Int)) ?_)
 first
 | (simp only[Nat.or_zero,Nat.zero_or]; done)
 | (simp only[Nat.or_zero,Nat.zero_or]
    generalize B i.rn 0 4 16=n0
    generalize B i.rd 0 4 12=n1
    generalize B i.ra 0 4 8=n2
    generalize B i.rm 0 4 0=n3
    ac_rfl)
theorem Hc (i:IN) (hs:aa i.form=32) (hr:aF i (bX 32)) (hg:i.ao<=9223372036854775807):ai gT 131 [cG i] (.int .u32 ((dS i (ax 32):Nat):Int)):=by
 obtain⟨hf,h1,h2,h3,h4,h5,h6,h7,h8,h9,cC⟩:=hr
 have g0:=bu (r:=i.rd) h1
 have g1:=aA (r:=i.rn) h2
 have g2:=bu (r:=i.rm) h3
 have g3:=aA (r:=i.ra) h4
 have g4:i.az=0:=bK h7
 have g5:i.kind=0:=(bd rfl h9).1
 have g6:i.bC=0:=bK (bd rfl h9).2
 have g7:i.set=0:=h8.elim id fun e=>absurd (show false=true from e.2) Bool.false_ne_true
 have g8:i.cond=0:=h6.elim id fun e=>absurd (show false=true from e.1) Bool.false_ne_true
 clear h1 h2 h3 h4 h5 h6 h7 h8 h9 cC
 refine Spec.enter an jd 100 Tryz.func131 rfl (by kernel_rfl) ?_
 refine .inl ⟨af (by omega),?_⟩
 refine .inl ⟨af (by omega),?_⟩
 refine (ar hs).u ?_
 refine .inl ⟨af (by omega),?_⟩
 refine⟨by decide,.inl ⟨af (by rw[JQ]; omega),?_⟩⟩
 refine .inl ⟨af (by omega),?_⟩
 refine⟨by decide,.inl ⟨af (by rw[r8]; omega),?_⟩⟩
 refine .inl ⟨af (by omega),?_⟩
 refine aD ?_
 have eo:dS i (ax 32)=0 ||| B i.rm 0 4 16 ||| B i.rd 0 4 8 ||| B i.rm 0 4 0:=rfl
 rw[eo]
 refine (show bits .or .u32 (bits .or .u32 (i.rm*Ev.aO .u32 16) (i.rd*Ev.aO .u32 8)) (i.rm)=_ from ?_)
 refine ((((((mN i.rm 4 16 (by decide) (by decide) (by omega))).or (mN i.rd 4 8 (by decide) (by decide) (by omega)))).or (o9 i.rm 4 (by decide) (by omega)))).1.trans (congrArg (fun n:Nat=>(n:Int)) ?_)
 first
 | (simp only[Nat.or_zero,Nat.zero_or]; done)
 | (simp only[Nat.or_zero,Nat.zero_or]
    generalize B i.rm 0 4 16=n0
    generalize B i.rd 0 4 8=n1
    generalize B i.rm 0 4 0=n2
    ac_rfl)
theorem pW (v c:Int) (hv:-1099511627776<=v) (hc:0<=c/\c < 16):ai gT 158 [.int .u32 (IntKind.u32.wrap v),.int .u32 c] (.int .u32 ((B v 20 1 26 ||| B c 0 4 22 ||| B v 12 6 16 ||| B v 18 1 13 ||| B v 19 1 11 ||| B v 1 11 0:Nat):Int)):=by
 have b0:=ae v 20 1
 have b1:=ae v 12 6
 have b2:=ae v 18 1
 have b3:=ae v 19 1
 have b4:=ae v 1 11
 refine Spec.enter an Xi 100 Tryz.func158 rfl (by kernel_rfl) ?_
 refine (nL v 20 1 (by omega) (by decide) (by decide) (by decide)).u ?_
 refine⟨by decide,.inl ⟨af (by rw[X1]; omega),?_⟩⟩
 refine⟨by decide,.inl ⟨af (by rw[r22]; omega),?_⟩⟩
 refine (nL v 12 6 (by omega) (by decide) (by decide) (by decide)).u ?_
 refine⟨by decide,.inl ⟨af (by rw[JQ]; omega),?_⟩⟩
 refine (nL v 18 1 (by omega) (by decide) (by decide) (by decide)).u ?_
 refine⟨by decide,.inl ⟨af (by rw[ZR]; omega),?_⟩⟩
 refine (nL v 19 1 (by omega) (by decide) (by decide) (by decide)).u ?_
 refine⟨by decide,.inl ⟨af (by rw[X0]; omega),?_⟩⟩
 refine (nL v 1 11 (by omega) (by decide) (by decide) (by decide)).u ?_
 refine aD ?_
 exact (show bits .or .u32 (bits .or .u32 (bits .or .u32 (bits .or .u32 (bits .or .u32 (ab v 20 1*Ev.aO .u32 26) (c*Ev.aO .u32 22)) (ab v 12 6*Ev.aO .u32 16)) (ab v 18 1*Ev.aO .u32 13)) (ab v 19 1*Ev.aO .u32 11)) (ab v 1 11)=_ from ((((((((((((pL v 20 1 26 (by decide) (by decide))).or (mN c 4 22 (by decide) (by decide) hc))).or (pL v 12 6 16 (by decide) (by decide)))).or (pL v 18 1 13 (by decide) (by decide)))).or (pL v 19 1 11 (by decide) (by decide)))).or (sj v 1 11 (by decide)))).1)
theorem Hd (i:IN) (hs:aa i.form=33) (hr:aF i (bX 33)) (hg:i.ao<=9223372036854775807):ai gT 131 [cG i] (.int .u32 ((dS i (ax 33):Nat):Int)):=by
 obtain⟨hf,h1,h2,h3,h4,h5,h6,h7,h8,h9,cC⟩:=hr
 have g0:=aA (r:=i.rd) h1
 have g1:=aA (r:=i.rn) h2
 have g2:=aA (r:=i.rm) h3
 have g3:=aA (r:=i.ra) h4
 have g4:-1048576<=i.az/\i.az<=1048574/\i.az % 2=0:=dZ (s:=2) (by decide) h7
 have g5:i.kind=0:=(bd rfl h9).1
 have g6:i.bC=0:=bK (bd rfl h9).2
 have g7:i.set=0:=h8.elim id fun e=>absurd (show false=true from e.2) Bool.false_ne_true
 have g8:0<=i.cond/\i.cond<=13:=by rcases h6 with h6|h6<;>omega
 clear h1 h2 h3 h4 h5 h6 h7 h8 h9 cC
 refine Spec.enter an jd 100 Tryz.func131 rfl (by kernel_rfl) ?_
 refine .inr ?_
 refine .inl ⟨af (by omega),?_⟩
 refine (ar hs).u ?_
 refine .inl ⟨af (by omega),?_⟩
 refine (pW i.az i.cond (by omega) (by omega)).u ?_
 refine aD ?_
 have eo:dS i (ax 33)=0 ||| B i.az 20 1 26 ||| B i.cond 0 4 22 ||| B i.az 12 6 16 ||| B i.az 18 1 13 ||| B i.az 19 1 11 ||| B i.az 1 11 0:=rfl
 rw[eo]
 refine (show _=_ from congrArg (fun n:Nat=>(n:Int)) ?_)
 simp only[Nat.zero_or]
theorem uq (v:Int) (hv:-1099511627776<=v):ab (bG (ab v 0 25) 2) 24 1=ab v 24 1/\ab (bG (ab v 0 25) 2) 12 10=ab v 12 10/\ab (bG (ab v 0 25) 2) 23 1=(if ab v 23 1=ab v 24 1 then 1 else 0)/\ab (bG (ab v 0 25) 2) 22 1=(if ab v 22 1=ab v 24 1 then 1 else 0)/\ab (bG (ab v 0 25) 2) 1 11=ab v 1 11:=by
 obtain⟨u,hu⟩:∃ u,u=if v < 0 then v+1099511627776 else v:=⟨_,rfl⟩
 have u0:0<=u:=by rw[hu]; split<;>omega
 obtain⟨n,hn⟩:∃ n,n=ab v 0 25:=⟨_,rfl⟩
 have e:n=u % 33554432:=by
  rw[hn]; unfold ab; rw[← hu]; omega
 have hb:0<=n/\n < 33554432:=by omega
 have c:=kb hb
 have d:=l_ hb
 rw[← hn]
 obtain⟨t,ht⟩:∃ t,t=bG n 2:=⟨_,rfl⟩
 rw[← ht] at c d ⊢
 have e1:ab v 24 1=n / 16777216:=by unfold ab; rw[← hu]; omega
 have e2:ab v 23 1=n / 8388608 % 2:=by unfold ab; rw[← hu]; omega
 have e3:ab v 22 1=n / 4194304 % 2:=by unfold ab; rw[← hu]; omega
 have e4:ab v 12 10=n % 4194304 / 4096:=by unfold ab; rw[← hu]; omega
 have e5:ab v 1 11=n % 4194304 / 2 % 2048:=by unfold ab; rw[← hu]; omega
 have f1:ab t 24 1=t / 16777216:=by unfold ab; rw[if_neg (by omega)]; omega
 have f2:ab t 23 1=t / 8388608 % 2:=by unfold ab; rw[if_neg (by omega)]; omega
 have f3:ab t 22 1=t / 4194304 % 2:=by unfold ab; rw[if_neg (by omega)]; omega
 have f4:ab t 12 10=t % 4194304 / 4096:=by unfold ab; rw[if_neg (by omega)]; omega
 have f5:ab t 1 11=t % 4194304 / 2 % 2048:=by unfold ab; rw[if_neg (by omega)]; omega
 have e6:n / 16777216 % 2=n / 16777216:=by omega
 rw[e1,e2,e3,e4,e5,f1,f2,f3,f4,f5,c.1,c.2.1]
 rw[e6] at c
 exact⟨rfl,rfl,c.2.2.2,c.2.2.1,rfl⟩
theorem Da (a b:Int):∃ m:Int,m=(if a=b then 1 else 0)/\0<=m/\m < 2:=⟨_,rfl,by split<;>omega,by split<;>omega⟩
theorem pX (v:Int) (hv:-1099511627776<=v):ai gT 159 [.int .u32 (IntKind.u32.wrap v)] (.int .u32 ((B (bG (ab v 0 25) 2) 24 1 26 ||| B (bG (ab v 0 25) 2) 12 10 16 ||| B (bG (ab v 0 25) 2) 23 1 13 ||| B (bG (ab v 0 25) 2) 22 1 11 ||| B (bG (ab v 0 25) 2) 1 11 0:Nat):Int)):=by
 obtain⟨t1,t2,t3,t4,t5⟩:=uq v hv
 have s2:=kf (ab v 23 1) (ab v 24 1) (iU v 23) (iU v 24)
 have s3:=kf (ab v 22 1) (ab v 24 1) (iU v 22) (iU v 24)
 obtain⟨m2,yN,c2⟩:=Da (ab v 23 1) (ab v 24 1)
 obtain⟨m3,VF,c3⟩:=Da (ab v 22 1) (ab v 24 1)
 rw[← yN] at s2 t3
 rw[← VF] at s3 t4
 have b0:=ae v 24 1
 have b1:=ae v 12 10
 have b2:=ae v 1 11
 refine Spec.enter an Xj 100 Tryz.func159 rfl (by kernel_rfl) ?_
 refine (nL v 24 1 (by omega) (by decide) (by decide) (by decide)).u ?_
 refine⟨by decide,.inl ⟨af (by rw[X1]; omega),?_⟩⟩
 refine (nL v 12 10 (by omega) (by decide) (by decide) (by decide)).u ?_
 refine⟨by decide,.inl ⟨af (by rw[JQ]; omega),?_⟩⟩
 refine (nL v 23 1 (by omega) (by decide) (by decide) (by decide)).u ?_
 refine s2.u ?_
 refine⟨by decide,.inl ⟨af (by rw[ZR]; omega),?_⟩⟩
 refine (nL v 22 1 (by omega) (by decide) (by decide) (by decide)).u ?_
 refine s3.u ?_
 refine⟨by decide,.inl ⟨af (by rw[X0]; omega),?_⟩⟩
 refine (nL v 1 11 (by omega) (by decide) (by decide) (by decide)).u ?_
 refine aD ?_
 have k1:vk (ab v 24 1*Ev.aO .u32 26) (B (bG (ab v 0 25) 2) 24 1 26):=by have:=pL (bG (ab v 0 25) 2) 24 1 26 (p:=Ev.aO .u32 26) (by decide) (by decide); rwa [t1] at this
 have k2:vk (ab v 12 10*Ev.aO .u32 16) (B (bG (ab v 0 25) 2) 12 10 16):=by have:=pL (bG (ab v 0 25) 2) 12 10 16 (p:=Ev.aO .u32 16) (by decide) (by decide); rwa [t2] at this
 have k3:vk (m2*Ev.aO .u32 13) (B (bG (ab v 0 25) 2) 23 1 13):=by have:=pL (bG (ab v 0 25) 2) 23 1 13 (p:=Ev.aO .u32 13) (by decide) (by decide); rwa [t3] at this
 have k4:vk (m3*Ev.aO .u32 11) (B (bG (ab v 0 25) 2) 22 1 11):=by have:=pL (bG (ab v 0 25) 2) 22 1 11 (p:=Ev.aO .u32 11) (by decide) (by decide); rwa [t4] at this
 have k5:vk (ab v 1 11) (B (bG (ab v 0 25) 2) 1 11 0):=by have:=sj (bG (ab v 0 25) 2) 1 11 (by decide); rwa [t5] at this
 exact (show bits .or .u32 (bits .or .u32 (bits .or .u32 (bits .or .u32 (ab v 24 1*Ev.aO .u32 26) (ab v 12 10*Ev.aO .u32 16)) (m2*Ev.aO .u32 13)) (m3*Ev.aO .u32 11)) (ab v 1 11)=_ from ((((k1.or k2).or k3).or k4).or k5).1)
theorem He (i:IN) (hs:aa i.form=34) (hr:aF i (bX 34)) (hg:i.ao<=9223372036854775807):ai gT 131 [cG i] (.int .u32 ((dS (du i) (ax 34):Nat):Int)):=by
 obtain⟨hf,h1,h2,h3,h4,h5,h6,h7,h8,h9,cC⟩:=hr
 have g0:=aA (r:=i.rd) h1
 have g1:=aA (r:=i.rn) h2
 have g2:=aA (r:=i.rm) h3
 have g3:=aA (r:=i.ra) h4
 have g4:-16777216<=i.az/\i.az<=16777214/\i.az % 2=0:=dZ (s:=2) (by decide) h7
 have g5:i.kind=0:=(bd rfl h9).1
 have g6:i.bC=0:=bK (bd rfl h9).2
 have g7:i.set=0:=h8.elim id fun e=>absurd (show false=true from e.2) Bool.false_ne_true
 have g8:i.cond=0:=h6.elim id fun e=>absurd (show false=true from e.1) Bool.false_ne_true
 clear h1 h2 h3 h4 h5 h6 h7 h8 h9 cC
 have et:=RZ hs
 rw[et]
 refine Spec.enter an jd 100 Tryz.func131 rfl (by kernel_rfl) ?_
 refine .inr ?_
 refine .inl ⟨af (by omega),?_⟩
 refine (ar hs).u ?_
 refine (pX i.az (by omega)).u ?_
 refine aD ?_
 have eo:dS {i with az:=bG (ab i.az 0 25) 2} (ax 34)=0 ||| B (bG (ab i.az 0 25) 2) 24 1 26 ||| B (bG (ab i.az 0 25) 2) 12 10 16 ||| B (bG (ab i.az 0 25) 2) 23 1 13 ||| B (bG (ab i.az 0 25) 2) 22 1 11 ||| B (bG (ab i.az 0 25) 2) 1 11 0:=rfl
 rw[eo]
 refine (show _=_ from congrArg (fun n:Nat=>(n:Int)) ?_)
 simp only[Nat.zero_or]
theorem gE:∀ (i:IN),jj (cG i) (cG i):=fun i=>⟨rfl,rfl,rfl,rfl,rfl,rfl,rfl,rfl,rfl,rfl,rfl,trivial⟩
theorem q2:Ev.aO .i64 2=4:=by decide
theorem ZU:Ev.aO .i64 14=16384:=by decide
theorem ZV:Ev.aO .i64 15=32768:=by decide
theorem wI (f w:Int) (hF:1<=f/\f<=100) (hs:aa f=1) (hw:bO w):ai gT 103 [.int .i64 f,.int .u32 w] (cG (Po f w)):=by
 have b0:=ae w 6 5
 have b1:=ae w 3 3
 have b2:=ae w 0 3
 unfold Po
 refine Spec.enter an jy 100 Tryz.func103 rfl (by kernel_rfl) ?_
 have h3:=qy hF hs
 have e:∀ x:Int,x=0+x*2 ^ 0:=fun x=>by omega
 refine (ar hs).u ?_
 refine (aK w 0 3 hw (by decide) (by decide)).u ?_
 refine (aK w 3 3 hw (by decide) (by decide)).u ?_
 refine (aK w 6 5 hw (by decide) (by decide)).u ?_
 refine⟨fun h1=>?_,fun h1=>?_⟩
 ·refine⟨[],br,(er 1 (0+ab w 6 5*2 ^ 0)).use (And.intro rfl (And.intro (e _) trivial)) rfl rfl ?_⟩
  refine aD ?_
  (repeat' first|exact trivial|exact rfl|exact e _|refine And.intro ?_ ?_)
  show (if 0+ab w 6 5*2 ^ 0=0/\((1:Int)=1\/(1:Int)=2) then (32:Int) else _)=if 1 < f/\0+ab w 6 5*2 ^ 0=0 then (32:Int) else 0+ab w 6 5*2 ^ 0
  have pK:¬ f=1:=h1
  (repeat' split)<;>omega
 ·refine aD ?_
  (repeat' first|exact trivial|exact rfl|exact e _|refine And.intro ?_ ?_)
  show ab w 6 5=if 1 < f/\0+ab w 6 5*2 ^ 0=0 then (32:Int) else 0+ab w 6 5*2 ^ 0
  have pK:¬ ¬ f=1:=h1
  (repeat' split)<;>omega
theorem wJ (f w:Int) (hF:1<=f/\f<=100) (hs:aa f=2) (hw:bO w):ai gT 103 [.int .i64 f,.int .u32 w] (cG (Pp f w)):=by
 have b0:=ae w 6 3
 have b1:=ae w 3 3
 have b2:=ae w 0 3
 unfold Pp
 refine Spec.enter an jy 100 Tryz.func103 rfl (by kernel_rfl) ?_
 refine (ar hs).u ?_
 refine (k7 ⟨f,0,0,0,0,0,0,0,0,0,0⟩ w hw).u ?_
 refine (aK w 6 3 hw (by decide) (by decide)).u ?_
 refine aD ?_
 (repeat' first|exact trivial|exact rfl|refine And.intro ?_ ?_)
 all_goals (show (_:Int)=_; (try dsimp only [bS,cj]); first|omega|(unfold dT; omega))
theorem wK (f w:Int) (hF:1<=f/\f<=100) (hs:aa f=3) (hw:bO w):ai gT 103 [.int .i64 f,.int .u32 w] (cG (Pq f w)):=by
 have b0:=ae w 6 3
 have b1:=ae w 3 3
 have b2:=ae w 0 3
 unfold Pq
 refine Spec.enter an jy 100 Tryz.func103 rfl (by kernel_rfl) ?_
 refine (ar hs).u ?_
 refine (k7 ⟨f,0,0,0,0,0,0,0,0,0,0⟩ w hw).u ?_
 refine (aK w 6 3 hw (by decide) (by decide)).u ?_
 refine aD ?_
 (repeat' first|exact trivial|exact rfl|refine And.intro ?_ ?_)
 all_goals (show (_:Int)=_; (try dsimp only [bS,cj]); first|omega|(unfold dT; omega))
theorem wL (f w:Int) (hF:1<=f/\f<=100) (hs:aa f=4) (hw:bO w):ai gT 103 [.int .i64 f,.int .u32 w] (cG (Pr f w)):=by
 have b0:=ae w 8 3
 have b1:=ae w 0 8
 unfold Pr
 refine Spec.enter an jy 100 Tryz.func103 rfl (by kernel_rfl) ?_
 refine (ar hs).u ?_
 refine (aK w 8 3 hw (by decide) (by decide)).u ?_
 refine (aK w 0 8 hw (by decide) (by decide)).u ?_
 refine aD ?_
 (repeat' first|exact trivial|exact rfl|refine And.intro ?_ ?_)
 all_goals (show (_:Int)=_; (try dsimp only [bS,cj]); first|omega|(unfold dT; omega))
theorem wM (f w:Int) (hF:1<=f/\f<=100) (hs:aa f=5) (hw:bO w):ai gT 103 [.int .i64 f,.int .u32 w] (cG (Ps f w)):=by
 have b0:=ae w 3 3
 have b1:=ae w 0 3
 unfold Ps
 refine Spec.enter an jy 100 Tryz.func103 rfl (by kernel_rfl) ?_
 refine (ar hs).u ?_
 refine (aK w 0 3 hw (by decide) (by decide)).u ?_
 refine (aK w 3 3 hw (by decide) (by decide)).u ?_
 refine aD ?_
 (repeat' first|exact trivial|exact rfl|refine And.intro ?_ ?_)
 all_goals (show (_:Int)=_; (try dsimp only [bS,cj]); first|omega|(unfold dT; omega))
theorem wN (f w:Int) (hF:1<=f/\f<=100) (hs:aa f=6) (hw:bO w):ai gT 103 [.int .i64 f,.int .u32 w] (cG (Pt f w)):=by
 have b0:=ae w 7 1
 have b1:=ae w 3 4
 have b2:=ae w 0 3
 unfold Pt
 refine Spec.enter an jy 100 Tryz.func103 rfl (by kernel_rfl) ?_
 refine (ar hs).u ?_
 refine (aK w 7 1 hw (by decide) (by decide)).u ?_
 refine⟨by decide,.inl ⟨av (by rw[q3]; omega),?_⟩⟩
 refine (aK w 0 3 hw (by decide) (by decide)).u ?_
 refine (aK w 3 4 hw (by decide) (by decide)).u ?_
 have e:bits .or .i64 (ab w 7 1*Ev.aO .i64 3) (ab w 0 3)=0+ab w 7 1*2 ^ 3+ab w 0 3*2 ^ 0:=by
  rw[q3,Rm.cr (ab w 7 1*8) (ab w 0 3) 3 (by omega) (by omega) (by omega) (by omega) (by omega) (by omega)]; omega
 refine aD ?_
 (repeat' first|exact trivial|exact rfl|exact e|refine And.intro ?_ ?_)
 all_goals (show (_:Int)=_; (try dsimp only [bS,cj]); omega)
theorem wO (f w:Int) (hF:1<=f/\f<=100) (hs:aa f=7) (hw:bO w):ai gT 103 [.int .i64 f,.int .u32 w] (cG (Pu f w)):=by
 have b0:=ae w 3 4
 unfold Pu
 refine Spec.enter an jy 100 Tryz.func103 rfl (by kernel_rfl) ?_
 refine (ar hs).u ?_
 refine (aK w 3 4 hw (by decide) (by decide)).u ?_
 refine aD ?_
 (repeat' first|exact trivial|exact rfl|refine And.intro ?_ ?_)
 all_goals (show (_:Int)=_; (try dsimp only [bS,cj]); first|omega|(unfold dT; omega))
theorem wP (f w:Int) (hF:1<=f/\f<=100) (hs:aa f=8) (hw:bO w):ai gT 103 [.int .i64 f,.int .u32 w] (cG (Pv f w)):=by
 have b0:=ae w 8 3
 have b1:=ae w 0 8
 unfold Pv
 refine Spec.enter an jy 100 Tryz.func103 rfl (by kernel_rfl) ?_
 refine (ar hs).u ?_
 refine (aK w 8 3 hw (by decide) (by decide)).u ?_
 refine (aK w 0 8 hw (by decide) (by decide)).u ?_
 refine li ?_
 refine aD ?_
 (repeat' first|exact trivial|exact rfl|refine And.intro ?_ ?_)
 all_goals (show (_:Int)=_; (try dsimp only [bS,cj]); first|omega|(unfold dT; omega))
theorem wQ (f w:Int) (hF:1<=f/\f<=100) (hs:aa f=9) (hw:bO w):ai gT 103 [.int .i64 f,.int .u32 w] (cG (Px f w)):=by
 have b0:=ae w 6 5
 have b1:=ae w 3 3
 have b2:=ae w 0 3
 unfold Px
 refine Spec.enter an jy 100 Tryz.func103 rfl (by kernel_rfl) ?_
 refine (ar hs).u ?_
 refine (k7 ⟨f,0,0,0,0,0,0,0,0,0,0⟩ w hw).u ?_
 refine (aK w 6 5 hw (by decide) (by decide)).u ?_
 refine li ?_
 refine aD ?_
 (repeat' first|exact trivial|exact rfl|refine And.intro ?_ ?_)
 all_goals (show (_:Int)=_; (try dsimp only [bS,cj]); first|omega|(unfold dT; omega))
theorem ur (f w:Int) (hF:1<=f/\f<=100) (hs:aa f=10) (hw:bO w):ai gT 103 [.int .i64 f,.int .u32 w] (cG (CQ f w)):=by
 have b0:=ae w 0 7
 unfold CQ
 refine Spec.enter an jy 100 Tryz.func103 rfl (by kernel_rfl) ?_
 refine (ar hs).u ?_
 refine (aK w 0 7 hw (by decide) (by decide)).u ?_
 refine li ?_
 refine aD ?_
 (repeat' first|exact trivial|exact rfl|refine And.intro ?_ ?_)
 all_goals (show (_:Int)=_; (try dsimp only [bS,cj]); first|omega|(unfold dT; omega))
theorem uu (f w:Int) (hF:1<=f/\f<=100) (hs:aa f=11) (hw:bO w):ai gT 103 [.int .i64 f,.int .u32 w] (cG (CR f w)):=by
 have b0:=ae w 8 1
 have b1:=ae w 0 8
 unfold CR
 refine Spec.enter an jy 100 Tryz.func103 rfl (by kernel_rfl) ?_
 refine (ar hs).u ?_
 refine (aK w 8 1 hw (by decide) (by decide)).u ?_
 refine⟨by decide,.inl ⟨av (by rw[ZU]; omega),?_⟩⟩
 refine (aK w 0 8 hw (by decide) (by decide)).u ?_
 have e:bits .or .i64 (ab w 8 1*Ev.aO .i64 14) (ab w 0 8)=0+ab w 8 1*2 ^ 14+ab w 0 8*2 ^ 0:=by
  rw[ZU,Rm.cr (ab w 8 1*16384) (ab w 0 8) 14 (by omega) (by omega) (by omega) (by omega) (by omega) (by omega)]; omega
 refine aD ?_
 (repeat' first|exact trivial|exact rfl|exact e|refine And.intro ?_ ?_)
 all_goals (show (_:Int)=_; (try dsimp only [bS,cj]); omega)
theorem uv (f w:Int) (hF:1<=f/\f<=100) (hs:aa f=12) (hw:bO w):ai gT 103 [.int .i64 f,.int .u32 w] (cG (CS f w)):=by
 have b0:=ae w 8 1
 have b1:=ae w 0 8
 unfold CS
 refine Spec.enter an jy 100 Tryz.func103 rfl (by kernel_rfl) ?_
 refine (ar hs).u ?_
 refine (aK w 8 1 hw (by decide) (by decide)).u ?_
 refine⟨by decide,.inl ⟨av (by rw[ZV]; omega),?_⟩⟩
 refine (aK w 0 8 hw (by decide) (by decide)).u ?_
 have e:bits .or .i64 (ab w 8 1*Ev.aO .i64 15) (ab w 0 8)=0+ab w 8 1*2 ^ 15+ab w 0 8*2 ^ 0:=by
  rw[ZV,Rm.cr (ab w 8 1*32768) (ab w 0 8) 15 (by omega) (by omega) (by omega) (by omega) (by omega) (by omega)]; omega
 refine aD ?_
 (repeat' first|exact trivial|exact rfl|exact e|refine And.intro ?_ ?_)
 all_goals (show (_:Int)=_; (try dsimp only [bS,cj]); omega)
theorem uw (f w:Int) (hF:1<=f/\f<=100) (hs:aa f=13) (hw:bO w):ai gT 103 [.int .i64 f,.int .u32 w] (cG (CT f w)):=by
 unfold CT
 refine Spec.enter an jy 100 Tryz.func103 rfl (by kernel_rfl) ?_
 refine (ar hs).u ?_
 exact rA
theorem ux (f w:Int) (hF:1<=f/\f<=100) (hs:aa f=14) (hw:bO w):ai gT 103 [.int .i64 f,.int .u32 w] (cG (CU f w)):=by
 have b0:=ae w 0 8
 unfold CU
 refine Spec.enter an jy 100 Tryz.func103 rfl (by kernel_rfl) ?_
 refine (ar hs).u ?_
 refine (aK w 0 8 hw (by decide) (by decide)).u ?_
 refine aD ?_
 (repeat' first|exact trivial|exact rfl|refine And.intro ?_ ?_)
 all_goals (show (_:Int)=_; (try dsimp only [bS,cj]); first|omega|(unfold dT; omega))
theorem uy (f w:Int) (hF:1<=f/\f<=100) (hs:aa f=15) (hw:bO w):ai gT 103 [.int .i64 f,.int .u32 w] (cG (CV f w)):=by
 have b0:=ae w 8 4
 have b1:=ae w 0 8
 unfold CV
 refine Spec.enter an jy 100 Tryz.func103 rfl (by kernel_rfl) ?_
 refine (ar hs).u ?_
 refine (aK w 8 4 hw (by decide) (by decide)).u ?_
 refine (aK w 0 8 hw (by decide) (by decide)).u ?_
 refine⟨by decide,.inl ⟨av (by rw[q1]; omega),?_⟩⟩
 refine⟨[],br,(gX (0+ab w 0 8*2 ^ 1) 8 (by decide) ⟨by omega,by omega⟩).use (And.intro (show ab w 0 8*Ev.aO .i64 1=_ by rw[q1]; omega) (And.intro rfl trivial)) rfl rfl ?_⟩
 refine aD ?_
 (repeat' first|exact trivial|exact rfl|refine And.intro ?_ ?_)
 all_goals (show (_:Int)=_; (try dsimp only [bS,cj]); first|omega|(unfold dT; omega))
theorem uz (f w:Int) (hF:1<=f/\f<=100) (hs:aa f=16) (hw:bO w):ai gT 103 [.int .i64 f,.int .u32 w] (cG (CW f w)):=by
 have b0:=ae w 0 11
 unfold CW
 refine Spec.enter an jy 100 Tryz.func103 rfl (by kernel_rfl) ?_
 refine (ar hs).u ?_
 refine (aK w 0 11 hw (by decide) (by decide)).u ?_
 refine⟨by decide,.inl ⟨av (by rw[q1]; omega),?_⟩⟩
 refine⟨[],br,(gX (0+ab w 0 11*2 ^ 1) 11 (by decide) ⟨by omega,by omega⟩).use (And.intro (show ab w 0 11*Ev.aO .i64 1=_ by rw[q1]; omega) (And.intro rfl trivial)) rfl rfl ?_⟩
 refine aD ?_
 (repeat' first|exact trivial|exact rfl|refine And.intro ?_ ?_)
 all_goals (show (_:Int)=_; (try dsimp only [bS,cj]); first|omega|(unfold dT; omega))
theorem pY (f w:Int) (hs:17<=aa f) (hw:bO w):ai gT 103 [.int .i64 f,.int .u32 w] (cG ⟨f,0,0,0,0,0,0,0,0,0,0⟩):=by
 refine Spec.enter an jy 100 Tryz.func103 rfl (by kernel_rfl) ?_
 refine (eX f).u ?_
 iterate 15 (refine And.intro (fun h=>absurd (show aa f=_ from h) (by omega)) (fun _=>?_))
 exact rA
end Go.Proofs.YtlgkljpgagfndaaGreatDoor.Pw

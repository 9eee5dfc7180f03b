/- What this claim is proved with: no condition. -/
import Derived.Test.YtlgkljpgagfndaaGreatDoorNu17
set_option maxRecDepth 100000
set_option maxHeartbeats 8000000
set_option linter.unusedVariables false
set_option linter.unusedSimpArgs false
namespace Go.Proofs.YtlgkljpgagfndaaGreatDoor.Pw
open Go Go.RowKit
theorem Mc (i:IN) (hs:aa i.form=17) (hr:aJ i (cg 17)) (hg:i.av<=9223372036854775807):ai gT 131 [c9 i] (.int .u32 ((fi i (aC 17):Nat):Int)):=by
 obtain⟨hf,h1,h2,h3,h4,h5,h6,h7,h8,h9,cZ⟩:=hr
 have g0:=bD (r:=i.rd) h1
 have g1:=aE (r:=i.rn) h2
 have g2:=aE (r:=i.rm) h3
 have g3:=aE (r:=i.ra) h4
 have g4:0<=i.ay/\i.ay<=65535/\i.ay % 1=0:=fw (s:=1) (by decide) h7
 have g5:i.kind=0:=(br rfl h9).1
 have g6:i.bF=0:=bQ (br rfl h9).2
 have g7:i.set=0:=h8.elim id fun e=>absurd (show false=true from e.2) Bool.false_ne_true
 have g8:i.cond=0:=h6.elim id fun e=>absurd (show false=true from e.1) Bool.false_ne_true
 clear h1 h2 h3 h4 h5 h6 h7 h8 h9 cZ
 refine Spec.enter al k8 100 Tryz.func131 rfl (by kernel_rfl) ?_
 refine .inl ⟨ah (by omega),?_⟩
 refine .inl ⟨ah (by omega),?_⟩
 refine (az hs).u ?_
 refine (dq i (by omega) (by omega) (by omega) (by omega) (by omega)).u ?_
 refine (ik i.ay (by unfold aY; omega)).u ?_
 refine ax ?_
 have eo:fi i (aC 17)=0 ||| B i.ay 11 1 26 ||| B i.ay 12 4 16 ||| B i.ay 8 3 12 ||| B i.ay 0 8 0 ||| B i.rd 0 4 8:=rfl
 rw[eo]
 refine (show bits .or .u32 (((B i.set 0 1 20 ||| B i.rn 0 4 16 ||| B i.ra 0 4 12 ||| B i.rd 0 4 8 ||| B i.rm 0 4 0:Nat):Int)) (((B i.ay 11 1 26 ||| B i.ay 12 4 16 ||| B i.ay 8 3 12 ||| B i.ay 0 8 0:Nat):Int))=_ from ?_)
 refine ((((fZ i)).or (lO i.ay))).1.trans (congrArg (fun n:Nat=>(n:Int)) ?_)
 first
 | (simp only[hZ g1,hZ g2,hZ g3,hZ g7,Nat.or_zero,Nat.zero_or]; done)
 | (simp only[hZ g1,hZ g2,hZ g3,hZ g7,Nat.or_zero,Nat.zero_or]
    generalize B i.ay 11 1 26=n0
    generalize B i.ay 12 4 16=n1
    generalize B i.ay 8 3 12=n2
    generalize B i.ay 0 8 0=n3
    generalize B i.rd 0 4 8=n4
    ac_rfl)
theorem Me (i:IN) (hs:aa i.form=18) (hr:aJ i (cg 18)) (hg:i.av<=9223372036854775807):ai gT 131 [c9 i] (.int .u32 ((fi i (aC 18):Nat):Int)):=by
 obtain⟨hf,h1,h2,h3,h4,h5,h6,h7,h8,h9,cZ⟩:=hr
 have g0:=bD (r:=i.rd) h1
 have g1:=bD (r:=i.rn) h2
 have g2:=aE (r:=i.rm) h3
 have g3:=aE (r:=i.ra) h4
 have g4:0<=i.ay/\i.ay<=4095/\i.ay % 1=0:=fw (s:=1) (by decide) h7
 have g5:i.kind=0:=(br rfl h9).1
 have g6:i.bF=0:=bQ (br rfl h9).2
 have g7:i.set=0\/i.set=1:=h8.imp id fun e=>e.1
 have g8:i.cond=0:=h6.elim id fun e=>absurd (show false=true from e.1) Bool.false_ne_true
 clear h1 h2 h3 h4 h5 h6 h7 h8 h9 cZ
 refine Spec.enter al k8 100 Tryz.func131 rfl (by kernel_rfl) ?_
 refine .inl ⟨ah (by omega),?_⟩
 refine .inl ⟨ah (by omega),?_⟩
 refine (az hs).u ?_
 refine (dq i (by omega) (by omega) (by omega) (by omega) (by omega)).u ?_
 refine (ik i.ay (by unfold aY; omega)).u ?_
 refine ax ?_
 have eo:fi i (aC 18)=0 ||| B i.ay 11 1 26 ||| B i.ay 8 3 12 ||| B i.ay 0 8 0 ||| B i.set 0 1 20 ||| B i.rn 0 4 16 ||| B i.rd 0 4 8:=rfl
 have HL:B i.ay 12 4 16=0:=ss (by unfold ab; split<;>omega)
 rw[eo]
 refine (show bits .or .u32 (((B i.set 0 1 20 ||| B i.rn 0 4 16 ||| B i.ra 0 4 12 ||| B i.rd 0 4 8 ||| B i.rm 0 4 0:Nat):Int)) (((B i.ay 11 1 26 ||| B i.ay 12 4 16 ||| B i.ay 8 3 12 ||| B i.ay 0 8 0:Nat):Int))=_ from ?_)
 refine ((((fZ i)).or (lO i.ay))).1.trans (congrArg (fun n:Nat=>(n:Int)) ?_)
 first
 | (simp only[hZ g2,hZ g3,HL,Nat.or_zero,Nat.zero_or]; done)
 | (simp only[hZ g2,hZ g3,HL,Nat.or_zero,Nat.zero_or]
    generalize B i.ay 11 1 26=n0
    generalize B i.ay 8 3 12=n1
    generalize B i.ay 0 8 0=n2
    generalize B i.set 0 1 20=n3
    generalize B i.rn 0 4 16=n4
    generalize B i.rd 0 4 8=n5
    ac_rfl)
theorem Mf (i:IN) (hs:aa i.form=19) (hr:aJ i (cg 19)) (hg:i.av<=9223372036854775807):ai gT 131 [c9 i] (.int .u32 ((fi i (aC 19):Nat):Int)):=by
 obtain⟨hf,h1,h2,h3,h4,h5,h6,h7,h8,h9,cZ⟩:=hr
 have g0:=bD (r:=i.rd) h1
 have g1:=aE (r:=i.rn) h2
 have g2:=aE (r:=i.rm) h3
 have g3:=aE (r:=i.ra) h4
 have g4:0<=i.ay/\i.ay<=4095/\i.ay % 1=0:=fw (s:=1) (by decide) h7
 have g5:i.kind=0:=(br rfl h9).1
 have g6:i.bF=0:=bQ (br rfl h9).2
 have g7:i.set=0\/i.set=1:=h8.imp id fun e=>e.1
 have g8:i.cond=0:=h6.elim id fun e=>absurd (show false=true from e.1) Bool.false_ne_true
 clear h1 h2 h3 h4 h5 h6 h7 h8 h9 cZ
 refine Spec.enter al k8 100 Tryz.func131 rfl (by kernel_rfl) ?_
 refine .inl ⟨ah (by omega),?_⟩
 refine .inl ⟨ah (by omega),?_⟩
 refine (az hs).u ?_
 refine (dq i (by omega) (by omega) (by omega) (by omega) (by omega)).u ?_
 refine (ik i.ay (by unfold aY; omega)).u ?_
 refine ax ?_
 have eo:fi i (aC 19)=0 ||| B i.ay 11 1 26 ||| B i.ay 8 3 12 ||| B i.ay 0 8 0 ||| B i.set 0 1 20 ||| B i.rd 0 4 8:=rfl
 have HL:B i.ay 12 4 16=0:=ss (by unfold ab; split<;>omega)
 rw[eo]
 refine (show bits .or .u32 (((B i.set 0 1 20 ||| B i.rn 0 4 16 ||| B i.ra 0 4 12 ||| B i.rd 0 4 8 ||| B i.rm 0 4 0:Nat):Int)) (((B i.ay 11 1 26 ||| B i.ay 12 4 16 ||| B i.ay 8 3 12 ||| B i.ay 0 8 0:Nat):Int))=_ from ?_)
 refine ((((fZ i)).or (lO i.ay))).1.trans (congrArg (fun n:Nat=>(n:Int)) ?_)
 first
 | (simp only[hZ g1,hZ g2,hZ g3,HL,Nat.or_zero,Nat.zero_or]; done)
 | (simp only[hZ g1,hZ g2,hZ g3,HL,Nat.or_zero,Nat.zero_or]
    generalize B i.ay 11 1 26=n0
    generalize B i.ay 8 3 12=n1
    generalize B i.ay 0 8 0=n2
    generalize B i.set 0 1 20=n3
    generalize B i.rd 0 4 8=n4
    ac_rfl)
theorem Mg (i:IN) (hs:aa i.form=20) (hr:aJ i (cg 20)) (hg:i.av<=9223372036854775807):ai gT 131 [c9 i] (.int .u32 ((fi i (aC 20):Nat):Int)):=by
 obtain⟨hf,h1,h2,h3,h4,h5,h6,h7,h8,h9,cZ⟩:=hr
 have g0:=aE (r:=i.rd) h1
 have g1:=bD (r:=i.rn) h2
 have g2:=aE (r:=i.rm) h3
 have g3:=aE (r:=i.ra) h4
 have g4:0<=i.ay/\i.ay<=4095/\i.ay % 1=0:=fw (s:=1) (by decide) h7
 have g5:i.kind=0:=(br rfl h9).1
 have g6:i.bF=0:=bQ (br rfl h9).2
 have g7:i.set=0:=h8.elim id fun e=>absurd (show false=true from e.2) Bool.false_ne_true
 have g8:i.cond=0:=h6.elim id fun e=>absurd (show false=true from e.1) Bool.false_ne_true
 clear h1 h2 h3 h4 h5 h6 h7 h8 h9 cZ
 refine Spec.enter al k8 100 Tryz.func131 rfl (by kernel_rfl) ?_
 refine .inl ⟨ah (by omega),?_⟩
 refine .inl ⟨ah (by omega),?_⟩
 refine (az hs).u ?_
 refine (dq i (by omega) (by omega) (by omega) (by omega) (by omega)).u ?_
 refine (ik i.ay (by unfold aY; omega)).u ?_
 refine ax ?_
 have eo:fi i (aC 20)=0 ||| B i.ay 11 1 26 ||| B i.ay 8 3 12 ||| B i.ay 0 8 0 ||| B i.rn 0 4 16:=rfl
 have HL:B i.ay 12 4 16=0:=ss (by unfold ab; split<;>omega)
 rw[eo]
 refine (show bits .or .u32 (((B i.set 0 1 20 ||| B i.rn 0 4 16 ||| B i.ra 0 4 12 ||| B i.rd 0 4 8 ||| B i.rm 0 4 0:Nat):Int)) (((B i.ay 11 1 26 ||| B i.ay 12 4 16 ||| B i.ay 8 3 12 ||| B i.ay 0 8 0:Nat):Int))=_ from ?_)
 refine ((((fZ i)).or (lO i.ay))).1.trans (congrArg (fun n:Nat=>(n:Int)) ?_)
 first
 | (simp only[hZ g0,hZ g2,hZ g3,hZ g7,HL,Nat.or_zero,Nat.zero_or]; done)
 | (simp only[hZ g0,hZ g2,hZ g3,hZ g7,HL,Nat.or_zero,Nat.zero_or]
    generalize B i.ay 11 1 26=n0
    generalize B i.ay 8 3 12=n1
    generalize B i.ay 0 8 0=n2
    generalize B i.rn 0 4 16=n3
    ac_rfl)
theorem Mh (i:IN) (hs:aa i.form=21) (hr:aJ i (cg 21)) (hg:i.av<=9223372036854775807):ai gT 131 [c9 i] (.int .u32 ((fi i (aC 21):Nat):Int)):=by
 obtain⟨hf,h1,h2,h3,h4,h5,h6,h7,h8,h9,cZ⟩:=hr
 have g0:=bD (r:=i.rd) h1
 have g1:=bD (r:=i.rn) h2
 have g2:=bD (r:=i.rm) h3
 have g3:=aE (r:=i.ra) h4
 have g4:i.ay=0:=bQ h7
 have g6:cP i.kind i.bF:=Dq rfl h9
 have g5:=mn g6
 have g6b:0<=i.bF/\i.bF<=32:=by unfold cP at g6; omega
 have g7:i.set=0\/i.set=1:=h8.imp id fun e=>e.1
 have g8:i.cond=0:=h6.elim id fun e=>absurd (show false=true from e.1) Bool.false_ne_true
 clear h1 h2 h3 h4 h5 h6 h7 h8 h9 cZ
 have b0:=af i.bF 2 3
 have b1:=af i.bF 0 2
 refine Spec.enter al k8 100 Tryz.func131 rfl (by kernel_rfl) ?_
 refine .inl ⟨ah (by omega),?_⟩
 refine .inl ⟨ah (by omega),?_⟩
 refine (az hs).u ?_
 refine .inl ⟨ah (by omega),?_⟩
 refine⟨by decide,.inl ⟨ah (by rw[r4]; omega),?_⟩⟩
 refine (dq i (by omega) (by omega) (by omega) (by omega) (by omega)).u ?_
 repeat (first
  | (refine⟨[],bf,(lP i.bF 2 3 (by unfold aY; omega) (by decide) (by decide)).use (And.intro rfl (And.intro rfl (And.intro rfl trivial))) rfl rfl ?_⟩)
  | (refine⟨by decide,.inl ⟨ah (by rw[Pb]; omega),?_⟩⟩)
  | (refine⟨[],bf,(lP i.bF 0 2 (by unfold aY; omega) (by decide) (by decide)).use (And.intro rfl (And.intro rfl (And.intro rfl trivial))) rfl rfl ?_⟩)
  | (refine⟨by decide,.inl ⟨ah (by rw[r6]; omega),?_⟩⟩)
  | (refine .inl ⟨ah (by omega),?_⟩)
  | (refine⟨by decide,.inl ⟨ah (by rw[r4]; omega),?_⟩⟩))
 refine ax ?_
 have eo:fi i (aC 21)=0 ||| B i.bF 2 3 12 ||| B i.bF 0 2 6 ||| B i.kind 0 2 4 ||| B i.set 0 1 20 ||| B i.rn 0 4 16 ||| B i.rd 0 4 8 ||| B i.rm 0 4 0:=rfl
 rw[eo]
 refine (show bits .or .u32 (bits .or .u32 (bits .or .u32 (((B i.set 0 1 20 ||| B i.rn 0 4 16 ||| B i.ra 0 4 12 ||| B i.rd 0 4 8 ||| B i.rm 0 4 0:Nat):Int)) (ab i.bF 2 3*Ev.aV .u32 12)) (ab i.bF 0 2*Ev.aV .u32 6)) (i.kind*Ev.aV .u32 4)=_ from ?_)
 refine ((((((((fZ i)).or (tG i.bF 2 3 12 (by decide) (by decide)))).or (tG i.bF 0 2 6 (by decide) (by decide)))).or (pv i.kind 2 4 (by decide) (by decide) (by omega)))).1.trans (congrArg (fun n:Nat=>(n:Int)) ?_)
 first
 | (simp only[hZ g3,Nat.or_zero,Nat.zero_or]; done)
 | (simp only[hZ g3,Nat.or_zero,Nat.zero_or]
    generalize B i.bF 2 3 12=n0
    generalize B i.bF 0 2 6=n1
    generalize B i.kind 0 2 4=n2
    generalize B i.set 0 1 20=n3
    generalize B i.rn 0 4 16=n4
    generalize B i.rd 0 4 8=n5
    generalize B i.rm 0 4 0=n6
    ac_rfl)
theorem Mi (i:IN) (hs:aa i.form=22) (hr:aJ i (cg 22)) (hg:i.av<=9223372036854775807):ai gT 131 [c9 i] (.int .u32 ((fi i (aC 22):Nat):Int)):=by
 obtain⟨hf,h1,h2,h3,h4,h5,h6,h7,h8,h9,cZ⟩:=hr
 have g0:=bD (r:=i.rd) h1
 have g1:=aE (r:=i.rn) h2
 have g2:=bD (r:=i.rm) h3
 have g3:=aE (r:=i.ra) h4
 have g4:i.ay=0:=bQ h7
 have g6:cP i.kind i.bF:=Dq rfl h9
 have g5:=mn g6
 have g6b:0<=i.bF/\i.bF<=32:=by unfold cP at g6; omega
 have g7:i.set=0\/i.set=1:=h8.imp id fun e=>e.1
 have g8:i.cond=0:=h6.elim id fun e=>absurd (show false=true from e.1) Bool.false_ne_true
 clear h1 h2 h3 h4 h5 h6 h7 h8 h9 cZ
 have b0:=af i.bF 2 3
 have b1:=af i.bF 0 2
 refine Spec.enter al k8 100 Tryz.func131 rfl (by kernel_rfl) ?_
 refine .inl ⟨ah (by omega),?_⟩
 refine .inl ⟨ah (by omega),?_⟩
 refine (az hs).u ?_
 refine .inl ⟨ah (by omega),?_⟩
 refine⟨by decide,.inl ⟨ah (by rw[r4]; omega),?_⟩⟩
 refine (dq i (by omega) (by omega) (by omega) (by omega) (by omega)).u ?_
 repeat (first
  | (refine⟨[],bf,(lP i.bF 2 3 (by unfold aY; omega) (by decide) (by decide)).use (And.intro rfl (And.intro rfl (And.intro rfl trivial))) rfl rfl ?_⟩)
  | (refine⟨by decide,.inl ⟨ah (by rw[Pb]; omega),?_⟩⟩)
  | (refine⟨[],bf,(lP i.bF 0 2 (by unfold aY; omega) (by decide) (by decide)).use (And.intro rfl (And.intro rfl (And.intro rfl trivial))) rfl rfl ?_⟩)
  | (refine⟨by decide,.inl ⟨ah (by rw[r6]; omega),?_⟩⟩)
  | (refine .inl ⟨ah (by omega),?_⟩)
  | (refine⟨by decide,.inl ⟨ah (by rw[r4]; omega),?_⟩⟩))
 refine ax ?_
 have eo:fi i (aC 22)=0 ||| B i.bF 2 3 12 ||| B i.bF 0 2 6 ||| B i.kind 0 2 4 ||| B i.set 0 1 20 ||| B i.rd 0 4 8 ||| B i.rm 0 4 0:=rfl
 rw[eo]
 refine (show bits .or .u32 (bits .or .u32 (bits .or .u32 (((B i.set 0 1 20 ||| B i.rn 0 4 16 ||| B i.ra 0 4 12 ||| B i.rd 0 4 8 ||| B i.rm 0 4 0:Nat):Int)) (ab i.bF 2 3*Ev.aV .u32 12)) (ab i.bF 0 2*Ev.aV .u32 6)) (i.kind*Ev.aV .u32 4)=_ from ?_)
 refine ((((((((fZ i)).or (tG i.bF 2 3 12 (by decide) (by decide)))).or (tG i.bF 0 2 6 (by decide) (by decide)))).or (pv i.kind 2 4 (by decide) (by decide) (by omega)))).1.trans (congrArg (fun n:Nat=>(n:Int)) ?_)
 first
 | (simp only[hZ g1,hZ g3,Nat.or_zero,Nat.zero_or]; done)
 | (simp only[hZ g1,hZ g3,Nat.or_zero,Nat.zero_or]
    generalize B i.bF 2 3 12=n0
    generalize B i.bF 0 2 6=n1
    generalize B i.kind 0 2 4=n2
    generalize B i.set 0 1 20=n3
    generalize B i.rd 0 4 8=n4
    generalize B i.rm 0 4 0=n5
    ac_rfl)
theorem Mj (i:IN) (hs:aa i.form=23) (hr:aJ i (cg 23)) (hg:i.av<=9223372036854775807):ai gT 131 [c9 i] (.int .u32 ((fi i (aC 23):Nat):Int)):=by
 obtain⟨hf,h1,h2,h3,h4,h5,h6,h7,h8,h9,cZ⟩:=hr
 have g0:=aE (r:=i.rd) h1
 have g1:=bD (r:=i.rn) h2
 have g2:=bD (r:=i.rm) h3
 have g3:=aE (r:=i.ra) h4
 have g4:i.ay=0:=bQ h7
 have g6:cP i.kind i.bF:=Dq rfl h9
 have g5:=mn g6
 have g6b:0<=i.bF/\i.bF<=32:=by unfold cP at g6; omega
 have g7:i.set=0:=h8.elim id fun e=>absurd (show false=true from e.2) Bool.false_ne_true
 have g8:i.cond=0:=h6.elim id fun e=>absurd (show false=true from e.1) Bool.false_ne_true
 clear h1 h2 h3 h4 h5 h6 h7 h8 h9 cZ
 have b0:=af i.bF 2 3
 have b1:=af i.bF 0 2
 refine Spec.enter al k8 100 Tryz.func131 rfl (by kernel_rfl) ?_
 refine .inl ⟨ah (by omega),?_⟩
 refine .inl ⟨ah (by omega),?_⟩
 refine (az hs).u ?_
 refine .inl ⟨ah (by omega),?_⟩
 refine⟨by decide,.inl ⟨ah (by rw[r4]; omega),?_⟩⟩
 refine (dq i (by omega) (by omega) (by omega) (by omega) (by omega)).u ?_
 repeat (first
  | (refine⟨[],bf,(lP i.bF 2 3 (by unfold aY; omega) (by decide) (by decide)).use (And.intro rfl (And.intro rfl (And.intro rfl trivial))) rfl rfl ?_⟩)
  | (refine⟨by decide,.inl ⟨ah (by rw[Pb]; omega),?_⟩⟩)
  | (refine⟨[],bf,(lP i.bF 0 2 (by unfold aY; omega) (by decide) (by decide)).use (And.intro rfl (And.intro rfl (And.intro rfl trivial))) rfl rfl ?_⟩)
  | (refine⟨by decide,.inl ⟨ah (by rw[r6]; omega),?_⟩⟩)
  | (refine .inl ⟨ah (by omega),?_⟩)
  | (refine⟨by decide,.inl ⟨ah (by rw[r4]; omega),?_⟩⟩))
 refine ax ?_
 have eo:fi i (aC 23)=0 ||| B i.bF 2 3 12 ||| B i.bF 0 2 6 ||| B i.kind 0 2 4 ||| B i.rn 0 4 16 ||| B i.rm 0 4 0:=rfl
 rw[eo]
 refine (show bits .or .u32 (bits .or .u32 (bits .or .u32 (((B i.set 0 1 20 ||| B i.rn 0 4 16 ||| B i.ra 0 4 12 ||| B i.rd 0 4 8 ||| B i.rm 0 4 0:Nat):Int)) (ab i.bF 2 3*Ev.aV .u32 12)) (ab i.bF 0 2*Ev.aV .u32 6)) (i.kind*Ev.aV .u32 4)=_ from ?_)
 refine ((((((((fZ i)).or (tG i.bF 2 3 12 (by decide) (by decide)))).or (tG i.bF 0 2 6 (by decide) (by decide)))).or (pv i.kind 2 4 (by decide) (by decide) (by omega)))).1.trans (congrArg (fun n:Nat=>(n:Int)) ?_)
 first
 | (simp only[hZ g0,hZ g3,hZ g7,Nat.or_zero,Nat.zero_or]; done)
 | (simp only[hZ g0,hZ g3,hZ g7,Nat.or_zero,Nat.zero_or]
    generalize B i.bF 2 3 12=n0
    generalize B i.bF 0 2 6=n1
    generalize B i.kind 0 2 4=n2
    generalize B i.rn 0 4 16=n3
    generalize B i.rm 0 4 0=n4
    ac_rfl)
theorem Ml (i:IN) (hs:aa i.form=24) (hr:aJ i (cg 24)) (hg:i.av<=9223372036854775807):ai gT 131 [c9 i] (.int .u32 ((fi i (aC 24):Nat):Int)):=by
 obtain⟨hf,h1,h2,h3,h4,h5,h6,h7,h8,h9,cZ⟩:=hr
 have g0:=bD (r:=i.rd) h1
 have g1:=bD (r:=i.rn) h2
 have g2:=aE (r:=i.rm) h3
 have g3:=aE (r:=i.ra) h4
 have g4:0<=i.ay/\i.ay<=4095/\i.ay % 1=0:=fw (s:=1) (by decide) h7
 have g5:i.kind=0:=(br rfl h9).1
 have g6:i.bF=0:=bQ (br rfl h9).2
 have g7:i.set=0:=h8.elim id fun e=>absurd (show false=true from e.2) Bool.false_ne_true
 have g8:i.cond=0:=h6.elim id fun e=>absurd (show false=true from e.1) Bool.false_ne_true
 clear h1 h2 h3 h4 h5 h6 h7 h8 h9 cZ
 refine Spec.enter al k8 100 Tryz.func131 rfl (by kernel_rfl) ?_
 refine .inl ⟨ah (by omega),?_⟩
 refine .inl ⟨ah (by omega),?_⟩
 refine (az hs).u ?_
 refine (dq i (by omega) (by omega) (by omega) (by omega) (by omega)).u ?_
 refine (ik i.ay (by unfold aY; omega)).u ?_
 refine ax ?_
 have eo:fi i (aC 24)=0 ||| B i.ay 11 1 26 ||| B i.ay 8 3 12 ||| B i.ay 0 8 0 ||| B i.rn 0 4 16 ||| B i.rd 0 4 8:=rfl
 have HL:B i.ay 12 4 16=0:=ss (by unfold ab; split<;>omega)
 rw[eo]
 refine (show bits .or .u32 (((B i.set 0 1 20 ||| B i.rn 0 4 16 ||| B i.ra 0 4 12 ||| B i.rd 0 4 8 ||| B i.rm 0 4 0:Nat):Int)) (((B i.ay 11 1 26 ||| B i.ay 12 4 16 ||| B i.ay 8 3 12 ||| B i.ay 0 8 0:Nat):Int))=_ from ?_)
 refine ((((fZ i)).or (lO i.ay))).1.trans (congrArg (fun n:Nat=>(n:Int)) ?_)
 first
 | (simp only[hZ g2,hZ g3,hZ g7,HL,Nat.or_zero,Nat.zero_or]; done)
 | (simp only[hZ g2,hZ g3,hZ g7,HL,Nat.or_zero,Nat.zero_or]
    generalize B i.ay 11 1 26=n0
    generalize B i.ay 8 3 12=n1
    generalize B i.ay 0 8 0=n2
    generalize B i.rn 0 4 16=n3
    generalize B i.rd 0 4 8=n4
    ac_rfl)
theorem Mm (i:IN) (hs:aa i.form=25) (hr:aJ i (cg 25)) (hg:i.av<=9223372036854775807):ai gT 131 [c9 i] (.int .u32 ((fi i (aC 25):Nat):Int)):=by
 obtain⟨hf,h1,h2,h3,h4,h5,h6,h7,h8,h9,cZ⟩:=hr
 have g0:=bD (r:=i.rd) h1
 have g1:=mM (r:=i.rn) h2
 have g2:=aE (r:=i.rm) h3
 have g3:=aE (r:=i.ra) h4
 have g4:0<=i.ay/\i.ay<=4095/\i.ay % 1=0:=fw (s:=1) (by decide) h7
 have g5:i.kind=0:=(br rfl h9).1
 have g6:i.bF=0:=bQ (br rfl h9).2
 have g7:i.set=0:=h8.elim id fun e=>absurd (show false=true from e.2) Bool.false_ne_true
 have g8:i.cond=0:=h6.elim id fun e=>absurd (show false=true from e.1) Bool.false_ne_true
 clear h1 h2 h3 h4 h5 h6 h7 h8 h9 cZ
 refine Spec.enter al k8 100 Tryz.func131 rfl (by kernel_rfl) ?_
 refine .inl ⟨ah (by omega),?_⟩
 refine .inl ⟨ah (by omega),?_⟩
 refine (az hs).u ?_
 refine .inl ⟨ah (by omega),?_⟩
 refine⟨by decide,.inl ⟨ah (by rw[Pc]; omega),?_⟩⟩
 refine .inl ⟨ah (by omega),?_⟩
 refine⟨by decide,.inl ⟨ah (by rw[Pb]; omega),?_⟩⟩
 refine ax ?_
 have eo:fi i (aC 25)=0 ||| B i.rn 0 4 16 ||| B i.rd 0 4 12 ||| B i.ay 0 12 0:=rfl
 rw[eo]
 refine (show bits .or .u32 (bits .or .u32 (i.rn*Ev.aV .u32 16) (i.rd*Ev.aV .u32 12)) (i.ay)=_ from ?_)
 refine ((((((pv i.rn 4 16 (by decide) (by decide) (by omega))).or (pv i.rd 4 12 (by decide) (by decide) (by omega)))).or (sr i.ay 12 (by decide) (by omega)))).1.trans (congrArg (fun n:Nat=>(n:Int)) ?_)
 first
 | (simp only[Nat.or_zero,Nat.zero_or]; done)
 | (simp only[Nat.or_zero,Nat.zero_or]
    generalize B i.rn 0 4 16=n0
    generalize B i.rd 0 4 12=n1
    generalize B i.ay 0 12 0=n2
    ac_rfl)
theorem Mn (i:IN) (hs:aa i.form=26) (hr:aJ i (cg 26)) (hg:i.av<=9223372036854775807):ai gT 131 [c9 i] (.int .u32 ((fi i (aC 26):Nat):Int)):=by
 obtain⟨hf,h1,h2,h3,h4,h5,h6,h7,h8,h9,cZ⟩:=hr
 have g0:=bD (r:=i.rd) h1
 have g1:=mM (r:=i.rn) h2
 have g2:=bD (r:=i.rm) h3
 have g3:=aE (r:=i.ra) h4
 have g4:i.ay=0:=bQ h7
 have g5:i.kind=0:=(br rfl h9).1
 have g6:0<=i.bF/\i.bF<=3/\i.bF % 1=0:=fw (s:=1) (by decide) (br rfl h9).2
 have g7:i.set=0:=h8.elim id fun e=>absurd (show false=true from e.2) Bool.false_ne_true
 have g8:i.cond=0:=h6.elim id fun e=>absurd (show false=true from e.1) Bool.false_ne_true
 clear h1 h2 h3 h4 h5 h6 h7 h8 h9 cZ
 refine Spec.enter al k8 100 Tryz.func131 rfl (by kernel_rfl) ?_
 refine .inl ⟨ah (by omega),?_⟩
 refine .inl ⟨ah (by omega),?_⟩
 refine (az hs).u ?_
 refine .inl ⟨ah (by omega),?_⟩
 refine⟨by decide,.inl ⟨ah (by rw[Pc]; omega),?_⟩⟩
 refine .inl ⟨ah (by omega),?_⟩
 refine⟨by decide,.inl ⟨ah (by rw[Pb]; omega),?_⟩⟩
 refine⟨by decide,.inl ⟨ah (by rw[r4]; omega),?_⟩⟩
 refine .inl ⟨ah (by omega),?_⟩
 refine ax ?_
 have eo:fi i (aC 26)=0 ||| B i.rn 0 4 16 ||| B i.rd 0 4 12 ||| B i.bF 0 2 4 ||| B i.rm 0 4 0:=rfl
 rw[eo]
 refine (show bits .or .u32 (bits .or .u32 (bits .or .u32 (i.rn*Ev.aV .u32 16) (i.rd*Ev.aV .u32 12)) (i.bF*Ev.aV .u32 4)) (i.rm)=_ from ?_)
 refine ((((((((pv i.rn 4 16 (by decide) (by decide) (by omega))).or (pv i.rd 4 12 (by decide) (by decide) (by omega)))).or (pv i.bF 2 4 (by decide) (by decide) (by omega)))).or (sr i.rm 4 (by decide) (by omega)))).1.trans (congrArg (fun n:Nat=>(n:Int)) ?_)
 first
 | (simp only[Nat.or_zero,Nat.zero_or]; done)
 | (simp only[Nat.or_zero,Nat.zero_or]
    generalize B i.rn 0 4 16=n0
    generalize B i.rd 0 4 12=n1
    generalize B i.bF 0 2 4=n2
    generalize B i.rm 0 4 0=n3
    ac_rfl)
theorem Mo (i:IN) (hs:aa i.form=27) (hr:aJ i (cg 27)) (hg:i.av<=9223372036854775807):ai gT 131 [c9 i] (.int .u32 ((fi i (aC 27):Nat):Int)):=by
 obtain⟨hf,h1,h2,h3,h4,h5,h6,h7,h8,h9,cZ⟩:=hr
 have g0:=bD (r:=i.rd) h1
 have g1:=bD (r:=i.rn) h2
 have g2:=bD (r:=i.rm) h3
 have g3:=aE (r:=i.ra) h4
 have g4:i.ay=0:=bQ h7
 have g5:i.kind=0:=(br rfl h9).1
 have g6:i.bF=0:=bQ (br rfl h9).2
 have g7:i.set=0\/i.set=1:=h8.imp id fun e=>e.1
 have g8:i.cond=0:=h6.elim id fun e=>absurd (show false=true from e.1) Bool.false_ne_true
 clear h1 h2 h3 h4 h5 h6 h7 h8 h9 cZ
 refine Spec.enter al k8 100 Tryz.func131 rfl (by kernel_rfl) ?_
 refine .inl ⟨ah (by omega),?_⟩
 refine .inl ⟨ah (by omega),?_⟩
 refine (az hs).u ?_
 refine (dq i (by omega) (by omega) (by omega) (by omega) (by omega)).u ?_
 refine ax ?_
 have eo:fi i (aC 27)=0 ||| B i.set 0 1 20 ||| B i.rn 0 4 16 ||| B i.rd 0 4 8 ||| B i.rm 0 4 0:=rfl
 rw[eo]
 refine (show ((B i.set 0 1 20 ||| B i.rn 0 4 16 ||| B i.ra 0 4 12 ||| B i.rd 0 4 8 ||| B i.rm 0 4 0:Nat):Int)=_ from ?_)
 refine ((fZ i)).1.trans (congrArg (fun n:Nat=>(n:Int)) ?_)
 first
 | (simp only[hZ g3,Nat.or_zero,Nat.zero_or]; done)
 | (simp only[hZ g3,Nat.or_zero,Nat.zero_or]
    generalize B i.set 0 1 20=n0
    generalize B i.rn 0 4 16=n1
    generalize B i.rd 0 4 8=n2
    generalize B i.rm 0 4 0=n3
    ac_rfl)
theorem Mp (i:IN) (hs:aa i.form=28) (hr:aJ i (cg 28)) (hg:i.av<=9223372036854775807):ai gT 131 [c9 i] (.int .u32 ((fi i (aC 28):Nat):Int)):=by
 obtain⟨hf,h1,h2,h3,h4,h5,h6,h7,h8,h9,cZ⟩:=hr
 have g0:=bD (r:=i.rd) h1
 have g1:=bD (r:=i.rn) h2
 have g2:=bD (r:=i.rm) h3
 have g3:=aE (r:=i.ra) h4
 have g4:i.ay=0:=bQ h7
 have g5:i.kind=0:=(br rfl h9).1
 have g6:i.bF=0:=bQ (br rfl h9).2
 have g7:i.set=0:=h8.elim id fun e=>absurd (show false=true from e.2) Bool.false_ne_true
 have g8:i.cond=0:=h6.elim id fun e=>absurd (show false=true from e.1) Bool.false_ne_true
 clear h1 h2 h3 h4 h5 h6 h7 h8 h9 cZ
 refine Spec.enter al k8 100 Tryz.func131 rfl (by kernel_rfl) ?_
 refine .inl ⟨ah (by omega),?_⟩
 refine .inl ⟨ah (by omega),?_⟩
 refine (az hs).u ?_
 refine (dq i (by omega) (by omega) (by omega) (by omega) (by omega)).u ?_
 refine ax ?_
 have eo:fi i (aC 28)=0 ||| B i.rn 0 4 16 ||| B i.rd 0 4 8 ||| B i.rm 0 4 0:=rfl
 rw[eo]
 refine (show ((B i.set 0 1 20 ||| B i.rn 0 4 16 ||| B i.ra 0 4 12 ||| B i.rd 0 4 8 ||| B i.rm 0 4 0:Nat):Int)=_ from ?_)
 refine ((fZ i)).1.trans (congrArg (fun n:Nat=>(n:Int)) ?_)
 first
 | (simp only[hZ g3,hZ g7,Nat.or_zero,Nat.zero_or]; done)
 | (simp only[hZ g3,hZ g7,Nat.or_zero,Nat.zero_or]
    generalize B i.rn 0 4 16=n0
    generalize B i.rd 0 4 8=n1
    generalize B i.rm 0 4 0=n2
    ac_rfl)
theorem Mq (i:IN) (hs:aa i.form=29) (hr:aJ i (cg 29)) (hg:i.av<=9223372036854775807):ai gT 131 [c9 i] (.int .u32 ((fi i (aC 29):Nat):Int)):=by
 obtain⟨hf,h1,h2,h3,h4,h5,h6,h7,h8,h9,cZ⟩:=hr
 have g0:=bD (r:=i.rd) h1
 have g1:=bD (r:=i.rn) h2
 have g2:=bD (r:=i.rm) h3
 have g3:=bD (r:=i.ra) h4
 have g4:i.ay=0:=bQ h7
 have g5:i.kind=0:=(br rfl h9).1
 have g6:i.bF=0:=bQ (br rfl h9).2
 have g7:i.set=0:=h8.elim id fun e=>absurd (show false=true from e.2) Bool.false_ne_true
 have g8:i.cond=0:=h6.elim id fun e=>absurd (show false=true from e.1) Bool.false_ne_true
 clear h1 h2 h3 h4 h5 h6 h7 h8 h9 cZ
 refine Spec.enter al k8 100 Tryz.func131 rfl (by kernel_rfl) ?_
 refine .inl ⟨ah (by omega),?_⟩
 refine .inl ⟨ah (by omega),?_⟩
 refine (az hs).u ?_
 refine (dq i (by omega) (by omega) (by omega) (by omega) (by omega)).u ?_
 refine ax ?_
 have eo:fi i (aC 29)=0 ||| B i.rn 0 4 16 ||| B i.ra 0 4 12 ||| B i.rd 0 4 8 ||| B i.rm 0 4 0:=rfl
 rw[eo]
 refine (show ((B i.set 0 1 20 ||| B i.rn 0 4 16 ||| B i.ra 0 4 12 ||| B i.rd 0 4 8 ||| B i.rm 0 4 0:Nat):Int)=_ from ?_)
 refine ((fZ i)).1.trans (congrArg (fun n:Nat=>(n:Int)) ?_)
 first
 | (simp only[hZ g7,Nat.or_zero,Nat.zero_or]; done)
 | (simp only[hZ g7,Nat.or_zero,Nat.zero_or]
    generalize B i.rn 0 4 16=n0
    generalize B i.ra 0 4 12=n1
    generalize B i.rd 0 4 8=n2
    generalize B i.rm 0 4 0=n3
    ac_rfl)
theorem Mr (i:IN) (hs:aa i.form=30) (hr:aJ i (cg 30)) (hg:i.av<=9223372036854775807):ai gT 131 [c9 i] (.int .u32 ((fi i (aC 30):Nat):Int)):=by
 obtain⟨hf,h1,h2,h3,h4,h5,h6,h7,h8,h9,cZ⟩:=hr
 have g0:=bD (r:=i.rd) h1
 have g1:=bD (r:=i.rn) h2
 have g2:=bD (r:=i.rm) h3
 have g3:=bD (r:=i.ra) h4
 have g4:i.ay=0:=bQ h7
 have g5:i.kind=0:=(br rfl h9).1
 have g6:i.bF=0:=bQ (br rfl h9).2
 have g7:i.set=0:=h8.elim id fun e=>absurd (show false=true from e.2) Bool.false_ne_true
 have g8:i.cond=0:=h6.elim id fun e=>absurd (show false=true from e.1) Bool.false_ne_true
 clear h1 h2 h3 h4 h5 h6 h7 h8 h9 cZ
 refine Spec.enter al k8 100 Tryz.func131 rfl (by kernel_rfl) ?_
 refine .inl ⟨ah (by omega),?_⟩
 refine .inl ⟨ah (by omega),?_⟩
 refine (az hs).u ?_
 refine (dq i (by omega) (by omega) (by omega) (by omega) (by omega)).u ?_
 refine ax ?_
 have eo:fi i (aC 30)=0 ||| B i.rn 0 4 16 ||| B i.ra 0 4 12 ||| B i.rd 0 4 8 ||| B i.rm 0 4 0:=rfl
 rw[eo]
 refine (show ((B i.set 0 1 20 ||| B i.rn 0 4 16 ||| B i.ra 0 4 12 ||| B i.rd 0 4 8 ||| B i.rm 0 4 0:Nat):Int)=_ from ?_)
 refine ((fZ i)).1.trans (congrArg (fun n:Nat=>(n:Int)) ?_)
 first
 | (simp only[hZ g7,Nat.or_zero,Nat.zero_or]; done)
 | (simp only[hZ g7,Nat.or_zero,Nat.zero_or]
    generalize B i.rn 0 4 16=n0
    generalize B i.ra 0 4 12=n1
    generalize B i.rd 0 4 8=n2
    generalize B i.rm 0 4 0=n3
    ac_rfl)
theorem Ms (i:IN) (hs:aa i.form=31) (hr:aJ i (cg 31)) (hg:i.av<=9223372036854775807):ai gT 131 [c9 i] (.int .u32 ((fi i (aC 31):Nat):Int)):=by
 obtain⟨hf,h1,h2,h3,h4,h5,h6,h7,h8,h9,cZ⟩:=hr
 have g0:=bD (r:=i.rd) h1
 have g1:=bD (r:=i.rn) h2
 have g2:=bD (r:=i.rm) h3
 have g3:=bD (r:=i.ra) h4
 have g4:i.ay=0:=bQ h7
 have g5:i.kind=0:=(br rfl h9).1
 have g6:i.bF=0:=bQ (br rfl h9).2
 have g7:i.set=0:=h8.elim id fun e=>absurd (show false=true from e.2) Bool.false_ne_true
 have g8:i.cond=0:=h6.elim id fun e=>absurd (show false=true from e.1) Bool.false_ne_true
 clear h1 h2 h3 h4 h5 h6 h7 h8 h9 cZ
 refine Spec.enter al k8 100 Tryz.func131 rfl (by kernel_rfl) ?_
 refine .inl ⟨ah (by omega),?_⟩
 refine .inl ⟨ah (by omega),?_⟩
 refine (az hs).u ?_
 refine .inl ⟨ah (by omega),?_⟩
 refine⟨by decide,.inl ⟨ah (by rw[Pc]; omega),?_⟩⟩
 refine .inl ⟨ah (by omega),?_⟩
 refine⟨by decide,.inl ⟨ah (by rw[Pb]; omega),?_⟩⟩
 refine .inl ⟨ah (by omega),?_⟩
 refine⟨by decide,.inl ⟨ah (by rw[r8]; omega),?_⟩⟩
 refine .inl ⟨ah (by omega),?_⟩
 refine ax ?_
 have eo:fi i (aC 31)=0 ||| B i.rn 0 4 16 ||| B i.rd 0 4 12 ||| B i.ra 0 4 8 ||| B i.rm 0 4 0:=rfl
 rw[eo]
 refine (show bits .or .u32 (bits .or .u32 (bits .or .u32 (i.rn*Ev.aV .u32 16) (i.rd*Ev.aV .u32 12)) (i.ra*Ev.aV .u32 8)) (i.rm)=_ from ?_)
 refine ((((((((pv i.rn 4 16 (by decide) (by decide) (by omega))).or (pv i.rd 4 12 (by decide) (by decide) (by omega)))).or (pv i.ra 4 8 (by decide) (by decide) (by omega)))).or (sr i.rm 4 (by decide) (by omega)))).1.trans (congrArg (fun n:Nat=>(n:Int)) ?_)
 first
 | (simp only[Nat.or_zero,Nat.zero_or]; done)
 | (simp only[Nat.or_zero,Nat.zero_or]
    generalize B i.rn 0 4 16=n0
    generalize B i.rd 0 4 12=n1
    generalize B i.ra 0 4 8=n2
    generalize B i.rm 0 4 0=n3
    ac_rfl)
theorem Mt (i:IN) (hs:aa i.form=32) (hr:aJ i (cg 32)) (hg:i.av<=9223372036854775807):ai gT 131 [c9 i] (.int .u32 ((fi i (aC 32):Nat):Int)):=by
 obtain⟨hf,h1,h2,h3,h4,h5,h6,h7,h8,h9,cZ⟩:=hr
 have g0:=bD (r:=i.rd) h1
 have g1:=aE (r:=i.rn) h2
 have g2:=bD (r:=i.rm) h3
 have g3:=aE (r:=i.ra) h4
 have g4:i.ay=0:=bQ h7
 have g5:i.kind=0:=(br rfl h9).1
 have g6:i.bF=0:=bQ (br rfl h9).2
 have g7:i.set=0:=h8.elim id fun e=>absurd (show false=true from e.2) Bool.false_ne_true
 have g8:i.cond=0:=h6.elim id fun e=>absurd (show false=true from e.1) Bool.false_ne_true
 clear h1 h2 h3 h4 h5 h6 h7 h8 h9 cZ
 refine Spec.enter al k8 100 Tryz.func131 rfl (by kernel_rfl) ?_
 refine .inl ⟨ah (by omega),?_⟩
 refine .inl ⟨ah (by omega),?_⟩
 refine (az hs).u ?_
 refine .inl ⟨ah (by omega),?_⟩
 refine⟨by decide,.inl ⟨ah (by rw[Pc]; omega),?_⟩⟩
 refine .inl ⟨ah (by omega),?_⟩
 refine⟨by decide,.inl ⟨ah (by rw[r8]; omega),?_⟩⟩
 refine .inl ⟨ah (by omega),?_⟩
 refine ax ?_
 have eo:fi i (aC 32)=0 ||| B i.rm 0 4 16 ||| B i.rd 0 4 8 ||| B i.rm 0 4 0:=rfl
 rw[eo]
 refine (show bits .or .u32 (bits .or .u32 (i.rm*Ev.aV .u32 16) (i.rd*Ev.aV .u32 8)) (i.rm)=_ from ?_)
 refine ((((((pv i.rm 4 16 (by decide) (by decide) (by omega))).or (pv i.rd 4 8 (by decide) (by decide) (by omega)))).or (sr i.rm 4 (by decide) (by omega)))).1.trans (congrArg (fun n:Nat=>(n:Int)) ?_)
 first
 | (simp only[Nat.or_zero,Nat.zero_or]; done)
 | (simp only[Nat.or_zero,Nat.zero_or]
    generalize B i.rm 0 4 16=n0
    generalize B i.rd 0 4 8=n1
    generalize B i.rm 0 4 0=n2
    ac_rfl)
theorem tR (v c:Int) (hv:-1099511627776<=v) (hc:0<=c/\c < 16):ai gT 158 [.int .u32 (IntKind.u32.wrap v),.int .u32 c] (.int .u32 ((B v 20 1 26 ||| B c 0 4 22 ||| B v 12 6 16 ||| B v 18 1 13 ||| B v 19 1 11 ||| B v 1 11 0:Nat):Int)):=by
 have b0:=af v 20 1
 have b1:=af v 12 6
 have b2:=af v 18 1
 have b3:=af v 19 1
 have b4:=af v 1 11
 refine Spec.enter al P158 100 Tryz.func158 rfl (by kernel_rfl) ?_
 refine (qw v 20 1 (by omega) (by decide) (by decide) (by decide)).u ?_
 refine⟨by decide,.inl ⟨ah (by rw[r26]; omega),?_⟩⟩
 refine⟨by decide,.inl ⟨ah (by rw[r22]; omega),?_⟩⟩
 refine (qw v 12 6 (by omega) (by decide) (by decide) (by decide)).u ?_
 refine⟨by decide,.inl ⟨ah (by rw[Pc]; omega),?_⟩⟩
 refine (qw v 18 1 (by omega) (by decide) (by decide) (by decide)).u ?_
 refine⟨by decide,.inl ⟨ah (by rw[r13]; omega),?_⟩⟩
 refine (qw v 19 1 (by omega) (by decide) (by decide) (by decide)).u ?_
 refine⟨by decide,.inl ⟨ah (by rw[r11]; omega),?_⟩⟩
 refine (qw v 1 11 (by omega) (by decide) (by decide) (by decide)).u ?_
 refine ax ?_
 exact (show bits .or .u32 (bits .or .u32 (bits .or .u32 (bits .or .u32 (bits .or .u32 (ab v 20 1*Ev.aV .u32 26) (c*Ev.aV .u32 22)) (ab v 12 6*Ev.aV .u32 16)) (ab v 18 1*Ev.aV .u32 13)) (ab v 19 1*Ev.aV .u32 11)) (ab v 1 11)=_ from ((((((((((((tG v 20 1 26 (by decide) (by decide))).or (pv c 4 22 (by decide) (by decide) hc))).or (tG v 12 6 16 (by decide) (by decide)))).or (tG v 18 1 13 (by decide) (by decide)))).or (tG v 19 1 11 (by decide) (by decide)))).or (wk v 1 11 (by decide)))).1)
theorem Mu (i:IN) (hs:aa i.form=33) (hr:aJ i (cg 33)) (hg:i.av<=9223372036854775807):ai gT 131 [c9 i] (.int .u32 ((fi i (aC 33):Nat):Int)):=by
 obtain⟨hf,h1,h2,h3,h4,h5,h6,h7,h8,h9,cZ⟩:=hr
 have g0:=aE (r:=i.rd) h1
 have g1:=aE (r:=i.rn) h2
 have g2:=aE (r:=i.rm) h3
 have g3:=aE (r:=i.ra) h4
 have g4:-1048576<=i.ay/\i.ay<=1048574/\i.ay % 2=0:=fw (s:=2) (by decide) h7
 have g5:i.kind=0:=(br rfl h9).1
 have g6:i.bF=0:=bQ (br rfl h9).2
 have g7:i.set=0:=h8.elim id fun e=>absurd (show false=true from e.2) Bool.false_ne_true
 have g8:0<=i.cond/\i.cond<=13:=by rcases h6 with h6|h6<;>omega
 clear h1 h2 h3 h4 h5 h6 h7 h8 h9 cZ
 refine Spec.enter al k8 100 Tryz.func131 rfl (by kernel_rfl) ?_
 refine .inr ?_
 refine .inl ⟨ah (by omega),?_⟩
 refine (az hs).u ?_
 refine .inl ⟨ah (by omega),?_⟩
 refine (tR i.ay i.cond (by omega) (by omega)).u ?_
 refine ax ?_
 have eo:fi i (aC 33)=0 ||| B i.ay 20 1 26 ||| B i.cond 0 4 22 ||| B i.ay 12 6 16 ||| B i.ay 18 1 13 ||| B i.ay 19 1 11 ||| B i.ay 1 11 0:=rfl
 rw[eo]
 refine (show _=_ from congrArg (fun n:Nat=>(n:Int)) ?_)
 simp only[Nat.zero_or]
theorem yw (v:Int) (hv:-1099511627776<=v):ab (bL (ab v 0 25) 2) 24 1=ab v 24 1/\ab (bL (ab v 0 25) 2) 12 10=ab v 12 10/\ab (bL (ab v 0 25) 2) 23 1=(if ab v 23 1=ab v 24 1 then 1 else 0)/\ab (bL (ab v 0 25) 2) 22 1=(if ab v 22 1=ab v 24 1 then 1 else 0)/\ab (bL (ab v 0 25) 2) 1 11=ab v 1 11:=by
 obtain⟨u,hu⟩:∃ u,u=if v < 0 then v+1099511627776 else v:=⟨_,rfl⟩
 have u0:0<=u:=by rw[hu]; split<;>omega
 obtain⟨n,hn⟩:∃ n,n=ab v 0 25:=⟨_,rfl⟩
 have e:n=u % 33554432:=by
  rw[hn]; unfold ab; rw[← hu]; omega
 have hb:0<=n/\n < 33554432:=by omega
 have c:=mm hb
 have d:=oH hb
 rw[← hn]
 obtain⟨t,ht⟩:∃ t,t=bL n 2:=⟨_,rfl⟩
 rw[← ht] at c d ⊢
 have e1:ab v 24 1=n / 16777216:=by unfold ab; rw[← hu]; omega
 have e2:ab v 23 1=n / 8388608 % 2:=by unfold ab; rw[← hu]; omega
 have e3:ab v 22 1=n / 4194304 % 2:=by unfold ab; rw[← hu]; omega
 have e4:ab v 12 10=n % 4194304 / 4096:=by unfold ab; rw[← hu]; omega
 have e5:ab v 1 11=n % 4194304 / 2 % 2048:=by unfold ab; rw[← hu]; omega
 have f1:ab t 24 1=t / 16777216:=by unfold ab; rw[if_neg (by omega)]; omega
 have f2:ab t 23 1=t / 8388608 % 2:=by unfold ab; rw[if_neg (by omega)]; omega
 have f3:ab t 22 1=t / 4194304 % 2:=by unfold ab; rw[if_neg (by omega)]; omega
 have f4:ab t 12 10=t % 4194304 / 4096:=by unfold ab; rw[if_neg (by omega)]; omega
 have f5:ab t 1 11=t % 4194304 / 2 % 2048:=by unfold ab; rw[if_neg (by omega)]; omega
 have e6:n / 16777216 % 2=n / 16777216:=by omega
 rw[e1,e2,e3,e4,e5,f1,f2,f3,f4,f5,c.1,c.2.1]
 rw[e6] at c
 exact⟨rfl,rfl,c.2.2.2,c.2.2.1,rfl⟩
theorem HM (a b:Int):∃ m:Int,m=(if a=b then 1 else 0)/\0<=m/\m < 2:=⟨_,rfl,by split<;>omega,by split<;>omega⟩
theorem tS (v:Int) (hv:-1099511627776<=v):ai gT 159 [.int .u32 (IntKind.u32.wrap v)] (.int .u32 ((B (bL (ab v 0 25) 2) 24 1 26 ||| B (bL (ab v 0 25) 2) 12 10 16 ||| B (bL (ab v 0 25) 2) 23 1 13 ||| B (bL (ab v 0 25) 2) 22 1 11 ||| B (bL (ab v 0 25) 2) 1 11 0:Nat):Int)):=by
 obtain⟨t1,t2,t3,t4,t5⟩:=yw v hv
 have s2:=mo (ab v 23 1) (ab v 24 1) (kF v 23) (kF v 24)
 have s3:=mo (ab v 22 1) (ab v 24 1) (kF v 22) (kF v 24)
 obtain⟨m2,xp,c2⟩:=HM (ab v 23 1) (ab v 24 1)
 obtain⟨m3,Mb,c3⟩:=HM (ab v 22 1) (ab v 24 1)
 rw[← xp] at s2 t3
 rw[← Mb] at s3 t4
 have b0:=af v 24 1
 have b1:=af v 12 10
 have b2:=af v 1 11
 refine Spec.enter al P159 100 Tryz.func159 rfl (by kernel_rfl) ?_
 refine (qw v 24 1 (by omega) (by decide) (by decide) (by decide)).u ?_
 refine⟨by decide,.inl ⟨ah (by rw[r26]; omega),?_⟩⟩
 refine (qw v 12 10 (by omega) (by decide) (by decide) (by decide)).u ?_
 refine⟨by decide,.inl ⟨ah (by rw[Pc]; omega),?_⟩⟩
 refine (qw v 23 1 (by omega) (by decide) (by decide) (by decide)).u ?_
 refine s2.u ?_
 refine⟨by decide,.inl ⟨ah (by rw[r13]; omega),?_⟩⟩
 refine (qw v 22 1 (by omega) (by decide) (by decide) (by decide)).u ?_
 refine s3.u ?_
 refine⟨by decide,.inl ⟨ah (by rw[r11]; omega),?_⟩⟩
 refine (qw v 1 11 (by omega) (by decide) (by decide) (by decide)).u ?_
 refine ax ?_
 have k1:zz (ab v 24 1*Ev.aV .u32 26) (B (bL (ab v 0 25) 2) 24 1 26):=by have:=tG (bL (ab v 0 25) 2) 24 1 26 (p:=Ev.aV .u32 26) (by decide) (by decide); rwa [t1] at this
 have k2:zz (ab v 12 10*Ev.aV .u32 16) (B (bL (ab v 0 25) 2) 12 10 16):=by have:=tG (bL (ab v 0 25) 2) 12 10 16 (p:=Ev.aV .u32 16) (by decide) (by decide); rwa [t2] at this
 have k3:zz (m2*Ev.aV .u32 13) (B (bL (ab v 0 25) 2) 23 1 13):=by have:=tG (bL (ab v 0 25) 2) 23 1 13 (p:=Ev.aV .u32 13) (by decide) (by decide); rwa [t3] at this
 have k4:zz (m3*Ev.aV .u32 11) (B (bL (ab v 0 25) 2) 22 1 11):=by have:=tG (bL (ab v 0 25) 2) 22 1 11 (p:=Ev.aV .u32 11) (by decide) (by decide); rwa [t4] at this
 have k5:zz (ab v 1 11) (B (bL (ab v 0 25) 2) 1 11 0):=by have:=wk (bL (ab v 0 25) 2) 1 11 (by decide); rwa [t5] at this
 exact (show bits .or .u32 (bits .or .u32 (bits .or .u32 (bits .or .u32 (ab v 24 1*Ev.aV .u32 26) (ab v 12 10*Ev.aV .u32 16)) (m2*Ev.aV .u32 13)) (m3*Ev.aV .u32 11)) (ab v 1 11)=_ from ((((k1.or k2).or k3).or k4).or k5).1)
theorem Mv (i:IN) (hs:aa i.form=34) (hr:aJ i (cg 34)) (hg:i.av<=9223372036854775807):ai gT 131 [c9 i] (.int .u32 ((fi (eh i) (aC 34):Nat):Int)):=by
 obtain⟨hf,h1,h2,h3,h4,h5,h6,h7,h8,h9,cZ⟩:=hr
 have g0:=aE (r:=i.rd) h1
 have g1:=aE (r:=i.rn) h2
 have g2:=aE (r:=i.rm) h3
 have g3:=aE (r:=i.ra) h4
 have g4:-16777216<=i.ay/\i.ay<=16777214/\i.ay % 2=0:=fw (s:=2) (by decide) h7
 have g5:i.kind=0:=(br rfl h9).1
 have g6:i.bF=0:=bQ (br rfl h9).2
 have g7:i.set=0:=h8.elim id fun e=>absurd (show false=true from e.2) Bool.false_ne_true
 have g8:i.cond=0:=h6.elim id fun e=>absurd (show false=true from e.1) Bool.false_ne_true
 clear h1 h2 h3 h4 h5 h6 h7 h8 h9 cZ
 have et:=Yl hs
 rw[et]
 refine Spec.enter al k8 100 Tryz.func131 rfl (by kernel_rfl) ?_
 refine .inr ?_
 refine .inl ⟨ah (by omega),?_⟩
 refine (az hs).u ?_
 refine (tS i.ay (by omega)).u ?_
 refine ax ?_
 have eo:fi {i with ay:=bL (ab i.ay 0 25) 2} (aC 34)=0 ||| B (bL (ab i.ay 0 25) 2) 24 1 26 ||| B (bL (ab i.ay 0 25) 2) 12 10 16 ||| B (bL (ab i.ay 0 25) 2) 23 1 13 ||| B (bL (ab i.ay 0 25) 2) 22 1 11 ||| B (bL (ab i.ay 0 25) 2) 1 11 0:=rfl
 rw[eo]
 refine (show _=_ from congrArg (fun n:Nat=>(n:Int)) ?_)
 simp only[Nat.zero_or]
theorem i_:∀ (i:IN),kZ (c9 i) (c9 i):=fun i=>⟨rfl,rfl,rfl,rfl,rfl,rfl,rfl,rfl,rfl,rfl,rfl,trivial⟩
theorem q2:Ev.aV .i64 2=4:=by decide
theorem q14:Ev.aV .i64 14=16384:=by decide
theorem q15:Ev.aV .i64 15=32768:=by decide
theorem Aw (f w:Int) (hF:1<=f/\f<=100) (hs:aa f=1) (hw:aY w):ai gT 103 [.int .i64 f,.int .u32 w] (c9 (U3 f w)):=by
 have b0:=af w 6 5
 have b1:=af w 3 3
 have b2:=af w 0 3
 unfold U3
 refine Spec.enter al lJ 100 Tryz.func103 rfl (by kernel_rfl) ?_
 have h3:=uG hF hs
 have e:∀ x:Int,x=0+x*2 ^ 0:=fun x=>by omega
 refine (az hs).u ?_
 refine (aR w 0 3 hw (by decide) (by decide)).u ?_
 refine (aR w 3 3 hw (by decide) (by decide)).u ?_
 refine (aR w 6 5 hw (by decide) (by decide)).u ?_
 refine⟨fun h1=>?_,fun h1=>?_⟩
 ·refine⟨[],bf,(fE 1 (0+ab w 6 5*2 ^ 0)).use (And.intro rfl (And.intro (e _) trivial)) rfl rfl ?_⟩
  refine ax ?_
  (repeat' first|exact trivial|exact rfl|exact e _|refine And.intro ?_ ?_)
  show (if 0+ab w 6 5*2 ^ 0=0/\((1:Int)=1\/(1:Int)=2) then (32:Int) else _)=if 1 < f/\0+ab w 6 5*2 ^ 0=0 then (32:Int) else 0+ab w 6 5*2 ^ 0
  have rk:¬ f=1:=h1
  (repeat' split)<;>omega
 ·refine ax ?_
  (repeat' first|exact trivial|exact rfl|exact e _|refine And.intro ?_ ?_)
  show ab w 6 5=if 1 < f/\0+ab w 6 5*2 ^ 0=0 then (32:Int) else 0+ab w 6 5*2 ^ 0
  have rk:¬ ¬ f=1:=h1
  (repeat' split)<;>omega
theorem Ay (f w:Int) (hF:1<=f/\f<=100) (hs:aa f=2) (hw:aY w):ai gT 103 [.int .i64 f,.int .u32 w] (c9 (U4 f w)):=by
 have b0:=af w 6 3
 have b1:=af w 3 3
 have b2:=af w 0 3
 unfold U4
 refine Spec.enter al lJ 100 Tryz.func103 rfl (by kernel_rfl) ?_
 refine (az hs).u ?_
 refine (np ⟨f,0,0,0,0,0,0,0,0,0,0⟩ w hw).u ?_
 refine (aR w 6 3 hw (by decide) (by decide)).u ?_
 refine ax ?_
 (repeat' first|exact trivial|exact rfl|refine And.intro ?_ ?_)
 all_goals (show (_:Int)=_; (try dsimp only [b_,cF]); first|omega|(unfold fk; omega))
theorem Az (f w:Int) (hF:1<=f/\f<=100) (hs:aa f=3) (hw:aY w):ai gT 103 [.int .i64 f,.int .u32 w] (c9 (U5 f w)):=by
 have b0:=af w 6 3
 have b1:=af w 3 3
 have b2:=af w 0 3
 unfold U5
 refine Spec.enter al lJ 100 Tryz.func103 rfl (by kernel_rfl) ?_
 refine (az hs).u ?_
 refine (np ⟨f,0,0,0,0,0,0,0,0,0,0⟩ w hw).u ?_
 refine (aR w 6 3 hw (by decide) (by decide)).u ?_
 refine ax ?_
 (repeat' first|exact trivial|exact rfl|refine And.intro ?_ ?_)
 all_goals (show (_:Int)=_; (try dsimp only [b_,cF]); first|omega|(unfold fk; omega))
theorem AA (f w:Int) (hF:1<=f/\f<=100) (hs:aa f=4) (hw:aY w):ai gT 103 [.int .i64 f,.int .u32 w] (c9 (U6 f w)):=by
 have b0:=af w 8 3
 have b1:=af w 0 8
 unfold U6
 refine Spec.enter al lJ 100 Tryz.func103 rfl (by kernel_rfl) ?_
 refine (az hs).u ?_
 refine (aR w 8 3 hw (by decide) (by decide)).u ?_
 refine (aR w 0 8 hw (by decide) (by decide)).u ?_
 refine ax ?_
 (repeat' first|exact trivial|exact rfl|refine And.intro ?_ ?_)
 all_goals (show (_:Int)=_; (try dsimp only [b_,cF]); first|omega|(unfold fk; omega))
theorem AB (f w:Int) (hF:1<=f/\f<=100) (hs:aa f=5) (hw:aY w):ai gT 103 [.int .i64 f,.int .u32 w] (c9 (U7 f w)):=by
 have b0:=af w 3 3
 have b1:=af w 0 3
 unfold U7
 refine Spec.enter al lJ 100 Tryz.func103 rfl (by kernel_rfl) ?_
 refine (az hs).u ?_
 refine (aR w 0 3 hw (by decide) (by decide)).u ?_
 refine (aR w 3 3 hw (by decide) (by decide)).u ?_
 refine ax ?_
 (repeat' first|exact trivial|exact rfl|refine And.intro ?_ ?_)
 all_goals (show (_:Int)=_; (try dsimp only [b_,cF]); first|omega|(unfold fk; omega))
theorem AD (f w:Int) (hF:1<=f/\f<=100) (hs:aa f=6) (hw:aY w):ai gT 103 [.int .i64 f,.int .u32 w] (c9 (U8 f w)):=by
 have b0:=af w 7 1
 have b1:=af w 3 4
 have b2:=af w 0 3
 unfold U8
 refine Spec.enter al lJ 100 Tryz.func103 rfl (by kernel_rfl) ?_
 refine (az hs).u ?_
 refine (aR w 7 1 hw (by decide) (by decide)).u ?_
 refine⟨by decide,.inl ⟨aq (by rw[q3]; omega),?_⟩⟩
 refine (aR w 0 3 hw (by decide) (by decide)).u ?_
 refine (aR w 3 4 hw (by decide) (by decide)).u ?_
 have e:bits .or .i64 (ab w 7 1*Ev.aV .i64 3) (ab w 0 3)=0+ab w 7 1*2 ^ 3+ab w 0 3*2 ^ 0:=by
  rw[q3,Rm.cO (ab w 7 1*8) (ab w 0 3) 3 (by omega) (by omega) (by omega) (by omega) (by omega) (by omega)]; omega
 refine ax ?_
 (repeat' first|exact trivial|exact rfl|exact e|refine And.intro ?_ ?_)
 all_goals (show (_:Int)=_; (try dsimp only [b_,cF]); omega)
theorem AE (f w:Int) (hF:1<=f/\f<=100) (hs:aa f=7) (hw:aY w):ai gT 103 [.int .i64 f,.int .u32 w] (c9 (U9 f w)):=by
 have b0:=af w 3 4
 unfold U9
 refine Spec.enter al lJ 100 Tryz.func103 rfl (by kernel_rfl) ?_
 refine (az hs).u ?_
 refine (aR w 3 4 hw (by decide) (by decide)).u ?_
 refine ax ?_
 (repeat' first|exact trivial|exact rfl|refine And.intro ?_ ?_)
 all_goals (show (_:Int)=_; (try dsimp only [b_,cF]); first|omega|(unfold fk; omega))
theorem AF (f w:Int) (hF:1<=f/\f<=100) (hs:aa f=8) (hw:aY w):ai gT 103 [.int .i64 f,.int .u32 w] (c9 (U' f w)):=by
 have b0:=af w 8 3
 have b1:=af w 0 8
 unfold U'
 refine Spec.enter al lJ 100 Tryz.func103 rfl (by kernel_rfl) ?_
 refine (az hs).u ?_
 refine (aR w 8 3 hw (by decide) (by decide)).u ?_
 refine (aR w 0 8 hw (by decide) (by decide)).u ?_
 refine li ?_
 refine ax ?_
 (repeat' first|exact trivial|exact rfl|refine And.intro ?_ ?_)
 all_goals (show (_:Int)=_; (try dsimp only [b_,cF]); first|omega|(unfold fk; omega))
theorem AG (f w:Int) (hF:1<=f/\f<=100) (hs:aa f=9) (hw:aY w):ai gT 103 [.int .i64 f,.int .u32 w] (c9 (U_ f w)):=by
 have b0:=af w 6 5
 have b1:=af w 3 3
 have b2:=af w 0 3
 unfold U_
 refine Spec.enter al lJ 100 Tryz.func103 rfl (by kernel_rfl) ?_
 refine (az hs).u ?_
 refine (np ⟨f,0,0,0,0,0,0,0,0,0,0⟩ w hw).u ?_
 refine (aR w 6 5 hw (by decide) (by decide)).u ?_
 refine li ?_
 refine ax ?_
 (repeat' first|exact trivial|exact rfl|refine And.intro ?_ ?_)
 all_goals (show (_:Int)=_; (try dsimp only [b_,cF]); first|omega|(unfold fk; omega))
theorem yx (f w:Int) (hF:1<=f/\f<=100) (hs:aa f=10) (hw:aY w):ai gT 103 [.int .i64 f,.int .u32 w] (c9 (Hn f w)):=by
 have b0:=af w 0 7
 unfold Hn
 refine Spec.enter al lJ 100 Tryz.func103 rfl (by kernel_rfl) ?_
 refine (az hs).u ?_
 refine (aR w 0 7 hw (by decide) (by decide)).u ?_
 refine li ?_
 refine ax ?_
 (repeat' first|exact trivial|exact rfl|refine And.intro ?_ ?_)
 all_goals (show (_:Int)=_; (try dsimp only [b_,cF]); first|omega|(unfold fk; omega))
theorem yy (f w:Int) (hF:1<=f/\f<=100) (hs:aa f=11) (hw:aY w):ai gT 103 [.int .i64 f,.int .u32 w] (c9 (Ho f w)):=by
 have b0:=af w 8 1
 have b1:=af w 0 8
 unfold Ho
 refine Spec.enter al lJ 100 Tryz.func103 rfl (by kernel_rfl) ?_
 refine (az hs).u ?_
 refine (aR w 8 1 hw (by decide) (by decide)).u ?_
 refine⟨by decide,.inl ⟨aq (by rw[q14]; omega),?_⟩⟩
 refine (aR w 0 8 hw (by decide) (by decide)).u ?_
 have e:bits .or .i64 (ab w 8 1*Ev.aV .i64 14) (ab w 0 8)=0+ab w 8 1*2 ^ 14+ab w 0 8*2 ^ 0:=by
  rw[q14,Rm.cO (ab w 8 1*16384) (ab w 0 8) 14 (by omega) (by omega) (by omega) (by omega) (by omega) (by omega)]; omega
 refine ax ?_
 (repeat' first|exact trivial|exact rfl|exact e|refine And.intro ?_ ?_)
 all_goals (show (_:Int)=_; (try dsimp only [b_,cF]); omega)
theorem yz (f w:Int) (hF:1<=f/\f<=100) (hs:aa f=12) (hw:aY w):ai gT 103 [.int .i64 f,.int .u32 w] (c9 (Hp f w)):=by
 have b0:=af w 8 1
 have b1:=af w 0 8
 unfold Hp
 refine Spec.enter al lJ 100 Tryz.func103 rfl (by kernel_rfl) ?_
 refine (az hs).u ?_
 refine (aR w 8 1 hw (by decide) (by decide)).u ?_
 refine⟨by decide,.inl ⟨aq (by rw[q15]; omega),?_⟩⟩
 refine (aR w 0 8 hw (by decide) (by decide)).u ?_
 have e:bits .or .i64 (ab w 8 1*Ev.aV .i64 15) (ab w 0 8)=0+ab w 8 1*2 ^ 15+ab w 0 8*2 ^ 0:=by
  rw[q15,Rm.cO (ab w 8 1*32768) (ab w 0 8) 15 (by omega) (by omega) (by omega) (by omega) (by omega) (by omega)]; omega
 refine ax ?_
 (repeat' first|exact trivial|exact rfl|exact e|refine And.intro ?_ ?_)
 all_goals (show (_:Int)=_; (try dsimp only [b_,cF]); omega)
theorem yA (f w:Int) (hF:1<=f/\f<=100) (hs:aa f=13) (hw:aY w):ai gT 103 [.int .i64 f,.int .u32 w] (c9 (Hq f w)):=by
 unfold Hq
 refine Spec.enter al lJ 100 Tryz.func103 rfl (by kernel_rfl) ?_
 refine (az hs).u ?_
 exact rA
theorem yC (f w:Int) (hF:1<=f/\f<=100) (hs:aa f=14) (hw:aY w):ai gT 103 [.int .i64 f,.int .u32 w] (c9 (Hr f w)):=by
 have b0:=af w 0 8
 unfold Hr
 refine Spec.enter al lJ 100 Tryz.func103 rfl (by kernel_rfl) ?_
 refine (az hs).u ?_
 refine (aR w 0 8 hw (by decide) (by decide)).u ?_
 refine ax ?_
 (repeat' first|exact trivial|exact rfl|refine And.intro ?_ ?_)
 all_goals (show (_:Int)=_; (try dsimp only [b_,cF]); first|omega|(unfold fk; omega))
theorem yD (f w:Int) (hF:1<=f/\f<=100) (hs:aa f=15) (hw:aY w):ai gT 103 [.int .i64 f,.int .u32 w] (c9 (Hs f w)):=by
 have b0:=af w 8 4
 have b1:=af w 0 8
 unfold Hs
 refine Spec.enter al lJ 100 Tryz.func103 rfl (by kernel_rfl) ?_
 refine (az hs).u ?_
 refine (aR w 8 4 hw (by decide) (by decide)).u ?_
 refine (aR w 0 8 hw (by decide) (by decide)).u ?_
 refine⟨by decide,.inl ⟨aq (by rw[q1]; omega),?_⟩⟩
 refine⟨[],bf,(jB (0+ab w 0 8*2 ^ 1) 8 (by decide) ⟨by omega,by omega⟩).use (And.intro (show ab w 0 8*Ev.aV .i64 1=_ by rw[q1]; omega) (And.intro rfl trivial)) rfl rfl ?_⟩
 refine ax ?_
 (repeat' first|exact trivial|exact rfl|refine And.intro ?_ ?_)
 all_goals (show (_:Int)=_; (try dsimp only [b_,cF]); first|omega|(unfold fk; omega))
theorem yE (f w:Int) (hF:1<=f/\f<=100) (hs:aa f=16) (hw:aY w):ai gT 103 [.int .i64 f,.int .u32 w] (c9 (Ht f w)):=by
 have b0:=af w 0 11
 unfold Ht
 refine Spec.enter al lJ 100 Tryz.func103 rfl (by kernel_rfl) ?_
 refine (az hs).u ?_
 refine (aR w 0 11 hw (by decide) (by decide)).u ?_
 refine⟨by decide,.inl ⟨aq (by rw[q1]; omega),?_⟩⟩
 refine⟨[],bf,(jB (0+ab w 0 11*2 ^ 1) 11 (by decide) ⟨by omega,by omega⟩).use (And.intro (show ab w 0 11*Ev.aV .i64 1=_ by rw[q1]; omega) (And.intro rfl trivial)) rfl rfl ?_⟩
 refine ax ?_
 (repeat' first|exact trivial|exact rfl|refine And.intro ?_ ?_)
 all_goals (show (_:Int)=_; (try dsimp only [b_,cF]); first|omega|(unfold fk; omega))
theorem tT (f w:Int) (hs:17<=aa f) (hw:aY w):ai gT 103 [.int .i64 f,.int .u32 w] (c9 ⟨f,0,0,0,0,0,0,0,0,0,0⟩):=by
 refine Spec.enter al lJ 100 Tryz.func103 rfl (by kernel_rfl) ?_
 refine (gh f).u ?_
 iterate 15 (refine And.intro (fun h=>absurd (show aa f=_ from h) (by omega)) (fun _=>?_))
 exact rA
end Go.Proofs.YtlgkljpgagfndaaGreatDoor.Pw

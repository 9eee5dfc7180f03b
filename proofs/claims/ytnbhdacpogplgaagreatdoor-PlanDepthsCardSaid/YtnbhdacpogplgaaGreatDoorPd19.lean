/- What this claim is proved with: no condition. -/
import Derived.Test.YtnbhdacpogplgaaGreatDoorPd17
set_option maxRecDepth 100000
set_option maxHeartbeats 8000000
set_option linter.unusedVariables false
set_option linter.unusedSimpArgs false
namespace Go.Proofs.YtnbhdacpogplgaaGreatDoor.Pw
open Go Go.RowKit
theorem Il (i:IN) (hs:af i.form=17) (hr:aH i (cW 17)) (hg:i.an<=9223372036854775807):ai gT 103 [bX i] (.int .u32 ((dv i (ar 17):Nat):Int)):=by
 obtain⟨hf,h1,h2,h3,h4,h5,h6,h7,h8,h9,bY⟩:=hr
 have g0:=aW (r:=i.rd) h1
 have g1:=au (r:=i.rn) h2
 have g2:=au (r:=i.rm) h3
 have g3:=au (r:=i.ra) h4
 have g4:0<=i.aw/\i.aw<=65535/\i.aw % 1=0:=du (s:=1) (by decide) h7
 have g5:i.kind=0:=(aP rfl h9).1
 have g6:i.bm=0:=bh (aP rfl h9).2
 have g7:i.set=0:=h8.elim id fun e=>absurd (show false=true from e.2) Bool.false_ne_true
 have g8:i.cond=0:=h6.elim id fun e=>absurd (show false=true from e.1) Bool.false_ne_true
 clear h1 h2 h3 h4 h5 h6 h7 h8 h9 bY
 refine Spec.enter al jG 100 Tryz.func103 rfl (by kernel_rfl) ?_
 refine .inl ⟨ah (by omega),?_⟩
 refine .inl ⟨ah (by omega),?_⟩
 refine (ao hs).u ?_
 refine (cj i (by omega) (by omega) (by omega) (by omega) (by omega)).u ?_
 refine (fE i.aw (by unfold cA; omega)).u ?_
 refine aj ?_
 have eo:dv i (ar 17)=0 ||| B i.aw 11 1 26 ||| B i.aw 12 4 16 ||| B i.aw 8 3 12 ||| B i.aw 0 8 0 ||| B i.rd 0 4 8:=rfl
 rw[eo]
 refine (show bits .or .u32 (((B i.set 0 1 20 ||| B i.rn 0 4 16 ||| B i.ra 0 4 12 ||| B i.rd 0 4 8 ||| B i.rm 0 4 0:Nat):Int)) (((B i.aw 11 1 26 ||| B i.aw 12 4 16 ||| B i.aw 8 3 12 ||| B i.aw 0 8 0:Nat):Int))=_ from ?_)
 refine ((((d_ i)).or (j7 i.aw))).1.trans (congrArg (fun n:Nat=>(n:Int)) ?_)
 first
 | (simp only[fB g1,fB g2,fB g3,fB g7,Nat.or_zero,Nat.zero_or]; done)
 | (simp only[fB g1,fB g2,fB g3,fB g7,Nat.or_zero,Nat.zero_or]
    generalize B i.aw 11 1 26=n0
    generalize B i.aw 12 4 16=n1
    generalize B i.aw 8 3 12=n2
    generalize B i.aw 0 8 0=n3
    generalize B i.rd 0 4 8=n4
    ac_rfl)
theorem Im (i:IN) (hs:af i.form=18) (hr:aH i (cW 18)) (hg:i.an<=9223372036854775807):ai gT 103 [bX i] (.int .u32 ((dv i (ar 18):Nat):Int)):=by
 obtain⟨hf,h1,h2,h3,h4,h5,h6,h7,h8,h9,bY⟩:=hr
 have g0:=aW (r:=i.rd) h1
 have g1:=aW (r:=i.rn) h2
 have g2:=au (r:=i.rm) h3
 have g3:=au (r:=i.ra) h4
 have g4:0<=i.aw/\i.aw<=4095/\i.aw % 1=0:=du (s:=1) (by decide) h7
 have g5:i.kind=0:=(aP rfl h9).1
 have g6:i.bm=0:=bh (aP rfl h9).2
 have g7:i.set=0\/i.set=1:=h8.imp id fun e=>e.1
 have g8:i.cond=0:=h6.elim id fun e=>absurd (show false=true from e.1) Bool.false_ne_true
 clear h1 h2 h3 h4 h5 h6 h7 h8 h9 bY
 refine Spec.enter al jG 100 Tryz.func103 rfl (by kernel_rfl) ?_
 refine .inl ⟨ah (by omega),?_⟩
 refine .inl ⟨ah (by omega),?_⟩
 refine (ao hs).u ?_
 refine (cj i (by omega) (by omega) (by omega) (by omega) (by omega)).u ?_
 refine (fE i.aw (by unfold cA; omega)).u ?_
 refine aj ?_
 have eo:dv i (ar 18)=0 ||| B i.aw 11 1 26 ||| B i.aw 8 3 12 ||| B i.aw 0 8 0 ||| B i.set 0 1 20 ||| B i.rn 0 4 16 ||| B i.rd 0 4 8:=rfl
 have EG:B i.aw 12 4 16=0:=p_ (by unfold aa; split<;>omega)
 rw[eo]
 refine (show bits .or .u32 (((B i.set 0 1 20 ||| B i.rn 0 4 16 ||| B i.ra 0 4 12 ||| B i.rd 0 4 8 ||| B i.rm 0 4 0:Nat):Int)) (((B i.aw 11 1 26 ||| B i.aw 12 4 16 ||| B i.aw 8 3 12 ||| B i.aw 0 8 0:Nat):Int))=_ from ?_)
 refine ((((d_ i)).or (j7 i.aw))).1.trans (congrArg (fun n:Nat=>(n:Int)) ?_)
 first
 | (simp only[fB g2,fB g3,EG,Nat.or_zero,Nat.zero_or]; done)
 | (simp only[fB g2,fB g3,EG,Nat.or_zero,Nat.zero_or]
    generalize B i.aw 11 1 26=n0
    generalize B i.aw 8 3 12=n1
    generalize B i.aw 0 8 0=n2
    generalize B i.set 0 1 20=n3
    generalize B i.rn 0 4 16=n4
    generalize B i.rd 0 4 8=n5
    ac_rfl)
theorem Io (i:IN) (hs:af i.form=19) (hr:aH i (cW 19)) (hg:i.an<=9223372036854775807):ai gT 103 [bX i] (.int .u32 ((dv i (ar 19):Nat):Int)):=by
 obtain⟨hf,h1,h2,h3,h4,h5,h6,h7,h8,h9,bY⟩:=hr
 have g0:=aW (r:=i.rd) h1
 have g1:=au (r:=i.rn) h2
 have g2:=au (r:=i.rm) h3
 have g3:=au (r:=i.ra) h4
 have g4:0<=i.aw/\i.aw<=4095/\i.aw % 1=0:=du (s:=1) (by decide) h7
 have g5:i.kind=0:=(aP rfl h9).1
 have g6:i.bm=0:=bh (aP rfl h9).2
 have g7:i.set=0\/i.set=1:=h8.imp id fun e=>e.1
 have g8:i.cond=0:=h6.elim id fun e=>absurd (show false=true from e.1) Bool.false_ne_true
 clear h1 h2 h3 h4 h5 h6 h7 h8 h9 bY
 refine Spec.enter al jG 100 Tryz.func103 rfl (by kernel_rfl) ?_
 refine .inl ⟨ah (by omega),?_⟩
 refine .inl ⟨ah (by omega),?_⟩
 refine (ao hs).u ?_
 refine (cj i (by omega) (by omega) (by omega) (by omega) (by omega)).u ?_
 refine (fE i.aw (by unfold cA; omega)).u ?_
 refine aj ?_
 have eo:dv i (ar 19)=0 ||| B i.aw 11 1 26 ||| B i.aw 8 3 12 ||| B i.aw 0 8 0 ||| B i.set 0 1 20 ||| B i.rd 0 4 8:=rfl
 have EG:B i.aw 12 4 16=0:=p_ (by unfold aa; split<;>omega)
 rw[eo]
 refine (show bits .or .u32 (((B i.set 0 1 20 ||| B i.rn 0 4 16 ||| B i.ra 0 4 12 ||| B i.rd 0 4 8 ||| B i.rm 0 4 0:Nat):Int)) (((B i.aw 11 1 26 ||| B i.aw 12 4 16 ||| B i.aw 8 3 12 ||| B i.aw 0 8 0:Nat):Int))=_ from ?_)
 refine ((((d_ i)).or (j7 i.aw))).1.trans (congrArg (fun n:Nat=>(n:Int)) ?_)
 first
 | (simp only[fB g1,fB g2,fB g3,EG,Nat.or_zero,Nat.zero_or]; done)
 | (simp only[fB g1,fB g2,fB g3,EG,Nat.or_zero,Nat.zero_or]
    generalize B i.aw 11 1 26=n0
    generalize B i.aw 8 3 12=n1
    generalize B i.aw 0 8 0=n2
    generalize B i.set 0 1 20=n3
    generalize B i.rd 0 4 8=n4
    ac_rfl)
theorem Ip (i:IN) (hs:af i.form=20) (hr:aH i (cW 20)) (hg:i.an<=9223372036854775807):ai gT 103 [bX i] (.int .u32 ((dv i (ar 20):Nat):Int)):=by
 obtain⟨hf,h1,h2,h3,h4,h5,h6,h7,h8,h9,bY⟩:=hr
 have g0:=au (r:=i.rd) h1
 have g1:=aW (r:=i.rn) h2
 have g2:=au (r:=i.rm) h3
 have g3:=au (r:=i.ra) h4
 have g4:0<=i.aw/\i.aw<=4095/\i.aw % 1=0:=du (s:=1) (by decide) h7
 have g5:i.kind=0:=(aP rfl h9).1
 have g6:i.bm=0:=bh (aP rfl h9).2
 have g7:i.set=0:=h8.elim id fun e=>absurd (show false=true from e.2) Bool.false_ne_true
 have g8:i.cond=0:=h6.elim id fun e=>absurd (show false=true from e.1) Bool.false_ne_true
 clear h1 h2 h3 h4 h5 h6 h7 h8 h9 bY
 refine Spec.enter al jG 100 Tryz.func103 rfl (by kernel_rfl) ?_
 refine .inl ⟨ah (by omega),?_⟩
 refine .inl ⟨ah (by omega),?_⟩
 refine (ao hs).u ?_
 refine (cj i (by omega) (by omega) (by omega) (by omega) (by omega)).u ?_
 refine (fE i.aw (by unfold cA; omega)).u ?_
 refine aj ?_
 have eo:dv i (ar 20)=0 ||| B i.aw 11 1 26 ||| B i.aw 8 3 12 ||| B i.aw 0 8 0 ||| B i.rn 0 4 16:=rfl
 have EG:B i.aw 12 4 16=0:=p_ (by unfold aa; split<;>omega)
 rw[eo]
 refine (show bits .or .u32 (((B i.set 0 1 20 ||| B i.rn 0 4 16 ||| B i.ra 0 4 12 ||| B i.rd 0 4 8 ||| B i.rm 0 4 0:Nat):Int)) (((B i.aw 11 1 26 ||| B i.aw 12 4 16 ||| B i.aw 8 3 12 ||| B i.aw 0 8 0:Nat):Int))=_ from ?_)
 refine ((((d_ i)).or (j7 i.aw))).1.trans (congrArg (fun n:Nat=>(n:Int)) ?_)
 first
 | (simp only[fB g0,fB g2,fB g3,fB g7,EG,Nat.or_zero,Nat.zero_or]; done)
 | (simp only[fB g0,fB g2,fB g3,fB g7,EG,Nat.or_zero,Nat.zero_or]
    generalize B i.aw 11 1 26=n0
    generalize B i.aw 8 3 12=n1
    generalize B i.aw 0 8 0=n2
    generalize B i.rn 0 4 16=n3
    ac_rfl)
theorem Iq (i:IN) (hs:af i.form=21) (hr:aH i (cW 21)) (hg:i.an<=9223372036854775807):ai gT 103 [bX i] (.int .u32 ((dv i (ar 21):Nat):Int)):=by
 obtain⟨hf,h1,h2,h3,h4,h5,h6,h7,h8,h9,bY⟩:=hr
 have g0:=aW (r:=i.rd) h1
 have g1:=aW (r:=i.rn) h2
 have g2:=aW (r:=i.rm) h3
 have g3:=au (r:=i.ra) h4
 have g4:i.aw=0:=bh h7
 have g6:bU i.kind i.bm:=A2 rfl h9
 have g5:=kv g6
 have g6b:0<=i.bm/\i.bm<=32:=by unfold bU at g6; omega
 have g7:i.set=0\/i.set=1:=h8.imp id fun e=>e.1
 have g8:i.cond=0:=h6.elim id fun e=>absurd (show false=true from e.1) Bool.false_ne_true
 clear h1 h2 h3 h4 h5 h6 h7 h8 h9 bY
 have b0:=ae i.bm 2 3
 have b1:=ae i.bm 0 2
 refine Spec.enter al jG 100 Tryz.func103 rfl (by kernel_rfl) ?_
 refine .inl ⟨ah (by omega),?_⟩
 refine .inl ⟨ah (by omega),?_⟩
 refine (ao hs).u ?_
 refine .inl ⟨ah (by omega),?_⟩
 refine⟨by decide,.inl ⟨ah (by rw[r4]; omega),?_⟩⟩
 refine (cj i (by omega) (by omega) (by omega) (by omega) (by omega)).u ?_
 repeat (first
  | (refine⟨[],av,(j8 i.bm 2 3 (by unfold cA; omega) (by decide) (by decide)).use (And.intro rfl (And.intro rfl (And.intro rfl trivial))) rfl rfl ?_⟩)
  | (refine⟨by decide,.inl ⟨ah (by rw[J_]; omega),?_⟩⟩)
  | (refine⟨[],av,(j8 i.bm 0 2 (by unfold cA; omega) (by decide) (by decide)).use (And.intro rfl (And.intro rfl (And.intro rfl trivial))) rfl rfl ?_⟩)
  | (refine⟨by decide,.inl ⟨ah (by rw[r6]; omega),?_⟩⟩)
  | (refine .inl ⟨ah (by omega),?_⟩)
  | (refine⟨by decide,.inl ⟨ah (by rw[r4]; omega),?_⟩⟩))
 refine aj ?_
 have eo:dv i (ar 21)=0 ||| B i.bm 2 3 12 ||| B i.bm 0 2 6 ||| B i.kind 0 2 4 ||| B i.set 0 1 20 ||| B i.rn 0 4 16 ||| B i.rd 0 4 8 ||| B i.rm 0 4 0:=rfl
 rw[eo]
 refine (show bits .or .u32 (bits .or .u32 (bits .or .u32 (((B i.set 0 1 20 ||| B i.rn 0 4 16 ||| B i.ra 0 4 12 ||| B i.rd 0 4 8 ||| B i.rm 0 4 0:Nat):Int)) (aa i.bm 2 3*Ev.aG .u32 12)) (aa i.bm 0 2*Ev.aG .u32 6)) (i.kind*Ev.aG .u32 4)=_ from ?_)
 refine ((((((((d_ i)).or (qO i.bm 2 3 12 (by decide) (by decide)))).or (qO i.bm 0 2 6 (by decide) (by decide)))).or (nq i.kind 2 4 (by decide) (by decide) (by omega)))).1.trans (congrArg (fun n:Nat=>(n:Int)) ?_)
 first
 | (simp only[fB g3,Nat.or_zero,Nat.zero_or]; done)
 | (simp only[fB g3,Nat.or_zero,Nat.zero_or]
    generalize B i.bm 2 3 12=n0
    generalize B i.bm 0 2 6=n1
    generalize B i.kind 0 2 4=n2
    generalize B i.set 0 1 20=n3
    generalize B i.rn 0 4 16=n4
    generalize B i.rd 0 4 8=n5
    generalize B i.rm 0 4 0=n6
    ac_rfl)
theorem Ir (i:IN) (hs:af i.form=22) (hr:aH i (cW 22)) (hg:i.an<=9223372036854775807):ai gT 103 [bX i] (.int .u32 ((dv i (ar 22):Nat):Int)):=by
 obtain⟨hf,h1,h2,h3,h4,h5,h6,h7,h8,h9,bY⟩:=hr
 have g0:=aW (r:=i.rd) h1
 have g1:=au (r:=i.rn) h2
 have g2:=aW (r:=i.rm) h3
 have g3:=au (r:=i.ra) h4
 have g4:i.aw=0:=bh h7
 have g6:bU i.kind i.bm:=A2 rfl h9
 have g5:=kv g6
 have g6b:0<=i.bm/\i.bm<=32:=by unfold bU at g6; omega
 have g7:i.set=0\/i.set=1:=h8.imp id fun e=>e.1
 have g8:i.cond=0:=h6.elim id fun e=>absurd (show false=true from e.1) Bool.false_ne_true
 clear h1 h2 h3 h4 h5 h6 h7 h8 h9 bY
 have b0:=ae i.bm 2 3
 have b1:=ae i.bm 0 2
 refine Spec.enter al jG 100 Tryz.func103 rfl (by kernel_rfl) ?_
 refine .inl ⟨ah (by omega),?_⟩
 refine .inl ⟨ah (by omega),?_⟩
 refine (ao hs).u ?_
 refine .inl ⟨ah (by omega),?_⟩
 refine⟨by decide,.inl ⟨ah (by rw[r4]; omega),?_⟩⟩
 refine (cj i (by omega) (by omega) (by omega) (by omega) (by omega)).u ?_
 repeat (first
  | (refine⟨[],av,(j8 i.bm 2 3 (by unfold cA; omega) (by decide) (by decide)).use (And.intro rfl (And.intro rfl (And.intro rfl trivial))) rfl rfl ?_⟩)
  | (refine⟨by decide,.inl ⟨ah (by rw[J_]; omega),?_⟩⟩)
  | (refine⟨[],av,(j8 i.bm 0 2 (by unfold cA; omega) (by decide) (by decide)).use (And.intro rfl (And.intro rfl (And.intro rfl trivial))) rfl rfl ?_⟩)
  | (refine⟨by decide,.inl ⟨ah (by rw[r6]; omega),?_⟩⟩)
  | (refine .inl ⟨ah (by omega),?_⟩)
  | (refine⟨by decide,.inl ⟨ah (by rw[r4]; omega),?_⟩⟩))
 refine aj ?_
 have eo:dv i (ar 22)=0 ||| B i.bm 2 3 12 ||| B i.bm 0 2 6 ||| B i.kind 0 2 4 ||| B i.set 0 1 20 ||| B i.rd 0 4 8 ||| B i.rm 0 4 0:=rfl
 rw[eo]
 refine (show bits .or .u32 (bits .or .u32 (bits .or .u32 (((B i.set 0 1 20 ||| B i.rn 0 4 16 ||| B i.ra 0 4 12 ||| B i.rd 0 4 8 ||| B i.rm 0 4 0:Nat):Int)) (aa i.bm 2 3*Ev.aG .u32 12)) (aa i.bm 0 2*Ev.aG .u32 6)) (i.kind*Ev.aG .u32 4)=_ from ?_)
 refine ((((((((d_ i)).or (qO i.bm 2 3 12 (by decide) (by decide)))).or (qO i.bm 0 2 6 (by decide) (by decide)))).or (nq i.kind 2 4 (by decide) (by decide) (by omega)))).1.trans (congrArg (fun n:Nat=>(n:Int)) ?_)
 first
 | (simp only[fB g1,fB g3,Nat.or_zero,Nat.zero_or]; done)
 | (simp only[fB g1,fB g3,Nat.or_zero,Nat.zero_or]
    generalize B i.bm 2 3 12=n0
    generalize B i.bm 0 2 6=n1
    generalize B i.kind 0 2 4=n2
    generalize B i.set 0 1 20=n3
    generalize B i.rd 0 4 8=n4
    generalize B i.rm 0 4 0=n5
    ac_rfl)
theorem It (i:IN) (hs:af i.form=23) (hr:aH i (cW 23)) (hg:i.an<=9223372036854775807):ai gT 103 [bX i] (.int .u32 ((dv i (ar 23):Nat):Int)):=by
 obtain⟨hf,h1,h2,h3,h4,h5,h6,h7,h8,h9,bY⟩:=hr
 have g0:=au (r:=i.rd) h1
 have g1:=aW (r:=i.rn) h2
 have g2:=aW (r:=i.rm) h3
 have g3:=au (r:=i.ra) h4
 have g4:i.aw=0:=bh h7
 have g6:bU i.kind i.bm:=A2 rfl h9
 have g5:=kv g6
 have g6b:0<=i.bm/\i.bm<=32:=by unfold bU at g6; omega
 have g7:i.set=0:=h8.elim id fun e=>absurd (show false=true from e.2) Bool.false_ne_true
 have g8:i.cond=0:=h6.elim id fun e=>absurd (show false=true from e.1) Bool.false_ne_true
 clear h1 h2 h3 h4 h5 h6 h7 h8 h9 bY
 have b0:=ae i.bm 2 3
 have b1:=ae i.bm 0 2
 refine Spec.enter al jG 100 Tryz.func103 rfl (by kernel_rfl) ?_
 refine .inl ⟨ah (by omega),?_⟩
 refine .inl ⟨ah (by omega),?_⟩
 refine (ao hs).u ?_
 refine .inl ⟨ah (by omega),?_⟩
 refine⟨by decide,.inl ⟨ah (by rw[r4]; omega),?_⟩⟩
 refine (cj i (by omega) (by omega) (by omega) (by omega) (by omega)).u ?_
 repeat (first
  | (refine⟨[],av,(j8 i.bm 2 3 (by unfold cA; omega) (by decide) (by decide)).use (And.intro rfl (And.intro rfl (And.intro rfl trivial))) rfl rfl ?_⟩)
  | (refine⟨by decide,.inl ⟨ah (by rw[J_]; omega),?_⟩⟩)
  | (refine⟨[],av,(j8 i.bm 0 2 (by unfold cA; omega) (by decide) (by decide)).use (And.intro rfl (And.intro rfl (And.intro rfl trivial))) rfl rfl ?_⟩)
  | (refine⟨by decide,.inl ⟨ah (by rw[r6]; omega),?_⟩⟩)
  | (refine .inl ⟨ah (by omega),?_⟩)
  | (refine⟨by decide,.inl ⟨ah (by rw[r4]; omega),?_⟩⟩))
 refine aj ?_
 have eo:dv i (ar 23)=0 ||| B i.bm 2 3 12 ||| B i.bm 0 2 6 ||| B i.kind 0 2 4 ||| B i.rn 0 4 16 ||| B i.rm 0 4 0:=rfl
 rw[eo]
 refine (show bits .or .u32 (bits .or .u32 (bits .or .u32 (((B i.set 0 1 20 ||| B i.rn 0 4 16 ||| B i.ra 0 4 12 ||| B i.rd 0 4 8 ||| B i.rm 0 4 0:Nat):Int)) (aa i.bm 2 3*Ev.aG .u32 12)) (aa i.bm 0 2*Ev.aG .u32 6)) (i.kind*Ev.aG .u32 4)=_ from ?_)
 refine ((((((((d_ i)).or (qO i.bm 2 3 12 (by decide) (by decide)))).or (qO i.bm 0 2 6 (by decide) (by decide)))).or (nq i.kind 2 4 (by decide) (by decide) (by omega)))).1.trans (congrArg (fun n:Nat=>(n:Int)) ?_)
 first
 | (simp only[fB g0,fB g3,fB g7,Nat.or_zero,Nat.zero_or]; done)
 | (simp only[fB g0,fB g3,fB g7,Nat.or_zero,Nat.zero_or]
    generalize B i.bm 2 3 12=n0
    generalize B i.bm 0 2 6=n1
    generalize B i.kind 0 2 4=n2
    generalize B i.rn 0 4 16=n3
    generalize B i.rm 0 4 0=n4
    ac_rfl)
theorem Iu (i:IN) (hs:af i.form=24) (hr:aH i (cW 24)) (hg:i.an<=9223372036854775807):ai gT 103 [bX i] (.int .u32 ((dv i (ar 24):Nat):Int)):=by
 obtain⟨hf,h1,h2,h3,h4,h5,h6,h7,h8,h9,bY⟩:=hr
 have g0:=aW (r:=i.rd) h1
 have g1:=aW (r:=i.rn) h2
 have g2:=au (r:=i.rm) h3
 have g3:=au (r:=i.ra) h4
 have g4:0<=i.aw/\i.aw<=4095/\i.aw % 1=0:=du (s:=1) (by decide) h7
 have g5:i.kind=0:=(aP rfl h9).1
 have g6:i.bm=0:=bh (aP rfl h9).2
 have g7:i.set=0:=h8.elim id fun e=>absurd (show false=true from e.2) Bool.false_ne_true
 have g8:i.cond=0:=h6.elim id fun e=>absurd (show false=true from e.1) Bool.false_ne_true
 clear h1 h2 h3 h4 h5 h6 h7 h8 h9 bY
 refine Spec.enter al jG 100 Tryz.func103 rfl (by kernel_rfl) ?_
 refine .inl ⟨ah (by omega),?_⟩
 refine .inl ⟨ah (by omega),?_⟩
 refine (ao hs).u ?_
 refine (cj i (by omega) (by omega) (by omega) (by omega) (by omega)).u ?_
 refine (fE i.aw (by unfold cA; omega)).u ?_
 refine aj ?_
 have eo:dv i (ar 24)=0 ||| B i.aw 11 1 26 ||| B i.aw 8 3 12 ||| B i.aw 0 8 0 ||| B i.rn 0 4 16 ||| B i.rd 0 4 8:=rfl
 have EG:B i.aw 12 4 16=0:=p_ (by unfold aa; split<;>omega)
 rw[eo]
 refine (show bits .or .u32 (((B i.set 0 1 20 ||| B i.rn 0 4 16 ||| B i.ra 0 4 12 ||| B i.rd 0 4 8 ||| B i.rm 0 4 0:Nat):Int)) (((B i.aw 11 1 26 ||| B i.aw 12 4 16 ||| B i.aw 8 3 12 ||| B i.aw 0 8 0:Nat):Int))=_ from ?_)
 refine ((((d_ i)).or (j7 i.aw))).1.trans (congrArg (fun n:Nat=>(n:Int)) ?_)
 first
 | (simp only[fB g2,fB g3,fB g7,EG,Nat.or_zero,Nat.zero_or]; done)
 | (simp only[fB g2,fB g3,fB g7,EG,Nat.or_zero,Nat.zero_or]
    generalize B i.aw 11 1 26=n0
    generalize B i.aw 8 3 12=n1
    generalize B i.aw 0 8 0=n2
    generalize B i.rn 0 4 16=n3
    generalize B i.rd 0 4 8=n4
    ac_rfl)
theorem Iv (i:IN) (hs:af i.form=25) (hr:aH i (cW 25)) (hg:i.an<=9223372036854775807):ai gT 103 [bX i] (.int .u32 ((dv i (ar 25):Nat):Int)):=by
 obtain⟨hf,h1,h2,h3,h4,h5,h6,h7,h8,h9,bY⟩:=hr
 have g0:=aW (r:=i.rd) h1
 have g1:=kQ (r:=i.rn) h2
 have g2:=au (r:=i.rm) h3
 have g3:=au (r:=i.ra) h4
 have g4:0<=i.aw/\i.aw<=4095/\i.aw % 1=0:=du (s:=1) (by decide) h7
 have g5:i.kind=0:=(aP rfl h9).1
 have g6:i.bm=0:=bh (aP rfl h9).2
 have g7:i.set=0:=h8.elim id fun e=>absurd (show false=true from e.2) Bool.false_ne_true
 have g8:i.cond=0:=h6.elim id fun e=>absurd (show false=true from e.1) Bool.false_ne_true
 clear h1 h2 h3 h4 h5 h6 h7 h8 h9 bY
 refine Spec.enter al jG 100 Tryz.func103 rfl (by kernel_rfl) ?_
 refine .inl ⟨ah (by omega),?_⟩
 refine .inl ⟨ah (by omega),?_⟩
 refine (ao hs).u ?_
 refine .inl ⟨ah (by omega),?_⟩
 refine⟨by decide,.inl ⟨ah (by rw[Ka]; omega),?_⟩⟩
 refine .inl ⟨ah (by omega),?_⟩
 refine⟨by decide,.inl ⟨ah (by rw[J_]; omega),?_⟩⟩
 refine aj ?_
 have eo:dv i (ar 25)=0 ||| B i.rn 0 4 16 ||| B i.rd 0 4 12 ||| B i.aw 0 12 0:=rfl
 rw[eo]
 refine (show bits .or .u32 (bits .or .u32 (i.rn*Ev.aG .u32 16) (i.rd*Ev.aG .u32 12)) (i.aw)=_ from ?_)
 refine ((((((nq i.rn 4 16 (by decide) (by decide) (by omega))).or (nq i.rd 4 12 (by decide) (by decide) (by omega)))).or (p9 i.aw 12 (by decide) (by omega)))).1.trans (congrArg (fun n:Nat=>(n:Int)) ?_)
 first
 | (simp only[Nat.or_zero,Nat.zero_or]; done)
 | (simp only[Nat.or_zero,Nat.zero_or]
    generalize B i.rn 0 4 16=n0
    generalize B i.rd 0 4 12=n1
    generalize B i.aw 0 12 0=n2
    ac_rfl)
theorem Iw (i:IN) (hs:af i.form=26) (hr:aH i (cW 26)) (hg:i.an<=9223372036854775807):ai gT 103 [bX i] (.int .u32 ((dv i (ar 26):Nat):Int)):=by
 obtain⟨hf,h1,h2,h3,h4,h5,h6,h7,h8,h9,bY⟩:=hr
 have g0:=aW (r:=i.rd) h1
 have g1:=kQ (r:=i.rn) h2
 have g2:=aW (r:=i.rm) h3
 have g3:=au (r:=i.ra) h4
 have g4:i.aw=0:=bh h7
 have g5:i.kind=0:=(aP rfl h9).1
 have g6:0<=i.bm/\i.bm<=3/\i.bm % 1=0:=du (s:=1) (by decide) (aP rfl h9).2
 have g7:i.set=0:=h8.elim id fun e=>absurd (show false=true from e.2) Bool.false_ne_true
 have g8:i.cond=0:=h6.elim id fun e=>absurd (show false=true from e.1) Bool.false_ne_true
 clear h1 h2 h3 h4 h5 h6 h7 h8 h9 bY
 refine Spec.enter al jG 100 Tryz.func103 rfl (by kernel_rfl) ?_
 refine .inl ⟨ah (by omega),?_⟩
 refine .inl ⟨ah (by omega),?_⟩
 refine (ao hs).u ?_
 refine .inl ⟨ah (by omega),?_⟩
 refine⟨by decide,.inl ⟨ah (by rw[Ka]; omega),?_⟩⟩
 refine .inl ⟨ah (by omega),?_⟩
 refine⟨by decide,.inl ⟨ah (by rw[J_]; omega),?_⟩⟩
 refine⟨by decide,.inl ⟨ah (by rw[r4]; omega),?_⟩⟩
 refine .inl ⟨ah (by omega),?_⟩
 refine aj ?_
 have eo:dv i (ar 26)=0 ||| B i.rn 0 4 16 ||| B i.rd 0 4 12 ||| B i.bm 0 2 4 ||| B i.rm 0 4 0:=rfl
 rw[eo]
 refine (show bits .or .u32 (bits .or .u32 (bits .or .u32 (i.rn*Ev.aG .u32 16) (i.rd*Ev.aG .u32 12)) (i.bm*Ev.aG .u32 4)) (i.rm)=_ from ?_)
 refine ((((((((nq i.rn 4 16 (by decide) (by decide) (by omega))).or (nq i.rd 4 12 (by decide) (by decide) (by omega)))).or (nq i.bm 2 4 (by decide) (by decide) (by omega)))).or (p9 i.rm 4 (by decide) (by omega)))).1.trans (congrArg (fun n:Nat=>(n:Int)) ?_)
 first
 | (simp only[Nat.or_zero,Nat.zero_or]; done)
 | (simp only[Nat.or_zero,Nat.zero_or]
    generalize B i.rn 0 4 16=n0
    generalize B i.rd 0 4 12=n1
    generalize B i.bm 0 2 4=n2
    generalize B i.rm 0 4 0=n3
    ac_rfl)
theorem Ix (i:IN) (hs:af i.form=27) (hr:aH i (cW 27)) (hg:i.an<=9223372036854775807):ai gT 103 [bX i] (.int .u32 ((dv i (ar 27):Nat):Int)):=by
 obtain⟨hf,h1,h2,h3,h4,h5,h6,h7,h8,h9,bY⟩:=hr
 have g0:=aW (r:=i.rd) h1
 have g1:=aW (r:=i.rn) h2
 have g2:=aW (r:=i.rm) h3
 have g3:=au (r:=i.ra) h4
 have g4:i.aw=0:=bh h7
 have g5:i.kind=0:=(aP rfl h9).1
 have g6:i.bm=0:=bh (aP rfl h9).2
 have g7:i.set=0\/i.set=1:=h8.imp id fun e=>e.1
 have g8:i.cond=0:=h6.elim id fun e=>absurd (show false=true from e.1) Bool.false_ne_true
 clear h1 h2 h3 h4 h5 h6 h7 h8 h9 bY
 refine Spec.enter al jG 100 Tryz.func103 rfl (by kernel_rfl) ?_
 refine .inl ⟨ah (by omega),?_⟩
 refine .inl ⟨ah (by omega),?_⟩
 refine (ao hs).u ?_
 refine (cj i (by omega) (by omega) (by omega) (by omega) (by omega)).u ?_
 refine aj ?_
 have eo:dv i (ar 27)=0 ||| B i.set 0 1 20 ||| B i.rn 0 4 16 ||| B i.rd 0 4 8 ||| B i.rm 0 4 0:=rfl
 rw[eo]
 refine (show ((B i.set 0 1 20 ||| B i.rn 0 4 16 ||| B i.ra 0 4 12 ||| B i.rd 0 4 8 ||| B i.rm 0 4 0:Nat):Int)=_ from ?_)
 refine ((d_ i)).1.trans (congrArg (fun n:Nat=>(n:Int)) ?_)
 first
 | (simp only[fB g3,Nat.or_zero,Nat.zero_or]; done)
 | (simp only[fB g3,Nat.or_zero,Nat.zero_or]
    generalize B i.set 0 1 20=n0
    generalize B i.rn 0 4 16=n1
    generalize B i.rd 0 4 8=n2
    generalize B i.rm 0 4 0=n3
    ac_rfl)
theorem Iy (i:IN) (hs:af i.form=28) (hr:aH i (cW 28)) (hg:i.an<=9223372036854775807):ai gT 103 [bX i] (.int .u32 ((dv i (ar 28):Nat):Int)):=by
 obtain⟨hf,h1,h2,h3,h4,h5,h6,h7,h8,h9,bY⟩:=hr
 have g0:=aW (r:=i.rd) h1
 have g1:=aW (r:=i.rn) h2
 have g2:=aW (r:=i.rm) h3
 have g3:=au (r:=i.ra) h4
 have g4:i.aw=0:=bh h7
 have g5:i.kind=0:=(aP rfl h9).1
 have g6:i.bm=0:=bh (aP rfl h9).2
 have g7:i.set=0:=h8.elim id fun e=>absurd (show false=true from e.2) Bool.false_ne_true
 have g8:i.cond=0:=h6.elim id fun e=>absurd (show false=true from e.1) Bool.false_ne_true
 clear h1 h2 h3 h4 h5 h6 h7 h8 h9 bY
 refine Spec.enter al jG 100 Tryz.func103 rfl (by kernel_rfl) ?_
 refine .inl ⟨ah (by omega),?_⟩
 refine .inl ⟨ah (by omega),?_⟩
 refine (ao hs).u ?_
 refine (cj i (by omega) (by omega) (by omega) (by omega) (by omega)).u ?_
 refine aj ?_
 have eo:dv i (ar 28)=0 ||| B i.rn 0 4 16 ||| B i.rd 0 4 8 ||| B i.rm 0 4 0:=rfl
 rw[eo]
 refine (show ((B i.set 0 1 20 ||| B i.rn 0 4 16 ||| B i.ra 0 4 12 ||| B i.rd 0 4 8 ||| B i.rm 0 4 0:Nat):Int)=_ from ?_)
 refine ((d_ i)).1.trans (congrArg (fun n:Nat=>(n:Int)) ?_)
 first
 | (simp only[fB g3,fB g7,Nat.or_zero,Nat.zero_or]; done)
 | (simp only[fB g3,fB g7,Nat.or_zero,Nat.zero_or]
    generalize B i.rn 0 4 16=n0
    generalize B i.rd 0 4 8=n1
    generalize B i.rm 0 4 0=n2
    ac_rfl)
theorem Iz (i:IN) (hs:af i.form=29) (hr:aH i (cW 29)) (hg:i.an<=9223372036854775807):ai gT 103 [bX i] (.int .u32 ((dv i (ar 29):Nat):Int)):=by
 obtain⟨hf,h1,h2,h3,h4,h5,h6,h7,h8,h9,bY⟩:=hr
 have g0:=aW (r:=i.rd) h1
 have g1:=aW (r:=i.rn) h2
 have g2:=aW (r:=i.rm) h3
 have g3:=aW (r:=i.ra) h4
 have g4:i.aw=0:=bh h7
 have g5:i.kind=0:=(aP rfl h9).1
 have g6:i.bm=0:=bh (aP rfl h9).2
 have g7:i.set=0:=h8.elim id fun e=>absurd (show false=true from e.2) Bool.false_ne_true
 have g8:i.cond=0:=h6.elim id fun e=>absurd (show false=true from e.1) Bool.false_ne_true
 clear h1 h2 h3 h4 h5 h6 h7 h8 h9 bY
 refine Spec.enter al jG 100 Tryz.func103 rfl (by kernel_rfl) ?_
 refine .inl ⟨ah (by omega),?_⟩
 refine .inl ⟨ah (by omega),?_⟩
 refine (ao hs).u ?_
 refine (cj i (by omega) (by omega) (by omega) (by omega) (by omega)).u ?_
 refine aj ?_
 have eo:dv i (ar 29)=0 ||| B i.rn 0 4 16 ||| B i.ra 0 4 12 ||| B i.rd 0 4 8 ||| B i.rm 0 4 0:=rfl
 rw[eo]
 refine (show ((B i.set 0 1 20 ||| B i.rn 0 4 16 ||| B i.ra 0 4 12 ||| B i.rd 0 4 8 ||| B i.rm 0 4 0:Nat):Int)=_ from ?_)
 refine ((d_ i)).1.trans (congrArg (fun n:Nat=>(n:Int)) ?_)
 first
 | (simp only[fB g7,Nat.or_zero,Nat.zero_or]; done)
 | (simp only[fB g7,Nat.or_zero,Nat.zero_or]
    generalize B i.rn 0 4 16=n0
    generalize B i.ra 0 4 12=n1
    generalize B i.rd 0 4 8=n2
    generalize B i.rm 0 4 0=n3
    ac_rfl)
theorem IA (i:IN) (hs:af i.form=30) (hr:aH i (cW 30)) (hg:i.an<=9223372036854775807):ai gT 103 [bX i] (.int .u32 ((dv i (ar 30):Nat):Int)):=by
 obtain⟨hf,h1,h2,h3,h4,h5,h6,h7,h8,h9,bY⟩:=hr
 have g0:=aW (r:=i.rd) h1
 have g1:=aW (r:=i.rn) h2
 have g2:=aW (r:=i.rm) h3
 have g3:=aW (r:=i.ra) h4
 have g4:i.aw=0:=bh h7
 have g5:i.kind=0:=(aP rfl h9).1
 have g6:i.bm=0:=bh (aP rfl h9).2
 have g7:i.set=0:=h8.elim id fun e=>absurd (show false=true from e.2) Bool.false_ne_true
 have g8:i.cond=0:=h6.elim id fun e=>absurd (show false=true from e.1) Bool.false_ne_true
 clear h1 h2 h3 h4 h5 h6 h7 h8 h9 bY
 refine Spec.enter al jG 100 Tryz.func103 rfl (by kernel_rfl) ?_
 refine .inl ⟨ah (by omega),?_⟩
 refine .inl ⟨ah (by omega),?_⟩
 refine (ao hs).u ?_
 refine (cj i (by omega) (by omega) (by omega) (by omega) (by omega)).u ?_
 refine aj ?_
 have eo:dv i (ar 30)=0 ||| B i.rn 0 4 16 ||| B i.ra 0 4 12 ||| B i.rd 0 4 8 ||| B i.rm 0 4 0:=rfl
 rw[eo]
 refine (show ((B i.set 0 1 20 ||| B i.rn 0 4 16 ||| B i.ra 0 4 12 ||| B i.rd 0 4 8 ||| B i.rm 0 4 0:Nat):Int)=_ from ?_)
 refine ((d_ i)).1.trans (congrArg (fun n:Nat=>(n:Int)) ?_)
 first
 | (simp only[fB g7,Nat.or_zero,Nat.zero_or]; done)
 | (simp only[fB g7,Nat.or_zero,Nat.zero_or]
    generalize B i.rn 0 4 16=n0
    generalize B i.ra 0 4 12=n1
    generalize B i.rd 0 4 8=n2
    generalize B i.rm 0 4 0=n3
    ac_rfl)
theorem IB (i:IN) (hs:af i.form=31) (hr:aH i (cW 31)) (hg:i.an<=9223372036854775807):ai gT 103 [bX i] (.int .u32 ((dv i (ar 31):Nat):Int)):=by
 obtain⟨hf,h1,h2,h3,h4,h5,h6,h7,h8,h9,bY⟩:=hr
 have g0:=aW (r:=i.rd) h1
 have g1:=aW (r:=i.rn) h2
 have g2:=aW (r:=i.rm) h3
 have g3:=aW (r:=i.ra) h4
 have g4:i.aw=0:=bh h7
 have g5:i.kind=0:=(aP rfl h9).1
 have g6:i.bm=0:=bh (aP rfl h9).2
 have g7:i.set=0:=h8.elim id fun e=>absurd (show false=true from e.2) Bool.false_ne_true
 have g8:i.cond=0:=h6.elim id fun e=>absurd (show false=true from e.1) Bool.false_ne_true
 clear h1 h2 h3 h4 h5 h6 h7 h8 h9 bY
 refine Spec.enter al jG 100 Tryz.func103 rfl (by kernel_rfl) ?_
 refine .inl ⟨ah (by omega),?_⟩
 refine .inl ⟨ah (by omega),?_⟩
 refine (ao hs).u ?_
 refine .inl ⟨ah (by omega),?_⟩
 refine⟨by decide,.inl ⟨ah (by rw[Ka]; omega),?_⟩⟩
 refine .inl ⟨ah (by omega),?_⟩
 refine⟨by decide,.inl ⟨ah (by rw[J_]; omega),?_⟩⟩
 refine .inl ⟨ah (by omega),?_⟩
 refine⟨by decide,.inl ⟨ah (by rw[r8]; omega),?_⟩⟩
 refine .inl ⟨ah (by omega),?_⟩
 refine aj ?_
 have eo:dv i (ar 31)=0 ||| B i.rn 0 4 16 ||| B i.rd 0 4 12 ||| B i.ra 0 4 8 ||| B i.rm 0 4 0:=rfl
 rw[eo]
 refine (show bits .or .u32 (bits .or .u32 (bits .or .u32 (i.rn*Ev.aG .u32 16) (i.rd*Ev.aG .u32 12)) (i.ra*Ev.aG .u32 8)) (i.rm)=_ from ?_)
 refine ((((((((nq i.rn 4 16 (by decide) (by decide) (by omega))).or (nq i.rd 4 12 (by decide) (by decide) (by omega)))).or (nq i.ra 4 8 (by decide) (by decide) (by omega)))).or (p9 i.rm 4 (by decide) (by omega)))).1.trans (congrArg (fun n:Nat=>(n:Int)) ?_)
 first
 | (simp only[Nat.or_zero,Nat.zero_or]; done)
 | (simp only[Nat.or_zero,Nat.zero_or]
    generalize B i.rn 0 4 16=n0
    generalize B i.rd 0 4 12=n1
    generalize B i.ra 0 4 8=n2
    generalize B i.rm 0 4 0=n3
    ac_rfl)
theorem IC (i:IN) (hs:af i.form=32) (hr:aH i (cW 32)) (hg:i.an<=9223372036854775807):ai gT 103 [bX i] (.int .u32 ((dv i (ar 32):Nat):Int)):=by
 obtain⟨hf,h1,h2,h3,h4,h5,h6,h7,h8,h9,bY⟩:=hr
 have g0:=aW (r:=i.rd) h1
 have g1:=au (r:=i.rn) h2
 have g2:=aW (r:=i.rm) h3
 have g3:=au (r:=i.ra) h4
 have g4:i.aw=0:=bh h7
 have g5:i.kind=0:=(aP rfl h9).1
 have g6:i.bm=0:=bh (aP rfl h9).2
 have g7:i.set=0:=h8.elim id fun e=>absurd (show false=true from e.2) Bool.false_ne_true
 have g8:i.cond=0:=h6.elim id fun e=>absurd (show false=true from e.1) Bool.false_ne_true
 clear h1 h2 h3 h4 h5 h6 h7 h8 h9 bY
 refine Spec.enter al jG 100 Tryz.func103 rfl (by kernel_rfl) ?_
 refine .inl ⟨ah (by omega),?_⟩
 refine .inl ⟨ah (by omega),?_⟩
 refine (ao hs).u ?_
 refine .inl ⟨ah (by omega),?_⟩
 refine⟨by decide,.inl ⟨ah (by rw[Ka]; omega),?_⟩⟩
 refine .inl ⟨ah (by omega),?_⟩
 refine⟨by decide,.inl ⟨ah (by rw[r8]; omega),?_⟩⟩
 refine .inl ⟨ah (by omega),?_⟩
 refine aj ?_
 have eo:dv i (ar 32)=0 ||| B i.rm 0 4 16 ||| B i.rd 0 4 8 ||| B i.rm 0 4 0:=rfl
 rw[eo]
 refine (show bits .or .u32 (bits .or .u32 (i.rm*Ev.aG .u32 16) (i.rd*Ev.aG .u32 8)) (i.rm)=_ from ?_)
 refine ((((((nq i.rm 4 16 (by decide) (by decide) (by omega))).or (nq i.rd 4 8 (by decide) (by decide) (by omega)))).or (p9 i.rm 4 (by decide) (by omega)))).1.trans (congrArg (fun n:Nat=>(n:Int)) ?_)
 first
 | (simp only[Nat.or_zero,Nat.zero_or]; done)
 | (simp only[Nat.or_zero,Nat.zero_or]
    generalize B i.rm 0 4 16=n0
    generalize B i.rd 0 4 8=n1
    generalize B i.rm 0 4 0=n2
    ac_rfl)
theorem qY (v c:Int) (hv:-1099511627776<=v) (hc:0<=c/\c < 16):ai gT 132 [.int .u32 (IntKind.u32.wrap v),.int .u32 c] (.int .u32 ((B v 20 1 26 ||| B c 0 4 22 ||| B v 12 6 16 ||| B v 18 1 13 ||| B v 19 1 11 ||| B v 1 11 0:Nat):Int)):=by
 have b0:=ae v 20 1
 have b1:=ae v 12 6
 have b2:=ae v 18 1
 have b3:=ae v 19 1
 have b4:=ae v 1 11
 refine Spec.enter al Xu 100 Tryz.func132 rfl (by kernel_rfl) ?_
 refine (oJ v 20 1 (by omega) (by decide) (by decide) (by decide)).u ?_
 refine⟨by decide,.inl ⟨ah (by rw[X5]; omega),?_⟩⟩
 refine⟨by decide,.inl ⟨ah (by rw[r22]; omega),?_⟩⟩
 refine (oJ v 12 6 (by omega) (by decide) (by decide) (by decide)).u ?_
 refine⟨by decide,.inl ⟨ah (by rw[Ka]; omega),?_⟩⟩
 refine (oJ v 18 1 (by omega) (by decide) (by decide) (by decide)).u ?_
 refine⟨by decide,.inl ⟨ah (by rw[r13]; omega),?_⟩⟩
 refine (oJ v 19 1 (by omega) (by decide) (by decide) (by decide)).u ?_
 refine⟨by decide,.inl ⟨ah (by rw[X4]; omega),?_⟩⟩
 refine (oJ v 1 11 (by omega) (by decide) (by decide) (by decide)).u ?_
 refine aj ?_
 exact (show bits .or .u32 (bits .or .u32 (bits .or .u32 (bits .or .u32 (bits .or .u32 (aa v 20 1*Ev.aG .u32 26) (c*Ev.aG .u32 22)) (aa v 12 6*Ev.aG .u32 16)) (aa v 18 1*Ev.aG .u32 13)) (aa v 19 1*Ev.aG .u32 11)) (aa v 1 11)=_ from ((((((((((((qO v 20 1 26 (by decide) (by decide))).or (nq c 4 22 (by decide) (by decide) hc))).or (qO v 12 6 16 (by decide) (by decide)))).or (qO v 18 1 13 (by decide) (by decide)))).or (qO v 19 1 11 (by decide) (by decide)))).or (tL v 1 11 (by decide)))).1)
theorem ID (i:IN) (hs:af i.form=33) (hr:aH i (cW 33)) (hg:i.an<=9223372036854775807):ai gT 103 [bX i] (.int .u32 ((dv i (ar 33):Nat):Int)):=by
 obtain⟨hf,h1,h2,h3,h4,h5,h6,h7,h8,h9,bY⟩:=hr
 have g0:=au (r:=i.rd) h1
 have g1:=au (r:=i.rn) h2
 have g2:=au (r:=i.rm) h3
 have g3:=au (r:=i.ra) h4
 have g4:-1048576<=i.aw/\i.aw<=1048574/\i.aw % 2=0:=du (s:=2) (by decide) h7
 have g5:i.kind=0:=(aP rfl h9).1
 have g6:i.bm=0:=bh (aP rfl h9).2
 have g7:i.set=0:=h8.elim id fun e=>absurd (show false=true from e.2) Bool.false_ne_true
 have g8:0<=i.cond/\i.cond<=13:=by rcases h6 with h6|h6<;>omega
 clear h1 h2 h3 h4 h5 h6 h7 h8 h9 bY
 refine Spec.enter al jG 100 Tryz.func103 rfl (by kernel_rfl) ?_
 refine .inr ?_
 refine .inl ⟨ah (by omega),?_⟩
 refine (ao hs).u ?_
 refine .inl ⟨ah (by omega),?_⟩
 refine (qY i.aw i.cond (by omega) (by omega)).u ?_
 refine aj ?_
 have eo:dv i (ar 33)=0 ||| B i.aw 20 1 26 ||| B i.cond 0 4 22 ||| B i.aw 12 6 16 ||| B i.aw 18 1 13 ||| B i.aw 19 1 11 ||| B i.aw 1 11 0:=rfl
 rw[eo]
 refine (show _=_ from congrArg (fun n:Nat=>(n:Int)) ?_)
 simp only[Nat.zero_or]
theorem vO (v:Int) (hv:-1099511627776<=v):aa (bc (aa v 0 25) 2) 24 1=aa v 24 1/\aa (bc (aa v 0 25) 2) 12 10=aa v 12 10/\aa (bc (aa v 0 25) 2) 23 1=(if aa v 23 1=aa v 24 1 then 1 else 0)/\aa (bc (aa v 0 25) 2) 22 1=(if aa v 22 1=aa v 24 1 then 1 else 0)/\aa (bc (aa v 0 25) 2) 1 11=aa v 1 11:=by
 obtain⟨u,hu⟩:∃ u,u=if v < 0 then v+1099511627776 else v:=⟨_,rfl⟩
 have u0:0<=u:=by rw[hu]; split<;>omega
 obtain⟨n,hn⟩:∃ n,n=aa v 0 25:=⟨_,rfl⟩
 have e:n=u % 33554432:=by
  rw[hn]; unfold aa; rw[← hu]; omega
 have hb:0<=n/\n < 33554432:=by omega
 have c:=ku hb
 have d:=mr hb
 rw[← hn]
 obtain⟨t,ht⟩:∃ t,t=bc n 2:=⟨_,rfl⟩
 rw[← ht] at c d ⊢
 have e1:aa v 24 1=n / 16777216:=by unfold aa; rw[← hu]; omega
 have e2:aa v 23 1=n / 8388608 % 2:=by unfold aa; rw[← hu]; omega
 have e3:aa v 22 1=n / 4194304 % 2:=by unfold aa; rw[← hu]; omega
 have e4:aa v 12 10=n % 4194304 / 4096:=by unfold aa; rw[← hu]; omega
 have e5:aa v 1 11=n % 4194304 / 2 % 2048:=by unfold aa; rw[← hu]; omega
 have f1:aa t 24 1=t / 16777216:=by unfold aa; rw[if_neg (by omega)]; omega
 have f2:aa t 23 1=t / 8388608 % 2:=by unfold aa; rw[if_neg (by omega)]; omega
 have f3:aa t 22 1=t / 4194304 % 2:=by unfold aa; rw[if_neg (by omega)]; omega
 have f4:aa t 12 10=t % 4194304 / 4096:=by unfold aa; rw[if_neg (by omega)]; omega
 have f5:aa t 1 11=t % 4194304 / 2 % 2048:=by unfold aa; rw[if_neg (by omega)]; omega
 have e6:n / 16777216 % 2=n / 16777216:=by omega
 rw[e1,e2,e3,e4,e5,f1,f2,f3,f4,f5,c.1,c.2.1]
 rw[e6] at c
 exact⟨rfl,rfl,c.2.2.2,c.2.2.1,rfl⟩
theorem EH (a b:Int):∃ m:Int,m=(if a=b then 1 else 0)/\0<=m/\m < 2:=⟨_,rfl,by split<;>omega,by split<;>omega⟩
theorem qZ (v:Int) (hv:-1099511627776<=v):ai gT 133 [.int .u32 (IntKind.u32.wrap v)] (.int .u32 ((B (bc (aa v 0 25) 2) 24 1 26 ||| B (bc (aa v 0 25) 2) 12 10 16 ||| B (bc (aa v 0 25) 2) 23 1 13 ||| B (bc (aa v 0 25) 2) 22 1 11 ||| B (bc (aa v 0 25) 2) 1 11 0:Nat):Int)):=by
 obtain⟨t1,t2,t3,t4,t5⟩:=vO v hv
 have s2:=kx (aa v 23 1) (aa v 24 1) (jm v 23) (jm v 24)
 have s3:=kx (aa v 22 1) (aa v 24 1) (jm v 22) (jm v 24)
 obtain⟨m2,uL,c2⟩:=EH (aa v 23 1) (aa v 24 1)
 obtain⟨m3,Uu,c3⟩:=EH (aa v 22 1) (aa v 24 1)
 rw[← uL] at s2 t3
 rw[← Uu] at s3 t4
 have b0:=ae v 24 1
 have b1:=ae v 12 10
 have b2:=ae v 1 11
 refine Spec.enter al Xv 100 Tryz.func133 rfl (by kernel_rfl) ?_
 refine (oJ v 24 1 (by omega) (by decide) (by decide) (by decide)).u ?_
 refine⟨by decide,.inl ⟨ah (by rw[X5]; omega),?_⟩⟩
 refine (oJ v 12 10 (by omega) (by decide) (by decide) (by decide)).u ?_
 refine⟨by decide,.inl ⟨ah (by rw[Ka]; omega),?_⟩⟩
 refine (oJ v 23 1 (by omega) (by decide) (by decide) (by decide)).u ?_
 refine s2.u ?_
 refine⟨by decide,.inl ⟨ah (by rw[r13]; omega),?_⟩⟩
 refine (oJ v 22 1 (by omega) (by decide) (by decide) (by decide)).u ?_
 refine s3.u ?_
 refine⟨by decide,.inl ⟨ah (by rw[X4]; omega),?_⟩⟩
 refine (oJ v 1 11 (by omega) (by decide) (by decide) (by decide)).u ?_
 refine aj ?_
 have k1:xi (aa v 24 1*Ev.aG .u32 26) (B (bc (aa v 0 25) 2) 24 1 26):=by have:=qO (bc (aa v 0 25) 2) 24 1 26 (p:=Ev.aG .u32 26) (by decide) (by decide); rwa [t1] at this
 have k2:xi (aa v 12 10*Ev.aG .u32 16) (B (bc (aa v 0 25) 2) 12 10 16):=by have:=qO (bc (aa v 0 25) 2) 12 10 16 (p:=Ev.aG .u32 16) (by decide) (by decide); rwa [t2] at this
 have k3:xi (m2*Ev.aG .u32 13) (B (bc (aa v 0 25) 2) 23 1 13):=by have:=qO (bc (aa v 0 25) 2) 23 1 13 (p:=Ev.aG .u32 13) (by decide) (by decide); rwa [t3] at this
 have k4:xi (m3*Ev.aG .u32 11) (B (bc (aa v 0 25) 2) 22 1 11):=by have:=qO (bc (aa v 0 25) 2) 22 1 11 (p:=Ev.aG .u32 11) (by decide) (by decide); rwa [t4] at this
 have k5:xi (aa v 1 11) (B (bc (aa v 0 25) 2) 1 11 0):=by have:=tL (bc (aa v 0 25) 2) 1 11 (by decide); rwa [t5] at this
 exact (show bits .or .u32 (bits .or .u32 (bits .or .u32 (bits .or .u32 (aa v 24 1*Ev.aG .u32 26) (aa v 12 10*Ev.aG .u32 16)) (m2*Ev.aG .u32 13)) (m3*Ev.aG .u32 11)) (aa v 1 11)=_ from ((((k1.or k2).or k3).or k4).or k5).1)
theorem IE (i:IN) (hs:af i.form=34) (hr:aH i (cW 34)) (hg:i.an<=9223372036854775807):ai gT 103 [bX i] (.int .u32 ((dv (dq i) (ar 34):Nat):Int)):=by
 obtain⟨hf,h1,h2,h3,h4,h5,h6,h7,h8,h9,bY⟩:=hr
 have g0:=au (r:=i.rd) h1
 have g1:=au (r:=i.rn) h2
 have g2:=au (r:=i.rm) h3
 have g3:=au (r:=i.ra) h4
 have g4:-16777216<=i.aw/\i.aw<=16777214/\i.aw % 2=0:=du (s:=2) (by decide) h7
 have g5:i.kind=0:=(aP rfl h9).1
 have g6:i.bm=0:=bh (aP rfl h9).2
 have g7:i.set=0:=h8.elim id fun e=>absurd (show false=true from e.2) Bool.false_ne_true
 have g8:i.cond=0:=h6.elim id fun e=>absurd (show false=true from e.1) Bool.false_ne_true
 clear h1 h2 h3 h4 h5 h6 h7 h8 h9 bY
 have et:=Sp hs
 rw[et]
 refine Spec.enter al jG 100 Tryz.func103 rfl (by kernel_rfl) ?_
 refine .inr ?_
 refine .inl ⟨ah (by omega),?_⟩
 refine (ao hs).u ?_
 refine (qZ i.aw (by omega)).u ?_
 refine aj ?_
 have eo:dv {i with aw:=bc (aa i.aw 0 25) 2} (ar 34)=0 ||| B (bc (aa i.aw 0 25) 2) 24 1 26 ||| B (bc (aa i.aw 0 25) 2) 12 10 16 ||| B (bc (aa i.aw 0 25) 2) 23 1 13 ||| B (bc (aa i.aw 0 25) 2) 22 1 11 ||| B (bc (aa i.aw 0 25) 2) 1 11 0:=rfl
 rw[eo]
 refine (show _=_ from congrArg (fun n:Nat=>(n:Int)) ?_)
 simp only[Nat.zero_or]
theorem gz:∀ (i:IN),mT (bX i) (bX i):=fun i=>⟨rfl,rfl,rfl,rfl,rfl,rfl,rfl,rfl,rfl,rfl,rfl,trivial⟩
theorem q2:Ev.aG .i64 2=4:=by decide
theorem q14:Ev.aG .i64 14=16384:=by decide
theorem q15:Ev.aG .i64 15=32768:=by decide
theorem yf (f w:Int) (hF:1<=f/\f<=100) (hs:af f=1) (hw:cA w):ai gT 51 [.int .i64 f,.int .u32 w] (bX (PQ f w)):=by
 have b0:=ae w 6 5
 have b1:=ae w 3 3
 have b2:=ae w 0 3
 unfold PQ
 refine Spec.enter al vm 100 Tryz.func51 rfl (by kernel_rfl) ?_
 have h3:=sc hF hs
 have e:∀ x:Int,x=0+x*2 ^ 0:=fun x=>by omega
 refine (ao hs).u ?_
 refine (aB w 0 3 hw (by decide) (by decide)).u ?_
 refine (aB w 3 3 hw (by decide) (by decide)).u ?_
 refine (aB w 6 5 hw (by decide) (by decide)).u ?_
 refine⟨fun h1=>?_,fun h1=>?_⟩
 ·refine⟨[],av,(dz 1 (0+aa w 6 5*2 ^ 0)).use (And.intro rfl (And.intro (e _) trivial)) rfl rfl ?_⟩
  refine aj ?_
  (repeat' first|exact trivial|exact rfl|exact e _|refine And.intro ?_ ?_)
  show (if 0+aa w 6 5*2 ^ 0=0/\((1:Int)=1\/(1:Int)=2) then (32:Int) else _)=if 1 < f/\0+aa w 6 5*2 ^ 0=0 then (32:Int) else 0+aa w 6 5*2 ^ 0
  have gf:¬ f=1:=h1
  (repeat' split)<;>omega
 ·refine aj ?_
  (repeat' first|exact trivial|exact rfl|exact e _|refine And.intro ?_ ?_)
  show aa w 6 5=if 1 < f/\0+aa w 6 5*2 ^ 0=0 then (32:Int) else 0+aa w 6 5*2 ^ 0
  have gf:¬ ¬ f=1:=h1
  (repeat' split)<;>omega
theorem yg (f w:Int) (hF:1<=f/\f<=100) (hs:af f=2) (hw:cA w):ai gT 51 [.int .i64 f,.int .u32 w] (bX (PR f w)):=by
 have b0:=ae w 6 3
 have b1:=ae w 3 3
 have b2:=ae w 0 3
 unfold PR
 refine Spec.enter al vm 100 Tryz.func51 rfl (by kernel_rfl) ?_
 refine (ao hs).u ?_
 refine (lA ⟨f,0,0,0,0,0,0,0,0,0,0⟩ w hw).u ?_
 refine (aB w 6 3 hw (by decide) (by decide)).u ?_
 refine aj ?_
 (repeat' first|exact trivial|exact rfl|refine And.intro ?_ ?_)
 all_goals (show (_:Int)=_; (try dsimp only [bq,bF]); first|omega|(unfold dm; omega))
theorem yh (f w:Int) (hF:1<=f/\f<=100) (hs:af f=3) (hw:cA w):ai gT 51 [.int .i64 f,.int .u32 w] (bX (PS f w)):=by
 have b0:=ae w 6 3
 have b1:=ae w 3 3
 have b2:=ae w 0 3
 unfold PS
 refine Spec.enter al vm 100 Tryz.func51 rfl (by kernel_rfl) ?_
 refine (ao hs).u ?_
 refine (lA ⟨f,0,0,0,0,0,0,0,0,0,0⟩ w hw).u ?_
 refine (aB w 6 3 hw (by decide) (by decide)).u ?_
 refine aj ?_
 (repeat' first|exact trivial|exact rfl|refine And.intro ?_ ?_)
 all_goals (show (_:Int)=_; (try dsimp only [bq,bF]); first|omega|(unfold dm; omega))
theorem yi (f w:Int) (hF:1<=f/\f<=100) (hs:af f=4) (hw:cA w):ai gT 51 [.int .i64 f,.int .u32 w] (bX (PT f w)):=by
 have b0:=ae w 8 3
 have b1:=ae w 0 8
 unfold PT
 refine Spec.enter al vm 100 Tryz.func51 rfl (by kernel_rfl) ?_
 refine (ao hs).u ?_
 refine (aB w 8 3 hw (by decide) (by decide)).u ?_
 refine (aB w 0 8 hw (by decide) (by decide)).u ?_
 refine aj ?_
 (repeat' first|exact trivial|exact rfl|refine And.intro ?_ ?_)
 all_goals (show (_:Int)=_; (try dsimp only [bq,bF]); first|omega|(unfold dm; omega))
theorem yj (f w:Int) (hF:1<=f/\f<=100) (hs:af f=5) (hw:cA w):ai gT 51 [.int .i64 f,.int .u32 w] (bX (PU f w)):=by
 have b0:=ae w 3 3
 have b1:=ae w 0 3
 unfold PU
 refine Spec.enter al vm 100 Tryz.func51 rfl (by kernel_rfl) ?_
 refine (ao hs).u ?_
 refine (aB w 0 3 hw (by decide) (by decide)).u ?_
 refine (aB w 3 3 hw (by decide) (by decide)).u ?_
 refine aj ?_
 (repeat' first|exact trivial|exact rfl|refine And.intro ?_ ?_)
 all_goals (show (_:Int)=_; (try dsimp only [bq,bF]); first|omega|(unfold dm; omega))
theorem yk (f w:Int) (hF:1<=f/\f<=100) (hs:af f=6) (hw:cA w):ai gT 51 [.int .i64 f,.int .u32 w] (bX (PW f w)):=by
 have b0:=ae w 7 1
 have b1:=ae w 3 4
 have b2:=ae w 0 3
 unfold PW
 refine Spec.enter al vm 100 Tryz.func51 rfl (by kernel_rfl) ?_
 refine (ao hs).u ?_
 refine (aB w 7 1 hw (by decide) (by decide)).u ?_
 refine⟨by decide,.inl ⟨ay (by rw[q3]; omega),?_⟩⟩
 refine (aB w 0 3 hw (by decide) (by decide)).u ?_
 refine (aB w 3 4 hw (by decide) (by decide)).u ?_
 have e:bits .or .i64 (aa w 7 1*Ev.aG .i64 3) (aa w 0 3)=0+aa w 7 1*2 ^ 3+aa w 0 3*2 ^ 0:=by
  rw[q3,Rm.bW (aa w 7 1*8) (aa w 0 3) 3 (by omega) (by omega) (by omega) (by omega) (by omega) (by omega)]; omega
 refine aj ?_
 (repeat' first|exact trivial|exact rfl|exact e|refine And.intro ?_ ?_)
 all_goals (show (_:Int)=_; (try dsimp only [bq,bF]); omega)
theorem yl (f w:Int) (hF:1<=f/\f<=100) (hs:af f=7) (hw:cA w):ai gT 51 [.int .i64 f,.int .u32 w] (bX (PX f w)):=by
 have b0:=ae w 3 4
 unfold PX
 refine Spec.enter al vm 100 Tryz.func51 rfl (by kernel_rfl) ?_
 refine (ao hs).u ?_
 refine (aB w 3 4 hw (by decide) (by decide)).u ?_
 refine aj ?_
 (repeat' first|exact trivial|exact rfl|refine And.intro ?_ ?_)
 all_goals (show (_:Int)=_; (try dsimp only [bq,bF]); first|omega|(unfold dm; omega))
theorem ym (f w:Int) (hF:1<=f/\f<=100) (hs:af f=8) (hw:cA w):ai gT 51 [.int .i64 f,.int .u32 w] (bX (PY f w)):=by
 have b0:=ae w 8 3
 have b1:=ae w 0 8
 unfold PY
 refine Spec.enter al vm 100 Tryz.func51 rfl (by kernel_rfl) ?_
 refine (ao hs).u ?_
 refine (aB w 8 3 hw (by decide) (by decide)).u ?_
 refine (aB w 0 8 hw (by decide) (by decide)).u ?_
 refine li ?_
 refine aj ?_
 (repeat' first|exact trivial|exact rfl|refine And.intro ?_ ?_)
 all_goals (show (_:Int)=_; (try dsimp only [bq,bF]); first|omega|(unfold dm; omega))
theorem yn (f w:Int) (hF:1<=f/\f<=100) (hs:af f=9) (hw:cA w):ai gT 51 [.int .i64 f,.int .u32 w] (bX (PZ f w)):=by
 have b0:=ae w 6 5
 have b1:=ae w 3 3
 have b2:=ae w 0 3
 unfold PZ
 refine Spec.enter al vm 100 Tryz.func51 rfl (by kernel_rfl) ?_
 refine (ao hs).u ?_
 refine (lA ⟨f,0,0,0,0,0,0,0,0,0,0⟩ w hw).u ?_
 refine (aB w 6 5 hw (by decide) (by decide)).u ?_
 refine li ?_
 refine aj ?_
 (repeat' first|exact trivial|exact rfl|refine And.intro ?_ ?_)
 all_goals (show (_:Int)=_; (try dsimp only [bq,bF]); first|omega|(unfold dm; omega))
theorem vP (f w:Int) (hF:1<=f/\f<=100) (hs:af f=10) (hw:cA w):ai gT 51 [.int .i64 f,.int .u32 w] (bX (Ej f w)):=by
 have b0:=ae w 0 7
 unfold Ej
 refine Spec.enter al vm 100 Tryz.func51 rfl (by kernel_rfl) ?_
 refine (ao hs).u ?_
 refine (aB w 0 7 hw (by decide) (by decide)).u ?_
 refine li ?_
 refine aj ?_
 (repeat' first|exact trivial|exact rfl|refine And.intro ?_ ?_)
 all_goals (show (_:Int)=_; (try dsimp only [bq,bF]); first|omega|(unfold dm; omega))
theorem vQ (f w:Int) (hF:1<=f/\f<=100) (hs:af f=11) (hw:cA w):ai gT 51 [.int .i64 f,.int .u32 w] (bX (Ek f w)):=by
 have b0:=ae w 8 1
 have b1:=ae w 0 8
 unfold Ek
 refine Spec.enter al vm 100 Tryz.func51 rfl (by kernel_rfl) ?_
 refine (ao hs).u ?_
 refine (aB w 8 1 hw (by decide) (by decide)).u ?_
 refine⟨by decide,.inl ⟨ay (by rw[q14]; omega),?_⟩⟩
 refine (aB w 0 8 hw (by decide) (by decide)).u ?_
 have e:bits .or .i64 (aa w 8 1*Ev.aG .i64 14) (aa w 0 8)=0+aa w 8 1*2 ^ 14+aa w 0 8*2 ^ 0:=by
  rw[q14,Rm.bW (aa w 8 1*16384) (aa w 0 8) 14 (by omega) (by omega) (by omega) (by omega) (by omega) (by omega)]; omega
 refine aj ?_
 (repeat' first|exact trivial|exact rfl|exact e|refine And.intro ?_ ?_)
 all_goals (show (_:Int)=_; (try dsimp only [bq,bF]); omega)
theorem vR (f w:Int) (hF:1<=f/\f<=100) (hs:af f=12) (hw:cA w):ai gT 51 [.int .i64 f,.int .u32 w] (bX (El f w)):=by
 have b0:=ae w 8 1
 have b1:=ae w 0 8
 unfold El
 refine Spec.enter al vm 100 Tryz.func51 rfl (by kernel_rfl) ?_
 refine (ao hs).u ?_
 refine (aB w 8 1 hw (by decide) (by decide)).u ?_
 refine⟨by decide,.inl ⟨ay (by rw[q15]; omega),?_⟩⟩
 refine (aB w 0 8 hw (by decide) (by decide)).u ?_
 have e:bits .or .i64 (aa w 8 1*Ev.aG .i64 15) (aa w 0 8)=0+aa w 8 1*2 ^ 15+aa w 0 8*2 ^ 0:=by
  rw[q15,Rm.bW (aa w 8 1*32768) (aa w 0 8) 15 (by omega) (by omega) (by omega) (by omega) (by omega) (by omega)]; omega
 refine aj ?_
 (repeat' first|exact trivial|exact rfl|exact e|refine And.intro ?_ ?_)
 all_goals (show (_:Int)=_; (try dsimp only [bq,bF]); omega)
theorem vS (f w:Int) (hF:1<=f/\f<=100) (hs:af f=13) (hw:cA w):ai gT 51 [.int .i64 f,.int .u32 w] (bX (Em f w)):=by
 unfold Em
 refine Spec.enter al vm 100 Tryz.func51 rfl (by kernel_rfl) ?_
 refine (ao hs).u ?_
 exact rA
theorem vT (f w:Int) (hF:1<=f/\f<=100) (hs:af f=14) (hw:cA w):ai gT 51 [.int .i64 f,.int .u32 w] (bX (En f w)):=by
 have b0:=ae w 0 8
 unfold En
 refine Spec.enter al vm 100 Tryz.func51 rfl (by kernel_rfl) ?_
 refine (ao hs).u ?_
 refine (aB w 0 8 hw (by decide) (by decide)).u ?_
 refine aj ?_
 (repeat' first|exact trivial|exact rfl|refine And.intro ?_ ?_)
 all_goals (show (_:Int)=_; (try dsimp only [bq,bF]); first|omega|(unfold dm; omega))
theorem vU (f w:Int) (hF:1<=f/\f<=100) (hs:af f=15) (hw:cA w):ai gT 51 [.int .i64 f,.int .u32 w] (bX (Eo f w)):=by
 have b0:=ae w 8 4
 have b1:=ae w 0 8
 unfold Eo
 refine Spec.enter al vm 100 Tryz.func51 rfl (by kernel_rfl) ?_
 refine (ao hs).u ?_
 refine (aB w 8 4 hw (by decide) (by decide)).u ?_
 refine (aB w 0 8 hw (by decide) (by decide)).u ?_
 refine⟨by decide,.inl ⟨ay (by rw[q1]; omega),?_⟩⟩
 refine⟨[],av,(ia (0+aa w 0 8*2 ^ 1) 8 (by decide) ⟨by omega,by omega⟩).use (And.intro (show aa w 0 8*Ev.aG .i64 1=_ by rw[q1]; omega) (And.intro rfl trivial)) rfl rfl ?_⟩
 refine aj ?_
 (repeat' first|exact trivial|exact rfl|refine And.intro ?_ ?_)
 all_goals (show (_:Int)=_; (try dsimp only [bq,bF]); first|omega|(unfold dm; omega))
theorem vV (f w:Int) (hF:1<=f/\f<=100) (hs:af f=16) (hw:cA w):ai gT 51 [.int .i64 f,.int .u32 w] (bX (Ep f w)):=by
 have b0:=ae w 0 11
 unfold Ep
 refine Spec.enter al vm 100 Tryz.func51 rfl (by kernel_rfl) ?_
 refine (ao hs).u ?_
 refine (aB w 0 11 hw (by decide) (by decide)).u ?_
 refine⟨by decide,.inl ⟨ay (by rw[q1]; omega),?_⟩⟩
 refine⟨[],av,(ia (0+aa w 0 11*2 ^ 1) 11 (by decide) ⟨by omega,by omega⟩).use (And.intro (show aa w 0 11*Ev.aG .i64 1=_ by rw[q1]; omega) (And.intro rfl trivial)) rfl rfl ?_⟩
 refine aj ?_
 (repeat' first|exact trivial|exact rfl|refine And.intro ?_ ?_)
 all_goals (show (_:Int)=_; (try dsimp only [bq,bF]); first|omega|(unfold dm; omega))
theorem q_ (f w:Int) (hs:17<=af f) (hw:cA w):ai gT 51 [.int .i64 f,.int .u32 w] (bX ⟨f,0,0,0,0,0,0,0,0,0,0⟩):=by
 refine Spec.enter al vm 100 Tryz.func51 rfl (by kernel_rfl) ?_
 refine (jk f).u ?_
 iterate 15 (refine And.intro (fun h=>absurd (show af f=_ from h) (by omega)) (fun _=>?_))
 exact rA
end Go.Proofs.YtnbhdacpogplgaaGreatDoor.Pw

/- What this claim is proved with: no condition. -/
import Derived.Test.YtnbhdacpogplgaaGreatDoorPd16
set_option maxRecDepth 100000
set_option maxHeartbeats 4000000
set_option linter.unusedVariables false
set_option linter.unusedSimpArgs false
namespace Go.Proofs.YtnbhdacpogplgaaGreatDoor.Pw
open Go Go.RowKit
theorem PO (t:Int) (h:0<=t/\t < 33554432) (h2:t % 2=0):0+aa t 24 1*2 ^ 24+aa t 12 10*2 ^ 12+aa t 23 1*2 ^ 23+aa t 22 1*2 ^ 22+aa t 1 11*2 ^ 1=t:=by
 unfold aa; rw[if_neg (by omega)]; omega
theorem A3 (v:Int) (h:-16777216<=v/\v<=16777214/\v % 2=0):(0<=aa v 0 25/\aa v 0 25 < 33554432)/\aa v 0 25 % 2=0/\cg (aa v 0 25) 25=v:=by
 have e:aa v 0 25=if v < 0 then v+33554432 else v:=by unfold aa; split<;>omega
 have e2:∀ m:Int,0<=m->aa m 24 1=m / 16777216 % 2:=fun m hm=>by unfold aa; rw[if_neg (by omega)]; rfl
 have hb:0<=aa v 0 25/\aa v 0 25 < 33554432:=by rw[e]; split<;>omega
 refine⟨hb,by rw[e]; split<;>omega,?_⟩
 unfold cg
 rw[show (25 - 1:Nat)=24 from rfl,e2 _ hb.1,e]
 have p:(2:Int) ^ 25=33554432:=by decide
 rw[p]
 split<;>split<;>omega
theorem Ii (i:IN) (hs:af i.form=34) (hr:aH i (cW 34)):{bT 34 (dq i) with form:=i.form}=i:=by
 obtain⟨hf,h1,h2,h3,h4,h5,h6,h7,h8,h9,bY⟩:=hr
 have g0:=au (r:=i.rd) h1
 have g1:=au (r:=i.rn) h2
 have g2:=au (r:=i.rm) h3
 have g3:=au (r:=i.ra) h4
 have g4:-16777216<=i.aw/\i.aw<=16777214/\i.aw % 2=0:=du (s:=2) (by decide) h7
 have g5:i.kind=0:=(aP rfl h9).1
 have g6:i.bm=0:=bh (aP rfl h9).2
 have g7:i.set=0:=h8.elim id fun e=>absurd (show false=true from e.2) Bool.false_ne_true
 have g8:i.cond=0:=h6.elim id fun e=>absurd (show false=true from e.1) Bool.false_ne_true
 have g9:i.an=0:=cq rfl h5
 obtain⟨hb,he,hl⟩:=A3 i.aw g4
 rw[Sp hs]
 have hn:=mr hb
 have Ij:bc (aa i.aw 0 25) 2 % 2=0:=by have:=(ku hb).2.1; omega
 have e34:∀ x:Int,oI 34 i.form x=cg (bc x 2) 25:=fun x=>by
  unfold oI; rw[if_neg (by decide),if_neg (by decide),if_neg (by decide),if_pos rfl]
 have hi:oI 34 i.form (0+aa (bc (aa i.aw 0 25) 2) 24 1*2 ^ 24+aa (bc (aa i.aw 0 25) 2) 12 10*2 ^ 12+aa (bc (aa i.aw 0 25) 2) 23 1*2 ^ 23+aa (bc (aa i.aw 0 25) 2) 22 1*2 ^ 22+aa (bc (aa i.aw 0 25) 2) 1 11*2 ^ 1)=i.aw:=by
  rw[e34,PO _ hn Ij,AZ hb,hl]
 exact aK rfl (Ps i.rd g0) (Pt i.rn g1) (Pu i.rm g2) (Pv i.ra g3) hi (Px i.kind g5) ((bj (K:=34) (k:=0) (by decide)).trans (Py i.bm g6)) (Pz i.set g7) (PD i.cond g8) (PE i.an g9)
theorem Ik {s:Int} (h:1<=s/\s<=34):s=1\/s=2\/s=3\/s=4\/s=5\/s=6\/s=7\/s=8\/s=9\/s=10\/s=11\/s=12\/s=13\/s=14\/s=15\/s=16\/s=17\/s=18\/s=19\/s=20\/s=21\/s=22\/s=23\/s=24\/s=25\/s=26\/s=27\/s=28\/s=29\/s=30\/s=31\/s=32\/s=33\/s=34:=by omega
theorem Ei (i:IN) (h:af i.form=32) (hr:0<=i.rm/\i.rm < 15):aa (cl i) 0 4=aa (dq i).rm 0 4:=by
 have hx:((2,0,0,4):Nat × Nat × Nat × Nat)∈ar (af i.form):=by rw[h]; decide
 exact r_ i hx
theorem back (i:IN) (h:bD i) (hg:i.an<=9223372036854775807):aJ i.form (cl i)=i:=by
 rw[A0 i fun Q5=>Ei i Q5 (pY h).2.2.1]
 have hr:=h
 unfold bD at hr
 rcases Ik (j5 h.1) with hs|hs|hs|hs|hs|hs|hs|hs|hs|hs|hs|hs|hs|hs|hs|hs|hs|hs|hs|hs|hs|hs|hs|hs|hs|hs|hs|hs|hs|hs|hs|hs|hs|hs
 ·rw[hs] at hr ⊢; rw[aA (by rw[hs]; decide)]; exact PF i hs hr hg
 ·rw[hs] at hr ⊢; rw[aA (by rw[hs]; decide)]; exact PG i hs hr hg
 ·rw[hs] at hr ⊢; rw[aA (by rw[hs]; decide)]; exact PH i hs hr hg
 ·rw[hs] at hr ⊢; rw[aA (by rw[hs]; decide)]; exact PI i hs hr hg
 ·rw[hs] at hr ⊢; rw[aA (by rw[hs]; decide)]; exact PJ i hs hr hg
 ·rw[hs] at hr ⊢; rw[aA (by rw[hs]; decide)]; exact PK i hs hr hg
 ·rw[hs] at hr ⊢; rw[aA (by rw[hs]; decide)]; exact PL i hs hr hg
 ·rw[hs] at hr ⊢; rw[aA (by rw[hs]; decide)]; exact PM i hs hr hg
 ·rw[hs] at hr ⊢; rw[aA (by rw[hs]; decide)]; exact PN i hs hr hg
 ·rw[hs] at hr ⊢; rw[aA (by rw[hs]; decide)]; exact HK i hs hr hg
 ·rw[hs] at hr ⊢; rw[aA (by rw[hs]; decide)]; exact HL i hs hr hg
 ·rw[hs] at hr ⊢; rw[aA (by rw[hs]; decide)]; exact HM i hs hr hg
 ·rw[hs] at hr ⊢; rw[aA (by rw[hs]; decide)]; exact HN i hs hr hg
 ·rw[hs] at hr ⊢; rw[aA (by rw[hs]; decide)]; exact HO i hs hr hg
 ·rw[hs] at hr ⊢; rw[aA (by rw[hs]; decide)]; exact HP i hs hr hg
 ·rw[hs] at hr ⊢; rw[aA (by rw[hs]; decide)]; exact HQ i hs hr hg
 ·rw[hs] at hr ⊢; rw[aA (by rw[hs]; decide)]; exact HR i hs hr hg
 ·rw[hs] at hr ⊢; rw[aA (by rw[hs]; decide)]; exact HS i hs hr hg
 ·rw[hs] at hr ⊢; rw[aA (by rw[hs]; decide)]; exact HT i hs hr hg
 ·rw[hs] at hr ⊢; rw[aA (by rw[hs]; decide)]; exact HU i hs hr hg
 ·rw[hs] at hr ⊢; rw[aA (by rw[hs]; decide)]; exact HV i hs hr hg
 ·rw[hs] at hr ⊢; rw[aA (by rw[hs]; decide)]; exact HW i hs hr hg
 ·rw[hs] at hr ⊢; rw[aA (by rw[hs]; decide)]; exact HX i hs hr hg
 ·rw[hs] at hr ⊢; rw[aA (by rw[hs]; decide)]; exact HY i hs hr hg
 ·rw[hs] at hr ⊢; rw[aA (by rw[hs]; decide)]; exact HZ i hs hr hg
 ·rw[hs] at hr ⊢; rw[aA (by rw[hs]; decide)]; exact H' i hs hr hg
 ·rw[hs] at hr ⊢; rw[aA (by rw[hs]; decide)]; exact H_ i hs hr hg
 ·rw[hs] at hr ⊢; rw[aA (by rw[hs]; decide)]; exact Ia i hs hr hg
 ·rw[hs] at hr ⊢; rw[aA (by rw[hs]; decide)]; exact Ib i hs hr hg
 ·rw[hs] at hr ⊢; rw[aA (by rw[hs]; decide)]; exact Ic i hs hr hg
 ·rw[hs] at hr ⊢; rw[aA (by rw[hs]; decide)]; exact Ie i hs hr hg
 ·rw[hs] at hr ⊢; rw[aA (by rw[hs]; decide)]; exact Ig i hs hr hg
 ·rw[hs] at hr ⊢; rw[aA (by rw[hs]; decide)]; exact Ih i hs hr hg
 ·rw[hs] at hr ⊢; exact Ii i hs hr
def PQ (f w:Int):IN:=⟨f,0+aa w 0 3*2 ^ 0,0,0+aa w 3 3*2 ^ 0,0,if 1 < f/\0+aa w 6 5*2 ^ 0=0 then 32 else 0+aa w 6 5*2 ^ 0,0,0,0,0,0⟩
theorem XV {f w:Int} (h:af f=1):aJ f w=PQ f w:=by
 unfold aJ; rw[h]
 exact aK rfl rfl rfl rfl rfl (J9) rfl (bj (K:=1) (k:=xV 1 w 5) (by decide)) rfl rfl rfl
def PR (f w:Int):IN:=⟨f,0+aa w 0 3*2 ^ 0,0+aa w 3 3*2 ^ 0,0+aa w 6 3*2 ^ 0,0,0,0,0,0,0,0⟩
theorem XW {f w:Int} (h:af f=2):aJ f w=PR f w:=by
 unfold aJ; rw[h]
 exact aK rfl rfl rfl rfl rfl (aT (K:=2) (f:=f) (by decide)) rfl (bj (K:=2) (k:=xV 2 w 5) (by decide)) rfl rfl rfl
def PS (f w:Int):IN:=⟨f,0+aa w 0 3*2 ^ 0,0+aa w 3 3*2 ^ 0,0,0,0+aa w 6 3*2 ^ 0,0,0,0,0,0⟩
theorem XX {f w:Int} (h:af f=3):aJ f w=PS f w:=by
 unfold aJ; rw[h]
 exact aK rfl rfl rfl rfl rfl (aT (K:=3) (f:=f) (by decide)) rfl (bj (K:=3) (k:=xV 3 w 5) (by decide)) rfl rfl rfl
def PT (f w:Int):IN:=⟨f,0+aa w 8 3*2 ^ 0,0,0,0,0+aa w 0 8*2 ^ 0,0,0,0,0,0⟩
theorem XY {f w:Int} (h:af f=4):aJ f w=PT f w:=by
 unfold aJ; rw[h]
 exact aK rfl rfl rfl rfl rfl (aT (K:=4) (f:=f) (by decide)) rfl (bj (K:=4) (k:=xV 4 w 5) (by decide)) rfl rfl rfl
def PU (f w:Int):IN:=⟨f,0+aa w 0 3*2 ^ 0,0,0+aa w 3 3*2 ^ 0,0,0,0,0,0,0,0⟩
theorem XZ {f w:Int} (h:af f=5):aJ f w=PU f w:=by
 unfold aJ; rw[h]
 exact aK rfl rfl rfl rfl rfl (aT (K:=5) (f:=f) (by decide)) rfl (bj (K:=5) (k:=xV 5 w 5) (by decide)) rfl rfl rfl
def PW (f w:Int):IN:=⟨f,0+aa w 7 1*2 ^ 3+aa w 0 3*2 ^ 0,0,0+aa w 3 4*2 ^ 0,0,0,0,0,0,0,0⟩
theorem X0 {f w:Int} (h:af f=6):aJ f w=PW f w:=by
 unfold aJ; rw[h]
 exact aK rfl rfl rfl rfl rfl (aT (K:=6) (f:=f) (by decide)) rfl (bj (K:=6) (k:=xV 6 w 5) (by decide)) rfl rfl rfl
def PX (f w:Int):IN:=⟨f,0,0,0+aa w 3 4*2 ^ 0,0,0,0,0,0,0,0⟩
theorem X1 {f w:Int} (h:af f=7):aJ f w=PX f w:=by
 unfold aJ; rw[h]
 exact aK rfl rfl rfl rfl rfl (aT (K:=7) (f:=f) (by decide)) rfl (bj (K:=7) (k:=xV 7 w 5) (by decide)) rfl rfl rfl
def PY (f w:Int):IN:=⟨f,0+aa w 8 3*2 ^ 0,0,0,0,0+aa w 0 8*2 ^ 2,0,0,0,0,0⟩
theorem X2 {f w:Int} (h:af f=8):aJ f w=PY f w:=by
 unfold aJ; rw[h]
 exact aK rfl rfl rfl rfl rfl (aT (K:=8) (f:=f) (by decide)) rfl (bj (K:=8) (k:=xV 8 w 5) (by decide)) rfl rfl rfl
def PZ (f w:Int):IN:=⟨f,0+aa w 0 3*2 ^ 0,0+aa w 3 3*2 ^ 0,0,0,0+aa w 6 5*2 ^ 2,0,0,0,0,0⟩
theorem X3 {f w:Int} (h:af f=9):aJ f w=PZ f w:=by
 unfold aJ; rw[h]
 exact aK rfl rfl rfl rfl rfl (aT (K:=9) (f:=f) (by decide)) rfl (bj (K:=9) (k:=xV 9 w 5) (by decide)) rfl rfl rfl
def Ej (f w:Int):IN:=⟨f,0,0,0,0,0+aa w 0 7*2 ^ 2,0,0,0,0,0⟩
theorem T7 {f w:Int} (h:af f=10):aJ f w=Ej f w:=by
 unfold aJ; rw[h]
 exact aK rfl rfl rfl rfl rfl (aT (K:=10) (f:=f) (by decide)) rfl (bj (K:=10) (k:=xV 10 w 5) (by decide)) rfl rfl rfl
def Ek (f w:Int):IN:=⟨f,0,0,0,0,0,0,0,0,0,0+aa w 8 1*2 ^ 14+aa w 0 8*2 ^ 0⟩
theorem T8 {f w:Int} (h:af f=11):aJ f w=Ek f w:=by
 unfold aJ; rw[h]
 exact aK rfl rfl rfl rfl rfl (aT (K:=11) (f:=f) (by decide)) rfl (bj (K:=11) (k:=xV 11 w 5) (by decide)) rfl rfl rfl
def El (f w:Int):IN:=⟨f,0,0,0,0,0,0,0,0,0,0+aa w 8 1*2 ^ 15+aa w 0 8*2 ^ 0⟩
theorem T9 {f w:Int} (h:af f=12):aJ f w=El f w:=by
 unfold aJ; rw[h]
 exact aK rfl rfl rfl rfl rfl (aT (K:=12) (f:=f) (by decide)) rfl (bj (K:=12) (k:=xV 12 w 5) (by decide)) rfl rfl rfl
def Em (f w:Int):IN:=⟨f,0,0,0,0,0,0,0,0,0,0⟩
theorem T' {f w:Int} (h:af f=13):aJ f w=Em f w:=by
 unfold aJ; rw[h]
 exact aK rfl rfl rfl rfl rfl (aT (K:=13) (f:=f) (by decide)) rfl (bj (K:=13) (k:=xV 13 w 5) (by decide)) rfl rfl rfl
def En (f w:Int):IN:=⟨f,0,0,0,0,0+aa w 0 8*2 ^ 0,0,0,0,0,0⟩
theorem T_ {f w:Int} (h:af f=14):aJ f w=En f w:=by
 unfold aJ; rw[h]
 exact aK rfl rfl rfl rfl rfl (aT (K:=14) (f:=f) (by decide)) rfl (bj (K:=14) (k:=xV 14 w 5) (by decide)) rfl rfl rfl
def Eo (f w:Int):IN:=⟨f,0,0,0,0,cg (0+aa w 0 8*2 ^ 1) 9,0,0,0,0+aa w 8 4*2 ^ 0,0⟩
theorem Ua {f w:Int} (h:af f=15):aJ f w=Eo f w:=by
 unfold aJ; rw[h]
 exact aK rfl rfl rfl rfl rfl (rfl) rfl (bj (K:=15) (k:=xV 15 w 5) (by decide)) rfl rfl rfl
def Ep (f w:Int):IN:=⟨f,0,0,0,0,cg (0+aa w 0 11*2 ^ 1) 12,0,0,0,0,0⟩
theorem Ub {f w:Int} (h:af f=16):aJ f w=Ep f w:=by
 unfold aJ; rw[h]
 exact aK rfl rfl rfl rfl rfl (rfl) rfl (bj (K:=16) (k:=xV 16 w 5) (by decide)) rfl rfl rfl
def Er (f w:Int):IN:=⟨f,0+aa w 8 4*2 ^ 0,0,0,0,0+aa w 26 1*2 ^ 11+aa w 16 4*2 ^ 12+aa w 12 3*2 ^ 8+aa w 0 8*2 ^ 0,0,0,0,0,0⟩
theorem Uc {f w:Int} (h:af f=17):aJ f w=Er f w:=by
 unfold aJ; rw[h]
 exact aK rfl rfl rfl rfl rfl (aT (K:=17) (f:=f) (by decide)) rfl (bj (K:=17) (k:=xV 17 w 5) (by decide)) rfl rfl rfl
def zw (f w:Int):IN:=⟨f,0+aa w 8 4*2 ^ 0,0+aa w 16 4*2 ^ 0,0,0,0+aa w 26 1*2 ^ 11+aa w 12 3*2 ^ 8+aa w 0 8*2 ^ 0,0,0,0+aa w 20 1*2 ^ 0,0,0⟩
theorem Ud {f w:Int} (h:af f=18):aJ f w=zw f w:=by
 unfold aJ; rw[h]
 exact aK rfl rfl rfl rfl rfl (aT (K:=18) (f:=f) (by decide)) rfl (bj (K:=18) (k:=xV 18 w 5) (by decide)) rfl rfl rfl
def zx (f w:Int):IN:=⟨f,0+aa w 8 4*2 ^ 0,0,0,0,0+aa w 26 1*2 ^ 11+aa w 12 3*2 ^ 8+aa w 0 8*2 ^ 0,0,0,0+aa w 20 1*2 ^ 0,0,0⟩
theorem Ue {f w:Int} (h:af f=19):aJ f w=zx f w:=by
 unfold aJ; rw[h]
 exact aK rfl rfl rfl rfl rfl (aT (K:=19) (f:=f) (by decide)) rfl (bj (K:=19) (k:=xV 19 w 5) (by decide)) rfl rfl rfl
def zy (f w:Int):IN:=⟨f,0,0+aa w 16 4*2 ^ 0,0,0,0+aa w 26 1*2 ^ 11+aa w 12 3*2 ^ 8+aa w 0 8*2 ^ 0,0,0,0,0,0⟩
theorem Uf {f w:Int} (h:af f=20):aJ f w=zy f w:=by
 unfold aJ; rw[h]
 exact aK rfl rfl rfl rfl rfl (aT (K:=20) (f:=f) (by decide)) rfl (bj (K:=20) (k:=xV 20 w 5) (by decide)) rfl rfl rfl
def zz (f w:Int):IN:=⟨f,0+aa w 8 4*2 ^ 0,0+aa w 16 4*2 ^ 0,0+aa w 0 4*2 ^ 0,0,0,0+aa w 4 2*2 ^ 0,if 0+aa w 12 3*2 ^ 2+aa w 6 2*2 ^ 0=0/\(0+aa w 4 2*2 ^ 0=1\/0+aa w 4 2*2 ^ 0=2) then 32 else 0+aa w 12 3*2 ^ 2+aa w 6 2*2 ^ 0,0+aa w 20 1*2 ^ 0,0,0⟩
theorem Ug {f w:Int} (h:af f=21):aJ f w=zz f w:=by
 unfold aJ; rw[h]
 exact aK rfl rfl rfl rfl rfl (aT (K:=21) (f:=f) (by decide)) rfl (sd (K:=21) (by decide)) rfl rfl rfl
def zA (f w:Int):IN:=⟨f,0+aa w 8 4*2 ^ 0,0,0+aa w 0 4*2 ^ 0,0,0,0+aa w 4 2*2 ^ 0,if 0+aa w 12 3*2 ^ 2+aa w 6 2*2 ^ 0=0/\(0+aa w 4 2*2 ^ 0=1\/0+aa w 4 2*2 ^ 0=2) then 32 else 0+aa w 12 3*2 ^ 2+aa w 6 2*2 ^ 0,0+aa w 20 1*2 ^ 0,0,0⟩
theorem Uh {f w:Int} (h:af f=22):aJ f w=zA f w:=by
 unfold aJ; rw[h]
 exact aK rfl rfl rfl rfl rfl (aT (K:=22) (f:=f) (by decide)) rfl (sd (K:=22) (by decide)) rfl rfl rfl
def zB (f w:Int):IN:=⟨f,0,0+aa w 16 4*2 ^ 0,0+aa w 0 4*2 ^ 0,0,0,0+aa w 4 2*2 ^ 0,if 0+aa w 12 3*2 ^ 2+aa w 6 2*2 ^ 0=0/\(0+aa w 4 2*2 ^ 0=1\/0+aa w 4 2*2 ^ 0=2) then 32 else 0+aa w 12 3*2 ^ 2+aa w 6 2*2 ^ 0,0,0,0⟩
theorem Ui {f w:Int} (h:af f=23):aJ f w=zB f w:=by
 unfold aJ; rw[h]
 exact aK rfl rfl rfl rfl rfl (aT (K:=23) (f:=f) (by decide)) rfl (sd (K:=23) (by decide)) rfl rfl rfl
def zD (f w:Int):IN:=⟨f,0+aa w 8 4*2 ^ 0,0+aa w 16 4*2 ^ 0,0,0,0+aa w 26 1*2 ^ 11+aa w 12 3*2 ^ 8+aa w 0 8*2 ^ 0,0,0,0,0,0⟩
theorem Uj {f w:Int} (h:af f=24):aJ f w=zD f w:=by
 unfold aJ; rw[h]
 exact aK rfl rfl rfl rfl rfl (aT (K:=24) (f:=f) (by decide)) rfl (bj (K:=24) (k:=xV 24 w 5) (by decide)) rfl rfl rfl
def Es (f w:Int):IN:=⟨f,0+aa w 12 4*2 ^ 0,0+aa w 16 4*2 ^ 0,0,0,0+aa w 0 12*2 ^ 0,0,0,0,0,0⟩
theorem Uk {f w:Int} (h:af f=25):aJ f w=Es f w:=by
 unfold aJ; rw[h]
 exact aK rfl rfl rfl rfl rfl (aT (K:=25) (f:=f) (by decide)) rfl (bj (K:=25) (k:=xV 25 w 5) (by decide)) rfl rfl rfl
def Et (f w:Int):IN:=⟨f,0+aa w 12 4*2 ^ 0,0+aa w 16 4*2 ^ 0,0+aa w 0 4*2 ^ 0,0,0,0,0+aa w 4 2*2 ^ 0,0,0,0⟩
theorem Ul {f w:Int} (h:af f=26):aJ f w=Et f w:=by
 unfold aJ; rw[h]
 exact aK rfl rfl rfl rfl rfl (aT (K:=26) (f:=f) (by decide)) rfl (bj (K:=26) (k:=xV 26 w 5) (by decide)) rfl rfl rfl
def Eu (f w:Int):IN:=⟨f,0+aa w 8 4*2 ^ 0,0+aa w 16 4*2 ^ 0,0+aa w 0 4*2 ^ 0,0,0,0,0,0+aa w 20 1*2 ^ 0,0,0⟩
theorem Um {f w:Int} (h:af f=27):aJ f w=Eu f w:=by
 unfold aJ; rw[h]
 exact aK rfl rfl rfl rfl rfl (aT (K:=27) (f:=f) (by decide)) rfl (bj (K:=27) (k:=xV 27 w 5) (by decide)) rfl rfl rfl
def Ew (f w:Int):IN:=⟨f,0+aa w 8 4*2 ^ 0,0+aa w 16 4*2 ^ 0,0+aa w 0 4*2 ^ 0,0,0,0,0,0,0,0⟩
theorem Un {f w:Int} (h:af f=28):aJ f w=Ew f w:=by
 unfold aJ; rw[h]
 exact aK rfl rfl rfl rfl rfl (aT (K:=28) (f:=f) (by decide)) rfl (bj (K:=28) (k:=xV 28 w 5) (by decide)) rfl rfl rfl
def Ex (f w:Int):IN:=⟨f,0+aa w 8 4*2 ^ 0,0+aa w 16 4*2 ^ 0,0+aa w 0 4*2 ^ 0,0+aa w 12 4*2 ^ 0,0,0,0,0,0,0⟩
theorem Uo {f w:Int} (h:af f=29):aJ f w=Ex f w:=by
 unfold aJ; rw[h]
 exact aK rfl rfl rfl rfl rfl (aT (K:=29) (f:=f) (by decide)) rfl (bj (K:=29) (k:=xV 29 w 5) (by decide)) rfl rfl rfl
def Ey (f w:Int):IN:=⟨f,0+aa w 8 4*2 ^ 0,0+aa w 16 4*2 ^ 0,0+aa w 0 4*2 ^ 0,0+aa w 12 4*2 ^ 0,0,0,0,0,0,0⟩
theorem Up {f w:Int} (h:af f=30):aJ f w=Ey f w:=by
 unfold aJ; rw[h]
 exact aK rfl rfl rfl rfl rfl (aT (K:=30) (f:=f) (by decide)) rfl (bj (K:=30) (k:=xV 30 w 5) (by decide)) rfl rfl rfl
def Ez (f w:Int):IN:=⟨f,0+aa w 12 4*2 ^ 0,0+aa w 16 4*2 ^ 0,0+aa w 0 4*2 ^ 0,0+aa w 8 4*2 ^ 0,0,0,0,0,0,0⟩
theorem Uq {f w:Int} (h:af f=31):aJ f w=Ez f w:=by
 unfold aJ; rw[h]
 exact aK rfl rfl rfl rfl rfl (aT (K:=31) (f:=f) (by decide)) rfl (bj (K:=31) (k:=xV 31 w 5) (by decide)) rfl rfl rfl
def EA (f w:Int):IN:=⟨f,0+aa w 8 4*2 ^ 0,0,aa w 0 4,0,0,0,0,0,0,0⟩
theorem Ur {f w:Int} (h:af f=32):aJ f w=EA f w:=by
 unfold aJ; rw[h]
 exact aK rfl rfl rfl rfl rfl (aT (K:=32) (f:=f) (by decide)) rfl (bj (K:=32) (k:=xV 32 w 5) (by decide)) rfl rfl rfl
def EB (f w:Int):IN:=⟨f,0,0,0,0,cg (0+aa w 26 1*2 ^ 20+aa w 16 6*2 ^ 12+aa w 13 1*2 ^ 18+aa w 11 1*2 ^ 19+aa w 0 11*2 ^ 1) 21,0,0,0,0+aa w 22 4*2 ^ 0,0⟩
theorem Us {f w:Int} (h:af f=33):aJ f w=EB f w:=by
 unfold aJ; rw[h]
 exact aK rfl rfl rfl rfl rfl (rfl) rfl (bj (K:=33) (k:=xV 33 w 5) (by decide)) rfl rfl rfl
def EC (f w:Int):IN:=⟨f,0,0,0,0,cg (bc (0+aa w 26 1*2 ^ 24+aa w 16 10*2 ^ 12+aa w 13 1*2 ^ 23+aa w 11 1*2 ^ 22+aa w 0 11*2 ^ 1) 2) 25,0,0,0,0,0⟩
theorem Ut {f w:Int} (h:af f=34):aJ f w=EC f w:=by
 unfold aJ; rw[h]
 exact aK rfl rfl rfl rfl rfl (rfl) rfl (bj (K:=34) (k:=xV 34 w 5) (by decide)) rfl rfl rfl
def cA (x:Int):Prop:=0<=x/\x<=4294967295
theorem iQ {x:Int} (hx:0<=x) (l w:Nat):vz x l w=aa x l w:=by unfold vz aa; rw[if_neg (by omega)]
theorem vK (n:Nat) (h:n<=64):Ev.aG .i64 (n:Int)=2 ^ n:=by
 unfold Ev.aG
 rw[Int.toNat_natCast,show min n (IntKind.bits .i64)=n from Nat.min_eq_left h]
 norm_cast
theorem q1:Ev.aG .i64 1=2:=by decide
theorem q4:Ev.aG .i64 4=16:=by decide
theorem q8:Ev.aG .i64 8=256:=by decide
theorem Q6:Ev.aG .i64 11=2048:=by decide
theorem J':Ev.aG .i64 12=4096:=by decide
theorem Z6:Ev.aG .i64 18=262144:=by decide
theorem Z7:Ev.aG .i64 19=524288:=by decide
theorem Z8:Ev.aG .i64 20=1048576:=by decide
theorem Z9:Ev.aG .i64 22=4194304:=by decide
theorem Z':Ev.aG .i64 23=8388608:=by decide
theorem Z_:Ev.aG .i64 24=16777216:=by decide
theorem q3:Ev.aG .i64 3=8:=by decide
theorem r1:Ev.aG .u32 1=2:=by decide
theorem r3:Ev.aG .u32 3=8:=by decide
theorem r4:Ev.aG .u32 4=16:=by decide
theorem r6:Ev.aG .u32 6=64:=by decide
theorem r7:Ev.aG .u32 7=128:=by decide
theorem r8:Ev.aG .u32 8=256:=by decide
theorem X4:Ev.aG .u32 11=2048:=by decide
theorem J_:Ev.aG .u32 12=4096:=by decide
theorem r13:Ev.aG .u32 13=8192:=by decide
theorem Ka:Ev.aG .u32 16=65536:=by decide
theorem r20:Ev.aG .u32 20=1048576:=by decide
theorem r22:Ev.aG .u32 22=4194304:=by decide
theorem X5:Ev.aG .u32 26=67108864:=by decide
theorem aB (x:Int) (l w:Nat) (hx:cA x) (hw:1<=w/\w<=31) (hl:l<=31):ai gT 93 [.int .u32 x,.int .i64 ((l:Int)+w - 1),.int .i64 l] (.int .i64 (aa x l w)):=by
 have b:=ae x l w
 have p:=pX w hw.2
 have c:=iQ hx.1 l w
 refine Spec.enter al P93 100 Tryz.func93 rfl (by kernel_rfl) ?_
 refine (iP x l w hx hw hl).u ?_
 rw[c]
 refine li ?_
 exact aj rfl
theorem ia (n:Int) (b:Nat) (hb:b<=40) (hn:0<=n/\n < 2 ^ (b+1)):ai gT 96 [.int .i64 n,.int .i64 b] (.int .i64 (cg n (b+1))):=by
 have p1:=vK b (by omega)
 have p2:=vK (b+1) (by omega)
 have e:(((b+1:Nat)):Int)=(b:Int)+1:=rfl
 rw[e] at p2
 have d1:=vC b (by omega)
 have d2:=vC (b+1) (by omega)
 have ep:(2:Int) ^ (b+1)=2 ^ b*2:=Int.pow_succ 2 b
 have d3:(2:Int) ^ (b+1)<=2199023255552:=by
  have h1:(2 ^ (b+1):Nat)<=2 ^ 41:=Nat.pow_le_pow_right (by omega) (by omega)
  have h3:=bM (b+1)
  omega
 obtain⟨q,hq⟩:∃ q,q=n / 2 ^ b:=⟨_,rfl⟩
 have q0:0<=q:=by rw[hq]; exact Int.ediv_nonneg hn.1 (by omega)
 have q1:q < 2:=by rw[hq]; exact Int.ediv_lt_of_lt_mul (by omega) (by omega)
 refine Spec.enter al P96 100 Tryz.func96 rfl (by kernel_rfl) ?_
 refine⟨by omega,?_⟩
 refine li ?_ (show _<=(b:Int)+1/\(b:Int)+1<=_ by omega)
 have hm:n / 2 ^ b*2 ^ (b+1)=0\/n / 2 ^ b*2 ^ (b+1)=2 ^ (b+1):=by
  rw[← hq]
  have:q=0\/q=1:=by omega
  rcases this with h|h<;>rw[h]<;>omega
 refine⟨by omega,.inl ⟨ay (show _<=n / Ev.aG .i64 (b:Int)*Ev.aG .i64 ((b:Int)+1)/\n / Ev.aG .i64 (b:Int)*Ev.aG .i64 ((b:Int)+1)<=_ by rw[p1,p2]; omega),?_⟩⟩
 refine li ?_ (show _<=n - n / Ev.aG .i64 (b:Int)*Ev.aG .i64 ((b:Int)+1)/\n - n / Ev.aG .i64 (b:Int)*Ev.aG .i64 ((b:Int)+1)<=_ by rw[p1,p2]; omega)
 refine aj ?_
 show n - n / Ev.aG .i64 (b:Int)*Ev.aG .i64 ((b:Int)+1)=cg n (b+1)
 have eb:aa n b 1=q:=by
  unfold aa
  rw[if_neg (by omega),← hq,show (2:Int) ^ 1=2 from rfl]
  omega
 unfold cg
 rw[p1,p2,Nat.add_sub_cancel,eb,← hq]
 have:q=0\/q=1:=by omega
 rcases this with h|h<;>rw[h]
 ·rw[if_neg (by decide)]; omega
 ·rw[if_pos rfl]; omega
theorem dz (k b:Int):ai gT 94 [.int .i64 k,.int .i64 b] (.int .i64 (if b=0/\(k=1\/k=2) then 32 else b)):=by
 refine Spec.enter al P94 100 Tryz.func94 rfl (by kernel_rfl) ?_
 repeat' ((conv=>whnf); first|(refine (And.intro (fun _=>?_) (fun _=>?_):(_->_)/\(_->_))<;>(first|(exfalso; first|contradiction|omega)|skip))|refine Or.inl (And.intro (by first|exact ay (by omega)|exact ah (by omega)|exact c_ (by omega)|exact ey (by omega)) ?_)|(refine And.intro (show (_:Int)≠0 by omega) (Or.inl (And.intro (show (0:Int)<=_ by omega) (And.intro (show (0:Int) < _ by omega) ?_))))|(refine And.intro (show (_:Int)≠0 by omega) (Or.inl (And.intro (show (0:Int)<=_ by omega) (And.intro (by first|exact (show (_:Int)<=9223372036854775807 by omega)|exact (show (_:Int)<=4294967295 by omega)) (And.intro (show (0:Int) < _ by omega) ?_)))))|(refine aj ?_; (show b=_); rw[if_neg (by omega)])|(refine aj ?_; (show (32:Int)=_); rw[if_pos (by omega)])|(intro _))
def bq (i:IN) (w:Int):IN:={i with set:=aa w 20 1,rn:=aa w 16 4,rd:=aa w 8 4,rm:=aa w 0 4}
theorem aU (i:IN) (w:Int) (hw:cA w):ai gT 97 [bX i,.int .u32 w] (bX (bq i w)):=by
 refine Spec.enter al P97 100 Tryz.func97 rfl (by kernel_rfl) ?_
 refine (aB w 20 1 hw (by decide) (by decide)).u ?_
 refine (aB w 16 4 hw (by decide) (by decide)).u ?_
 refine (aB w 8 4 hw (by decide) (by decide)).u ?_
 refine (aB w 0 4 hw (by decide) (by decide)).u ?_
 exact rA
def bF (i:IN) (w:Int):IN:={i with rd:=aa w 0 3,rn:=aa w 3 3}
theorem lA (i:IN) (w:Int) (hw:cA w):ai gT 95 [bX i,.int .u32 w] (bX (bF i w)):=by
 refine Spec.enter al P95 100 Tryz.func95 rfl (by kernel_rfl) ?_
 refine (aB w 0 3 hw (by decide) (by decide)).u ?_
 refine (aB w 3 3 hw (by decide) (by decide)).u ?_
 exact rA
theorem kx (a b:Int) (ha:a=0\/a=1) (hb:b=0\/b=1):ai gT 129 [.int .u32 a,.int .u32 b] (.int .u32 (if a=b then 1 else 0)):=by
 refine Spec.enter al Xo 100 Tryz.func129 rfl (by kernel_rfl) ?_
 refine aj ?_
 show bits .xor .u32 (bits .xor .u32 1 a) b=_
 rcases ha with rfl|rfl<;>rcases hb with rfl|rfl<;>decide
theorem A4 (a b:Int) (ha:0<=a/\a<=4294967295) (hb:0<=b/\b<=4294967295):bits .or .i64 a b=bits .or .i64 b a:=by
 have ea:a=(a.toNat:Int):=by omega
 have eb:b=(b.toNat:Int):=by omega
 rw[ea,eb,Rm.oY _ _ (by omega) (by omega),Rm.oY _ _ (by omega) (by omega),Nat.or_comm]
def dm (w:Int):Int:=aa w 26 1*2048+aa w 12 3*256+aa w 0 8
theorem P0 (w:Int):0<=dm w/\dm w < 4096:=by
 have b1:=ae w 26 1
 have b2:=ae w 12 3
 have b3:=ae w 0 8
 unfold dm; omega
theorem ED (w:Int):bits .or .i64 (bits .or .i64 (aa w 26 1*2048) (aa w 12 3*256)) (aa w 0 8)=dm w:=by
 have b1:=ae w 26 1
 have b2:=ae w 12 3
 have b3:=ae w 0 8
 rw[Rm.bW (aa w 26 1*2048) (aa w 12 3*256) 11 (by omega) (by omega) (by omega) (by omega) (by omega) (by omega)]
 rw[Rm.bW (aa w 26 1*2048+aa w 12 3*256) (aa w 0 8) 8 (by omega) (by omega) (by omega) (by omega) (by omega) (by omega)]
 rfl
theorem mu (w:Int) (hw:cA w):ai gT 98 [.int .u32 w,.ff] (.int .i64 (dm w)):=by
 have b1:=ae w 26 1
 have b2:=ae w 12 3
 have b3:=ae w 0 8
 refine Spec.enter al ZF 100 Tryz.func98 rfl (by kernel_rfl) ?_
 refine (aB w 26 1 hw (by decide) (by decide)).u ?_
 refine⟨by decide,.inl ⟨ay (by rw[Q6]; omega),?_⟩⟩
 refine (aB w 12 3 hw (by decide) (by decide)).u ?_
 refine⟨by decide,.inl ⟨ay (by rw[q8]; omega),?_⟩⟩
 refine (aB w 0 8 hw (by decide) (by decide)).u ?_
 refine aj ?_
 show bits .or .i64 (bits .or .i64 (aa w 26 1*Ev.aG .i64 11) (aa w 12 3*Ev.aG .i64 8)) (aa w 0 8)=dm w
 rw[Q6,q8,ED]
theorem EE (w:Int) (hw:cA w):ai gT 98 [.int .u32 w,.tt] (.int .i64 (dm w+aa w 16 4*4096)):=by
 have b1:=ae w 26 1
 have b2:=ae w 12 3
 have b3:=ae w 0 8
 have b4:=ae w 16 4
 refine Spec.enter al ZF 100 Tryz.func98 rfl (by kernel_rfl) ?_
 refine (aB w 26 1 hw (by decide) (by decide)).u ?_
 refine⟨by decide,.inl ⟨ay (by rw[Q6]; omega),?_⟩⟩
 refine (aB w 12 3 hw (by decide) (by decide)).u ?_
 refine⟨by decide,.inl ⟨ay (by rw[q8]; omega),?_⟩⟩
 refine (aB w 0 8 hw (by decide) (by decide)).u ?_
 refine (aB w 16 4 hw (by decide) (by decide)).u ?_
 refine⟨by decide,.inl ⟨ay (by rw[J']; omega),?_⟩⟩
 refine aj ?_
 show bits .or .i64 (bits .or .i64 (bits .or .i64 (aa w 26 1*Ev.aG .i64 11) (aa w 12 3*Ev.aG .i64 8)) (aa w 0 8)) (aa w 16 4*Ev.aG .i64 12)=_
 have nb:=P0 w
 rw[Q6,q8,J',ED,A4 _ _ (by omega) (by omega),Rm.bW (aa w 16 4*4096) (dm w) 12 (by omega) (by omega) (by omega) (by omega) (by omega) (by omega)]
 omega
def p7 (w:Int):Int:=0+aa w 26 1*2 ^ 20+aa w 16 6*2 ^ 12+aa w 13 1*2 ^ 18+aa w 11 1*2 ^ 19+aa w 0 11*2 ^ 1
theorem vL (w:Int) (hw:cA w):ai gT 101 [.int .u32 w] (.int .i64 (cg (p7 w) 21)):=by
 have b1:=ae w 26 1
 have b2:=ae w 11 1
 have b3:=ae w 13 1
 have b4:=ae w 16 6
 have b5:=ae w 0 11
 refine Spec.enter al Xm 100 Tryz.func101 rfl (by kernel_rfl) ?_
 refine (aB w 26 1 hw (by decide) (by decide)).u ?_
 refine⟨by decide,.inl ⟨ay (by rw[Z8]; omega),?_⟩⟩
 refine (aB w 11 1 hw (by decide) (by decide)).u ?_
 refine⟨by decide,.inl ⟨ay (by rw[Z7]; omega),?_⟩⟩
 refine (aB w 13 1 hw (by decide) (by decide)).u ?_
 refine⟨by decide,.inl ⟨ay (by rw[Z6]; omega),?_⟩⟩
 refine (aB w 16 6 hw (by decide) (by decide)).u ?_
 refine⟨by decide,.inl ⟨ay (by rw[J']; omega),?_⟩⟩
 refine (aB w 0 11 hw (by decide) (by decide)).u ?_
 refine⟨by decide,.inl ⟨ay (by rw[q1]; omega),?_⟩⟩
 have e:bits .or .i64 (bits .or .i64 (bits .or .i64 (bits .or .i64 (aa w 26 1*Ev.aG .i64 20) (aa w 11 1*Ev.aG .i64 19)) (aa w 13 1*Ev.aG .i64 18)) (aa w 16 6*Ev.aG .i64 12)) (aa w 0 11*Ev.aG .i64 1)=p7 w:=by
  rw[Z8,Z7,Z6,J',q1]
  rw[Rm.bW (aa w 26 1*1048576) (aa w 11 1*524288) 20 (by omega) (by omega) (by omega) (by omega) (by omega) (by omega)]
  rw[Rm.bW (aa w 26 1*1048576+aa w 11 1*524288) (aa w 13 1*262144) 19 (by omega) (by omega) (by omega) (by omega) (by omega) (by omega)]
  rw[Rm.bW (aa w 26 1*1048576+aa w 11 1*524288+aa w 13 1*262144) (aa w 16 6*4096) 18 (by omega) (by omega) (by omega) (by omega) (by omega) (by omega)]
  rw[Rm.bW (aa w 26 1*1048576+aa w 11 1*524288+aa w 13 1*262144+aa w 16 6*4096) (aa w 0 11*2) 12 (by omega) (by omega) (by omega) (by omega) (by omega) (by omega)]
  unfold p7; omega
 have hb:0<=p7 w/\p7 w < 2 ^ (20+1):=by unfold p7; omega
 refine⟨[],av,(ia (p7 w) 20 (by decide) hb).use (And.intro e (And.intro rfl trivial)) rfl rfl ?_⟩
 exact aj rfl
def iR (w:Int):Int:=0+aa w 26 1*2 ^ 24+aa w 16 10*2 ^ 12+aa w 13 1*2 ^ 23+aa w 11 1*2 ^ 22+aa w 0 11*2 ^ 1
theorem lB (w:Int):0<=iR w/\iR w < 33554432/\iR w / 16777216=aa w 26 1/\iR w / 8388608 % 2=aa w 13 1/\iR w / 4194304 % 2=aa w 11 1/\iR w % 4194304=aa w 16 10*4096+aa w 0 11*2:=by
 have b1:=ae w 26 1
 have b2:=ae w 11 1
 have b3:=ae w 13 1
 have b4:=ae w 16 10
 have b5:=ae w 0 11
 unfold iR; omega
theorem ye (w:Int):bc (iR w) 2=aa w 26 1*16777216+(if aa w 13 1=aa w 26 1 then 1 else 0)*8388608+(if aa w 11 1=aa w 26 1 then 1 else 0)*4194304+aa w 16 10*4096+aa w 0 11*2:=by
 obtain⟨h0,h1,h2,h3,h4,h5⟩:=lB w
 have b:=ku ⟨h0,h1⟩
 have c:=mr ⟨h0,h1⟩
 have e:iR w / 16777216 % 2=aa w 26 1:=by omega
 rw[h2,h3,h4,h5,← h2,h2] at b
 have e2:aa w 26 1 % 2=aa w 26 1:=by omega
 rw[e2] at b
 obtain⟨t,ht⟩:∃ t,t=bc (iR w) 2:=⟨_,rfl⟩
 rw[← ht] at b c ⊢
 clear ht
 obtain⟨k1,k2,k3,k4⟩:=b
 rw[← k3,← k4]
 clear k3 k4
 omega
theorem vM (w:Int) (hw:cA w):ai gT 102 [.int .u32 w] (.int .i64 (cg (bc (iR w) 2) 25)):=by
 have b1:=ae w 26 1
 have b2:=ae w 11 1
 have b3:=ae w 13 1
 have b4:=ae w 16 10
 have b5:=ae w 0 11
 have c1:vz w 26 1=aa w 26 1:=iQ hw.1 26 1
 have c2:vz w 13 1=aa w 13 1:=iQ hw.1 13 1
 have c3:vz w 11 1=aa w 11 1:=iQ hw.1 11 1
 have s2:=kx (aa w 13 1) (aa w 26 1) (jm w 13) (jm w 26)
 have s3:=kx (aa w 11 1) (aa w 26 1) (jm w 11) (jm w 26)
 have k2:=iP w 26 1 hw (by decide) (by decide)
 have k3:=iP w 13 1 hw (by decide) (by decide)
 have k4:=iP w 11 1 hw (by decide) (by decide)
 rw[c1] at k2
 rw[c2] at k3
 rw[c3] at k4
 have jt:=ye w
 obtain⟨m2,uL⟩:∃ m:Int,m=if aa w 13 1=aa w 26 1 then 1 else 0:=⟨_,rfl⟩
 obtain⟨m3,Uu⟩:∃ m:Int,m=if aa w 11 1=aa w 26 1 then 1 else 0:=⟨_,rfl⟩
 have d2:0<=m2/\m2<=1:=by rw[uL]; split<;>omega
 have d3:0<=m3/\m3<=1:=by rw[Uu]; split<;>omega
 rw[← uL] at s2 jt
 rw[← Uu] at s3 jt
 refine Spec.enter al Xn 100 Tryz.func102 rfl (by kernel_rfl) ?_
 refine k2.u ?_
 refine li ?_
 refine⟨by decide,.inl ⟨ay (by rw[Z_]; omega),?_⟩⟩
 refine k3.u ?_
 refine s2.u ?_
 refine li ?_
 refine⟨by decide,.inl ⟨ay (by rw[Z']; omega),?_⟩⟩
 refine k4.u ?_
 refine s3.u ?_
 refine li ?_
 refine⟨by decide,.inl ⟨ay (by rw[Z9]; omega),?_⟩⟩
 refine (aB w 16 10 hw (by decide) (by decide)).u ?_
 refine⟨by decide,.inl ⟨ay (by rw[J']; omega),?_⟩⟩
 refine (aB w 0 11 hw (by decide) (by decide)).u ?_
 refine⟨by decide,.inl ⟨ay (by rw[q1]; omega),?_⟩⟩
 have e:bits .or .i64 (bits .or .i64 (bits .or .i64 (bits .or .i64 (aa w 26 1*Ev.aG .i64 24) (m2*Ev.aG .i64 23)) (m3*Ev.aG .i64 22)) (aa w 16 10*Ev.aG .i64 12)) (aa w 0 11*Ev.aG .i64 1)=bc (iR w) 2:=by
  rw[Z_,Z',Z9,J',q1]
  rw[Rm.bW (aa w 26 1*16777216) (m2*8388608) 24 (by omega) (by omega) (by omega) (by omega) (by omega) (by omega)]
  rw[Rm.bW (aa w 26 1*16777216+m2*8388608) (m3*4194304) 23 (by omega) (by omega) (by omega) (by omega) (by omega) (by omega)]
  rw[Rm.bW (aa w 26 1*16777216+m2*8388608+m3*4194304) (aa w 16 10*4096) 22 (by omega) (by omega) (by omega) (by omega) (by omega) (by omega)]
  rw[Rm.bW (aa w 26 1*16777216+m2*8388608+m3*4194304+aa w 16 10*4096) (aa w 0 11*2) 12 (by omega) (by omega) (by omega) (by omega) (by omega) (by omega)]
  rw[jt]
 have hb:=mr ⟨(lB w).1,(lB w).2.1⟩
 refine⟨[],av,(ia (bc (iR w) 2) 24 (by decide) ⟨hb.1,by omega⟩).use (And.intro e (And.intro rfl trivial)) rfl rfl ?_⟩
 exact aj rfl
theorem ai.vk {G:Gx} {f:FuncId} {args:List PV} {r r':PV} (h:ai G f args r) (hle:pJ r r'):ai G f args r':=by
 refine Spec.intro h.run.1 fun I β w aZ hH hM hA=>?_
 refine (h.run.2 I β w aZ hH hM hA).mono fun e w' ⟨v,r1,S',I',aI,he,hr,hi,C7⟩=>?_
 subst hr
 exact⟨v,r',S',I',aI,he,rfl,hle _ _ _ _ hi,C7⟩
theorem ao {f K:Int} (h:af f=K):ai gT 56 [.int .i64 f] (.lit .i64 K) :=
 (jk f).vk (dK (x:=.int .i64 (af f)) (y:=.lit .i64 K) h)
def B (v:Int) (l w a:Nat):Nat:=(aa v l w).toNat <<< a
theorem p8 (v:Int) {l w a:Nat} (h:w+a<=32):B v l w a < 4294967296:=by
 have b:=ae v l w
 have e:=bM w
 have h1:(aa v l w).toNat < 2 ^ w:=by omega
 unfold B
 rw[Nat.shiftLeft_eq]
 calc (aa v l w).toNat*2 ^ a < 2 ^ w*2 ^ a:=Nat.mul_lt_mul_of_pos_right h1 (Nat.two_pow_pos a)
  _=2 ^ (w+a):=(Nat.pow_add ..).symm
  _<=2 ^ 32:=Nat.pow_le_pow_right (by omega) h
theorem Uv (v:Int) (l w a:Nat) (p:Int) (hp:p=2 ^ a):aa v l w*p=((B v l w a:Nat):Int):=by
 have b:=ae v l w
 unfold B
 rw[Nat.shiftLeft_eq,hp,Int.natCast_mul,Int.toNat_of_nonneg b.1,bM]
def xi (x:Int) (a:Nat):Prop:=x=(a:Int)/\a < 4294967296
theorem xi.or {x y:Int} {a b:Nat} (hx:xi x a) (hy:xi y b):xi (bits .or .u32 x y) (a ||| b):=by
 obtain⟨rfl,ha⟩:=hx
 obtain⟨rfl,hb⟩:=hy
 refine⟨?_,Nat.or_lt_two_pow (n:=32) ha hb⟩
 rw[u32_or _ _ (by omega) (by omega) (by omega) (by omega),Int.toNat_natCast,Int.toNat_natCast]
theorem qO (v:Int) (l w a:Nat) {p:Int} (hp:p=2 ^ a) (h:w+a<=32):xi (aa v l w*p) (B v l w a):=⟨Uv v l w a p hp,p8 v h⟩
theorem tL (v:Int) (l w:Nat) (h:w<=32):xi (aa v l w) (B v l w 0):=⟨by have:=Uv v l w 0 1 rfl; rwa [Int.mul_one] at this,p8 v h⟩
theorem zE {v:Int} {w:Nat} (h:0<=v/\v < 2 ^ w):aa v 0 w=v:=by
 unfold aa
 rw[if_neg (by omega),show (2:Int) ^ 0=1 from rfl,Int.ediv_one]
 exact Int.emod_eq_of_lt h.1 h.2
theorem nq (v:Int) (w a:Nat) {p:Int} (hp:p=2 ^ a) (h:w+a<=32) (hv:0<=v/\v < 2 ^ w):xi (v*p) (B v 0 w a):=by
 have:=qO v 0 w a hp h
 rwa [zE hv] at this
theorem p9 (v:Int) (w:Nat) (h:w<=32) (hv:0<=v/\v < 2 ^ w):xi v (B v 0 w 0):=by
 have:=tL v 0 w h
 rwa [zE hv] at this
theorem p_ {v:Int} {l w a:Nat} (h:aa v l w=0):B v l w a=0:=by unfold B; rw[h]; simp
theorem fB {v:Int} {l w a:Nat} (h:v=0):B v l w a=0:=by
 subst h
 apply p_
 unfold aa
 rw[if_neg (by omega),Int.zero_ediv,Int.zero_emod]
def dv (i:IN) (l:List (Nat × Nat × Nat × Nat)):Nat:=l.foldl (fun w x=>w ||| B (ly i x.1) x.2.1 x.2.2.2 x.2.2.1) 0
theorem zF (i:IN):∀ (l:List (Nat × Nat × Nat × Nat)) (W V:Nat),l.foldl (vE i) (W ||| V)=W ||| l.foldl (fun w x=>w ||| B (ly i x.1) x.2.1 x.2.2.2 x.2.2.1) V
 | [],_,_=>rfl
 | x::l,W,V=>by
  rw[List.foldl_cons,List.foldl_cons]
  have e:vE i (W ||| V) x=W ||| (V ||| B (ly i x.1) x.2.1 x.2.2.2 x.2.2.1):=by
   have h:(aa (ly i x.1) x.2.1 x.2.2.2).toNat < 2 ^ x.2.2.2:=J7 i x
   unfold vE plus B
   rw[Nat.mod_eq_of_lt h,Nat.or_assoc]
  rw[e,zF i l]
theorem vN (i:IN) (l:List (Nat × Nat × Nat × Nat)):rY i l=(oZ i.form).toNat ||| dv i l:=by
 unfold rY dv
 rw[← zF i l,Nat.or_zero]
theorem zG (i:IN):cl i=(((oZ i.form).toNat ||| dv (dq i) (ar (af i.form)):Nat):Int):=by
 unfold cl
 rw[vN,gy]
theorem j6 {a b:Nat} (ha:a < 4294967296) (hb:b < 4294967296):a ||| b < 4294967296:=Nat.or_lt_two_pow (n:=32) ha hb
theorem d_ (i:IN):xi ((B i.set 0 1 20 ||| B i.rn 0 4 16 ||| B i.ra 0 4 12 ||| B i.rd 0 4 8 ||| B i.rm 0 4 0:Nat):Int) (B i.set 0 1 20 ||| B i.rn 0 4 16 ||| B i.ra 0 4 12 ||| B i.rd 0 4 8 ||| B i.rm 0 4 0) :=
 ⟨rfl,j6 (j6 (j6 (j6 (p8 _ (by decide)) (p8 _ (by decide))) (p8 _ (by decide))) (p8 _ (by decide))) (p8 _ (by decide))⟩
theorem j7 (n:Int):xi ((B n 11 1 26 ||| B n 12 4 16 ||| B n 8 3 12 ||| B n 0 8 0:Nat):Int) (B n 11 1 26 ||| B n 12 4 16 ||| B n 8 3 12 ||| B n 0 8 0) :=
 ⟨rfl,j6 (j6 (j6 (p8 _ (by decide)) (p8 _ (by decide))) (p8 _ (by decide))) (p8 _ (by decide))⟩
theorem j8 (x:Int) (l w:Nat) (hx:cA x) (hw:1<=w/\w<=31) (hl:l<=31):ai gT 128 [.int .u32 x,.int .i64 ((l:Int)+w - 1),.int .i64 l] (.int .u32 (aa x l w)):=by
 have h:=iP x l w hx hw hl
 rwa [iQ hx.1 l w] at h
theorem A5 (v:Int) (l w:Nat) (h:l+w<=32) (hv:-1099511627776<=v):vz (IntKind.u32.wrap v) l w=aa v l w:=by
 rw[IntKind.wrap_u32',iQ (by omega)]
 obtain⟨n,hn⟩:∃ n:Nat,(n:Int)=if v < 0 then v+1099511627776 else v:=⟨(if v < 0 then v+1099511627776 else v).toNat,Int.toNat_of_nonneg (by split<;>omega)⟩
 have e:v % 4294967296=((n % 4294967296:Nat):Int):=by
  rw[Int.natCast_emod,hn]
  split<;>omega
 rw[e,rZ]
 unfold aa
 rw[← hn]
 have key:n % 4294967296 / 2 ^ l % 2 ^ w=n / 2 ^ l % 2 ^ w:=by
  apply Nat.eq_of_testBit_eq
  intro p
  rw[Nat.testBit_mod_two_pow,Nat.testBit_mod_two_pow,Nat.testBit_div_two_pow,Nat.testBit_div_two_pow,show (4294967296:Nat)=2 ^ 32 from rfl,Nat.testBit_mod_two_pow]
  by_cases hp:p < w
  ·rw[decide_eq_true hp,decide_eq_true (show p+l < 32 by omega)]; simp
  ·rw[decide_eq_false hp]; simp
 rw[key,← bM,← bM]
 norm_cast
theorem oJ (v:Int) (l w:Nat) (hv:-1099511627776<=v) (hw:1<=w/\w<=31) (hl:l<=31) (h:l+w<=32):ai gT 128 [.int .u32 (IntKind.u32.wrap v),.int .i64 ((l:Int)+w - 1),.int .i64 l] (.int .u32 (aa v l w)):=by
 have hx:0<=IntKind.u32.wrap v/\IntKind.u32.wrap v<=4294967295:=by rw[IntKind.wrap_u32']; omega
 have k:=iP (IntKind.u32.wrap v) l w hx hw hl
 rwa [A5 v l w h hv] at k
theorem EF {v:Int} (h:0<=v) (w:Nat):aa (v / 4) 0 w=aa v 2 w:=by
 unfold aa
 rw[if_neg (by omega),if_neg (by omega),show (2:Int) ^ 0=1 from rfl,show (2:Int) ^ 2=4 from rfl,Int.ediv_one]
theorem Kb {v:Int} {w a:Nat} (h:0<=v):B (v / 4) 0 w a=B v 2 w a:=by unfold B; rw[EF h]
theorem isD (v:Int) (w:Nat) (h:w<=32) (h0:0<=v) (hv:v / 4 < 2 ^ w):xi (v / 4) (B v 2 w 0):=by
 have:=p9 (v / 4) w h ⟨by omega,hv⟩
 rwa [Kb h0] at this
theorem lC (i:IN) (v:Int) (w:Nat) (hv:0<=v/\v < 2 ^ w) (hd:0<=i.rd/\i.rd < 8) (hn:0<=i.rn/\i.rn < 8) (hw:w<=20):ai gT 134 [bX i,.int .u32 v] (.int .u32 ((B v 0 w 6 ||| B i.rn 0 3 3 ||| B i.rd 0 3 0:Nat):Int)):=by
 have hp:=pX w (by omega)
 have fQ:(2:Int) ^ w<=1048576:=by
  have h1:(2 ^ w:Nat)<=2 ^ 20:=Nat.pow_le_pow_right (by omega) hw
  have h3:=bM w
  omega
 refine Spec.enter al Xw 100 Tryz.func134 rfl (by kernel_rfl) ?_
 refine⟨by decide,.inl ⟨ah (by rw[r6]; omega),?_⟩⟩
 refine .inl ⟨ah (by omega),?_⟩
 refine⟨by decide,.inl ⟨ah (by rw[r3]; omega),?_⟩⟩
 refine .inl ⟨ah (by omega),?_⟩
 refine aj ?_
 exact (show bits .or .u32 (bits .or .u32 (v*Ev.aG .u32 6) (i.rn*Ev.aG .u32 3)) i.rd=_ from (((nq v w 6 (by decide) (by omega) hv).or (nq i.rn 3 3 (by decide) (by decide) hn)).or (p9 i.rd 3 (by decide) hd)).1)
theorem cj (i:IN) (hs:0<=i.set/\i.set < 2) (hd:0<=i.rd/\i.rd < 16) (hn:0<=i.rn/\i.rn < 16) (hm:0<=i.rm/\i.rm < 16) (ha:0<=i.ra/\i.ra < 16):ai gT 130 [bX i] (.int .u32 ((B i.set 0 1 20 ||| B i.rn 0 4 16 ||| B i.ra 0 4 12 ||| B i.rd 0 4 8 ||| B i.rm 0 4 0:Nat):Int)):=by
 refine Spec.enter al Xs 100 Tryz.func130 rfl (by kernel_rfl) ?_
 refine .inl ⟨ah (by omega),?_⟩
 refine⟨by decide,.inl ⟨ah (by rw[r20]; omega),?_⟩⟩
 refine .inl ⟨ah (by omega),?_⟩
 refine⟨by decide,.inl ⟨ah (by rw[Ka]; omega),?_⟩⟩
 refine .inl ⟨ah (by omega),?_⟩
 refine⟨by decide,.inl ⟨ah (by rw[J_]; omega),?_⟩⟩
 refine .inl ⟨ah (by omega),?_⟩
 refine⟨by decide,.inl ⟨ah (by rw[r8]; omega),?_⟩⟩
 refine .inl ⟨ah (by omega),?_⟩
 refine aj ?_
 exact (show bits .or .u32 (bits .or .u32 (bits .or .u32 (bits .or .u32 (i.set*Ev.aG .u32 20) (i.rn*Ev.aG .u32 16)) (i.ra*Ev.aG .u32 12)) (i.rd*Ev.aG .u32 8)) i.rm=_ from (((((nq i.set 1 20 (by decide) (by decide) hs).or (nq i.rn 4 16 (by decide) (by decide) hn)).or (nq i.ra 4 12 (by decide) (by decide) ha)).or (nq i.rd 4 8 (by decide) (by decide) hd)).or (p9 i.rm 4 (by decide) hm)).1)
theorem fE (n:Int) (hn:cA n):ai gT 131 [.int .u32 n] (.int .u32 ((B n 11 1 26 ||| B n 12 4 16 ||| B n 8 3 12 ||| B n 0 8 0:Nat):Int)):=by
 have b0:=ae n 11 1
 have b1:=ae n 12 4
 have b2:=ae n 8 3
 have b3:=ae n 0 8
 refine Spec.enter al Xt 100 Tryz.func131 rfl (by kernel_rfl) ?_
 refine (j8 n 11 1 hn (by decide) (by decide)).u ?_
 refine⟨by decide,.inl ⟨ah (by rw[X5]; omega),?_⟩⟩
 refine (j8 n 12 4 hn (by decide) (by decide)).u ?_
 refine⟨by decide,.inl ⟨ah (by rw[Ka]; omega),?_⟩⟩
 refine (j8 n 8 3 hn (by decide) (by decide)).u ?_
 refine⟨by decide,.inl ⟨ah (by rw[J_]; omega),?_⟩⟩
 refine (j8 n 0 8 hn (by decide) (by decide)).u ?_
 refine aj ?_
 exact (show bits .or .u32 (bits .or .u32 (bits .or .u32 (aa n 11 1*Ev.aG .u32 26) (aa n 12 4*Ev.aG .u32 16)) (aa n 8 3*Ev.aG .u32 12)) (aa n 0 8)=_ from ((((qO n 11 1 26 (by decide) (by decide)).or (qO n 12 4 16 (by decide) (by decide))).or (qO n 8 3 12 (by decide) (by decide))).or (tL n 0 8 (by decide))).1)
end Go.Proofs.YtnbhdacpogplgaaGreatDoor.Pw

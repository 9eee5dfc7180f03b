/- What this claim is proved with: no condition. -/
import Derived.Test.YtnbngokbamifbaaGreatDoorNr17
set_option maxRecDepth 100000
set_option maxHeartbeats 4000000
set_option linter.unusedVariables false
set_option linter.unusedSimpArgs false
namespace Go.Proofs.YtnbngokbamifbaaGreatDoor.Pw
open Go Go.RowKit
theorem UN (t:Int) (h:0<=t/\t < 33554432) (h2:t % 2=0):0+aa t 24 1*2 ^ 24+aa t 12 10*2 ^ 12+aa t 23 1*2 ^ 23+aa t 22 1*2 ^ 22+aa t 1 11*2 ^ 1=t:=by
 unfold aa; rw[if_neg (by omega)]; omega
theorem Ei (v:Int) (h:-16777216<=v/\v<=16777214/\v % 2=0):(0<=aa v 0 25/\aa v 0 25 < 33554432)/\aa v 0 25 % 2=0/\cM (aa v 0 25) 25=v:=by
 have e:aa v 0 25=if v < 0 then v+33554432 else v:=by unfold aa; split<;>omega
 have e2:∀ m:Int,0<=m->aa m 24 1=m / 16777216 % 2:=fun m hm=>by unfold aa; rw[if_neg (by omega)]; rfl
 have hb:0<=aa v 0 25/\aa v 0 25 < 33554432:=by rw[e]; split<;>omega
 refine⟨hb,by rw[e]; split<;>omega,?_⟩
 unfold cM
 rw[show (25 - 1:Nat)=24 from rfl,e2 _ hb.1,e]
 have p:(2:Int) ^ 25=33554432:=by decide
 rw[p]
 split<;>split<;>omega
theorem LK (i:IN) (hs:ae i.form=34) (hr:aC i (cU 34)):{c9 34 (dB i) with form:=i.form}=i:=by
 obtain⟨hf,h1,h2,h3,h4,h5,h6,h7,h8,h9,cY⟩:=hr
 have g0:=aA (r:=i.rd) h1
 have g1:=aA (r:=i.rn) h2
 have g2:=aA (r:=i.rm) h3
 have g3:=aA (r:=i.ra) h4
 have g4:-16777216<=i.av/\i.av<=16777214/\i.av % 2=0:=eR (s:=2) (by decide) h7
 have g5:i.kind=0:=(bo rfl h9).1
 have g6:i.bG=0:=bO (bo rfl h9).2
 have g7:i.set=0:=h8.elim id fun e=>absurd (show false=true from e.2) Bool.false_ne_true
 have g8:i.cond=0:=h6.elim id fun e=>absurd (show false=true from e.1) Bool.false_ne_true
 have g9:i.an=0:=dw rfl h5
 obtain⟨hb,he,hl⟩:=Ei i.av g4
 rw[XY hs]
 have hn:=mC hb
 have uN:aB (aa i.av 0 25) 2 % 2=0:=by have:=(mD hb).2.1; omega
 have e34:∀ x:Int,qH 34 i.form x=cM (aB x 2) 25:=fun x=>by
  unfold qH; rw[if_neg (by decide),if_neg (by decide),if_neg (by decide),if_pos rfl]
 have hi:qH 34 i.form (0+aa (aB (aa i.av 0 25) 2) 24 1*2 ^ 24+aa (aB (aa i.av 0 25) 2) 12 10*2 ^ 12+aa (aB (aa i.av 0 25) 2) 23 1*2 ^ 23+aa (aB (aa i.av 0 25) 2) 22 1*2 ^ 22+aa (aB (aa i.av 0 25) 2) 1 11*2 ^ 1)=i.av:=by
  rw[e34,UN _ hn uN,Ee hb,hl]
 exact aZ rfl (Uv i.rd g0) (Uw i.rn g1) (Ux i.rm g2) (Uy i.ra g3) hi (Uz i.kind g5) ((bP (K:=34) (k:=0) (by decide)).trans (UA i.bG g6)) (UB i.set g7) (UC i.cond g8) (UD i.an g9)
theorem Cq {s:Int} (h:1<=s/\s<=34):s=1\/s=2\/s=3\/s=4\/s=5\/s=6\/s=7\/s=8\/s=9\/s=10\/s=11\/s=12\/s=13\/s=14\/s=15\/s=16\/s=17\/s=18\/s=19\/s=20\/s=21\/s=22\/s=23\/s=24\/s=25\/s=26\/s=27\/s=28\/s=29\/s=30\/s=31\/s=32\/s=33\/s=34:=by omega
theorem HG (i:IN) (h:ae i.form=32) (hr:0<=i.rm/\i.rm < 15):aa (bs i) 0 4=aa (dB i).rm 0 4:=by
 have hx:((2,0,0,4):Nat × Nat × Nat × Nat)∈aq (ae i.form):=by rw[h]; decide
 exact uP i hx
theorem back (i:IN) (h:bQ i) (hg:i.an<=9223372036854775807):aW i.form (bs i)=i:=by
 rw[Ef i fun Eg=>HG i Eg (sP h).2.2.1]
 have hr:=h
 unfold bQ at hr
 rcases Cq (jX h.1) with hs|hs|hs|hs|hs|hs|hs|hs|hs|hs|hs|hs|hs|hs|hs|hs|hs|hs|hs|hs|hs|hs|hs|hs|hs|hs|hs|hs|hs|hs|hs|hs|hs|hs
 ·rw[hs] at hr ⊢; rw[aI (by rw[hs]; decide)]; exact UE i hs hr hg
 ·rw[hs] at hr ⊢; rw[aI (by rw[hs]; decide)]; exact UF i hs hr hg
 ·rw[hs] at hr ⊢; rw[aI (by rw[hs]; decide)]; exact UG i hs hr hg
 ·rw[hs] at hr ⊢; rw[aI (by rw[hs]; decide)]; exact UH i hs hr hg
 ·rw[hs] at hr ⊢; rw[aI (by rw[hs]; decide)]; exact UI i hs hr hg
 ·rw[hs] at hr ⊢; rw[aI (by rw[hs]; decide)]; exact UJ i hs hr hg
 ·rw[hs] at hr ⊢; rw[aI (by rw[hs]; decide)]; exact UK i hs hr hg
 ·rw[hs] at hr ⊢; rw[aI (by rw[hs]; decide)]; exact UL i hs hr hg
 ·rw[hs] at hr ⊢; rw[aI (by rw[hs]; decide)]; exact UM i hs hr hg
 ·rw[hs] at hr ⊢; rw[aI (by rw[hs]; decide)]; exact Ll i hs hr hg
 ·rw[hs] at hr ⊢; rw[aI (by rw[hs]; decide)]; exact Lm i hs hr hg
 ·rw[hs] at hr ⊢; rw[aI (by rw[hs]; decide)]; exact Ln i hs hr hg
 ·rw[hs] at hr ⊢; rw[aI (by rw[hs]; decide)]; exact Lo i hs hr hg
 ·rw[hs] at hr ⊢; rw[aI (by rw[hs]; decide)]; exact Lp i hs hr hg
 ·rw[hs] at hr ⊢; rw[aI (by rw[hs]; decide)]; exact Lq i hs hr hg
 ·rw[hs] at hr ⊢; rw[aI (by rw[hs]; decide)]; exact Lr i hs hr hg
 ·rw[hs] at hr ⊢; rw[aI (by rw[hs]; decide)]; exact Ls i hs hr hg
 ·rw[hs] at hr ⊢; rw[aI (by rw[hs]; decide)]; exact Lt i hs hr hg
 ·rw[hs] at hr ⊢; rw[aI (by rw[hs]; decide)]; exact Lu i hs hr hg
 ·rw[hs] at hr ⊢; rw[aI (by rw[hs]; decide)]; exact Lv i hs hr hg
 ·rw[hs] at hr ⊢; rw[aI (by rw[hs]; decide)]; exact Lw i hs hr hg
 ·rw[hs] at hr ⊢; rw[aI (by rw[hs]; decide)]; exact Lx i hs hr hg
 ·rw[hs] at hr ⊢; rw[aI (by rw[hs]; decide)]; exact Ly i hs hr hg
 ·rw[hs] at hr ⊢; rw[aI (by rw[hs]; decide)]; exact Lz i hs hr hg
 ·rw[hs] at hr ⊢; rw[aI (by rw[hs]; decide)]; exact LA i hs hr hg
 ·rw[hs] at hr ⊢; rw[aI (by rw[hs]; decide)]; exact LB i hs hr hg
 ·rw[hs] at hr ⊢; rw[aI (by rw[hs]; decide)]; exact LC i hs hr hg
 ·rw[hs] at hr ⊢; rw[aI (by rw[hs]; decide)]; exact LD i hs hr hg
 ·rw[hs] at hr ⊢; rw[aI (by rw[hs]; decide)]; exact LF i hs hr hg
 ·rw[hs] at hr ⊢; rw[aI (by rw[hs]; decide)]; exact LG i hs hr hg
 ·rw[hs] at hr ⊢; rw[aI (by rw[hs]; decide)]; exact LH i hs hr hg
 ·rw[hs] at hr ⊢; rw[aI (by rw[hs]; decide)]; exact LI i hs hr hg
 ·rw[hs] at hr ⊢; rw[aI (by rw[hs]; decide)]; exact LJ i hs hr hg
 ·rw[hs] at hr ⊢; exact LK i hs hr
def LL (f w:Int):IN:=⟨f,0+aa w 0 3*2 ^ 0,0,0+aa w 3 3*2 ^ 0,0,if 1 < f/\0+aa w 6 5*2 ^ 0=0 then 32 else 0+aa w 6 5*2 ^ 0,0,0,0,0,0⟩
theorem Zp {f w:Int} (h:ae f=1):aW f w=LL f w:=by
 unfold aW; rw[h]
 exact aZ rfl rfl rfl rfl rfl (OQ) rfl (bP (K:=1) (k:=xV 1 w 5) (by decide)) rfl rfl rfl
def LM (f w:Int):IN:=⟨f,0+aa w 0 3*2 ^ 0,0+aa w 3 3*2 ^ 0,0+aa w 6 3*2 ^ 0,0,0,0,0,0,0,0⟩
theorem Zq {f w:Int} (h:ae f=2):aW f w=LM f w:=by
 unfold aW; rw[h]
 exact aZ rfl rfl rfl rfl rfl (bu (K:=2) (f:=f) (by decide)) rfl (bP (K:=2) (k:=xV 2 w 5) (by decide)) rfl rfl rfl
def LN (f w:Int):IN:=⟨f,0+aa w 0 3*2 ^ 0,0+aa w 3 3*2 ^ 0,0,0,0+aa w 6 3*2 ^ 0,0,0,0,0,0⟩
theorem Zr {f w:Int} (h:ae f=3):aW f w=LN f w:=by
 unfold aW; rw[h]
 exact aZ rfl rfl rfl rfl rfl (bu (K:=3) (f:=f) (by decide)) rfl (bP (K:=3) (k:=xV 3 w 5) (by decide)) rfl rfl rfl
def LO (f w:Int):IN:=⟨f,0+aa w 8 3*2 ^ 0,0,0,0,0+aa w 0 8*2 ^ 0,0,0,0,0,0⟩
theorem Zs {f w:Int} (h:ae f=4):aW f w=LO f w:=by
 unfold aW; rw[h]
 exact aZ rfl rfl rfl rfl rfl (bu (K:=4) (f:=f) (by decide)) rfl (bP (K:=4) (k:=xV 4 w 5) (by decide)) rfl rfl rfl
def LP (f w:Int):IN:=⟨f,0+aa w 0 3*2 ^ 0,0,0+aa w 3 3*2 ^ 0,0,0,0,0,0,0,0⟩
theorem Zt {f w:Int} (h:ae f=5):aW f w=LP f w:=by
 unfold aW; rw[h]
 exact aZ rfl rfl rfl rfl rfl (bu (K:=5) (f:=f) (by decide)) rfl (bP (K:=5) (k:=xV 5 w 5) (by decide)) rfl rfl rfl
def LQ (f w:Int):IN:=⟨f,0+aa w 7 1*2 ^ 3+aa w 0 3*2 ^ 0,0,0+aa w 3 4*2 ^ 0,0,0,0,0,0,0,0⟩
theorem Zu {f w:Int} (h:ae f=6):aW f w=LQ f w:=by
 unfold aW; rw[h]
 exact aZ rfl rfl rfl rfl rfl (bu (K:=6) (f:=f) (by decide)) rfl (bP (K:=6) (k:=xV 6 w 5) (by decide)) rfl rfl rfl
def LR (f w:Int):IN:=⟨f,0,0,0+aa w 3 4*2 ^ 0,0,0,0,0,0,0,0⟩
theorem Zv {f w:Int} (h:ae f=7):aW f w=LR f w:=by
 unfold aW; rw[h]
 exact aZ rfl rfl rfl rfl rfl (bu (K:=7) (f:=f) (by decide)) rfl (bP (K:=7) (k:=xV 7 w 5) (by decide)) rfl rfl rfl
def LS (f w:Int):IN:=⟨f,0+aa w 8 3*2 ^ 0,0,0,0,0+aa w 0 8*2 ^ 2,0,0,0,0,0⟩
theorem Zw {f w:Int} (h:ae f=8):aW f w=LS f w:=by
 unfold aW; rw[h]
 exact aZ rfl rfl rfl rfl rfl (bu (K:=8) (f:=f) (by decide)) rfl (bP (K:=8) (k:=xV 8 w 5) (by decide)) rfl rfl rfl
def LU (f w:Int):IN:=⟨f,0+aa w 0 3*2 ^ 0,0+aa w 3 3*2 ^ 0,0,0,0+aa w 6 5*2 ^ 2,0,0,0,0,0⟩
theorem Zx {f w:Int} (h:ae f=9):aW f w=LU f w:=by
 unfold aW; rw[h]
 exact aZ rfl rfl rfl rfl rfl (bu (K:=9) (f:=f) (by decide)) rfl (bP (K:=9) (k:=xV 9 w 5) (by decide)) rfl rfl rfl
def Cr (f w:Int):IN:=⟨f,0,0,0,0,0+aa w 0 7*2 ^ 2,0,0,0,0,0⟩
theorem OR {f w:Int} (h:ae f=10):aW f w=Cr f w:=by
 unfold aW; rw[h]
 exact aZ rfl rfl rfl rfl rfl (bu (K:=10) (f:=f) (by decide)) rfl (bP (K:=10) (k:=xV 10 w 5) (by decide)) rfl rfl rfl
def Cs (f w:Int):IN:=⟨f,0,0,0,0,0,0,0,0,0,0+aa w 8 1*2 ^ 14+aa w 0 8*2 ^ 0⟩
theorem OS {f w:Int} (h:ae f=11):aW f w=Cs f w:=by
 unfold aW; rw[h]
 exact aZ rfl rfl rfl rfl rfl (bu (K:=11) (f:=f) (by decide)) rfl (bP (K:=11) (k:=xV 11 w 5) (by decide)) rfl rfl rfl
def Ct (f w:Int):IN:=⟨f,0,0,0,0,0,0,0,0,0,0+aa w 8 1*2 ^ 15+aa w 0 8*2 ^ 0⟩
theorem OT {f w:Int} (h:ae f=12):aW f w=Ct f w:=by
 unfold aW; rw[h]
 exact aZ rfl rfl rfl rfl rfl (bu (K:=12) (f:=f) (by decide)) rfl (bP (K:=12) (k:=xV 12 w 5) (by decide)) rfl rfl rfl
def Cu (f w:Int):IN:=⟨f,0,0,0,0,0,0,0,0,0,0⟩
theorem OU {f w:Int} (h:ae f=13):aW f w=Cu f w:=by
 unfold aW; rw[h]
 exact aZ rfl rfl rfl rfl rfl (bu (K:=13) (f:=f) (by decide)) rfl (bP (K:=13) (k:=xV 13 w 5) (by decide)) rfl rfl rfl
def Cv (f w:Int):IN:=⟨f,0,0,0,0,0+aa w 0 8*2 ^ 0,0,0,0,0,0⟩
theorem OV {f w:Int} (h:ae f=14):aW f w=Cv f w:=by
 unfold aW; rw[h]
 exact aZ rfl rfl rfl rfl rfl (bu (K:=14) (f:=f) (by decide)) rfl (bP (K:=14) (k:=xV 14 w 5) (by decide)) rfl rfl rfl
def Cw (f w:Int):IN:=⟨f,0,0,0,0,cM (0+aa w 0 8*2 ^ 1) 9,0,0,0,0+aa w 8 4*2 ^ 0,0⟩
theorem OW {f w:Int} (h:ae f=15):aW f w=Cw f w:=by
 unfold aW; rw[h]
 exact aZ rfl rfl rfl rfl rfl (rfl) rfl (bP (K:=15) (k:=xV 15 w 5) (by decide)) rfl rfl rfl
def Cy (f w:Int):IN:=⟨f,0,0,0,0,cM (0+aa w 0 11*2 ^ 1) 12,0,0,0,0,0⟩
theorem OX {f w:Int} (h:ae f=16):aW f w=Cy f w:=by
 unfold aW; rw[h]
 exact aZ rfl rfl rfl rfl rfl (rfl) rfl (bP (K:=16) (k:=xV 16 w 5) (by decide)) rfl rfl rfl
def Cz (f w:Int):IN:=⟨f,0+aa w 8 4*2 ^ 0,0,0,0,0+aa w 26 1*2 ^ 11+aa w 16 4*2 ^ 12+aa w 12 3*2 ^ 8+aa w 0 8*2 ^ 0,0,0,0,0,0⟩
theorem OY {f w:Int} (h:ae f=17):aW f w=Cz f w:=by
 unfold aW; rw[h]
 exact aZ rfl rfl rfl rfl rfl (bu (K:=17) (f:=f) (by decide)) rfl (bP (K:=17) (k:=xV 17 w 5) (by decide)) rfl rfl rfl
def yN (f w:Int):IN:=⟨f,0+aa w 8 4*2 ^ 0,0+aa w 16 4*2 ^ 0,0,0,0+aa w 26 1*2 ^ 11+aa w 12 3*2 ^ 8+aa w 0 8*2 ^ 0,0,0,0+aa w 20 1*2 ^ 0,0,0⟩
theorem OZ {f w:Int} (h:ae f=18):aW f w=yN f w:=by
 unfold aW; rw[h]
 exact aZ rfl rfl rfl rfl rfl (bu (K:=18) (f:=f) (by decide)) rfl (bP (K:=18) (k:=xV 18 w 5) (by decide)) rfl rfl rfl
def yO (f w:Int):IN:=⟨f,0+aa w 8 4*2 ^ 0,0,0,0,0+aa w 26 1*2 ^ 11+aa w 12 3*2 ^ 8+aa w 0 8*2 ^ 0,0,0,0+aa w 20 1*2 ^ 0,0,0⟩
theorem O0 {f w:Int} (h:ae f=19):aW f w=yO f w:=by
 unfold aW; rw[h]
 exact aZ rfl rfl rfl rfl rfl (bu (K:=19) (f:=f) (by decide)) rfl (bP (K:=19) (k:=xV 19 w 5) (by decide)) rfl rfl rfl
def yP (f w:Int):IN:=⟨f,0,0+aa w 16 4*2 ^ 0,0,0,0+aa w 26 1*2 ^ 11+aa w 12 3*2 ^ 8+aa w 0 8*2 ^ 0,0,0,0,0,0⟩
theorem O1 {f w:Int} (h:ae f=20):aW f w=yP f w:=by
 unfold aW; rw[h]
 exact aZ rfl rfl rfl rfl rfl (bu (K:=20) (f:=f) (by decide)) rfl (bP (K:=20) (k:=xV 20 w 5) (by decide)) rfl rfl rfl
def yQ (f w:Int):IN:=⟨f,0+aa w 8 4*2 ^ 0,0+aa w 16 4*2 ^ 0,0+aa w 0 4*2 ^ 0,0,0,0+aa w 4 2*2 ^ 0,if 0+aa w 12 3*2 ^ 2+aa w 6 2*2 ^ 0=0/\(0+aa w 4 2*2 ^ 0=1\/0+aa w 4 2*2 ^ 0=2) then 32 else 0+aa w 12 3*2 ^ 2+aa w 6 2*2 ^ 0,0+aa w 20 1*2 ^ 0,0,0⟩
theorem O2 {f w:Int} (h:ae f=21):aW f w=yQ f w:=by
 unfold aW; rw[h]
 exact aZ rfl rfl rfl rfl rfl (bu (K:=21) (f:=f) (by decide)) rfl (uR (K:=21) (by decide)) rfl rfl rfl
def yR (f w:Int):IN:=⟨f,0+aa w 8 4*2 ^ 0,0,0+aa w 0 4*2 ^ 0,0,0,0+aa w 4 2*2 ^ 0,if 0+aa w 12 3*2 ^ 2+aa w 6 2*2 ^ 0=0/\(0+aa w 4 2*2 ^ 0=1\/0+aa w 4 2*2 ^ 0=2) then 32 else 0+aa w 12 3*2 ^ 2+aa w 6 2*2 ^ 0,0+aa w 20 1*2 ^ 0,0,0⟩
theorem O3 {f w:Int} (h:ae f=22):aW f w=yR f w:=by
 unfold aW; rw[h]
 exact aZ rfl rfl rfl rfl rfl (bu (K:=22) (f:=f) (by decide)) rfl (uR (K:=22) (by decide)) rfl rfl rfl
def yS (f w:Int):IN:=⟨f,0,0+aa w 16 4*2 ^ 0,0+aa w 0 4*2 ^ 0,0,0,0+aa w 4 2*2 ^ 0,if 0+aa w 12 3*2 ^ 2+aa w 6 2*2 ^ 0=0/\(0+aa w 4 2*2 ^ 0=1\/0+aa w 4 2*2 ^ 0=2) then 32 else 0+aa w 12 3*2 ^ 2+aa w 6 2*2 ^ 0,0,0,0⟩
theorem O4 {f w:Int} (h:ae f=23):aW f w=yS f w:=by
 unfold aW; rw[h]
 exact aZ rfl rfl rfl rfl rfl (bu (K:=23) (f:=f) (by decide)) rfl (uR (K:=23) (by decide)) rfl rfl rfl
def yT (f w:Int):IN:=⟨f,0+aa w 8 4*2 ^ 0,0+aa w 16 4*2 ^ 0,0,0,0+aa w 26 1*2 ^ 11+aa w 12 3*2 ^ 8+aa w 0 8*2 ^ 0,0,0,0,0,0⟩
theorem O5 {f w:Int} (h:ae f=24):aW f w=yT f w:=by
 unfold aW; rw[h]
 exact aZ rfl rfl rfl rfl rfl (bu (K:=24) (f:=f) (by decide)) rfl (bP (K:=24) (k:=xV 24 w 5) (by decide)) rfl rfl rfl
def CA (f w:Int):IN:=⟨f,0+aa w 12 4*2 ^ 0,0+aa w 16 4*2 ^ 0,0,0,0+aa w 0 12*2 ^ 0,0,0,0,0,0⟩
theorem O6 {f w:Int} (h:ae f=25):aW f w=CA f w:=by
 unfold aW; rw[h]
 exact aZ rfl rfl rfl rfl rfl (bu (K:=25) (f:=f) (by decide)) rfl (bP (K:=25) (k:=xV 25 w 5) (by decide)) rfl rfl rfl
def CB (f w:Int):IN:=⟨f,0+aa w 12 4*2 ^ 0,0+aa w 16 4*2 ^ 0,0+aa w 0 4*2 ^ 0,0,0,0,0+aa w 4 2*2 ^ 0,0,0,0⟩
theorem O7 {f w:Int} (h:ae f=26):aW f w=CB f w:=by
 unfold aW; rw[h]
 exact aZ rfl rfl rfl rfl rfl (bu (K:=26) (f:=f) (by decide)) rfl (bP (K:=26) (k:=xV 26 w 5) (by decide)) rfl rfl rfl
def CC (f w:Int):IN:=⟨f,0+aa w 8 4*2 ^ 0,0+aa w 16 4*2 ^ 0,0+aa w 0 4*2 ^ 0,0,0,0,0,0+aa w 20 1*2 ^ 0,0,0⟩
theorem O8 {f w:Int} (h:ae f=27):aW f w=CC f w:=by
 unfold aW; rw[h]
 exact aZ rfl rfl rfl rfl rfl (bu (K:=27) (f:=f) (by decide)) rfl (bP (K:=27) (k:=xV 27 w 5) (by decide)) rfl rfl rfl
def CD (f w:Int):IN:=⟨f,0+aa w 8 4*2 ^ 0,0+aa w 16 4*2 ^ 0,0+aa w 0 4*2 ^ 0,0,0,0,0,0,0,0⟩
theorem O9 {f w:Int} (h:ae f=28):aW f w=CD f w:=by
 unfold aW; rw[h]
 exact aZ rfl rfl rfl rfl rfl (bu (K:=28) (f:=f) (by decide)) rfl (bP (K:=28) (k:=xV 28 w 5) (by decide)) rfl rfl rfl
def CE (f w:Int):IN:=⟨f,0+aa w 8 4*2 ^ 0,0+aa w 16 4*2 ^ 0,0+aa w 0 4*2 ^ 0,0+aa w 12 4*2 ^ 0,0,0,0,0,0,0⟩
theorem O' {f w:Int} (h:ae f=29):aW f w=CE f w:=by
 unfold aW; rw[h]
 exact aZ rfl rfl rfl rfl rfl (bu (K:=29) (f:=f) (by decide)) rfl (bP (K:=29) (k:=xV 29 w 5) (by decide)) rfl rfl rfl
def CF (f w:Int):IN:=⟨f,0+aa w 8 4*2 ^ 0,0+aa w 16 4*2 ^ 0,0+aa w 0 4*2 ^ 0,0+aa w 12 4*2 ^ 0,0,0,0,0,0,0⟩
theorem O_ {f w:Int} (h:ae f=30):aW f w=CF f w:=by
 unfold aW; rw[h]
 exact aZ rfl rfl rfl rfl rfl (bu (K:=30) (f:=f) (by decide)) rfl (bP (K:=30) (k:=xV 30 w 5) (by decide)) rfl rfl rfl
def CG (f w:Int):IN:=⟨f,0+aa w 12 4*2 ^ 0,0+aa w 16 4*2 ^ 0,0+aa w 0 4*2 ^ 0,0+aa w 8 4*2 ^ 0,0,0,0,0,0,0⟩
theorem Pa {f w:Int} (h:ae f=31):aW f w=CG f w:=by
 unfold aW; rw[h]
 exact aZ rfl rfl rfl rfl rfl (bu (K:=31) (f:=f) (by decide)) rfl (bP (K:=31) (k:=xV 31 w 5) (by decide)) rfl rfl rfl
def CH (f w:Int):IN:=⟨f,0+aa w 8 4*2 ^ 0,0,aa w 0 4,0,0,0,0,0,0,0⟩
theorem Pb {f w:Int} (h:ae f=32):aW f w=CH f w:=by
 unfold aW; rw[h]
 exact aZ rfl rfl rfl rfl rfl (bu (K:=32) (f:=f) (by decide)) rfl (bP (K:=32) (k:=xV 32 w 5) (by decide)) rfl rfl rfl
def CI (f w:Int):IN:=⟨f,0,0,0,0,cM (0+aa w 26 1*2 ^ 20+aa w 16 6*2 ^ 12+aa w 13 1*2 ^ 18+aa w 11 1*2 ^ 19+aa w 0 11*2 ^ 1) 21,0,0,0,0+aa w 22 4*2 ^ 0,0⟩
theorem Pc {f w:Int} (h:ae f=33):aW f w=CI f w:=by
 unfold aW; rw[h]
 exact aZ rfl rfl rfl rfl rfl (rfl) rfl (bP (K:=33) (k:=xV 33 w 5) (by decide)) rfl rfl rfl
def CJ (f w:Int):IN:=⟨f,0,0,0,0,cM (aB (0+aa w 26 1*2 ^ 24+aa w 16 10*2 ^ 12+aa w 13 1*2 ^ 23+aa w 11 1*2 ^ 22+aa w 0 11*2 ^ 1) 2) 25,0,0,0,0,0⟩
theorem Pd {f w:Int} (h:ae f=34):aW f w=CJ f w:=by
 unfold aW; rw[h]
 exact aZ rfl rfl rfl rfl rfl (rfl) rfl (bP (K:=34) (k:=xV 34 w 5) (by decide)) rfl rfl rfl
def aP (x:Int):Prop:=0<=x/\x<=4294967295
theorem jY {x:Int} (hx:0<=x) (l w:Nat):yA x l w=aa x l w:=by unfold yA aa; rw[if_neg (by omega)]
theorem yU (n:Nat) (h:n<=64):Ev.aD .i64 (n:Int)=2 ^ n:=by
 unfold Ev.aD
 rw[Int.toNat_natCast,show min n (IntKind.bits .i64)=n from Nat.min_eq_left h]
 norm_cast
theorem q1:Ev.aD .i64 1=2:=by decide
theorem q4:Ev.aD .i64 4=16:=by decide
theorem q8:Ev.aD .i64 8=256:=by decide
theorem q11:Ev.aD .i64 11=2048:=by decide
theorem Wb:Ev.aD .i64 12=4096:=by decide
theorem q18:Ev.aD .i64 18=262144:=by decide
theorem q19:Ev.aD .i64 19=524288:=by decide
theorem q20:Ev.aD .i64 20=1048576:=by decide
theorem q22:Ev.aD .i64 22=4194304:=by decide
theorem q23:Ev.aD .i64 23=8388608:=by decide
theorem q24:Ev.aD .i64 24=16777216:=by decide
theorem q3:Ev.aD .i64 3=8:=by decide
theorem r1:Ev.aD .u32 1=2:=by decide
theorem r3:Ev.aD .u32 3=8:=by decide
theorem r4:Ev.aD .u32 4=16:=by decide
theorem r6:Ev.aD .u32 6=64:=by decide
theorem r7:Ev.aD .u32 7=128:=by decide
theorem r8:Ev.aD .u32 8=256:=by decide
theorem r11:Ev.aD .u32 11=2048:=by decide
theorem Pe:Ev.aD .u32 12=4096:=by decide
theorem r13:Ev.aD .u32 13=8192:=by decide
theorem Pf:Ev.aD .u32 16=65536:=by decide
theorem r20:Ev.aD .u32 20=1048576:=by decide
theorem r22:Ev.aD .u32 22=4194304:=by decide
theorem r26:Ev.aD .u32 26=67108864:=by decide
theorem aJ (x:Int) (l w:Nat) (hx:aP x) (hw:1<=w/\w<=31) (hl:l<=31):ah gT 167 [.int .u32 x,.int .i64 ((l:Int)+w - 1),.int .i64 l] (.int .i64 (aa x l w)):=by
 have b:=ab x l w
 have p:=sL w hw.2
 have c:=jY hx.1 l w
 refine Spec.enter ar P167 100 Tryz.func167 rfl (by kernel_rfl) ?_
 refine (jV x l w hx hw hl).u ?_
 rw[c]
 refine li ?_
 exact ao rfl
theorem jo (n:Int) (b:Nat) (hb:b<=40) (hn:0<=n/\n < 2 ^ (b+1)):ah gT 170 [.int .i64 n,.int .i64 b] (.int .i64 (cM n (b+1))):=by
 have p1:=yU b (by omega)
 have p2:=yU (b+1) (by omega)
 have e:(((b+1:Nat)):Int)=(b:Int)+1:=rfl
 rw[e] at p2
 have d1:=fF b (by omega)
 have d2:=fF (b+1) (by omega)
 have ep:(2:Int) ^ (b+1)=2 ^ b*2:=Int.pow_succ 2 b
 have d3:(2:Int) ^ (b+1)<=2199023255552:=by
  have h1:(2 ^ (b+1):Nat)<=2 ^ 41:=Nat.pow_le_pow_right (by omega) (by omega)
  have h3:=cl (b+1)
  omega
 obtain⟨q,hq⟩:∃ q,q=n / 2 ^ b:=⟨_,rfl⟩
 have q0:0<=q:=by rw[hq]; exact Int.ediv_nonneg hn.1 (by omega)
 have q1:q < 2:=by rw[hq]; exact Int.ediv_lt_of_lt_mul (by omega) (by omega)
 refine Spec.enter ar P170 100 Tryz.func170 rfl (by kernel_rfl) ?_
 refine⟨by omega,?_⟩
 refine li ?_ (show _<=(b:Int)+1/\(b:Int)+1<=_ by omega)
 have hm:n / 2 ^ b*2 ^ (b+1)=0\/n / 2 ^ b*2 ^ (b+1)=2 ^ (b+1):=by
  rw[← hq]
  have:q=0\/q=1:=by omega
  rcases this with h|h<;>rw[h]<;>omega
 refine⟨by omega,.inl ⟨ax (show _<=n / Ev.aD .i64 (b:Int)*Ev.aD .i64 ((b:Int)+1)/\n / Ev.aD .i64 (b:Int)*Ev.aD .i64 ((b:Int)+1)<=_ by rw[p1,p2]; omega),?_⟩⟩
 refine li ?_ (show _<=n - n / Ev.aD .i64 (b:Int)*Ev.aD .i64 ((b:Int)+1)/\n - n / Ev.aD .i64 (b:Int)*Ev.aD .i64 ((b:Int)+1)<=_ by rw[p1,p2]; omega)
 refine ao ?_
 show n - n / Ev.aD .i64 (b:Int)*Ev.aD .i64 ((b:Int)+1)=cM n (b+1)
 have eb:aa n b 1=q:=by
  unfold aa
  rw[if_neg (by omega),← hq,show (2:Int) ^ 1=2 from rfl]
  omega
 unfold cM
 rw[p1,p2,Nat.add_sub_cancel,eb,← hq]
 have:q=0\/q=1:=by omega
 rcases this with h|h<;>rw[h]
 ·rw[if_neg (by decide)]; omega
 ·rw[if_pos rfl]; omega
theorem fg (k b:Int):ah gT 168 [.int .i64 k,.int .i64 b] (.int .i64 (if b=0/\(k=1\/k=2) then 32 else b)):=by
 refine Spec.enter ar P168 100 Tryz.func168 rfl (by kernel_rfl) ?_
 repeat' ((conv=>whnf); first|(refine (And.intro (fun _=>?_) (fun _=>?_):(_->_)/\(_->_))<;>(first|(exfalso; first|contradiction|omega)|skip))|refine Or.inl (And.intro (by first|exact ax (by omega)|exact af (by omega)|exact bV (by omega)|exact cK (by omega)) ?_)|(refine And.intro (show (_:Int)≠0 by omega) (Or.inl (And.intro (show (0:Int)<=_ by omega) (And.intro (show (0:Int) < _ by omega) ?_))))|(refine And.intro (show (_:Int)≠0 by omega) (Or.inl (And.intro (show (0:Int)<=_ by omega) (And.intro (by first|exact (show (_:Int)<=9223372036854775807 by omega)|exact (show (_:Int)<=4294967295 by omega)) (And.intro (show (0:Int) < _ by omega) ?_)))))|(refine ao ?_; (show b=_); rw[if_neg (by omega)])|(refine ao ?_; (show (32:Int)=_); rw[if_pos (by omega)])|(intro _))
def bZ (i:IN) (w:Int):IN:={i with set:=aa w 20 1,rn:=aa w 16 4,rd:=aa w 8 4,rm:=aa w 0 4}
theorem bx (i:IN) (w:Int) (hw:aP w):ah gT 171 [bX i,.int .u32 w] (bX (bZ i w)):=by
 refine Spec.enter ar P171 100 Tryz.func171 rfl (by kernel_rfl) ?_
 refine (aJ w 20 1 hw (by decide) (by decide)).u ?_
 refine (aJ w 16 4 hw (by decide) (by decide)).u ?_
 refine (aJ w 8 4 hw (by decide) (by decide)).u ?_
 refine (aJ w 0 4 hw (by decide) (by decide)).u ?_
 exact rA
def cC (i:IN) (w:Int):IN:={i with rd:=aa w 0 3,rn:=aa w 3 3}
theorem nK (i:IN) (w:Int) (hw:aP w):ah gT 169 [bX i,.int .u32 w] (bX (cC i w)):=by
 refine Spec.enter ar P169 100 Tryz.func169 rfl (by kernel_rfl) ?_
 refine (aJ w 0 3 hw (by decide) (by decide)).u ?_
 refine (aJ w 3 3 hw (by decide) (by decide)).u ?_
 exact rA
theorem mF (a b:Int) (ha:a=0\/a=1) (hb:b=0\/b=1):ah gT 196 [.int .u32 a,.int .u32 b] (.int .u32 (if a=b then 1 else 0)):=by
 refine Spec.enter ar P196 100 Tryz.func196 rfl (by kernel_rfl) ?_
 refine ao ?_
 show bits .xor .u32 (bits .xor .u32 1 a) b=_
 rcases ha with rfl|rfl<;>rcases hb with rfl|rfl<;>decide
theorem Ej (a b:Int) (ha:0<=a/\a<=4294967295) (hb:0<=b/\b<=4294967295):bits .or .i64 a b=bits .or .i64 b a:=by
 have ea:a=(a.toNat:Int):=by omega
 have eb:b=(b.toNat:Int):=by omega
 rw[ea,eb,Rm.rb _ _ (by omega) (by omega),Rm.rb _ _ (by omega) (by omega),Nat.or_comm]
def eI (w:Int):Int:=aa w 26 1*2048+aa w 12 3*256+aa w 0 8
theorem UO (w:Int):0<=eI w/\eI w < 4096:=by
 have b1:=ab w 26 1
 have b2:=ab w 12 3
 have b3:=ab w 0 8
 unfold eI; omega
theorem HH (w:Int):bits .or .i64 (bits .or .i64 (aa w 26 1*2048) (aa w 12 3*256)) (aa w 0 8)=eI w:=by
 have b1:=ab w 26 1
 have b2:=ab w 12 3
 have b3:=ab w 0 8
 rw[Rm.df (aa w 26 1*2048) (aa w 12 3*256) 11 (by omega) (by omega) (by omega) (by omega) (by omega) (by omega)]
 rw[Rm.df (aa w 26 1*2048+aa w 12 3*256) (aa w 0 8) 8 (by omega) (by omega) (by omega) (by omega) (by omega) (by omega)]
 rfl
theorem oQ (w:Int) (hw:aP w):ah gT 172 [.int .u32 w,.ff] (.int .i64 (eI w)):=by
 have b1:=ab w 26 1
 have b2:=ab w 12 3
 have b3:=ab w 0 8
 refine Spec.enter ar Xt 100 Tryz.func172 rfl (by kernel_rfl) ?_
 refine (aJ w 26 1 hw (by decide) (by decide)).u ?_
 refine⟨by decide,.inl ⟨ax (by rw[q11]; omega),?_⟩⟩
 refine (aJ w 12 3 hw (by decide) (by decide)).u ?_
 refine⟨by decide,.inl ⟨ax (by rw[q8]; omega),?_⟩⟩
 refine (aJ w 0 8 hw (by decide) (by decide)).u ?_
 refine ao ?_
 show bits .or .i64 (bits .or .i64 (aa w 26 1*Ev.aD .i64 11) (aa w 12 3*Ev.aD .i64 8)) (aa w 0 8)=eI w
 rw[q11,q8,HH]
theorem HI (w:Int) (hw:aP w):ah gT 172 [.int .u32 w,.tt] (.int .i64 (eI w+aa w 16 4*4096)):=by
 have b1:=ab w 26 1
 have b2:=ab w 12 3
 have b3:=ab w 0 8
 have b4:=ab w 16 4
 refine Spec.enter ar Xt 100 Tryz.func172 rfl (by kernel_rfl) ?_
 refine (aJ w 26 1 hw (by decide) (by decide)).u ?_
 refine⟨by decide,.inl ⟨ax (by rw[q11]; omega),?_⟩⟩
 refine (aJ w 12 3 hw (by decide) (by decide)).u ?_
 refine⟨by decide,.inl ⟨ax (by rw[q8]; omega),?_⟩⟩
 refine (aJ w 0 8 hw (by decide) (by decide)).u ?_
 refine (aJ w 16 4 hw (by decide) (by decide)).u ?_
 refine⟨by decide,.inl ⟨ax (by rw[Wb]; omega),?_⟩⟩
 refine ao ?_
 show bits .or .i64 (bits .or .i64 (bits .or .i64 (aa w 26 1*Ev.aD .i64 11) (aa w 12 3*Ev.aD .i64 8)) (aa w 0 8)) (aa w 16 4*Ev.aD .i64 12)=_
 have nb:=UO w
 rw[q11,q8,Wb,HH,Ej _ _ (by omega) (by omega),Rm.df (aa w 16 4*4096) (eI w) 12 (by omega) (by omega) (by omega) (by omega) (by omega) (by omega)]
 omega
def sS (w:Int):Int:=0+aa w 26 1*2 ^ 20+aa w 16 6*2 ^ 12+aa w 13 1*2 ^ 18+aa w 11 1*2 ^ 19+aa w 0 11*2 ^ 1
theorem yV (w:Int) (hw:aP w):ah gT 175 [.int .u32 w] (.int .i64 (cM (sS w) 21)):=by
 have b1:=ab w 26 1
 have b2:=ab w 11 1
 have b3:=ab w 13 1
 have b4:=ab w 16 6
 have b5:=ab w 0 11
 refine Spec.enter ar P175 100 Tryz.func175 rfl (by kernel_rfl) ?_
 refine (aJ w 26 1 hw (by decide) (by decide)).u ?_
 refine⟨by decide,.inl ⟨ax (by rw[q20]; omega),?_⟩⟩
 refine (aJ w 11 1 hw (by decide) (by decide)).u ?_
 refine⟨by decide,.inl ⟨ax (by rw[q19]; omega),?_⟩⟩
 refine (aJ w 13 1 hw (by decide) (by decide)).u ?_
 refine⟨by decide,.inl ⟨ax (by rw[q18]; omega),?_⟩⟩
 refine (aJ w 16 6 hw (by decide) (by decide)).u ?_
 refine⟨by decide,.inl ⟨ax (by rw[Wb]; omega),?_⟩⟩
 refine (aJ w 0 11 hw (by decide) (by decide)).u ?_
 refine⟨by decide,.inl ⟨ax (by rw[q1]; omega),?_⟩⟩
 have e:bits .or .i64 (bits .or .i64 (bits .or .i64 (bits .or .i64 (aa w 26 1*Ev.aD .i64 20) (aa w 11 1*Ev.aD .i64 19)) (aa w 13 1*Ev.aD .i64 18)) (aa w 16 6*Ev.aD .i64 12)) (aa w 0 11*Ev.aD .i64 1)=sS w:=by
  rw[q20,q19,q18,Wb,q1]
  rw[Rm.df (aa w 26 1*1048576) (aa w 11 1*524288) 20 (by omega) (by omega) (by omega) (by omega) (by omega) (by omega)]
  rw[Rm.df (aa w 26 1*1048576+aa w 11 1*524288) (aa w 13 1*262144) 19 (by omega) (by omega) (by omega) (by omega) (by omega) (by omega)]
  rw[Rm.df (aa w 26 1*1048576+aa w 11 1*524288+aa w 13 1*262144) (aa w 16 6*4096) 18 (by omega) (by omega) (by omega) (by omega) (by omega) (by omega)]
  rw[Rm.df (aa w 26 1*1048576+aa w 11 1*524288+aa w 13 1*262144+aa w 16 6*4096) (aa w 0 11*2) 12 (by omega) (by omega) (by omega) (by omega) (by omega) (by omega)]
  unfold sS; omega
 have hb:0<=sS w/\sS w < 2 ^ (20+1):=by unfold sS; omega
 refine⟨[],aT,(jo (sS w) 20 (by decide) hb).use (And.intro e (And.intro rfl trivial)) rfl rfl ?_⟩
 exact ao rfl
def jZ (w:Int):Int:=0+aa w 26 1*2 ^ 24+aa w 16 10*2 ^ 12+aa w 13 1*2 ^ 23+aa w 11 1*2 ^ 22+aa w 0 11*2 ^ 1
theorem nL (w:Int):0<=jZ w/\jZ w < 33554432/\jZ w / 16777216=aa w 26 1/\jZ w / 8388608 % 2=aa w 13 1/\jZ w / 4194304 % 2=aa w 11 1/\jZ w % 4194304=aa w 16 10*4096+aa w 0 11*2:=by
 have b1:=ab w 26 1
 have b2:=ab w 11 1
 have b3:=ab w 13 1
 have b4:=ab w 16 10
 have b5:=ab w 0 11
 unfold jZ; omega
theorem A8 (w:Int):aB (jZ w) 2=aa w 26 1*16777216+(if aa w 13 1=aa w 26 1 then 1 else 0)*8388608+(if aa w 11 1=aa w 26 1 then 1 else 0)*4194304+aa w 16 10*4096+aa w 0 11*2:=by
 obtain⟨h0,h1,h2,h3,h4,h5⟩:=nL w
 have b:=mD ⟨h0,h1⟩
 have c:=mC ⟨h0,h1⟩
 have e:jZ w / 16777216 % 2=aa w 26 1:=by omega
 rw[h2,h3,h4,h5,← h2,h2] at b
 have e2:aa w 26 1 % 2=aa w 26 1:=by omega
 rw[e2] at b
 obtain⟨t,ht⟩:∃ t,t=aB (jZ w) 2:=⟨_,rfl⟩
 rw[← ht] at b c ⊢
 clear ht
 obtain⟨k1,k2,k3,k4⟩:=b
 rw[← k3,← k4]
 clear k3 k4
 omega
theorem yW (w:Int) (hw:aP w):ah gT 176 [.int .u32 w] (.int .i64 (cM (aB (jZ w) 2) 25)):=by
 have b1:=ab w 26 1
 have b2:=ab w 11 1
 have b3:=ab w 13 1
 have b4:=ab w 16 10
 have b5:=ab w 0 11
 have c1:yA w 26 1=aa w 26 1:=jY hw.1 26 1
 have c2:yA w 13 1=aa w 13 1:=jY hw.1 13 1
 have c3:yA w 11 1=aa w 11 1:=jY hw.1 11 1
 have s2:=mF (aa w 13 1) (aa w 26 1) (jB w 13) (jB w 26)
 have s3:=mF (aa w 11 1) (aa w 26 1) (jB w 11) (jB w 26)
 have k2:=jV w 26 1 hw (by decide) (by decide)
 have k3:=jV w 13 1 hw (by decide) (by decide)
 have k4:=jV w 11 1 hw (by decide) (by decide)
 rw[c1] at k2
 rw[c2] at k3
 rw[c3] at k4
 have jt:=A8 w
 obtain⟨m2,xA⟩:∃ m:Int,m=if aa w 13 1=aa w 26 1 then 1 else 0:=⟨_,rfl⟩
 obtain⟨m3,LV⟩:∃ m:Int,m=if aa w 11 1=aa w 26 1 then 1 else 0:=⟨_,rfl⟩
 have d2:0<=m2/\m2<=1:=by rw[xA]; split<;>omega
 have d3:0<=m3/\m3<=1:=by rw[LV]; split<;>omega
 rw[← xA] at s2 jt
 rw[← LV] at s3 jt
 refine Spec.enter ar P176 100 Tryz.func176 rfl (by kernel_rfl) ?_
 refine k2.u ?_
 refine li ?_
 refine⟨by decide,.inl ⟨ax (by rw[q24]; omega),?_⟩⟩
 refine k3.u ?_
 refine s2.u ?_
 refine li ?_
 refine⟨by decide,.inl ⟨ax (by rw[q23]; omega),?_⟩⟩
 refine k4.u ?_
 refine s3.u ?_
 refine li ?_
 refine⟨by decide,.inl ⟨ax (by rw[q22]; omega),?_⟩⟩
 refine (aJ w 16 10 hw (by decide) (by decide)).u ?_
 refine⟨by decide,.inl ⟨ax (by rw[Wb]; omega),?_⟩⟩
 refine (aJ w 0 11 hw (by decide) (by decide)).u ?_
 refine⟨by decide,.inl ⟨ax (by rw[q1]; omega),?_⟩⟩
 have e:bits .or .i64 (bits .or .i64 (bits .or .i64 (bits .or .i64 (aa w 26 1*Ev.aD .i64 24) (m2*Ev.aD .i64 23)) (m3*Ev.aD .i64 22)) (aa w 16 10*Ev.aD .i64 12)) (aa w 0 11*Ev.aD .i64 1)=aB (jZ w) 2:=by
  rw[q24,q23,q22,Wb,q1]
  rw[Rm.df (aa w 26 1*16777216) (m2*8388608) 24 (by omega) (by omega) (by omega) (by omega) (by omega) (by omega)]
  rw[Rm.df (aa w 26 1*16777216+m2*8388608) (m3*4194304) 23 (by omega) (by omega) (by omega) (by omega) (by omega) (by omega)]
  rw[Rm.df (aa w 26 1*16777216+m2*8388608+m3*4194304) (aa w 16 10*4096) 22 (by omega) (by omega) (by omega) (by omega) (by omega) (by omega)]
  rw[Rm.df (aa w 26 1*16777216+m2*8388608+m3*4194304+aa w 16 10*4096) (aa w 0 11*2) 12 (by omega) (by omega) (by omega) (by omega) (by omega) (by omega)]
  rw[jt]
 have hb:=mC ⟨(nL w).1,(nL w).2.1⟩
 refine⟨[],aT,(jo (aB (jZ w) 2) 24 (by decide) ⟨hb.1,by omega⟩).use (And.intro e (And.intro rfl trivial)) rfl rfl ?_⟩
 exact ao rfl
theorem ah.AK {G:Gx} {f:FuncId} {args:List PV} {r r':PV} (h:ah G f args r) (hle:AD r r'):ah G f args r':=by
 refine Spec.intro h.run.1 fun I β w vals hH hM hA=>?_
 refine (h.run.2 I β w vals hH hM hA).mono fun e w' ⟨v,r1,S',I',aN,he,hr,hi,Gz⟩=>?_
 subst hr
 exact⟨v,r',S',I',aN,he,rfl,hle _ _ _ _ hi,Gz⟩
theorem bI {f K:Int} (hf:fe f) (h:ae f=K):ah gT 59 [.int .i64 f] (.lit .i64 K) :=
 (iC f hf).AK (e9 (x:=.int .i64 (ae f)) (y:=.lit .i64 K) h)
theorem aw {f K:Int} (h:ae f=K):ah gT 149 [.int .i64 f] (.lit .i64 K) :=
 (fQ f).AK (e9 (x:=.int .i64 (ae f)) (y:=.lit .i64 K) h)
def CK (k:IntKind) (l:List Int):PV:=.agg (l.map (.int k))
def CL (k:IntKind) (l:List Int):PV:=.agg (l.map (.lit k))
theorem yX {w:World} {I:Nat->Prop} {k:IntKind}:∀ (l:List Int) (g o:Nat),dc w I (l.map (.int k)) g o->dc w I (l.map (.lit k)) g o
 | [],_,_,_=>by simp only[List.map,dc]
 | x::l,g,o,h=>by
  simp only[List.map,dc,PV.Is] at h ⊢
  exact⟨h.1,yX l g (o+1) h.2⟩
theorem yY {w:World} {I:Nat->Prop} {k:IntKind}:∀ (es:List (List Int)) (n g o:Nat),cr w I (es.map (CK k)) n g o->cr w I (es.map (CL k)) n g o
 | [],_,_,_,_=>by simp only[List.map,cr]
 | l::es,n,g,o,h=>by
  simp only[List.map,CK,CL,cr] at h ⊢
  exact⟨⟨by rw[List.length_map]; rw[List.length_map] at h; exact h.1.1,yX l g o h.1.2⟩,yY es n g (o+n) h.2⟩
theorem UP {k:IntKind} (n:Nat) (es:List (List Int)):AD (.sl n (es.map (CK k))) (.sl n (es.map (CL k))):=fun w I β v h=>by
 simp only[PV.Is,List.length_map] at h ⊢
 obtain⟨a,cap,h1,h2,h3,h4,h5⟩:=h
 exact⟨a,cap,h1,h2,h3,fun g o e=>yY es n g o (h4 g o e),h5⟩
theorem bq (s:Int) (es:List (List Int)) (e:(aq s).map Aa=es.map (CK .i64)):ah gT 81 [.int .i64 s] (.sl 4 (es.map (CL .i64))):=by
 have h:=lR s
 rw[e] at h
 exact h.AK (UP 4 es)
theorem yZ:ah gT 81 [.int .i64 1] (.sl 4 [.agg [.lit .i64 4,.lit .i64 0,.lit .i64 6,.lit .i64 5],.agg [.lit .i64 2,.lit .i64 0,.lit .i64 3,.lit .i64 3],.agg [.lit .i64 0,.lit .i64 0,.lit .i64 0,.lit .i64 3]]):=bq 1 [[4,0,6,5],[2,0,3,3],[0,0,0,3]] rfl
theorem y0:ah gT 81 [.int .i64 2] (.sl 4 [.agg [.lit .i64 2,.lit .i64 0,.lit .i64 6,.lit .i64 3],.agg [.lit .i64 1,.lit .i64 0,.lit .i64 3,.lit .i64 3],.agg [.lit .i64 0,.lit .i64 0,.lit .i64 0,.lit .i64 3]]):=bq 2 [[2,0,6,3],[1,0,3,3],[0,0,0,3]] rfl
theorem y1:ah gT 81 [.int .i64 3] (.sl 4 [.agg [.lit .i64 4,.lit .i64 0,.lit .i64 6,.lit .i64 3],.agg [.lit .i64 1,.lit .i64 0,.lit .i64 3,.lit .i64 3],.agg [.lit .i64 0,.lit .i64 0,.lit .i64 0,.lit .i64 3]]):=bq 3 [[4,0,6,3],[1,0,3,3],[0,0,0,3]] rfl
theorem y2:ah gT 81 [.int .i64 4] (.sl 4 [.agg [.lit .i64 0,.lit .i64 0,.lit .i64 8,.lit .i64 3],.agg [.lit .i64 4,.lit .i64 0,.lit .i64 0,.lit .i64 8]]):=bq 4 [[0,0,8,3],[4,0,0,8]] rfl
theorem y3:ah gT 81 [.int .i64 5] (.sl 4 [.agg [.lit .i64 2,.lit .i64 0,.lit .i64 3,.lit .i64 3],.agg [.lit .i64 0,.lit .i64 0,.lit .i64 0,.lit .i64 3]]):=bq 5 [[2,0,3,3],[0,0,0,3]] rfl
theorem y4:ah gT 81 [.int .i64 6] (.sl 4 [.agg [.lit .i64 0,.lit .i64 3,.lit .i64 7,.lit .i64 1],.agg [.lit .i64 2,.lit .i64 0,.lit .i64 3,.lit .i64 4],.agg [.lit .i64 0,.lit .i64 0,.lit .i64 0,.lit .i64 3]]):=bq 6 [[0,3,7,1],[2,0,3,4],[0,0,0,3]] rfl
theorem y6:ah gT 81 [.int .i64 7] (.sl 4 [.agg [.lit .i64 2,.lit .i64 0,.lit .i64 3,.lit .i64 4]]):=bq 7 [[2,0,3,4]] rfl
theorem y7:ah gT 81 [.int .i64 8] (.sl 4 [.agg [.lit .i64 0,.lit .i64 0,.lit .i64 8,.lit .i64 3],.agg [.lit .i64 4,.lit .i64 2,.lit .i64 0,.lit .i64 8]]):=bq 8 [[0,0,8,3],[4,2,0,8]] rfl
theorem y8:ah gT 81 [.int .i64 9] (.sl 4 [.agg [.lit .i64 4,.lit .i64 2,.lit .i64 6,.lit .i64 5],.agg [.lit .i64 1,.lit .i64 0,.lit .i64 3,.lit .i64 3],.agg [.lit .i64 0,.lit .i64 0,.lit .i64 0,.lit .i64 3]]):=bq 9 [[4,2,6,5],[1,0,3,3],[0,0,0,3]] rfl
theorem wu:ah gT 81 [.int .i64 10] (.sl 4 [.agg [.lit .i64 4,.lit .i64 2,.lit .i64 0,.lit .i64 7]]):=bq 10 [[4,2,0,7]] rfl
theorem wv:ah gT 81 [.int .i64 11] (.sl 4 [.agg [.lit .i64 9,.lit .i64 14,.lit .i64 8,.lit .i64 1],.agg [.lit .i64 9,.lit .i64 0,.lit .i64 0,.lit .i64 8]]):=bq 11 [[9,14,8,1],[9,0,0,8]] rfl
theorem wx:ah gT 81 [.int .i64 12] (.sl 4 [.agg [.lit .i64 9,.lit .i64 15,.lit .i64 8,.lit .i64 1],.agg [.lit .i64 9,.lit .i64 0,.lit .i64 0,.lit .i64 8]]):=bq 12 [[9,15,8,1],[9,0,0,8]] rfl
theorem wy:ah gT 81 [.int .i64 13] (.sl 4 []):=bq 13 [] rfl
theorem wz:ah gT 81 [.int .i64 14] (.sl 4 [.agg [.lit .i64 4,.lit .i64 0,.lit .i64 0,.lit .i64 8]]):=bq 14 [[4,0,0,8]] rfl
theorem wA:ah gT 81 [.int .i64 15] (.sl 4 [.agg [.lit .i64 8,.lit .i64 0,.lit .i64 8,.lit .i64 4],.agg [.lit .i64 4,.lit .i64 1,.lit .i64 0,.lit .i64 8]]):=bq 15 [[8,0,8,4],[4,1,0,8]] rfl
theorem wB:ah gT 81 [.int .i64 16] (.sl 4 [.agg [.lit .i64 4,.lit .i64 1,.lit .i64 0,.lit .i64 11]]):=bq 16 [[4,1,0,11]] rfl
theorem wC:ah gT 81 [.int .i64 17] (.sl 4 [.agg [.lit .i64 4,.lit .i64 11,.lit .i64 26,.lit .i64 1],.agg [.lit .i64 4,.lit .i64 12,.lit .i64 16,.lit .i64 4],.agg [.lit .i64 4,.lit .i64 8,.lit .i64 12,.lit .i64 3],.agg [.lit .i64 4,.lit .i64 0,.lit .i64 0,.lit .i64 8],.agg [.lit .i64 0,.lit .i64 0,.lit .i64 8,.lit .i64 4]]):=bq 17 [[4,11,26,1],[4,12,16,4],[4,8,12,3],[4,0,0,8],[0,0,8,4]] rfl
theorem wD:ah gT 81 [.int .i64 18] (.sl 4 [.agg [.lit .i64 4,.lit .i64 11,.lit .i64 26,.lit .i64 1],.agg [.lit .i64 4,.lit .i64 8,.lit .i64 12,.lit .i64 3],.agg [.lit .i64 4,.lit .i64 0,.lit .i64 0,.lit .i64 8],.agg [.lit .i64 7,.lit .i64 0,.lit .i64 20,.lit .i64 1],.agg [.lit .i64 1,.lit .i64 0,.lit .i64 16,.lit .i64 4],.agg [.lit .i64 0,.lit .i64 0,.lit .i64 8,.lit .i64 4]]):=bq 18 [[4,11,26,1],[4,8,12,3],[4,0,0,8],[7,0,20,1],[1,0,16,4],[0,0,8,4]] rfl
theorem wE:ah gT 81 [.int .i64 19] (.sl 4 [.agg [.lit .i64 4,.lit .i64 11,.lit .i64 26,.lit .i64 1],.agg [.lit .i64 4,.lit .i64 8,.lit .i64 12,.lit .i64 3],.agg [.lit .i64 4,.lit .i64 0,.lit .i64 0,.lit .i64 8],.agg [.lit .i64 7,.lit .i64 0,.lit .i64 20,.lit .i64 1],.agg [.lit .i64 0,.lit .i64 0,.lit .i64 8,.lit .i64 4]]):=bq 19 [[4,11,26,1],[4,8,12,3],[4,0,0,8],[7,0,20,1],[0,0,8,4]] rfl
theorem wF:ah gT 81 [.int .i64 20] (.sl 4 [.agg [.lit .i64 4,.lit .i64 11,.lit .i64 26,.lit .i64 1],.agg [.lit .i64 4,.lit .i64 8,.lit .i64 12,.lit .i64 3],.agg [.lit .i64 4,.lit .i64 0,.lit .i64 0,.lit .i64 8],.agg [.lit .i64 1,.lit .i64 0,.lit .i64 16,.lit .i64 4]]):=bq 20 [[4,11,26,1],[4,8,12,3],[4,0,0,8],[1,0,16,4]] rfl
theorem wG:ah gT 81 [.int .i64 21] (.sl 4 [.agg [.lit .i64 6,.lit .i64 2,.lit .i64 12,.lit .i64 3],.agg [.lit .i64 6,.lit .i64 0,.lit .i64 6,.lit .i64 2],.agg [.lit .i64 5,.lit .i64 0,.lit .i64 4,.lit .i64 2],.agg [.lit .i64 7,.lit .i64 0,.lit .i64 20,.lit .i64 1],.agg [.lit .i64 1,.lit .i64 0,.lit .i64 16,.lit .i64 4],.agg [.lit .i64 0,.lit .i64 0,.lit .i64 8,.lit .i64 4],.agg [.lit .i64 2,.lit .i64 0,.lit .i64 0,.lit .i64 4]]):=bq 21 [[6,2,12,3],[6,0,6,2],[5,0,4,2],[7,0,20,1],[1,0,16,4],[0,0,8,4],[2,0,0,4]] rfl
theorem wH:ah gT 81 [.int .i64 22] (.sl 4 [.agg [.lit .i64 6,.lit .i64 2,.lit .i64 12,.lit .i64 3],.agg [.lit .i64 6,.lit .i64 0,.lit .i64 6,.lit .i64 2],.agg [.lit .i64 5,.lit .i64 0,.lit .i64 4,.lit .i64 2],.agg [.lit .i64 7,.lit .i64 0,.lit .i64 20,.lit .i64 1],.agg [.lit .i64 0,.lit .i64 0,.lit .i64 8,.lit .i64 4],.agg [.lit .i64 2,.lit .i64 0,.lit .i64 0,.lit .i64 4]]):=bq 22 [[6,2,12,3],[6,0,6,2],[5,0,4,2],[7,0,20,1],[0,0,8,4],[2,0,0,4]] rfl
theorem wI:ah gT 81 [.int .i64 23] (.sl 4 [.agg [.lit .i64 6,.lit .i64 2,.lit .i64 12,.lit .i64 3],.agg [.lit .i64 6,.lit .i64 0,.lit .i64 6,.lit .i64 2],.agg [.lit .i64 5,.lit .i64 0,.lit .i64 4,.lit .i64 2],.agg [.lit .i64 1,.lit .i64 0,.lit .i64 16,.lit .i64 4],.agg [.lit .i64 2,.lit .i64 0,.lit .i64 0,.lit .i64 4]]):=bq 23 [[6,2,12,3],[6,0,6,2],[5,0,4,2],[1,0,16,4],[2,0,0,4]] rfl
theorem wJ:ah gT 81 [.int .i64 24] (.sl 4 [.agg [.lit .i64 4,.lit .i64 11,.lit .i64 26,.lit .i64 1],.agg [.lit .i64 4,.lit .i64 8,.lit .i64 12,.lit .i64 3],.agg [.lit .i64 4,.lit .i64 0,.lit .i64 0,.lit .i64 8],.agg [.lit .i64 1,.lit .i64 0,.lit .i64 16,.lit .i64 4],.agg [.lit .i64 0,.lit .i64 0,.lit .i64 8,.lit .i64 4]]):=bq 24 [[4,11,26,1],[4,8,12,3],[4,0,0,8],[1,0,16,4],[0,0,8,4]] rfl
theorem wK:ah gT 81 [.int .i64 25] (.sl 4 [.agg [.lit .i64 1,.lit .i64 0,.lit .i64 16,.lit .i64 4],.agg [.lit .i64 0,.lit .i64 0,.lit .i64 12,.lit .i64 4],.agg [.lit .i64 4,.lit .i64 0,.lit .i64 0,.lit .i64 12]]):=bq 25 [[1,0,16,4],[0,0,12,4],[4,0,0,12]] rfl
theorem wL:ah gT 81 [.int .i64 26] (.sl 4 [.agg [.lit .i64 1,.lit .i64 0,.lit .i64 16,.lit .i64 4],.agg [.lit .i64 0,.lit .i64 0,.lit .i64 12,.lit .i64 4],.agg [.lit .i64 6,.lit .i64 0,.lit .i64 4,.lit .i64 2],.agg [.lit .i64 2,.lit .i64 0,.lit .i64 0,.lit .i64 4]]):=bq 26 [[1,0,16,4],[0,0,12,4],[6,0,4,2],[2,0,0,4]] rfl
theorem wM:ah gT 81 [.int .i64 27] (.sl 4 [.agg [.lit .i64 7,.lit .i64 0,.lit .i64 20,.lit .i64 1],.agg [.lit .i64 1,.lit .i64 0,.lit .i64 16,.lit .i64 4],.agg [.lit .i64 0,.lit .i64 0,.lit .i64 8,.lit .i64 4],.agg [.lit .i64 2,.lit .i64 0,.lit .i64 0,.lit .i64 4]]):=bq 27 [[7,0,20,1],[1,0,16,4],[0,0,8,4],[2,0,0,4]] rfl
theorem wN:ah gT 81 [.int .i64 28] (.sl 4 [.agg [.lit .i64 1,.lit .i64 0,.lit .i64 16,.lit .i64 4],.agg [.lit .i64 0,.lit .i64 0,.lit .i64 8,.lit .i64 4],.agg [.lit .i64 2,.lit .i64 0,.lit .i64 0,.lit .i64 4]]):=bq 28 [[1,0,16,4],[0,0,8,4],[2,0,0,4]] rfl
theorem wO:ah gT 81 [.int .i64 29] (.sl 4 [.agg [.lit .i64 1,.lit .i64 0,.lit .i64 16,.lit .i64 4],.agg [.lit .i64 3,.lit .i64 0,.lit .i64 12,.lit .i64 4],.agg [.lit .i64 0,.lit .i64 0,.lit .i64 8,.lit .i64 4],.agg [.lit .i64 2,.lit .i64 0,.lit .i64 0,.lit .i64 4]]):=bq 29 [[1,0,16,4],[3,0,12,4],[0,0,8,4],[2,0,0,4]] rfl
theorem wQ:ah gT 81 [.int .i64 30] (.sl 4 [.agg [.lit .i64 1,.lit .i64 0,.lit .i64 16,.lit .i64 4],.agg [.lit .i64 3,.lit .i64 0,.lit .i64 12,.lit .i64 4],.agg [.lit .i64 0,.lit .i64 0,.lit .i64 8,.lit .i64 4],.agg [.lit .i64 2,.lit .i64 0,.lit .i64 0,.lit .i64 4]]):=bq 30 [[1,0,16,4],[3,0,12,4],[0,0,8,4],[2,0,0,4]] rfl
theorem wR:ah gT 81 [.int .i64 31] (.sl 4 [.agg [.lit .i64 1,.lit .i64 0,.lit .i64 16,.lit .i64 4],.agg [.lit .i64 0,.lit .i64 0,.lit .i64 12,.lit .i64 4],.agg [.lit .i64 3,.lit .i64 0,.lit .i64 8,.lit .i64 4],.agg [.lit .i64 2,.lit .i64 0,.lit .i64 0,.lit .i64 4]]):=bq 31 [[1,0,16,4],[0,0,12,4],[3,0,8,4],[2,0,0,4]] rfl
theorem wS:ah gT 81 [.int .i64 32] (.sl 4 [.agg [.lit .i64 2,.lit .i64 0,.lit .i64 16,.lit .i64 4],.agg [.lit .i64 0,.lit .i64 0,.lit .i64 8,.lit .i64 4],.agg [.lit .i64 2,.lit .i64 0,.lit .i64 0,.lit .i64 4]]):=bq 32 [[2,0,16,4],[0,0,8,4],[2,0,0,4]] rfl
theorem wT:ah gT 81 [.int .i64 33] (.sl 4 [.agg [.lit .i64 4,.lit .i64 20,.lit .i64 26,.lit .i64 1],.agg [.lit .i64 8,.lit .i64 0,.lit .i64 22,.lit .i64 4],.agg [.lit .i64 4,.lit .i64 12,.lit .i64 16,.lit .i64 6],.agg [.lit .i64 4,.lit .i64 18,.lit .i64 13,.lit .i64 1],.agg [.lit .i64 4,.lit .i64 19,.lit .i64 11,.lit .i64 1],.agg [.lit .i64 4,.lit .i64 1,.lit .i64 0,.lit .i64 11]]):=bq 33 [[4,20,26,1],[8,0,22,4],[4,12,16,6],[4,18,13,1],[4,19,11,1],[4,1,0,11]] rfl
theorem wU:ah gT 81 [.int .i64 34] (.sl 4 [.agg [.lit .i64 4,.lit .i64 24,.lit .i64 26,.lit .i64 1],.agg [.lit .i64 4,.lit .i64 12,.lit .i64 16,.lit .i64 10],.agg [.lit .i64 4,.lit .i64 23,.lit .i64 13,.lit .i64 1],.agg [.lit .i64 4,.lit .i64 22,.lit .i64 11,.lit .i64 1],.agg [.lit .i64 4,.lit .i64 1,.lit .i64 0,.lit .i64 11]]):=bq 34 [[4,24,26,1],[4,12,16,10],[4,23,13,1],[4,22,11,1],[4,1,0,11]] rfl
def B (v:Int) (l w a:Nat):Nat:=(aa v l w).toNat <<< a
theorem sT (v:Int) {l w a:Nat} (h:w+a<=32):B v l w a < 4294967296:=by
 have b:=ab v l w
 have e:=cl w
 have h1:(aa v l w).toNat < 2 ^ w:=by omega
 unfold B
 rw[Nat.shiftLeft_eq]
 calc (aa v l w).toNat*2 ^ a < 2 ^ w*2 ^ a:=Nat.mul_lt_mul_of_pos_right h1 (Nat.two_pow_pos a)
  _=2 ^ (w+a):=(Nat.pow_add ..).symm
  _<=2 ^ 32:=Nat.pow_le_pow_right (by omega) h
theorem Zy (v:Int) (l w a:Nat) (p:Int) (hp:p=2 ^ a):aa v l w*p=((B v l w a:Nat):Int):=by
 have b:=ab v l w
 unfold B
 rw[Nat.shiftLeft_eq,hp,Int.natCast_mul,Int.toNat_of_nonneg b.1,cl]
def Ab (x:Int) (a:Nat):Prop:=x=(a:Int)/\a < 4294967296
theorem Ab.or {x y:Int} {a b:Nat} (hx:Ab x a) (hy:Ab y b):Ab (bits .or .u32 x y) (a ||| b):=by
 obtain⟨rfl,ha⟩:=hx
 obtain⟨rfl,hb⟩:=hy
 refine⟨?_,Nat.or_lt_two_pow (n:=32) ha hb⟩
 rw[u32_or _ _ (by omega) (by omega) (by omega) (by omega),Int.toNat_natCast,Int.toNat_natCast]
theorem tQ (v:Int) (l w a:Nat) {p:Int} (hp:p=2 ^ a) (h:w+a<=32):Ab (aa v l w*p) (B v l w a):=⟨Zy v l w a p hp,sT v h⟩
theorem wV (v:Int) (l w:Nat) (h:w<=32):Ab (aa v l w) (B v l w 0):=⟨by have:=Zy v l w 0 1 rfl; rwa [Int.mul_one] at this,sT v h⟩
theorem CM {v:Int} {w:Nat} (h:0<=v/\v < 2 ^ w):aa v 0 w=v:=by
 unfold aa
 rw[if_neg (by omega),show (2:Int) ^ 0=1 from rfl,Int.ediv_one]
 exact Int.emod_eq_of_lt h.1 h.2
theorem pH (v:Int) (w a:Nat) {p:Int} (hp:p=2 ^ a) (h:w+a<=32) (hv:0<=v/\v < 2 ^ w):Ab (v*p) (B v 0 w a):=by
 have:=tQ v 0 w a hp h
 rwa [CM hv] at this
theorem sU (v:Int) (w:Nat) (h:w<=32) (hv:0<=v/\v < 2 ^ w):Ab v (B v 0 w 0):=by
 have:=wV v 0 w h
 rwa [CM hv] at this
theorem sV {v:Int} {l w a:Nat} (h:aa v l w=0):B v l w a=0:=by unfold B; rw[h]; simp
theorem gW {v:Int} {l w a:Nat} (h:v=0):B v l w a=0:=by
 subst h
 apply sV
 unfold aa
 rw[if_neg (by omega),Int.zero_ediv,Int.zero_emod]
def eH (i:IN) (l:List (Nat × Nat × Nat × Nat)):Nat:=l.foldl (fun w x=>w ||| B (ca i x.1) x.2.1 x.2.2.2 x.2.2.1) 0
theorem CN (i:IN):∀ (l:List (Nat × Nat × Nat × Nat)) (W V:Nat),l.foldl (yI i) (W ||| V)=W ||| l.foldl (fun w x=>w ||| B (ca i x.1) x.2.1 x.2.2.2 x.2.2.1) V
 | [],_,_=>rfl
 | x::l,W,V=>by
  rw[List.foldl_cons,List.foldl_cons]
  have e:yI i (W ||| V) x=W ||| (V ||| B (ca i x.1) x.2.1 x.2.2.2 x.2.2.1):=by
   have h:(aa (ca i x.1) x.2.1 x.2.2.2).toNat < 2 ^ x.2.2.2:=OO i x
   unfold yI plus B
   rw[Nat.mod_eq_of_lt h,Nat.or_assoc]
  rw[e,CN i l]
theorem y9 (i:IN) (l:List (Nat × Nat × Nat × Nat)):dk i l=(jA i.form).toNat ||| eH i l:=by
 unfold dk eH
 rw[← CN i l,Nat.or_zero]
theorem oR (i:IN):bs i=(((jA i.form).toNat ||| eH (dB i) (aq (ae i.form)):Nat):Int):=by
 unfold bs
 rw[y9,iT]
theorem kG {a b:Nat} (ha:a < 4294967296) (hb:b < 4294967296):a ||| b < 4294967296:=Nat.or_lt_two_pow (n:=32) ha hb
theorem fK (i:IN):Ab ((B i.set 0 1 20 ||| B i.rn 0 4 16 ||| B i.ra 0 4 12 ||| B i.rd 0 4 8 ||| B i.rm 0 4 0:Nat):Int) (B i.set 0 1 20 ||| B i.rn 0 4 16 ||| B i.ra 0 4 12 ||| B i.rd 0 4 8 ||| B i.rm 0 4 0) :=
 ⟨rfl,kG (kG (kG (kG (sT _ (by decide)) (sT _ (by decide))) (sT _ (by decide))) (sT _ (by decide))) (sT _ (by decide))⟩
theorem lU (n:Int):Ab ((B n 11 1 26 ||| B n 12 4 16 ||| B n 8 3 12 ||| B n 0 8 0:Nat):Int) (B n 11 1 26 ||| B n 12 4 16 ||| B n 8 3 12 ||| B n 0 8 0) :=
 ⟨rfl,kG (kG (kG (sT _ (by decide)) (sT _ (by decide))) (sT _ (by decide))) (sT _ (by decide))⟩
theorem lV (x:Int) (l w:Nat) (hx:aP x) (hw:1<=w/\w<=31) (hl:l<=31):ah gT 195 [.int .u32 x,.int .i64 ((l:Int)+w - 1),.int .i64 l] (.int .u32 (aa x l w)):=by
 have h:=jV x l w hx hw hl
 rwa [jY hx.1 l w] at h
theorem Ek (v:Int) (l w:Nat) (h:l+w<=32) (hv:-1099511627776<=v):yA (IntKind.u32.wrap v) l w=aa v l w:=by
 rw[IntKind.wrap_u32',jY (by omega)]
 obtain⟨n,hn⟩:∃ n:Nat,(n:Int)=if v < 0 then v+1099511627776 else v:=⟨(if v < 0 then v+1099511627776 else v).toNat,Int.toNat_of_nonneg (by split<;>omega)⟩
 have e:v % 4294967296=((n % 4294967296:Nat):Int):=by
  rw[Int.natCast_emod,hn]
  split<;>omega
 rw[e,jW]
 unfold aa
 rw[← hn]
 have key:n % 4294967296 / 2 ^ l % 2 ^ w=n / 2 ^ l % 2 ^ w:=by
  apply Nat.eq_of_testBit_eq
  intro p
  rw[Nat.testBit_mod_two_pow,Nat.testBit_mod_two_pow,Nat.testBit_div_two_pow,Nat.testBit_div_two_pow,show (4294967296:Nat)=2 ^ 32 from rfl,Nat.testBit_mod_two_pow]
  by_cases hp:p < w
  ·rw[decide_eq_true hp,decide_eq_true (show p+l < 32 by omega)]; simp
  ·rw[decide_eq_false hp]; simp
 rw[key,← cl,← cl]
 norm_cast
theorem qI (v:Int) (l w:Nat) (hv:-1099511627776<=v) (hw:1<=w/\w<=31) (hl:l<=31) (h:l+w<=32):ah gT 195 [.int .u32 (IntKind.u32.wrap v),.int .i64 ((l:Int)+w - 1),.int .i64 l] (.int .u32 (aa v l w)):=by
 have hx:0<=IntKind.u32.wrap v/\IntKind.u32.wrap v<=4294967295:=by rw[IntKind.wrap_u32']; omega
 have k:=jV (IntKind.u32.wrap v) l w hx hw hl
 rwa [Ek v l w h hv] at k
theorem HJ {v:Int} (h:0<=v) (w:Nat):aa (v / 4) 0 w=aa v 2 w:=by
 unfold aa
 rw[if_neg (by omega),if_neg (by omega),show (2:Int) ^ 0=1 from rfl,show (2:Int) ^ 2=4 from rfl,Int.ediv_one]
theorem Pg {v:Int} {w a:Nat} (h:0<=v):B (v / 4) 0 w a=B v 2 w a:=by unfold B; rw[HJ h]
theorem isD (v:Int) (w:Nat) (h:w<=32) (h0:0<=v) (hv:v / 4 < 2 ^ w):Ab (v / 4) (B v 2 w 0):=by
 have:=sU (v / 4) w h ⟨by omega,hv⟩
 rwa [Pg h0] at this
theorem nM (i:IN) (v:Int) (w:Nat) (hv:0<=v/\v < 2 ^ w) (hd:0<=i.rd/\i.rd < 8) (hn:0<=i.rn/\i.rn < 8) (hw:w<=20):ah gT 201 [bX i,.int .u32 v] (.int .u32 ((B v 0 w 6 ||| B i.rn 0 3 3 ||| B i.rd 0 3 0:Nat):Int)):=by
 have hp:=sL w (by omega)
 have iv:(2:Int) ^ w<=1048576:=by
  have h1:(2 ^ w:Nat)<=2 ^ 20:=Nat.pow_le_pow_right (by omega) hw
  have h3:=cl w
  omega
 refine Spec.enter ar P201 100 Tryz.func201 rfl (by kernel_rfl) ?_
 refine⟨by decide,.inl ⟨af (by rw[r6]; omega),?_⟩⟩
 refine .inl ⟨af (by omega),?_⟩
 refine⟨by decide,.inl ⟨af (by rw[r3]; omega),?_⟩⟩
 refine .inl ⟨af (by omega),?_⟩
 refine ao ?_
 exact (show bits .or .u32 (bits .or .u32 (v*Ev.aD .u32 6) (i.rn*Ev.aD .u32 3)) i.rd=_ from (((pH v w 6 (by decide) (by omega) hv).or (pH i.rn 3 3 (by decide) (by decide) hn)).or (sU i.rd 3 (by decide) hd)).1)
theorem dq (i:IN) (hs:0<=i.set/\i.set < 2) (hd:0<=i.rd/\i.rd < 16) (hn:0<=i.rn/\i.rn < 16) (hm:0<=i.rm/\i.rm < 16) (ha:0<=i.ra/\i.ra < 16):ah gT 197 [bX i] (.int .u32 ((B i.set 0 1 20 ||| B i.rn 0 4 16 ||| B i.ra 0 4 12 ||| B i.rd 0 4 8 ||| B i.rm 0 4 0:Nat):Int)):=by
 refine Spec.enter ar P197 100 Tryz.func197 rfl (by kernel_rfl) ?_
 refine .inl ⟨af (by omega),?_⟩
 refine⟨by decide,.inl ⟨af (by rw[r20]; omega),?_⟩⟩
 refine .inl ⟨af (by omega),?_⟩
 refine⟨by decide,.inl ⟨af (by rw[Pf]; omega),?_⟩⟩
 refine .inl ⟨af (by omega),?_⟩
 refine⟨by decide,.inl ⟨af (by rw[Pe]; omega),?_⟩⟩
 refine .inl ⟨af (by omega),?_⟩
 refine⟨by decide,.inl ⟨af (by rw[r8]; omega),?_⟩⟩
 refine .inl ⟨af (by omega),?_⟩
 refine ao ?_
 exact (show bits .or .u32 (bits .or .u32 (bits .or .u32 (bits .or .u32 (i.set*Ev.aD .u32 20) (i.rn*Ev.aD .u32 16)) (i.ra*Ev.aD .u32 12)) (i.rd*Ev.aD .u32 8)) i.rm=_ from (((((pH i.set 1 20 (by decide) (by decide) hs).or (pH i.rn 4 16 (by decide) (by decide) hn)).or (pH i.ra 4 12 (by decide) (by decide) ha)).or (pH i.rd 4 8 (by decide) (by decide) hd)).or (sU i.rm 4 (by decide) hm)).1)
theorem g_ (n:Int) (hn:aP n):ah gT 198 [.int .u32 n] (.int .u32 ((B n 11 1 26 ||| B n 12 4 16 ||| B n 8 3 12 ||| B n 0 8 0:Nat):Int)):=by
 have b0:=ab n 11 1
 have b1:=ab n 12 4
 have b2:=ab n 8 3
 have b3:=ab n 0 8
 refine Spec.enter ar P198 100 Tryz.func198 rfl (by kernel_rfl) ?_
 refine (lV n 11 1 hn (by decide) (by decide)).u ?_
 refine⟨by decide,.inl ⟨af (by rw[r26]; omega),?_⟩⟩
 refine (lV n 12 4 hn (by decide) (by decide)).u ?_
 refine⟨by decide,.inl ⟨af (by rw[Pf]; omega),?_⟩⟩
 refine (lV n 8 3 hn (by decide) (by decide)).u ?_
 refine⟨by decide,.inl ⟨af (by rw[Pe]; omega),?_⟩⟩
 refine (lV n 0 8 hn (by decide) (by decide)).u ?_
 refine ao ?_
 exact (show bits .or .u32 (bits .or .u32 (bits .or .u32 (aa n 11 1*Ev.aD .u32 26) (aa n 12 4*Ev.aD .u32 16)) (aa n 8 3*Ev.aD .u32 12)) (aa n 0 8)=_ from ((((tQ n 11 1 26 (by decide) (by decide)).or (tQ n 12 4 16 (by decide) (by decide))).or (tQ n 8 3 12 (by decide) (by decide))).or (wV n 0 8 (by decide))).1)
end Go.Proofs.YtnbngokbamifbaaGreatDoor.Pw

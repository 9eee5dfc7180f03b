/- What this claim is proved with: no condition. -/
import Derived.Test.YtlgkljpgagfndaaGreatDoorNv16
set_option maxRecDepth 100000
set_option maxHeartbeats 4000000
set_option linter.unusedVariables false
set_option linter.unusedSimpArgs false
namespace Go.Proofs.YtlgkljpgagfndaaGreatDoor.Pw
open Go Go.RowKit
theorem TP (t:Int) (h:0<=t/\t < 33554432) (h2:t % 2=0):0+ab t 24 1*2 ^ 24+ab t 12 10*2 ^ 12+ab t 23 1*2 ^ 23+ab t 22 1*2 ^ 22+ab t 1 11*2 ^ 1=t:=by
 unfold ab; rw[if_neg (by omega)]; omega
theorem CX (v:Int) (h:-16777216<=v/\v<=16777214/\v % 2=0):(0<=ab v 0 25/\ab v 0 25 < 33554432)/\ab v 0 25 % 2=0/\dh (ab v 0 25) 25=v:=by
 have e:ab v 0 25=if v < 0 then v+33554432 else v:=by unfold ab; split<;>omega
 have e2:∀ m:Int,0<=m->ab m 24 1=m / 16777216 % 2:=fun m hm=>by unfold ab; rw[if_neg (by omega)]; rfl
 have hb:0<=ab v 0 25/\ab v 0 25 < 33554432:=by rw[e]; split<;>omega
 refine⟨hb,by rw[e]; split<;>omega,?_⟩
 unfold dh
 rw[show (25 - 1:Nat)=24 from rfl,e2 _ hb.1,e]
 have p:(2:Int) ^ 25=33554432:=by decide
 rw[p]
 split<;>split<;>omega
theorem Li (i:IN) (hs:aa i.form=34) (hr:aI i (ch 34)):{cY 34 (d_ i) with form:=i.form}=i:=by
 obtain⟨hf,h1,h2,h3,h4,h5,h6,h7,h8,h9,cV⟩:=hr
 have g0:=aE (r:=i.rd) h1
 have g1:=aE (r:=i.rn) h2
 have g2:=aE (r:=i.rm) h3
 have g3:=aE (r:=i.ra) h4
 have g4:-16777216<=i.az/\i.az<=16777214/\i.az % 2=0:=fi (s:=2) (by decide) h7
 have g5:i.kind=0:=(br rfl h9).1
 have g6:i.bG=0:=bQ (br rfl h9).2
 have g7:i.set=0:=h8.elim id fun e=>absurd (show false=true from e.2) Bool.false_ne_true
 have g8:i.cond=0:=h6.elim id fun e=>absurd (show false=true from e.1) Bool.false_ne_true
 have g9:i.ar=0:=dn rfl h5
 obtain⟨hb,he,hl⟩:=CX i.az g4
 rw[Wn hs]
 have hn:=nP hb
 have h2':bL (ab i.az 0 25) 2 % 2=0:=by have:=(lJ hb).2.1; omega
 have e34:∀ x:Int,pV 34 i.form x=dh (bL x 2) 25:=fun x=>by
  unfold pV; rw[if_neg (by decide),if_neg (by decide),if_neg (by decide),if_pos rfl]
 have hi:pV 34 i.form (0+ab (bL (ab i.az 0 25) 2) 24 1*2 ^ 24+ab (bL (ab i.az 0 25) 2) 12 10*2 ^ 12+ab (bL (ab i.az 0 25) 2) 23 1*2 ^ 23+ab (bL (ab i.az 0 25) 2) 22 1*2 ^ 22+ab (bL (ab i.az 0 25) 2) 1 11*2 ^ 1)=i.az:=by
  rw[e34,TP _ hn h2',Cm hb,hl]
 exact bg rfl (Tv i.rd g0) (Tw i.rn g1) (Tx i.rm g2) (Ty i.ra g3) hi (Tz i.kind g5) ((bR (K:=34) (k:=0) (by decide)).trans (TA i.bG g6)) (TB i.set g7) (TC i.cond g8) (TD i.ar g9)
theorem Lj {s:Int} (h:1<=s/\s<=34):s=1\/s=2\/s=3\/s=4\/s=5\/s=6\/s=7\/s=8\/s=9\/s=10\/s=11\/s=12\/s=13\/s=14\/s=15\/s=16\/s=17\/s=18\/s=19\/s=20\/s=21\/s=22\/s=23\/s=24\/s=25\/s=26\/s=27\/s=28\/s=29\/s=30\/s=31\/s=32\/s=33\/s=34:=by omega
theorem Gs (i:IN) (h:aa i.form=32) (hr:0<=i.rm/\i.rm < 15):ab (bC i) 0 4=ab (d_ i).rm 0 4:=by
 have hx:((2,0,0,4):Nat × Nat × Nat × Nat)∈aD (aa i.form):=by rw[h]; decide
 exact tJ i hx
theorem back (i:IN) (h:au i) (hg:i.ar<=9223372036854775807):bd i.form (bC i)=i:=by
 rw[Cn i fun Kt=>Gs i Kt (mI h).2.2.1]
 have hr:=h
 unfold au at hr
 rcases Lj (kY h.1) with hs|hs|hs|hs|hs|hs|hs|hs|hs|hs|hs|hs|hs|hs|hs|hs|hs|hs|hs|hs|hs|hs|hs|hs|hs|hs|hs|hs|hs|hs|hs|hs|hs|hs
 ·rw[hs] at hr ⊢; rw[aQ (by rw[hs]; decide)]; exact TE i hs hr hg
 ·rw[hs] at hr ⊢; rw[aQ (by rw[hs]; decide)]; exact TF i hs hr hg
 ·rw[hs] at hr ⊢; rw[aQ (by rw[hs]; decide)]; exact TG i hs hr hg
 ·rw[hs] at hr ⊢; rw[aQ (by rw[hs]; decide)]; exact TH i hs hr hg
 ·rw[hs] at hr ⊢; rw[aQ (by rw[hs]; decide)]; exact TJ i hs hr hg
 ·rw[hs] at hr ⊢; rw[aQ (by rw[hs]; decide)]; exact TK i hs hr hg
 ·rw[hs] at hr ⊢; rw[aQ (by rw[hs]; decide)]; exact TL i hs hr hg
 ·rw[hs] at hr ⊢; rw[aQ (by rw[hs]; decide)]; exact TN i hs hr hg
 ·rw[hs] at hr ⊢; rw[aQ (by rw[hs]; decide)]; exact TO i hs hr hg
 ·rw[hs] at hr ⊢; rw[aQ (by rw[hs]; decide)]; exact KV i hs hr hg
 ·rw[hs] at hr ⊢; rw[aQ (by rw[hs]; decide)]; exact KW i hs hr hg
 ·rw[hs] at hr ⊢; rw[aQ (by rw[hs]; decide)]; exact KX i hs hr hg
 ·rw[hs] at hr ⊢; rw[aQ (by rw[hs]; decide)]; exact KY i hs hr hg
 ·rw[hs] at hr ⊢; rw[aQ (by rw[hs]; decide)]; exact KZ i hs hr hg
 ·rw[hs] at hr ⊢; rw[aQ (by rw[hs]; decide)]; exact K0 i hs hr hg
 ·rw[hs] at hr ⊢; rw[aQ (by rw[hs]; decide)]; exact K1 i hs hr hg
 ·rw[hs] at hr ⊢; rw[aQ (by rw[hs]; decide)]; exact K2 i hs hr hg
 ·rw[hs] at hr ⊢; rw[aQ (by rw[hs]; decide)]; exact K3 i hs hr hg
 ·rw[hs] at hr ⊢; rw[aQ (by rw[hs]; decide)]; exact K4 i hs hr hg
 ·rw[hs] at hr ⊢; rw[aQ (by rw[hs]; decide)]; exact K5 i hs hr hg
 ·rw[hs] at hr ⊢; rw[aQ (by rw[hs]; decide)]; exact K6 i hs hr hg
 ·rw[hs] at hr ⊢; rw[aQ (by rw[hs]; decide)]; exact K7 i hs hr hg
 ·rw[hs] at hr ⊢; rw[aQ (by rw[hs]; decide)]; exact K8 i hs hr hg
 ·rw[hs] at hr ⊢; rw[aQ (by rw[hs]; decide)]; exact K9 i hs hr hg
 ·rw[hs] at hr ⊢; rw[aQ (by rw[hs]; decide)]; exact K_ i hs hr hg
 ·rw[hs] at hr ⊢; rw[aQ (by rw[hs]; decide)]; exact La i hs hr hg
 ·rw[hs] at hr ⊢; rw[aQ (by rw[hs]; decide)]; exact Lb i hs hr hg
 ·rw[hs] at hr ⊢; rw[aQ (by rw[hs]; decide)]; exact Lc i hs hr hg
 ·rw[hs] at hr ⊢; rw[aQ (by rw[hs]; decide)]; exact Ld i hs hr hg
 ·rw[hs] at hr ⊢; rw[aQ (by rw[hs]; decide)]; exact Le i hs hr hg
 ·rw[hs] at hr ⊢; rw[aQ (by rw[hs]; decide)]; exact Lf i hs hr hg
 ·rw[hs] at hr ⊢; rw[aQ (by rw[hs]; decide)]; exact Lg i hs hr hg
 ·rw[hs] at hr ⊢; rw[aQ (by rw[hs]; decide)]; exact Lh i hs hr hg
 ·rw[hs] at hr ⊢; exact Li i hs hr
def TQ (f w:Int):IN:=⟨f,0+ab w 0 3*2 ^ 0,0,0+ab w 3 3*2 ^ 0,0,if 1 < f/\0+ab w 6 5*2 ^ 0=0 then 32 else 0+ab w 6 5*2 ^ 0,0,0,0,0,0⟩
theorem rd_1 {f w:Int} (h:aa f=1):bd f w=TQ f w:=by
 unfold bd; rw[h]
 exact bg rfl rfl rfl rfl rfl (NJ) rfl (bR (K:=1) (k:=xV 1 w 5) (by decide)) rfl rfl rfl
def TR (f w:Int):IN:=⟨f,0+ab w 0 3*2 ^ 0,0+ab w 3 3*2 ^ 0,0+ab w 6 3*2 ^ 0,0,0,0,0,0,0,0⟩
theorem rd_2 {f w:Int} (h:aa f=2):bd f w=TR f w:=by
 unfold bd; rw[h]
 exact bg rfl rfl rfl rfl rfl (bw (K:=2) (f:=f) (by decide)) rfl (bR (K:=2) (k:=xV 2 w 5) (by decide)) rfl rfl rfl
def TS (f w:Int):IN:=⟨f,0+ab w 0 3*2 ^ 0,0+ab w 3 3*2 ^ 0,0,0,0+ab w 6 3*2 ^ 0,0,0,0,0,0⟩
theorem rd_3 {f w:Int} (h:aa f=3):bd f w=TS f w:=by
 unfold bd; rw[h]
 exact bg rfl rfl rfl rfl rfl (bw (K:=3) (f:=f) (by decide)) rfl (bR (K:=3) (k:=xV 3 w 5) (by decide)) rfl rfl rfl
def TT (f w:Int):IN:=⟨f,0+ab w 8 3*2 ^ 0,0,0,0,0+ab w 0 8*2 ^ 0,0,0,0,0,0⟩
theorem rd_4 {f w:Int} (h:aa f=4):bd f w=TT f w:=by
 unfold bd; rw[h]
 exact bg rfl rfl rfl rfl rfl (bw (K:=4) (f:=f) (by decide)) rfl (bR (K:=4) (k:=xV 4 w 5) (by decide)) rfl rfl rfl
def TU (f w:Int):IN:=⟨f,0+ab w 0 3*2 ^ 0,0,0+ab w 3 3*2 ^ 0,0,0,0,0,0,0,0⟩
theorem rd_5 {f w:Int} (h:aa f=5):bd f w=TU f w:=by
 unfold bd; rw[h]
 exact bg rfl rfl rfl rfl rfl (bw (K:=5) (f:=f) (by decide)) rfl (bR (K:=5) (k:=xV 5 w 5) (by decide)) rfl rfl rfl
def TV (f w:Int):IN:=⟨f,0+ab w 7 1*2 ^ 3+ab w 0 3*2 ^ 0,0,0+ab w 3 4*2 ^ 0,0,0,0,0,0,0,0⟩
theorem rd_6 {f w:Int} (h:aa f=6):bd f w=TV f w:=by
 unfold bd; rw[h]
 exact bg rfl rfl rfl rfl rfl (bw (K:=6) (f:=f) (by decide)) rfl (bR (K:=6) (k:=xV 6 w 5) (by decide)) rfl rfl rfl
def TW (f w:Int):IN:=⟨f,0,0,0+ab w 3 4*2 ^ 0,0,0,0,0,0,0,0⟩
theorem rd_7 {f w:Int} (h:aa f=7):bd f w=TW f w:=by
 unfold bd; rw[h]
 exact bg rfl rfl rfl rfl rfl (bw (K:=7) (f:=f) (by decide)) rfl (bR (K:=7) (k:=xV 7 w 5) (by decide)) rfl rfl rfl
def TX (f w:Int):IN:=⟨f,0+ab w 8 3*2 ^ 0,0,0,0,0+ab w 0 8*2 ^ 2,0,0,0,0,0⟩
theorem rd_8 {f w:Int} (h:aa f=8):bd f w=TX f w:=by
 unfold bd; rw[h]
 exact bg rfl rfl rfl rfl rfl (bw (K:=8) (f:=f) (by decide)) rfl (bR (K:=8) (k:=xV 8 w 5) (by decide)) rfl rfl rfl
def TY (f w:Int):IN:=⟨f,0+ab w 0 3*2 ^ 0,0+ab w 3 3*2 ^ 0,0,0,0+ab w 6 5*2 ^ 2,0,0,0,0,0⟩
theorem rd_9 {f w:Int} (h:aa f=9):bd f w=TY f w:=by
 unfold bd; rw[h]
 exact bg rfl rfl rfl rfl rfl (bw (K:=9) (f:=f) (by decide)) rfl (bR (K:=9) (k:=xV 9 w 5) (by decide)) rfl rfl rfl
def Gt (f w:Int):IN:=⟨f,0,0,0,0,0+ab w 0 7*2 ^ 2,0,0,0,0,0⟩
theorem Yp {f w:Int} (h:aa f=10):bd f w=Gt f w:=by
 unfold bd; rw[h]
 exact bg rfl rfl rfl rfl rfl (bw (K:=10) (f:=f) (by decide)) rfl (bR (K:=10) (k:=xV 10 w 5) (by decide)) rfl rfl rfl
def Gu (f w:Int):IN:=⟨f,0,0,0,0,0,0,0,0,0,0+ab w 8 1*2 ^ 14+ab w 0 8*2 ^ 0⟩
theorem Yq {f w:Int} (h:aa f=11):bd f w=Gu f w:=by
 unfold bd; rw[h]
 exact bg rfl rfl rfl rfl rfl (bw (K:=11) (f:=f) (by decide)) rfl (bR (K:=11) (k:=xV 11 w 5) (by decide)) rfl rfl rfl
def Gv (f w:Int):IN:=⟨f,0,0,0,0,0,0,0,0,0,0+ab w 8 1*2 ^ 15+ab w 0 8*2 ^ 0⟩
theorem Yr {f w:Int} (h:aa f=12):bd f w=Gv f w:=by
 unfold bd; rw[h]
 exact bg rfl rfl rfl rfl rfl (bw (K:=12) (f:=f) (by decide)) rfl (bR (K:=12) (k:=xV 12 w 5) (by decide)) rfl rfl rfl
def Gw (f w:Int):IN:=⟨f,0,0,0,0,0,0,0,0,0,0⟩
theorem Ys {f w:Int} (h:aa f=13):bd f w=Gw f w:=by
 unfold bd; rw[h]
 exact bg rfl rfl rfl rfl rfl (bw (K:=13) (f:=f) (by decide)) rfl (bR (K:=13) (k:=xV 13 w 5) (by decide)) rfl rfl rfl
def Gy (f w:Int):IN:=⟨f,0,0,0,0,0+ab w 0 8*2 ^ 0,0,0,0,0,0⟩
theorem Yt {f w:Int} (h:aa f=14):bd f w=Gy f w:=by
 unfold bd; rw[h]
 exact bg rfl rfl rfl rfl rfl (bw (K:=14) (f:=f) (by decide)) rfl (bR (K:=14) (k:=xV 14 w 5) (by decide)) rfl rfl rfl
def Gz (f w:Int):IN:=⟨f,0,0,0,0,dh (0+ab w 0 8*2 ^ 1) 9,0,0,0,0+ab w 8 4*2 ^ 0,0⟩
theorem Yu {f w:Int} (h:aa f=15):bd f w=Gz f w:=by
 unfold bd; rw[h]
 exact bg rfl rfl rfl rfl rfl (rfl) rfl (bR (K:=15) (k:=xV 15 w 5) (by decide)) rfl rfl rfl
def GA (f w:Int):IN:=⟨f,0,0,0,0,dh (0+ab w 0 11*2 ^ 1) 12,0,0,0,0,0⟩
theorem Yv {f w:Int} (h:aa f=16):bd f w=GA f w:=by
 unfold bd; rw[h]
 exact bg rfl rfl rfl rfl rfl (rfl) rfl (bR (K:=16) (k:=xV 16 w 5) (by decide)) rfl rfl rfl
def GB (f w:Int):IN:=⟨f,0+ab w 8 4*2 ^ 0,0,0,0,0+ab w 26 1*2 ^ 11+ab w 16 4*2 ^ 12+ab w 12 3*2 ^ 8+ab w 0 8*2 ^ 0,0,0,0,0,0⟩
theorem Yw {f w:Int} (h:aa f=17):bd f w=GB f w:=by
 unfold bd; rw[h]
 exact bg rfl rfl rfl rfl rfl (bw (K:=17) (f:=f) (by decide)) rfl (bR (K:=17) (k:=xV 17 w 5) (by decide)) rfl rfl rfl
def AW (f w:Int):IN:=⟨f,0+ab w 8 4*2 ^ 0,0+ab w 16 4*2 ^ 0,0,0,0+ab w 26 1*2 ^ 11+ab w 12 3*2 ^ 8+ab w 0 8*2 ^ 0,0,0,0+ab w 20 1*2 ^ 0,0,0⟩
theorem Yx {f w:Int} (h:aa f=18):bd f w=AW f w:=by
 unfold bd; rw[h]
 exact bg rfl rfl rfl rfl rfl (bw (K:=18) (f:=f) (by decide)) rfl (bR (K:=18) (k:=xV 18 w 5) (by decide)) rfl rfl rfl
def AX (f w:Int):IN:=⟨f,0+ab w 8 4*2 ^ 0,0,0,0,0+ab w 26 1*2 ^ 11+ab w 12 3*2 ^ 8+ab w 0 8*2 ^ 0,0,0,0+ab w 20 1*2 ^ 0,0,0⟩
theorem Yy {f w:Int} (h:aa f=19):bd f w=AX f w:=by
 unfold bd; rw[h]
 exact bg rfl rfl rfl rfl rfl (bw (K:=19) (f:=f) (by decide)) rfl (bR (K:=19) (k:=xV 19 w 5) (by decide)) rfl rfl rfl
def AY (f w:Int):IN:=⟨f,0,0+ab w 16 4*2 ^ 0,0,0,0+ab w 26 1*2 ^ 11+ab w 12 3*2 ^ 8+ab w 0 8*2 ^ 0,0,0,0,0,0⟩
theorem Yz {f w:Int} (h:aa f=20):bd f w=AY f w:=by
 unfold bd; rw[h]
 exact bg rfl rfl rfl rfl rfl (bw (K:=20) (f:=f) (by decide)) rfl (bR (K:=20) (k:=xV 20 w 5) (by decide)) rfl rfl rfl
def AZ (f w:Int):IN:=⟨f,0+ab w 8 4*2 ^ 0,0+ab w 16 4*2 ^ 0,0+ab w 0 4*2 ^ 0,0,0,0+ab w 4 2*2 ^ 0,if 0+ab w 12 3*2 ^ 2+ab w 6 2*2 ^ 0=0/\(0+ab w 4 2*2 ^ 0=1\/0+ab w 4 2*2 ^ 0=2) then 32 else 0+ab w 12 3*2 ^ 2+ab w 6 2*2 ^ 0,0+ab w 20 1*2 ^ 0,0,0⟩
theorem YA {f w:Int} (h:aa f=21):bd f w=AZ f w:=by
 unfold bd; rw[h]
 exact bg rfl rfl rfl rfl rfl (bw (K:=21) (f:=f) (by decide)) rfl (tO (K:=21) (by decide)) rfl rfl rfl
def A0 (f w:Int):IN:=⟨f,0+ab w 8 4*2 ^ 0,0,0+ab w 0 4*2 ^ 0,0,0,0+ab w 4 2*2 ^ 0,if 0+ab w 12 3*2 ^ 2+ab w 6 2*2 ^ 0=0/\(0+ab w 4 2*2 ^ 0=1\/0+ab w 4 2*2 ^ 0=2) then 32 else 0+ab w 12 3*2 ^ 2+ab w 6 2*2 ^ 0,0+ab w 20 1*2 ^ 0,0,0⟩
theorem YB {f w:Int} (h:aa f=22):bd f w=A0 f w:=by
 unfold bd; rw[h]
 exact bg rfl rfl rfl rfl rfl (bw (K:=22) (f:=f) (by decide)) rfl (tO (K:=22) (by decide)) rfl rfl rfl
def A2 (f w:Int):IN:=⟨f,0,0+ab w 16 4*2 ^ 0,0+ab w 0 4*2 ^ 0,0,0,0+ab w 4 2*2 ^ 0,if 0+ab w 12 3*2 ^ 2+ab w 6 2*2 ^ 0=0/\(0+ab w 4 2*2 ^ 0=1\/0+ab w 4 2*2 ^ 0=2) then 32 else 0+ab w 12 3*2 ^ 2+ab w 6 2*2 ^ 0,0,0,0⟩
theorem YC {f w:Int} (h:aa f=23):bd f w=A2 f w:=by
 unfold bd; rw[h]
 exact bg rfl rfl rfl rfl rfl (bw (K:=23) (f:=f) (by decide)) rfl (tO (K:=23) (by decide)) rfl rfl rfl
def A3 (f w:Int):IN:=⟨f,0+ab w 8 4*2 ^ 0,0+ab w 16 4*2 ^ 0,0,0,0+ab w 26 1*2 ^ 11+ab w 12 3*2 ^ 8+ab w 0 8*2 ^ 0,0,0,0,0,0⟩
theorem YD {f w:Int} (h:aa f=24):bd f w=A3 f w:=by
 unfold bd; rw[h]
 exact bg rfl rfl rfl rfl rfl (bw (K:=24) (f:=f) (by decide)) rfl (bR (K:=24) (k:=xV 24 w 5) (by decide)) rfl rfl rfl
def GC (f w:Int):IN:=⟨f,0+ab w 12 4*2 ^ 0,0+ab w 16 4*2 ^ 0,0,0,0+ab w 0 12*2 ^ 0,0,0,0,0,0⟩
theorem YE {f w:Int} (h:aa f=25):bd f w=GC f w:=by
 unfold bd; rw[h]
 exact bg rfl rfl rfl rfl rfl (bw (K:=25) (f:=f) (by decide)) rfl (bR (K:=25) (k:=xV 25 w 5) (by decide)) rfl rfl rfl
def GD (f w:Int):IN:=⟨f,0+ab w 12 4*2 ^ 0,0+ab w 16 4*2 ^ 0,0+ab w 0 4*2 ^ 0,0,0,0,0+ab w 4 2*2 ^ 0,0,0,0⟩
theorem YF {f w:Int} (h:aa f=26):bd f w=GD f w:=by
 unfold bd; rw[h]
 exact bg rfl rfl rfl rfl rfl (bw (K:=26) (f:=f) (by decide)) rfl (bR (K:=26) (k:=xV 26 w 5) (by decide)) rfl rfl rfl
def GF (f w:Int):IN:=⟨f,0+ab w 8 4*2 ^ 0,0+ab w 16 4*2 ^ 0,0+ab w 0 4*2 ^ 0,0,0,0,0,0+ab w 20 1*2 ^ 0,0,0⟩
theorem YG {f w:Int} (h:aa f=27):bd f w=GF f w:=by
 unfold bd; rw[h]
 exact bg rfl rfl rfl rfl rfl (bw (K:=27) (f:=f) (by decide)) rfl (bR (K:=27) (k:=xV 27 w 5) (by decide)) rfl rfl rfl
def GG (f w:Int):IN:=⟨f,0+ab w 8 4*2 ^ 0,0+ab w 16 4*2 ^ 0,0+ab w 0 4*2 ^ 0,0,0,0,0,0,0,0⟩
theorem YH {f w:Int} (h:aa f=28):bd f w=GG f w:=by
 unfold bd; rw[h]
 exact bg rfl rfl rfl rfl rfl (bw (K:=28) (f:=f) (by decide)) rfl (bR (K:=28) (k:=xV 28 w 5) (by decide)) rfl rfl rfl
def GH (f w:Int):IN:=⟨f,0+ab w 8 4*2 ^ 0,0+ab w 16 4*2 ^ 0,0+ab w 0 4*2 ^ 0,0+ab w 12 4*2 ^ 0,0,0,0,0,0,0⟩
theorem YI {f w:Int} (h:aa f=29):bd f w=GH f w:=by
 unfold bd; rw[h]
 exact bg rfl rfl rfl rfl rfl (bw (K:=29) (f:=f) (by decide)) rfl (bR (K:=29) (k:=xV 29 w 5) (by decide)) rfl rfl rfl
def GI (f w:Int):IN:=⟨f,0+ab w 8 4*2 ^ 0,0+ab w 16 4*2 ^ 0,0+ab w 0 4*2 ^ 0,0+ab w 12 4*2 ^ 0,0,0,0,0,0,0⟩
theorem YJ {f w:Int} (h:aa f=30):bd f w=GI f w:=by
 unfold bd; rw[h]
 exact bg rfl rfl rfl rfl rfl (bw (K:=30) (f:=f) (by decide)) rfl (bR (K:=30) (k:=xV 30 w 5) (by decide)) rfl rfl rfl
def GJ (f w:Int):IN:=⟨f,0+ab w 12 4*2 ^ 0,0+ab w 16 4*2 ^ 0,0+ab w 0 4*2 ^ 0,0+ab w 8 4*2 ^ 0,0,0,0,0,0,0⟩
theorem YK {f w:Int} (h:aa f=31):bd f w=GJ f w:=by
 unfold bd; rw[h]
 exact bg rfl rfl rfl rfl rfl (bw (K:=31) (f:=f) (by decide)) rfl (bR (K:=31) (k:=xV 31 w 5) (by decide)) rfl rfl rfl
def GK (f w:Int):IN:=⟨f,0+ab w 8 4*2 ^ 0,0,ab w 0 4,0,0,0,0,0,0,0⟩
theorem YL {f w:Int} (h:aa f=32):bd f w=GK f w:=by
 unfold bd; rw[h]
 exact bg rfl rfl rfl rfl rfl (bw (K:=32) (f:=f) (by decide)) rfl (bR (K:=32) (k:=xV 32 w 5) (by decide)) rfl rfl rfl
def GL (f w:Int):IN:=⟨f,0,0,0,0,dh (0+ab w 26 1*2 ^ 20+ab w 16 6*2 ^ 12+ab w 13 1*2 ^ 18+ab w 11 1*2 ^ 19+ab w 0 11*2 ^ 1) 21,0,0,0,0+ab w 22 4*2 ^ 0,0⟩
theorem YM {f w:Int} (h:aa f=33):bd f w=GL f w:=by
 unfold bd; rw[h]
 exact bg rfl rfl rfl rfl rfl (rfl) rfl (bR (K:=33) (k:=xV 33 w 5) (by decide)) rfl rfl rfl
def GM (f w:Int):IN:=⟨f,0,0,0,0,dh (bL (0+ab w 26 1*2 ^ 24+ab w 16 10*2 ^ 12+ab w 13 1*2 ^ 23+ab w 11 1*2 ^ 22+ab w 0 11*2 ^ 1) 2) 25,0,0,0,0,0⟩
theorem YN {f w:Int} (h:aa f=34):bd f w=GM f w:=by
 unfold bd; rw[h]
 exact bg rfl rfl rfl rfl rfl (rfl) rfl (bR (K:=34) (k:=xV 34 w 5) (by decide)) rfl rfl rfl
def a_ (x:Int):Prop:=0<=x/\x<=4294967295
theorem jJ {x:Int} (hx:0<=x) (l w:Nat):w9 x l w=ab x l w:=by unfold w9 ab; rw[if_neg (by omega)]
theorem xy (n:Nat) (h:n<=64):Ev.aV .i64 (n:Int)=2 ^ n:=by
 unfold Ev.aV
 rw[Int.toNat_natCast,show min n (IntKind.bits .i64)=n from Nat.min_eq_left h]
 norm_cast
theorem q1:Ev.aV .i64 1=2:=by decide
theorem q4:Ev.aV .i64 4=16:=by decide
theorem q8:Ev.aV .i64 8=256:=by decide
theorem q11:Ev.aV .i64 11=2048:=by decide
theorem Ve:Ev.aV .i64 12=4096:=by decide
theorem q18:Ev.aV .i64 18=262144:=by decide
theorem q19:Ev.aV .i64 19=524288:=by decide
theorem q20:Ev.aV .i64 20=1048576:=by decide
theorem q22:Ev.aV .i64 22=4194304:=by decide
theorem q23:Ev.aV .i64 23=8388608:=by decide
theorem q24:Ev.aV .i64 24=16777216:=by decide
theorem q3:Ev.aV .i64 3=8:=by decide
theorem r1:Ev.aV .u32 1=2:=by decide
theorem r3:Ev.aV .u32 3=8:=by decide
theorem r4:Ev.aV .u32 4=16:=by decide
theorem r6:Ev.aV .u32 6=64:=by decide
theorem r7:Ev.aV .u32 7=128:=by decide
theorem r8:Ev.aV .u32 8=256:=by decide
theorem r11:Ev.aV .u32 11=2048:=by decide
theorem NK:Ev.aV .u32 12=4096:=by decide
theorem r13:Ev.aV .u32 13=8192:=by decide
theorem NL:Ev.aV .u32 16=65536:=by decide
theorem r20:Ev.aV .u32 20=1048576:=by decide
theorem r22:Ev.aV .u32 22=4194304:=by decide
theorem r26:Ev.aV .u32 26=67108864:=by decide
theorem aR (x:Int) (l w:Nat) (hx:a_ x) (hw:1<=w/\w<=31) (hl:l<=31):ai gT 136 [.int .u32 x,.int .i64 ((l:Int)+w - 1),.int .i64 l] (.int .i64 (ab x l w)):=by
 have b:=af x l w
 have p:=ri w hw.2
 have c:=jJ hx.1 l w
 refine Spec.enter al P136 100 Tryz.func136 rfl (by kernel_rfl) ?_
 refine (jH x l w hx hw hl).u ?_
 rw[c]
 refine li ?_
 exact aw rfl
theorem je (n:Int) (b:Nat) (hb:b<=40) (hn:0<=n/\n < 2 ^ (b+1)):ai gT 139 [.int .i64 n,.int .i64 b] (.int .i64 (dh n (b+1))):=by
 have p1:=xy b (by omega)
 have p2:=xy (b+1) (by omega)
 have e:(((b+1:Nat)):Int)=(b:Int)+1:=rfl
 rw[e] at p2
 have d1:=xb b (by omega)
 have d2:=xb (b+1) (by omega)
 have ep:(2:Int) ^ (b+1)=2 ^ b*2:=Int.pow_succ 2 b
 have d3:(2:Int) ^ (b+1)<=2199023255552:=by
  have h1:(2 ^ (b+1):Nat)<=2 ^ 41:=Nat.pow_le_pow_right (by omega) (by omega)
  have h3:=cK (b+1)
  omega
 obtain⟨q,hq⟩:∃ q,q=n / 2 ^ b:=⟨_,rfl⟩
 have q0:0<=q:=by rw[hq]; exact Int.ediv_nonneg hn.1 (by omega)
 have q1:q < 2:=by rw[hq]; exact Int.ediv_lt_of_lt_mul (by omega) (by omega)
 refine Spec.enter al P139 100 Tryz.func139 rfl (by kernel_rfl) ?_
 refine⟨by omega,?_⟩
 refine li ?_ (show _<=(b:Int)+1/\(b:Int)+1<=_ by omega)
 have hm:n / 2 ^ b*2 ^ (b+1)=0\/n / 2 ^ b*2 ^ (b+1)=2 ^ (b+1):=by
  rw[← hq]
  have:q=0\/q=1:=by omega
  rcases this with h|h<;>rw[h]<;>omega
 refine⟨by omega,.inl ⟨ao (show _<=n / Ev.aV .i64 (b:Int)*Ev.aV .i64 ((b:Int)+1)/\n / Ev.aV .i64 (b:Int)*Ev.aV .i64 ((b:Int)+1)<=_ by rw[p1,p2]; omega),?_⟩⟩
 refine li ?_ (show _<=n - n / Ev.aV .i64 (b:Int)*Ev.aV .i64 ((b:Int)+1)/\n - n / Ev.aV .i64 (b:Int)*Ev.aV .i64 ((b:Int)+1)<=_ by rw[p1,p2]; omega)
 refine aw ?_
 show n - n / Ev.aV .i64 (b:Int)*Ev.aV .i64 ((b:Int)+1)=dh n (b+1)
 have eb:ab n b 1=q:=by
  unfold ab
  rw[if_neg (by omega),← hq,show (2:Int) ^ 1=2 from rfl]
  omega
 unfold dh
 rw[p1,p2,Nat.add_sub_cancel,eb,← hq]
 have:q=0\/q=1:=by omega
 rcases this with h|h<;>rw[h]
 ·rw[if_neg (by decide)]; omega
 ·rw[if_pos rfl]; omega
theorem fp (k b:Int):ai gT 137 [.int .i64 k,.int .i64 b] (.int .i64 (if b=0/\(k=1\/k=2) then 32 else b)):=by
 refine Spec.enter al P137 100 Tryz.func137 rfl (by kernel_rfl) ?_
 repeat' ((conv=>whnf); first|(refine (And.intro (fun _=>?_) (fun _=>?_):(_->_)/\(_->_))<;>(first|(exfalso; first|contradiction|omega)|skip))|refine Or.inl (And.intro (by first|exact ao (by omega)|exact ah (by omega)|exact aF (by omega)|exact ba (by omega)) ?_)|(refine And.intro (show (_:Int)≠0 by omega) (Or.inl (And.intro (show (0:Int)<=_ by omega) (And.intro (show (0:Int) < _ by omega) ?_))))|(refine And.intro (show (_:Int)≠0 by omega) (Or.inl (And.intro (show (0:Int)<=_ by omega) (And.intro (by first|exact (show (_:Int)<=9223372036854775807 by omega)|exact (show (_:Int)<=4294967295 by omega)) (And.intro (show (0:Int) < _ by omega) ?_)))))|(refine aw ?_; (show b=_); rw[if_neg (by omega)])|(refine aw ?_; (show (32:Int)=_); rw[if_pos (by omega)])|(intro _))
def bZ (i:IN) (w:Int):IN:={i with set:=ab w 20 1,rn:=ab w 16 4,rd:=ab w 8 4,rm:=ab w 0 4}
theorem bA (i:IN) (w:Int) (hw:a_ w):ai gT 140 [cX i,.int .u32 w] (cX (bZ i w)):=by
 refine Spec.enter al P140 100 Tryz.func140 rfl (by kernel_rfl) ?_
 refine (aR w 20 1 hw (by decide) (by decide)).u ?_
 refine (aR w 16 4 hw (by decide) (by decide)).u ?_
 refine (aR w 8 4 hw (by decide) (by decide)).u ?_
 refine (aR w 0 4 hw (by decide) (by decide)).u ?_
 exact rA
def cD (i:IN) (w:Int):IN:={i with rd:=ab w 0 3,rn:=ab w 3 3}
theorem mM (i:IN) (w:Int) (hw:a_ w):ai gT 138 [cX i,.int .u32 w] (cX (cD i w)):=by
 refine Spec.enter al P138 100 Tryz.func138 rfl (by kernel_rfl) ?_
 refine (aR w 0 3 hw (by decide) (by decide)).u ?_
 refine (aR w 3 3 hw (by decide) (by decide)).u ?_
 exact rA
theorem lM (a b:Int) (ha:a=0\/a=1) (hb:b=0\/b=1):ai gT 161 [.int .u32 a,.int .u32 b] (.int .u32 (if a=b then 1 else 0)):=by
 refine Spec.enter al P161 100 Tryz.func161 rfl (by kernel_rfl) ?_
 refine aw ?_
 show bits .xor .u32 (bits .xor .u32 1 a) b=_
 rcases ha with rfl|rfl<;>rcases hb with rfl|rfl<;>decide
theorem CY (a b:Int) (ha:0<=a/\a<=4294967295) (hb:0<=b/\b<=4294967295):bits .or .i64 a b=bits .or .i64 b a:=by
 have ea:a=(a.toNat:Int):=by omega
 have eb:b=(b.toNat:Int):=by omega
 rw[ea,eb,Rm.qd _ _ (by omega) (by omega),Rm.qd _ _ (by omega) (by omega),Nat.or_comm]
def eY (w:Int):Int:=ab w 26 1*2048+ab w 12 3*256+ab w 0 8
theorem TZ (w:Int):0<=eY w/\eY w < 4096:=by
 have b1:=af w 26 1
 have b2:=af w 12 3
 have b3:=af w 0 8
 unfold eY; omega
theorem GN (w:Int):bits .or .i64 (bits .or .i64 (ab w 26 1*2048) (ab w 12 3*256)) (ab w 0 8)=eY w:=by
 have b1:=af w 26 1
 have b2:=af w 12 3
 have b3:=af w 0 8
 rw[Rm.cN (ab w 26 1*2048) (ab w 12 3*256) 11 (by omega) (by omega) (by omega) (by omega) (by omega) (by omega)]
 rw[Rm.cN (ab w 26 1*2048+ab w 12 3*256) (ab w 0 8) 8 (by omega) (by omega) (by omega) (by omega) (by omega) (by omega)]
 rfl
theorem nR (w:Int) (hw:a_ w):ai gT 141 [.int .u32 w,.ff] (.int .i64 (eY w)):=by
 have b1:=af w 26 1
 have b2:=af w 12 3
 have b3:=af w 0 8
 refine Spec.enter al Wc 100 Tryz.func141 rfl (by kernel_rfl) ?_
 refine (aR w 26 1 hw (by decide) (by decide)).u ?_
 refine⟨by decide,.inl ⟨ao (by rw[q11]; omega),?_⟩⟩
 refine (aR w 12 3 hw (by decide) (by decide)).u ?_
 refine⟨by decide,.inl ⟨ao (by rw[q8]; omega),?_⟩⟩
 refine (aR w 0 8 hw (by decide) (by decide)).u ?_
 refine aw ?_
 show bits .or .i64 (bits .or .i64 (ab w 26 1*Ev.aV .i64 11) (ab w 12 3*Ev.aV .i64 8)) (ab w 0 8)=eY w
 rw[q11,q8,GN]
theorem GO (w:Int) (hw:a_ w):ai gT 141 [.int .u32 w,.tt] (.int .i64 (eY w+ab w 16 4*4096)):=by
 have b1:=af w 26 1
 have b2:=af w 12 3
 have b3:=af w 0 8
 have b4:=af w 16 4
 refine Spec.enter al Wc 100 Tryz.func141 rfl (by kernel_rfl) ?_
 refine (aR w 26 1 hw (by decide) (by decide)).u ?_
 refine⟨by decide,.inl ⟨ao (by rw[q11]; omega),?_⟩⟩
 refine (aR w 12 3 hw (by decide) (by decide)).u ?_
 refine⟨by decide,.inl ⟨ao (by rw[q8]; omega),?_⟩⟩
 refine (aR w 0 8 hw (by decide) (by decide)).u ?_
 refine (aR w 16 4 hw (by decide) (by decide)).u ?_
 refine⟨by decide,.inl ⟨ao (by rw[Ve]; omega),?_⟩⟩
 refine aw ?_
 show bits .or .i64 (bits .or .i64 (bits .or .i64 (ab w 26 1*Ev.aV .i64 11) (ab w 12 3*Ev.aV .i64 8)) (ab w 0 8)) (ab w 16 4*Ev.aV .i64 12)=_
 have nb:=TZ w
 rw[q11,q8,Ve,GN,CY _ _ (by omega) (by omega),Rm.cN (ab w 16 4*4096) (eY w) 12 (by omega) (by omega) (by omega) (by omega) (by omega) (by omega)]
 omega
def rC (w:Int):Int:=0+ab w 26 1*2 ^ 20+ab w 16 6*2 ^ 12+ab w 13 1*2 ^ 18+ab w 11 1*2 ^ 19+ab w 0 11*2 ^ 1
theorem xz (w:Int) (hw:a_ w):ai gT 144 [.int .u32 w] (.int .i64 (dh (rC w) 21)):=by
 have b1:=af w 26 1
 have b2:=af w 11 1
 have b3:=af w 13 1
 have b4:=af w 16 6
 have b5:=af w 0 11
 refine Spec.enter al P144 100 Tryz.func144 rfl (by kernel_rfl) ?_
 refine (aR w 26 1 hw (by decide) (by decide)).u ?_
 refine⟨by decide,.inl ⟨ao (by rw[q20]; omega),?_⟩⟩
 refine (aR w 11 1 hw (by decide) (by decide)).u ?_
 refine⟨by decide,.inl ⟨ao (by rw[q19]; omega),?_⟩⟩
 refine (aR w 13 1 hw (by decide) (by decide)).u ?_
 refine⟨by decide,.inl ⟨ao (by rw[q18]; omega),?_⟩⟩
 refine (aR w 16 6 hw (by decide) (by decide)).u ?_
 refine⟨by decide,.inl ⟨ao (by rw[Ve]; omega),?_⟩⟩
 refine (aR w 0 11 hw (by decide) (by decide)).u ?_
 refine⟨by decide,.inl ⟨ao (by rw[q1]; omega),?_⟩⟩
 have e:bits .or .i64 (bits .or .i64 (bits .or .i64 (bits .or .i64 (ab w 26 1*Ev.aV .i64 20) (ab w 11 1*Ev.aV .i64 19)) (ab w 13 1*Ev.aV .i64 18)) (ab w 16 6*Ev.aV .i64 12)) (ab w 0 11*Ev.aV .i64 1)=rC w:=by
  rw[q20,q19,q18,Ve,q1]
  rw[Rm.cN (ab w 26 1*1048576) (ab w 11 1*524288) 20 (by omega) (by omega) (by omega) (by omega) (by omega) (by omega)]
  rw[Rm.cN (ab w 26 1*1048576+ab w 11 1*524288) (ab w 13 1*262144) 19 (by omega) (by omega) (by omega) (by omega) (by omega) (by omega)]
  rw[Rm.cN (ab w 26 1*1048576+ab w 11 1*524288+ab w 13 1*262144) (ab w 16 6*4096) 18 (by omega) (by omega) (by omega) (by omega) (by omega) (by omega)]
  rw[Rm.cN (ab w 26 1*1048576+ab w 11 1*524288+ab w 13 1*262144+ab w 16 6*4096) (ab w 0 11*2) 12 (by omega) (by omega) (by omega) (by omega) (by omega) (by omega)]
  unfold rC; omega
 have hb:0<=rC w/\rC w < 2 ^ (20+1):=by unfold rC; omega
 refine⟨[],bn,(je (rC w) 20 (by decide) hb).use (And.intro e (And.intro rfl trivial)) rfl rfl ?_⟩
 exact aw rfl
def jK (w:Int):Int:=0+ab w 26 1*2 ^ 24+ab w 16 10*2 ^ 12+ab w 13 1*2 ^ 23+ab w 11 1*2 ^ 22+ab w 0 11*2 ^ 1
theorem mN (w:Int):0<=jK w/\jK w < 33554432/\jK w / 16777216=ab w 26 1/\jK w / 8388608 % 2=ab w 13 1/\jK w / 4194304 % 2=ab w 11 1/\jK w % 4194304=ab w 16 10*4096+ab w 0 11*2:=by
 have b1:=af w 26 1
 have b2:=af w 11 1
 have b3:=af w 13 1
 have b4:=af w 16 10
 have b5:=af w 0 11
 unfold jK; omega
theorem zy (w:Int):bL (jK w) 2=ab w 26 1*16777216+(if ab w 13 1=ab w 26 1 then 1 else 0)*8388608+(if ab w 11 1=ab w 26 1 then 1 else 0)*4194304+ab w 16 10*4096+ab w 0 11*2:=by
 obtain⟨h0,h1,h2,h3,h4,h5⟩:=mN w
 have b:=lJ ⟨h0,h1⟩
 have c:=nP ⟨h0,h1⟩
 have e:jK w / 16777216 % 2=ab w 26 1:=by omega
 rw[h2,h3,h4,h5,← h2,h2] at b
 have e2:ab w 26 1 % 2=ab w 26 1:=by omega
 rw[e2] at b
 obtain⟨t,ht⟩:∃ t,t=bL (jK w) 2:=⟨_,rfl⟩
 rw[← ht] at b c ⊢
 clear ht
 obtain⟨k1,k2,k3,k4⟩:=b
 rw[← k3,← k4]
 clear k3 k4
 omega
theorem xA (w:Int) (hw:a_ w):ai gT 145 [.int .u32 w] (.int .i64 (dh (bL (jK w) 2) 25)):=by
 have b1:=af w 26 1
 have b2:=af w 11 1
 have b3:=af w 13 1
 have b4:=af w 16 10
 have b5:=af w 0 11
 have c1:w9 w 26 1=ab w 26 1:=jJ hw.1 26 1
 have c2:w9 w 13 1=ab w 13 1:=jJ hw.1 13 1
 have c3:w9 w 11 1=ab w 11 1:=jJ hw.1 11 1
 have s2:=lM (ab w 13 1) (ab w 26 1) (j6 w 13) (j6 w 26)
 have s3:=lM (ab w 11 1) (ab w 26 1) (j6 w 11) (j6 w 26)
 have k2:=jH w 26 1 hw (by decide) (by decide)
 have k3:=jH w 13 1 hw (by decide) (by decide)
 have k4:=jH w 11 1 hw (by decide) (by decide)
 rw[c1] at k2
 rw[c2] at k3
 rw[c3] at k4
 have jt:=zy w
 obtain⟨m2,v7⟩:∃ m:Int,m=if ab w 13 1=ab w 26 1 then 1 else 0:=⟨_,rfl⟩
 obtain⟨m3,Lk⟩:∃ m:Int,m=if ab w 11 1=ab w 26 1 then 1 else 0:=⟨_,rfl⟩
 have d2:0<=m2/\m2<=1:=by rw[v7]; split<;>omega
 have d3:0<=m3/\m3<=1:=by rw[Lk]; split<;>omega
 rw[← v7] at s2 jt
 rw[← Lk] at s3 jt
 refine Spec.enter al P145 100 Tryz.func145 rfl (by kernel_rfl) ?_
 refine k2.u ?_
 refine li ?_
 refine⟨by decide,.inl ⟨ao (by rw[q24]; omega),?_⟩⟩
 refine k3.u ?_
 refine s2.u ?_
 refine li ?_
 refine⟨by decide,.inl ⟨ao (by rw[q23]; omega),?_⟩⟩
 refine k4.u ?_
 refine s3.u ?_
 refine li ?_
 refine⟨by decide,.inl ⟨ao (by rw[q22]; omega),?_⟩⟩
 refine (aR w 16 10 hw (by decide) (by decide)).u ?_
 refine⟨by decide,.inl ⟨ao (by rw[Ve]; omega),?_⟩⟩
 refine (aR w 0 11 hw (by decide) (by decide)).u ?_
 refine⟨by decide,.inl ⟨ao (by rw[q1]; omega),?_⟩⟩
 have e:bits .or .i64 (bits .or .i64 (bits .or .i64 (bits .or .i64 (ab w 26 1*Ev.aV .i64 24) (m2*Ev.aV .i64 23)) (m3*Ev.aV .i64 22)) (ab w 16 10*Ev.aV .i64 12)) (ab w 0 11*Ev.aV .i64 1)=bL (jK w) 2:=by
  rw[q24,q23,q22,Ve,q1]
  rw[Rm.cN (ab w 26 1*16777216) (m2*8388608) 24 (by omega) (by omega) (by omega) (by omega) (by omega) (by omega)]
  rw[Rm.cN (ab w 26 1*16777216+m2*8388608) (m3*4194304) 23 (by omega) (by omega) (by omega) (by omega) (by omega) (by omega)]
  rw[Rm.cN (ab w 26 1*16777216+m2*8388608+m3*4194304) (ab w 16 10*4096) 22 (by omega) (by omega) (by omega) (by omega) (by omega) (by omega)]
  rw[Rm.cN (ab w 26 1*16777216+m2*8388608+m3*4194304+ab w 16 10*4096) (ab w 0 11*2) 12 (by omega) (by omega) (by omega) (by omega) (by omega) (by omega)]
  rw[jt]
 have hb:=nP ⟨(mN w).1,(mN w).2.1⟩
 refine⟨[],bn,(je (bL (jK w) 2) 24 (by decide) ⟨hb.1,by omega⟩).use (And.intro e (And.intro rfl trivial)) rfl rfl ?_⟩
 exact aw rfl
theorem ai.OO {G:Gx} {f:FuncId} {args:List PV} {r r':PV} (h:ai G f args r) (hle:Aw r r'):ai G f args r':=by
 refine Spec.intro h.run.1 fun I β w bs hH hM hA=>?_
 refine (h.run.2 I β w bs hH hM hA).mono fun e w' ⟨v,r1,S',I',aU,he,hr,hi,ES⟩=>?_
 subst hr
 exact⟨v,r',S',I',aU,he,rfl,hle _ _ _ _ hi,ES⟩
theorem ay {f K:Int} (h:aa f=K):ai gT 122 [.int .i64 f] (.lit .i64 K) :=
 (fS f).OO (fA (x:=.int .i64 (aa f)) (y:=.lit .i64 K) h)
def B (v:Int) (l w a:Nat):Nat:=(ab v l w).toNat <<< a
theorem rD (v:Int) {l w a:Nat} (h:w+a<=32):B v l w a < 4294967296:=by
 have b:=af v l w
 have e:=cK w
 have h1:(ab v l w).toNat < 2 ^ w:=by omega
 unfold B
 rw[Nat.shiftLeft_eq]
 calc (ab v l w).toNat*2 ^ a < 2 ^ w*2 ^ a:=Nat.mul_lt_mul_of_pos_right h1 (Nat.two_pow_pos a)
  _=2 ^ (w+a):=(Nat.pow_add ..).symm
  _<=2 ^ 32:=Nat.pow_le_pow_right (by omega) h
theorem YO (v:Int) (l w a:Nat) (p:Int) (hp:p=2 ^ a):ab v l w*p=((B v l w a:Nat):Int):=by
 have b:=af v l w
 unfold B
 rw[Nat.shiftLeft_eq,hp,Int.natCast_mul,Int.toNat_of_nonneg b.1,cK]
def yv (x:Int) (a:Nat):Prop:=x=(a:Int)/\a < 4294967296
theorem yv.or {x y:Int} {a b:Nat} (hx:yv x a) (hy:yv y b):yv (bits .or .u32 x y) (a ||| b):=by
 obtain⟨rfl,ha⟩:=hx
 obtain⟨rfl,hb⟩:=hy
 refine⟨?_,Nat.or_lt_two_pow (n:=32) ha hb⟩
 rw[u32_or _ _ (by omega) (by omega) (by omega) (by omega),Int.toNat_natCast,Int.toNat_natCast]
theorem ss (v:Int) (l w a:Nat) {p:Int} (hp:p=2 ^ a) (h:w+a<=32):yv (ab v l w*p) (B v l w a):=⟨YO v l w a p hp,rD v h⟩
theorem vh (v:Int) (l w:Nat) (h:w<=32):yv (ab v l w) (B v l w 0):=⟨by have:=YO v l w 0 1 rfl; rwa [Int.mul_one] at this,rD v h⟩
theorem A4 {v:Int} {w:Nat} (h:0<=v/\v < 2 ^ w):ab v 0 w=v:=by
 unfold ab
 rw[if_neg (by omega),show (2:Int) ^ 0=1 from rfl,Int.ediv_one]
 exact Int.emod_eq_of_lt h.1 h.2
theorem oS (v:Int) (w a:Nat) {p:Int} (hp:p=2 ^ a) (h:w+a<=32) (hv:0<=v/\v < 2 ^ w):yv (v*p) (B v 0 w a):=by
 have:=ss v 0 w a hp h
 rwa [A4 hv] at this
theorem rE (v:Int) (w:Nat) (h:w<=32) (hv:0<=v/\v < 2 ^ w):yv v (B v 0 w 0):=by
 have:=vh v 0 w h
 rwa [A4 hv] at this
theorem rF {v:Int} {l w a:Nat} (h:ab v l w=0):B v l w a=0:=by unfold B; rw[h]; simp
theorem gL {v:Int} {l w a:Nat} (h:v=0):B v l w a=0:=by
 subst h
 apply rF
 unfold ab
 rw[if_neg (by omega),Int.zero_ediv,Int.zero_emod]
def eX (i:IN) (l:List (Nat × Nat × Nat × Nat)):Nat:=l.foldl (fun w x=>w ||| B (j5 i x.1) x.2.1 x.2.2.2 x.2.2.1) 0
theorem A5 (i:IN):∀ (l:List (Nat × Nat × Nat × Nat)) (W V:Nat),l.foldl (xe i) (W ||| V)=W ||| l.foldl (fun w x=>w ||| B (j5 i x.1) x.2.1 x.2.2.2 x.2.2.1) V
 | [],_,_=>rfl
 | x::l,W,V=>by
  rw[List.foldl_cons,List.foldl_cons]
  have e:xe i (W ||| V) x=W ||| (V ||| B (j5 i x.1) x.2.1 x.2.2.2 x.2.2.1):=by
   have h:(ab (j5 i x.1) x.2.1 x.2.2.2).toNat < 2 ^ x.2.2.2:=NC i x
   unfold xe plus B
   rw[Nat.mod_eq_of_lt h,Nat.or_assoc]
  rw[e,A5 i l]
theorem xB (i:IN) (l:List (Nat × Nat × Nat × Nat)):tH i l=(mW i.form).toNat ||| eX i l:=by
 unfold tH eX
 rw[← A5 i l,Nat.or_zero]
theorem nS (i:IN):bC i=(((mW i.form).toNat ||| eX (d_ i) (aD (aa i.form)):Nat):Int):=by
 unfold bC
 rw[xB,iD]
theorem j7 {a b:Nat} (ha:a < 4294967296) (hb:b < 4294967296):a ||| b < 4294967296:=Nat.or_lt_two_pow (n:=32) ha hb
theorem fM (i:IN):yv ((B i.set 0 1 20 ||| B i.rn 0 4 16 ||| B i.ra 0 4 12 ||| B i.rd 0 4 8 ||| B i.rm 0 4 0:Nat):Int) (B i.set 0 1 20 ||| B i.rn 0 4 16 ||| B i.ra 0 4 12 ||| B i.rd 0 4 8 ||| B i.rm 0 4 0) :=
 ⟨rfl,j7 (j7 (j7 (j7 (rD _ (by decide)) (rD _ (by decide))) (rD _ (by decide))) (rD _ (by decide))) (rD _ (by decide))⟩
theorem k7 (n:Int):yv ((B n 11 1 26 ||| B n 12 4 16 ||| B n 8 3 12 ||| B n 0 8 0:Nat):Int) (B n 11 1 26 ||| B n 12 4 16 ||| B n 8 3 12 ||| B n 0 8 0) :=
 ⟨rfl,j7 (j7 (j7 (rD _ (by decide)) (rD _ (by decide))) (rD _ (by decide))) (rD _ (by decide))⟩
theorem k8 (x:Int) (l w:Nat) (hx:a_ x) (hw:1<=w/\w<=31) (hl:l<=31):ai gT 157 [.int .u32 x,.int .i64 ((l:Int)+w - 1),.int .i64 l] (.int .u32 (ab x l w)):=by
 have h:=jH x l w hx hw hl
 rwa [jJ hx.1 l w] at h
theorem CZ (v:Int) (l w:Nat) (h:l+w<=32) (hv:-1099511627776<=v):w9 (IntKind.u32.wrap v) l w=ab v l w:=by
 rw[IntKind.wrap_u32',jJ (by omega)]
 obtain⟨n,hn⟩:∃ n:Nat,(n:Int)=if v < 0 then v+1099511627776 else v:=⟨(if v < 0 then v+1099511627776 else v).toNat,Int.toNat_of_nonneg (by split<;>omega)⟩
 have e:v % 4294967296=((n % 4294967296:Nat):Int):=by
  rw[Int.natCast_emod,hn]
  split<;>omega
 rw[e,tI]
 unfold ab
 rw[← hn]
 have key:n % 4294967296 / 2 ^ l % 2 ^ w=n / 2 ^ l % 2 ^ w:=by
  apply Nat.eq_of_testBit_eq
  intro p
  rw[Nat.testBit_mod_two_pow,Nat.testBit_mod_two_pow,Nat.testBit_div_two_pow,Nat.testBit_div_two_pow,show (4294967296:Nat)=2 ^ 32 from rfl,Nat.testBit_mod_two_pow]
  by_cases hp:p < w
  ·rw[decide_eq_true hp,decide_eq_true (show p+l < 32 by omega)]; simp
  ·rw[decide_eq_false hp]; simp
 rw[key,← cK,← cK]
 norm_cast
theorem pW (v:Int) (l w:Nat) (hv:-1099511627776<=v) (hw:1<=w/\w<=31) (hl:l<=31) (h:l+w<=32):ai gT 157 [.int .u32 (IntKind.u32.wrap v),.int .i64 ((l:Int)+w - 1),.int .i64 l] (.int .u32 (ab v l w)):=by
 have hx:0<=IntKind.u32.wrap v/\IntKind.u32.wrap v<=4294967295:=by rw[IntKind.wrap_u32']; omega
 have k:=jH (IntKind.u32.wrap v) l w hx hw hl
 rwa [CZ v l w h hv] at k
theorem GP {v:Int} (h:0<=v) (w:Nat):ab (v / 4) 0 w=ab v 2 w:=by
 unfold ab
 rw[if_neg (by omega),if_neg (by omega),show (2:Int) ^ 0=1 from rfl,show (2:Int) ^ 2=4 from rfl,Int.ediv_one]
theorem NM {v:Int} {w a:Nat} (h:0<=v):B (v / 4) 0 w a=B v 2 w a:=by unfold B; rw[GP h]
theorem isD (v:Int) (w:Nat) (h:w<=32) (h0:0<=v) (hv:v / 4 < 2 ^ w):yv (v / 4) (B v 2 w 0):=by
 have:=rE (v / 4) w h ⟨by omega,hv⟩
 rwa [NM h0] at this
theorem mO (i:IN) (v:Int) (w:Nat) (hv:0<=v/\v < 2 ^ w) (hd:0<=i.rd/\i.rd < 8) (hn:0<=i.rn/\i.rn < 8) (hw:w<=20):ai gT 160 [cX i,.int .u32 v] (.int .u32 ((B v 0 w 6 ||| B i.rn 0 3 3 ||| B i.rd 0 3 0:Nat):Int)):=by
 have hp:=ri w (by omega)
 have hU:(2:Int) ^ w<=1048576:=by
  have h1:(2 ^ w:Nat)<=2 ^ 20:=Nat.pow_le_pow_right (by omega) hw
  have h3:=cK w
  omega
 refine Spec.enter al P160 100 Tryz.func160 rfl (by kernel_rfl) ?_
 refine⟨by decide,.inl ⟨ah (by rw[r6]; omega),?_⟩⟩
 refine .inl ⟨ah (by omega),?_⟩
 refine⟨by decide,.inl ⟨ah (by rw[r3]; omega),?_⟩⟩
 refine .inl ⟨ah (by omega),?_⟩
 refine aw ?_
 exact (show bits .or .u32 (bits .or .u32 (v*Ev.aV .u32 6) (i.rn*Ev.aV .u32 3)) i.rd=_ from (((oS v w 6 (by decide) (by omega) hv).or (oS i.rn 3 3 (by decide) (by decide) hn)).or (rE i.rd 3 (by decide) hd)).1)
theorem di (i:IN) (hs:0<=i.set/\i.set < 2) (hd:0<=i.rd/\i.rd < 16) (hn:0<=i.rn/\i.rn < 16) (hm:0<=i.rm/\i.rm < 16) (ha:0<=i.ra/\i.ra < 16):ai gT 155 [cX i] (.int .u32 ((B i.set 0 1 20 ||| B i.rn 0 4 16 ||| B i.ra 0 4 12 ||| B i.rd 0 4 8 ||| B i.rm 0 4 0:Nat):Int)):=by
 refine Spec.enter al P155 100 Tryz.func155 rfl (by kernel_rfl) ?_
 refine .inl ⟨ah (by omega),?_⟩
 refine⟨by decide,.inl ⟨ah (by rw[r20]; omega),?_⟩⟩
 refine .inl ⟨ah (by omega),?_⟩
 refine⟨by decide,.inl ⟨ah (by rw[NL]; omega),?_⟩⟩
 refine .inl ⟨ah (by omega),?_⟩
 refine⟨by decide,.inl ⟨ah (by rw[NK]; omega),?_⟩⟩
 refine .inl ⟨ah (by omega),?_⟩
 refine⟨by decide,.inl ⟨ah (by rw[r8]; omega),?_⟩⟩
 refine .inl ⟨ah (by omega),?_⟩
 refine aw ?_
 exact (show bits .or .u32 (bits .or .u32 (bits .or .u32 (bits .or .u32 (i.set*Ev.aV .u32 20) (i.rn*Ev.aV .u32 16)) (i.ra*Ev.aV .u32 12)) (i.rd*Ev.aV .u32 8)) i.rm=_ from (((((oS i.set 1 20 (by decide) (by decide) hs).or (oS i.rn 4 16 (by decide) (by decide) hn)).or (oS i.ra 4 12 (by decide) (by decide) ha)).or (oS i.rd 4 8 (by decide) (by decide) hd)).or (rE i.rm 4 (by decide) hm)).1)
theorem gO (n:Int) (hn:a_ n):ai gT 156 [.int .u32 n] (.int .u32 ((B n 11 1 26 ||| B n 12 4 16 ||| B n 8 3 12 ||| B n 0 8 0:Nat):Int)):=by
 have b0:=af n 11 1
 have b1:=af n 12 4
 have b2:=af n 8 3
 have b3:=af n 0 8
 refine Spec.enter al P156 100 Tryz.func156 rfl (by kernel_rfl) ?_
 refine (k8 n 11 1 hn (by decide) (by decide)).u ?_
 refine⟨by decide,.inl ⟨ah (by rw[r26]; omega),?_⟩⟩
 refine (k8 n 12 4 hn (by decide) (by decide)).u ?_
 refine⟨by decide,.inl ⟨ah (by rw[NL]; omega),?_⟩⟩
 refine (k8 n 8 3 hn (by decide) (by decide)).u ?_
 refine⟨by decide,.inl ⟨ah (by rw[NK]; omega),?_⟩⟩
 refine (k8 n 0 8 hn (by decide) (by decide)).u ?_
 refine aw ?_
 exact (show bits .or .u32 (bits .or .u32 (bits .or .u32 (ab n 11 1*Ev.aV .u32 26) (ab n 12 4*Ev.aV .u32 16)) (ab n 8 3*Ev.aV .u32 12)) (ab n 0 8)=_ from ((((ss n 11 1 26 (by decide) (by decide)).or (ss n 12 4 16 (by decide) (by decide))).or (ss n 8 3 12 (by decide) (by decide))).or (vh n 0 8 (by decide))).1)
end Go.Proofs.YtlgkljpgagfndaaGreatDoor.Pw

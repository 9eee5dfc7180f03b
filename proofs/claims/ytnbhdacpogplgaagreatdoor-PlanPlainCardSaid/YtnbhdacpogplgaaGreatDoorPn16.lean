/- What this claim is proved with: no condition. -/
import Derived.Test.YtnbhdacpogplgaaGreatDoorPn15
set_option maxRecDepth 100000
set_option maxHeartbeats 4000000
set_option linter.unusedVariables false
set_option linter.unusedSimpArgs false
namespace Go.Proofs.YtnbhdacpogplgaaGreatDoor.Pw
open Go Go.RowKit
theorem KE (t:Int) (h:0<=t/\t < 33554432) (h2:t % 2=0):0+aa t 24 1*2 ^ 24+aa t 12 10*2 ^ 12+aa t 23 1*2 ^ 23+aa t 22 1*2 ^ 22+aa t 1 11*2 ^ 1=t:=by
 unfold aa; rw[if_neg (by omega)]; omega
theorem wV (v:Int) (h:-16777216<=v/\v<=16777214/\v % 2=0):(0<=aa v 0 25/\aa v 0 25 < 33554432)/\aa v 0 25 % 2=0/\bO (aa v 0 25) 25=v:=by
 have e:aa v 0 25=if v < 0 then v+33554432 else v:=by unfold aa; split<;>omega
 have e2:∀ m:Int,0<=m->aa m 24 1=m / 16777216 % 2:=fun m hm=>by unfold aa; rw[if_neg (by omega)]; rfl
 have hb:0<=aa v 0 25/\aa v 0 25 < 33554432:=by rw[e]; split<;>omega
 refine⟨hb,by rw[e]; split<;>omega,?_⟩
 unfold bO
 rw[show (25 - 1:Nat)=24 from rfl,e2 _ hb.1,e]
 have p:(2:Int) ^ 25=33554432:=by decide
 rw[p]
 split<;>split<;>omega
theorem Dd (i:IN) (hs:af i.form=34) (hr:aD i (cw 34)):{bD 34 (cI i) with form:=i.form}=i:=by
 obtain⟨hf,h1,h2,h3,h4,h5,h6,h7,h8,h9,bI⟩:=hr
 have g0:=ar (r:=i.rd) h1
 have g1:=ar (r:=i.rn) h2
 have g2:=ar (r:=i.rm) h3
 have g3:=ar (r:=i.ra) h4
 have g4:-16777216<=i.av/\i.av<=16777214/\i.av % 2=0:=cJ (s:=2) (by decide) h7
 have g5:i.kind=0:=(aJ rfl h9).1
 have g6:i.ba=0:=aW (aJ rfl h9).2
 have g7:i.set=0:=h8.elim id fun e=>absurd (show false=true from e.2) Bool.false_ne_true
 have g8:i.cond=0:=h6.elim id fun e=>absurd (show false=true from e.1) Bool.false_ne_true
 have g9:i.aq=0:=bS rfl h5
 obtain⟨hb,he,hl⟩:=wV i.av g4
 rw[ML hs]
 have hn:=kd hb
 have Oe:aV (aa i.av 0 25) 2 % 2=0:=by have:=(iH hb).2.1; omega
 have VZ:∀ x:Int,lP 34 i.form x=bO (aV x 2) 25:=fun x=>by
  unfold lP; rw[if_neg (by decide),if_neg (by decide),if_neg (by decide),if_pos rfl]
 have hi:lP 34 i.form (0+aa (aV (aa i.av 0 25) 2) 24 1*2 ^ 24+aa (aV (aa i.av 0 25) 2) 12 10*2 ^ 12+aa (aV (aa i.av 0 25) 2) 23 1*2 ^ 23+aa (aV (aa i.av 0 25) 2) 22 1*2 ^ 22+aa (aV (aa i.av 0 25) 2) 1 11*2 ^ 1)=i.av:=by
  rw[VZ,KE _ hn Oe,wS hb,hl]
 exact aH rfl (Km i.rd g0) (Kn i.rn g1) (Ko i.rm g2) (Kp i.ra g3) hi (Kq i.kind g5) ((aX (K:=34) (k:=0) (by decide)).trans (Kr i.ba g6)) (Ks i.set g7) (Kt i.cond g8) (Ku i.aq g9)
theorem De {s:Int} (h:1<=s/\s<=34):s=1\/s=2\/s=3\/s=4\/s=5\/s=6\/s=7\/s=8\/s=9\/s=10\/s=11\/s=12\/s=13\/s=14\/s=15\/s=16\/s=17\/s=18\/s=19\/s=20\/s=21\/s=22\/s=23\/s=24\/s=25\/s=26\/s=27\/s=28\/s=29\/s=30\/s=31\/s=32\/s=33\/s=34:=by omega
theorem z3 (i:IN) (h:af i.form=32) (hr:0<=i.rm/\i.rm < 15):aa (bZ i) 0 4=aa (cI i).rm 0 4:=by
 have hx:((2,0,0,4):Nat × Nat × Nat × Nat)∈ao (af i.form):=by rw[h]; decide
 exact oO i hx
theorem back (i:IN) (h:bC i) (hg:i.aq<=9223372036854775807):aF i.form (bZ i)=i:=by
 rw[wT i fun Lx=>z3 i Lx (mX h).2.2.1]
 have hr:=h
 unfold bC at hr
 rcases De (h_ h.1) with hs|hs|hs|hs|hs|hs|hs|hs|hs|hs|hs|hs|hs|hs|hs|hs|hs|hs|hs|hs|hs|hs|hs|hs|hs|hs|hs|hs|hs|hs|hs|hs|hs|hs
 ·rw[hs] at hr ⊢; rw[ay (by rw[hs]; decide)]; exact Kv i hs hr hg
 ·rw[hs] at hr ⊢; rw[ay (by rw[hs]; decide)]; exact Kw i hs hr hg
 ·rw[hs] at hr ⊢; rw[ay (by rw[hs]; decide)]; exact Kx i hs hr hg
 ·rw[hs] at hr ⊢; rw[ay (by rw[hs]; decide)]; exact Ky i hs hr hg
 ·rw[hs] at hr ⊢; rw[ay (by rw[hs]; decide)]; exact Kz i hs hr hg
 ·rw[hs] at hr ⊢; rw[ay (by rw[hs]; decide)]; exact KA i hs hr hg
 ·rw[hs] at hr ⊢; rw[ay (by rw[hs]; decide)]; exact KB i hs hr hg
 ·rw[hs] at hr ⊢; rw[ay (by rw[hs]; decide)]; exact KC i hs hr hg
 ·rw[hs] at hr ⊢; rw[ay (by rw[hs]; decide)]; exact KD i hs hr hg
 ·rw[hs] at hr ⊢; rw[ay (by rw[hs]; decide)]; exact CR i hs hr hg
 ·rw[hs] at hr ⊢; rw[ay (by rw[hs]; decide)]; exact CS i hs hr hg
 ·rw[hs] at hr ⊢; rw[ay (by rw[hs]; decide)]; exact CT i hs hr hg
 ·rw[hs] at hr ⊢; rw[ay (by rw[hs]; decide)]; exact CU i hs hr hg
 ·rw[hs] at hr ⊢; rw[ay (by rw[hs]; decide)]; exact CV i hs hr hg
 ·rw[hs] at hr ⊢; rw[ay (by rw[hs]; decide)]; exact CW i hs hr hg
 ·rw[hs] at hr ⊢; rw[ay (by rw[hs]; decide)]; exact CX i hs hr hg
 ·rw[hs] at hr ⊢; rw[ay (by rw[hs]; decide)]; exact CY i hs hr hg
 ·rw[hs] at hr ⊢; rw[ay (by rw[hs]; decide)]; exact CZ i hs hr hg
 ·rw[hs] at hr ⊢; rw[ay (by rw[hs]; decide)]; exact C0 i hs hr hg
 ·rw[hs] at hr ⊢; rw[ay (by rw[hs]; decide)]; exact C1 i hs hr hg
 ·rw[hs] at hr ⊢; rw[ay (by rw[hs]; decide)]; exact C2 i hs hr hg
 ·rw[hs] at hr ⊢; rw[ay (by rw[hs]; decide)]; exact C3 i hs hr hg
 ·rw[hs] at hr ⊢; rw[ay (by rw[hs]; decide)]; exact C4 i hs hr hg
 ·rw[hs] at hr ⊢; rw[ay (by rw[hs]; decide)]; exact C5 i hs hr hg
 ·rw[hs] at hr ⊢; rw[ay (by rw[hs]; decide)]; exact C6 i hs hr hg
 ·rw[hs] at hr ⊢; rw[ay (by rw[hs]; decide)]; exact C7 i hs hr hg
 ·rw[hs] at hr ⊢; rw[ay (by rw[hs]; decide)]; exact C8 i hs hr hg
 ·rw[hs] at hr ⊢; rw[ay (by rw[hs]; decide)]; exact C9 i hs hr hg
 ·rw[hs] at hr ⊢; rw[ay (by rw[hs]; decide)]; exact C' i hs hr hg
 ·rw[hs] at hr ⊢; rw[ay (by rw[hs]; decide)]; exact C_ i hs hr hg
 ·rw[hs] at hr ⊢; rw[ay (by rw[hs]; decide)]; exact Da i hs hr hg
 ·rw[hs] at hr ⊢; rw[ay (by rw[hs]; decide)]; exact Db i hs hr hg
 ·rw[hs] at hr ⊢; rw[ay (by rw[hs]; decide)]; exact Dc i hs hr hg
 ·rw[hs] at hr ⊢; exact Dd i hs hr
def KF (f w:Int):IN:=⟨f,0+aa w 0 3*2 ^ 0,0,0+aa w 3 3*2 ^ 0,0,if 1 < f/\0+aa w 6 5*2 ^ 0=0 then 32 else 0+aa w 6 5*2 ^ 0,0,0,0,0,0⟩
theorem RH {f w:Int} (h:af f=1):aF f w=KF f w:=by
 unfold aF; rw[h]
 exact aH rfl rfl rfl rfl rfl (EW) rfl (aX (K:=1) (k:=xV 1 w 5) (by decide)) rfl rfl rfl
def KG (f w:Int):IN:=⟨f,0+aa w 0 3*2 ^ 0,0+aa w 3 3*2 ^ 0,0+aa w 6 3*2 ^ 0,0,0,0,0,0,0,0⟩
theorem RI {f w:Int} (h:af f=2):aF f w=KG f w:=by
 unfold aF; rw[h]
 exact aH rfl rfl rfl rfl rfl (aM (K:=2) (f:=f) (by decide)) rfl (aX (K:=2) (k:=xV 2 w 5) (by decide)) rfl rfl rfl
def KH (f w:Int):IN:=⟨f,0+aa w 0 3*2 ^ 0,0+aa w 3 3*2 ^ 0,0,0,0+aa w 6 3*2 ^ 0,0,0,0,0,0⟩
theorem RJ {f w:Int} (h:af f=3):aF f w=KH f w:=by
 unfold aF; rw[h]
 exact aH rfl rfl rfl rfl rfl (aM (K:=3) (f:=f) (by decide)) rfl (aX (K:=3) (k:=xV 3 w 5) (by decide)) rfl rfl rfl
def KI (f w:Int):IN:=⟨f,0+aa w 8 3*2 ^ 0,0,0,0,0+aa w 0 8*2 ^ 0,0,0,0,0,0⟩
theorem RK {f w:Int} (h:af f=4):aF f w=KI f w:=by
 unfold aF; rw[h]
 exact aH rfl rfl rfl rfl rfl (aM (K:=4) (f:=f) (by decide)) rfl (aX (K:=4) (k:=xV 4 w 5) (by decide)) rfl rfl rfl
def KJ (f w:Int):IN:=⟨f,0+aa w 0 3*2 ^ 0,0,0+aa w 3 3*2 ^ 0,0,0,0,0,0,0,0⟩
theorem RL {f w:Int} (h:af f=5):aF f w=KJ f w:=by
 unfold aF; rw[h]
 exact aH rfl rfl rfl rfl rfl (aM (K:=5) (f:=f) (by decide)) rfl (aX (K:=5) (k:=xV 5 w 5) (by decide)) rfl rfl rfl
def KK (f w:Int):IN:=⟨f,0+aa w 7 1*2 ^ 3+aa w 0 3*2 ^ 0,0,0+aa w 3 4*2 ^ 0,0,0,0,0,0,0,0⟩
theorem RM {f w:Int} (h:af f=6):aF f w=KK f w:=by
 unfold aF; rw[h]
 exact aH rfl rfl rfl rfl rfl (aM (K:=6) (f:=f) (by decide)) rfl (aX (K:=6) (k:=xV 6 w 5) (by decide)) rfl rfl rfl
def KM (f w:Int):IN:=⟨f,0,0,0+aa w 3 4*2 ^ 0,0,0,0,0,0,0,0⟩
theorem RN {f w:Int} (h:af f=7):aF f w=KM f w:=by
 unfold aF; rw[h]
 exact aH rfl rfl rfl rfl rfl (aM (K:=7) (f:=f) (by decide)) rfl (aX (K:=7) (k:=xV 7 w 5) (by decide)) rfl rfl rfl
def KN (f w:Int):IN:=⟨f,0+aa w 8 3*2 ^ 0,0,0,0,0+aa w 0 8*2 ^ 2,0,0,0,0,0⟩
theorem RO {f w:Int} (h:af f=8):aF f w=KN f w:=by
 unfold aF; rw[h]
 exact aH rfl rfl rfl rfl rfl (aM (K:=8) (f:=f) (by decide)) rfl (aX (K:=8) (k:=xV 8 w 5) (by decide)) rfl rfl rfl
def KO (f w:Int):IN:=⟨f,0+aa w 0 3*2 ^ 0,0+aa w 3 3*2 ^ 0,0,0,0+aa w 6 5*2 ^ 2,0,0,0,0,0⟩
theorem RP {f w:Int} (h:af f=9):aF f w=KO f w:=by
 unfold aF; rw[h]
 exact aH rfl rfl rfl rfl rfl (aM (K:=9) (f:=f) (by decide)) rfl (aX (K:=9) (k:=xV 9 w 5) (by decide)) rfl rfl rfl
def z4 (f w:Int):IN:=⟨f,0,0,0,0,0+aa w 0 7*2 ^ 2,0,0,0,0,0⟩
theorem Of {f w:Int} (h:af f=10):aF f w=z4 f w:=by
 unfold aF; rw[h]
 exact aH rfl rfl rfl rfl rfl (aM (K:=10) (f:=f) (by decide)) rfl (aX (K:=10) (k:=xV 10 w 5) (by decide)) rfl rfl rfl
def z5 (f w:Int):IN:=⟨f,0,0,0,0,0,0,0,0,0,0+aa w 8 1*2 ^ 14+aa w 0 8*2 ^ 0⟩
theorem Og {f w:Int} (h:af f=11):aF f w=z5 f w:=by
 unfold aF; rw[h]
 exact aH rfl rfl rfl rfl rfl (aM (K:=11) (f:=f) (by decide)) rfl (aX (K:=11) (k:=xV 11 w 5) (by decide)) rfl rfl rfl
def z6 (f w:Int):IN:=⟨f,0,0,0,0,0,0,0,0,0,0+aa w 8 1*2 ^ 15+aa w 0 8*2 ^ 0⟩
theorem Oh {f w:Int} (h:af f=12):aF f w=z6 f w:=by
 unfold aF; rw[h]
 exact aH rfl rfl rfl rfl rfl (aM (K:=12) (f:=f) (by decide)) rfl (aX (K:=12) (k:=xV 12 w 5) (by decide)) rfl rfl rfl
def z7 (f w:Int):IN:=⟨f,0,0,0,0,0,0,0,0,0,0⟩
theorem Oi {f w:Int} (h:af f=13):aF f w=z7 f w:=by
 unfold aF; rw[h]
 exact aH rfl rfl rfl rfl rfl (aM (K:=13) (f:=f) (by decide)) rfl (aX (K:=13) (k:=xV 13 w 5) (by decide)) rfl rfl rfl
def z8 (f w:Int):IN:=⟨f,0,0,0,0,0+aa w 0 8*2 ^ 0,0,0,0,0,0⟩
theorem Oj {f w:Int} (h:af f=14):aF f w=z8 f w:=by
 unfold aF; rw[h]
 exact aH rfl rfl rfl rfl rfl (aM (K:=14) (f:=f) (by decide)) rfl (aX (K:=14) (k:=xV 14 w 5) (by decide)) rfl rfl rfl
def z9 (f w:Int):IN:=⟨f,0,0,0,0,bO (0+aa w 0 8*2 ^ 1) 9,0,0,0,0+aa w 8 4*2 ^ 0,0⟩
theorem Ol {f w:Int} (h:af f=15):aF f w=z9 f w:=by
 unfold aF; rw[h]
 exact aH rfl rfl rfl rfl rfl (rfl) rfl (aX (K:=15) (k:=xV 15 w 5) (by decide)) rfl rfl rfl
def z_ (f w:Int):IN:=⟨f,0,0,0,0,bO (0+aa w 0 11*2 ^ 1) 12,0,0,0,0,0⟩
theorem Om {f w:Int} (h:af f=16):aF f w=z_ f w:=by
 unfold aF; rw[h]
 exact aH rfl rfl rfl rfl rfl (rfl) rfl (aX (K:=16) (k:=xV 16 w 5) (by decide)) rfl rfl rfl
def Aa (f w:Int):IN:=⟨f,0+aa w 8 4*2 ^ 0,0,0,0,0+aa w 26 1*2 ^ 11+aa w 16 4*2 ^ 12+aa w 12 3*2 ^ 8+aa w 0 8*2 ^ 0,0,0,0,0,0⟩
theorem On {f w:Int} (h:af f=17):aF f w=Aa f w:=by
 unfold aF; rw[h]
 exact aH rfl rfl rfl rfl rfl (aM (K:=17) (f:=f) (by decide)) rfl (aX (K:=17) (k:=xV 17 w 5) (by decide)) rfl rfl rfl
def vq (f w:Int):IN:=⟨f,0+aa w 8 4*2 ^ 0,0+aa w 16 4*2 ^ 0,0,0,0+aa w 26 1*2 ^ 11+aa w 12 3*2 ^ 8+aa w 0 8*2 ^ 0,0,0,0+aa w 20 1*2 ^ 0,0,0⟩
theorem Oo {f w:Int} (h:af f=18):aF f w=vq f w:=by
 unfold aF; rw[h]
 exact aH rfl rfl rfl rfl rfl (aM (K:=18) (f:=f) (by decide)) rfl (aX (K:=18) (k:=xV 18 w 5) (by decide)) rfl rfl rfl
def vr (f w:Int):IN:=⟨f,0+aa w 8 4*2 ^ 0,0,0,0,0+aa w 26 1*2 ^ 11+aa w 12 3*2 ^ 8+aa w 0 8*2 ^ 0,0,0,0+aa w 20 1*2 ^ 0,0,0⟩
theorem Oq {f w:Int} (h:af f=19):aF f w=vr f w:=by
 unfold aF; rw[h]
 exact aH rfl rfl rfl rfl rfl (aM (K:=19) (f:=f) (by decide)) rfl (aX (K:=19) (k:=xV 19 w 5) (by decide)) rfl rfl rfl
def vt (f w:Int):IN:=⟨f,0,0+aa w 16 4*2 ^ 0,0,0,0+aa w 26 1*2 ^ 11+aa w 12 3*2 ^ 8+aa w 0 8*2 ^ 0,0,0,0,0,0⟩
theorem Ot {f w:Int} (h:af f=20):aF f w=vt f w:=by
 unfold aF; rw[h]
 exact aH rfl rfl rfl rfl rfl (aM (K:=20) (f:=f) (by decide)) rfl (aX (K:=20) (k:=xV 20 w 5) (by decide)) rfl rfl rfl
def vu (f w:Int):IN:=⟨f,0+aa w 8 4*2 ^ 0,0+aa w 16 4*2 ^ 0,0+aa w 0 4*2 ^ 0,0,0,0+aa w 4 2*2 ^ 0,if 0+aa w 12 3*2 ^ 2+aa w 6 2*2 ^ 0=0/\(0+aa w 4 2*2 ^ 0=1\/0+aa w 4 2*2 ^ 0=2) then 32 else 0+aa w 12 3*2 ^ 2+aa w 6 2*2 ^ 0,0+aa w 20 1*2 ^ 0,0,0⟩
theorem Ou {f w:Int} (h:af f=21):aF f w=vu f w:=by
 unfold aF; rw[h]
 exact aH rfl rfl rfl rfl rfl (aM (K:=21) (f:=f) (by decide)) rfl (oQ (K:=21) (by decide)) rfl rfl rfl
def vv (f w:Int):IN:=⟨f,0+aa w 8 4*2 ^ 0,0,0+aa w 0 4*2 ^ 0,0,0,0+aa w 4 2*2 ^ 0,if 0+aa w 12 3*2 ^ 2+aa w 6 2*2 ^ 0=0/\(0+aa w 4 2*2 ^ 0=1\/0+aa w 4 2*2 ^ 0=2) then 32 else 0+aa w 12 3*2 ^ 2+aa w 6 2*2 ^ 0,0+aa w 20 1*2 ^ 0,0,0⟩
theorem Ov {f w:Int} (h:af f=22):aF f w=vv f w:=by
 unfold aF; rw[h]
 exact aH rfl rfl rfl rfl rfl (aM (K:=22) (f:=f) (by decide)) rfl (oQ (K:=22) (by decide)) rfl rfl rfl
def vw (f w:Int):IN:=⟨f,0,0+aa w 16 4*2 ^ 0,0+aa w 0 4*2 ^ 0,0,0,0+aa w 4 2*2 ^ 0,if 0+aa w 12 3*2 ^ 2+aa w 6 2*2 ^ 0=0/\(0+aa w 4 2*2 ^ 0=1\/0+aa w 4 2*2 ^ 0=2) then 32 else 0+aa w 12 3*2 ^ 2+aa w 6 2*2 ^ 0,0,0,0⟩
theorem Ow {f w:Int} (h:af f=23):aF f w=vw f w:=by
 unfold aF; rw[h]
 exact aH rfl rfl rfl rfl rfl (aM (K:=23) (f:=f) (by decide)) rfl (oQ (K:=23) (by decide)) rfl rfl rfl
def vx (f w:Int):IN:=⟨f,0+aa w 8 4*2 ^ 0,0+aa w 16 4*2 ^ 0,0,0,0+aa w 26 1*2 ^ 11+aa w 12 3*2 ^ 8+aa w 0 8*2 ^ 0,0,0,0,0,0⟩
theorem Ox {f w:Int} (h:af f=24):aF f w=vx f w:=by
 unfold aF; rw[h]
 exact aH rfl rfl rfl rfl rfl (aM (K:=24) (f:=f) (by decide)) rfl (aX (K:=24) (k:=xV 24 w 5) (by decide)) rfl rfl rfl
def Ab (f w:Int):IN:=⟨f,0+aa w 12 4*2 ^ 0,0+aa w 16 4*2 ^ 0,0,0,0+aa w 0 12*2 ^ 0,0,0,0,0,0⟩
theorem Oy {f w:Int} (h:af f=25):aF f w=Ab f w:=by
 unfold aF; rw[h]
 exact aH rfl rfl rfl rfl rfl (aM (K:=25) (f:=f) (by decide)) rfl (aX (K:=25) (k:=xV 25 w 5) (by decide)) rfl rfl rfl
def Ac (f w:Int):IN:=⟨f,0+aa w 12 4*2 ^ 0,0+aa w 16 4*2 ^ 0,0+aa w 0 4*2 ^ 0,0,0,0,0+aa w 4 2*2 ^ 0,0,0,0⟩
theorem Oz {f w:Int} (h:af f=26):aF f w=Ac f w:=by
 unfold aF; rw[h]
 exact aH rfl rfl rfl rfl rfl (aM (K:=26) (f:=f) (by decide)) rfl (aX (K:=26) (k:=xV 26 w 5) (by decide)) rfl rfl rfl
def Ad (f w:Int):IN:=⟨f,0+aa w 8 4*2 ^ 0,0+aa w 16 4*2 ^ 0,0+aa w 0 4*2 ^ 0,0,0,0,0,0+aa w 20 1*2 ^ 0,0,0⟩
theorem OA {f w:Int} (h:af f=27):aF f w=Ad f w:=by
 unfold aF; rw[h]
 exact aH rfl rfl rfl rfl rfl (aM (K:=27) (f:=f) (by decide)) rfl (aX (K:=27) (k:=xV 27 w 5) (by decide)) rfl rfl rfl
def Ae (f w:Int):IN:=⟨f,0+aa w 8 4*2 ^ 0,0+aa w 16 4*2 ^ 0,0+aa w 0 4*2 ^ 0,0,0,0,0,0,0,0⟩
theorem OB {f w:Int} (h:af f=28):aF f w=Ae f w:=by
 unfold aF; rw[h]
 exact aH rfl rfl rfl rfl rfl (aM (K:=28) (f:=f) (by decide)) rfl (aX (K:=28) (k:=xV 28 w 5) (by decide)) rfl rfl rfl
def Af (f w:Int):IN:=⟨f,0+aa w 8 4*2 ^ 0,0+aa w 16 4*2 ^ 0,0+aa w 0 4*2 ^ 0,0+aa w 12 4*2 ^ 0,0,0,0,0,0,0⟩
theorem OC {f w:Int} (h:af f=29):aF f w=Af f w:=by
 unfold aF; rw[h]
 exact aH rfl rfl rfl rfl rfl (aM (K:=29) (f:=f) (by decide)) rfl (aX (K:=29) (k:=xV 29 w 5) (by decide)) rfl rfl rfl
def Ag (f w:Int):IN:=⟨f,0+aa w 8 4*2 ^ 0,0+aa w 16 4*2 ^ 0,0+aa w 0 4*2 ^ 0,0+aa w 12 4*2 ^ 0,0,0,0,0,0,0⟩
theorem OD {f w:Int} (h:af f=30):aF f w=Ag f w:=by
 unfold aF; rw[h]
 exact aH rfl rfl rfl rfl rfl (aM (K:=30) (f:=f) (by decide)) rfl (aX (K:=30) (k:=xV 30 w 5) (by decide)) rfl rfl rfl
def Ah (f w:Int):IN:=⟨f,0+aa w 12 4*2 ^ 0,0+aa w 16 4*2 ^ 0,0+aa w 0 4*2 ^ 0,0+aa w 8 4*2 ^ 0,0,0,0,0,0,0⟩
theorem OE {f w:Int} (h:af f=31):aF f w=Ah f w:=by
 unfold aF; rw[h]
 exact aH rfl rfl rfl rfl rfl (aM (K:=31) (f:=f) (by decide)) rfl (aX (K:=31) (k:=xV 31 w 5) (by decide)) rfl rfl rfl
def Ai (f w:Int):IN:=⟨f,0+aa w 8 4*2 ^ 0,0,aa w 0 4,0,0,0,0,0,0,0⟩
theorem OF {f w:Int} (h:af f=32):aF f w=Ai f w:=by
 unfold aF; rw[h]
 exact aH rfl rfl rfl rfl rfl (aM (K:=32) (f:=f) (by decide)) rfl (aX (K:=32) (k:=xV 32 w 5) (by decide)) rfl rfl rfl
def Aj (f w:Int):IN:=⟨f,0,0,0,0,bO (0+aa w 26 1*2 ^ 20+aa w 16 6*2 ^ 12+aa w 13 1*2 ^ 18+aa w 11 1*2 ^ 19+aa w 0 11*2 ^ 1) 21,0,0,0,0+aa w 22 4*2 ^ 0,0⟩
theorem OG {f w:Int} (h:af f=33):aF f w=Aj f w:=by
 unfold aF; rw[h]
 exact aH rfl rfl rfl rfl rfl (rfl) rfl (aX (K:=33) (k:=xV 33 w 5) (by decide)) rfl rfl rfl
def Ak (f w:Int):IN:=⟨f,0,0,0,0,bO (aV (0+aa w 26 1*2 ^ 24+aa w 16 10*2 ^ 12+aa w 13 1*2 ^ 23+aa w 11 1*2 ^ 22+aa w 0 11*2 ^ 1) 2) 25,0,0,0,0,0⟩
theorem OH {f w:Int} (h:af f=34):aF f w=Ak f w:=by
 unfold aF; rw[h]
 exact aH rfl rfl rfl rfl rfl (rfl) rfl (aX (K:=34) (k:=xV 34 w 5) (by decide)) rfl rfl rfl
def cb (x:Int):Prop:=0<=x/\x<=4294967295
theorem fX {x:Int} (hx:0<=x) (l w:Nat):rW x l w=aa x l w:=by unfold rW aa; rw[if_neg (by omega)]
theorem sh (n:Nat) (h:n<=64):Ev.aC .i64 (n:Int)=2 ^ n:=by
 unfold Ev.aC
 rw[Int.toNat_natCast,show min n (IntKind.bits .i64)=n from Nat.min_eq_left h]
 norm_cast
theorem q1:Ev.aC .i64 1=2:=by decide
theorem q4:Ev.aC .i64 4=16:=by decide
theorem q8:Ev.aC .i64 8=256:=by decide
theorem Px:Ev.aC .i64 11=2048:=by decide
theorem Ly:Ev.aC .i64 12=4096:=by decide
theorem Tz:Ev.aC .i64 18=262144:=by decide
theorem TA:Ev.aC .i64 19=524288:=by decide
theorem TB:Ev.aC .i64 20=1048576:=by decide
theorem TC:Ev.aC .i64 22=4194304:=by decide
theorem TD:Ev.aC .i64 23=8388608:=by decide
theorem TE:Ev.aC .i64 24=16777216:=by decide
theorem q3:Ev.aC .i64 3=8:=by decide
theorem r1:Ev.aC .u32 1=2:=by decide
theorem r3:Ev.aC .u32 3=8:=by decide
theorem r4:Ev.aC .u32 4=16:=by decide
theorem r6:Ev.aC .u32 6=64:=by decide
theorem r7:Ev.aC .u32 7=128:=by decide
theorem r8:Ev.aC .u32 8=256:=by decide
theorem RQ:Ev.aC .u32 11=2048:=by decide
theorem EX:Ev.aC .u32 12=4096:=by decide
theorem TF:Ev.aC .u32 13=8192:=by decide
theorem EY:Ev.aC .u32 16=65536:=by decide
theorem V0:Ev.aC .u32 20=1048576:=by decide
theorem V1:Ev.aC .u32 22=4194304:=by decide
theorem RR:Ev.aC .u32 26=67108864:=by decide
theorem az (x:Int) (l w:Nat) (hx:cb x) (hw:1<=w/\w<=31) (hl:l<=31):ai gT 93 [.int .u32 x,.int .i64 ((l:Int)+w - 1),.int .i64 l] (.int .i64 (aa x l w)):=by
 have b:=ae x l w
 have p:=mW w hw.2
 have c:=fX hx.1 l w
 refine Spec.enter aw Vg 100 Tryz.func93 rfl (by kernel_rfl) ?_
 refine (fW x l w hx hw hl).u ?_
 rw[c]
 refine li ?_
 exact al rfl
theorem fu (n:Int) (b:Nat) (hb:b<=40) (hn:0<=n/\n < 2 ^ (b+1)):ai gT 96 [.int .i64 n,.int .i64 b] (.int .i64 (bO n (b+1))):=by
 have p1:=sh b (by omega)
 have p2:=sh (b+1) (by omega)
 have e:(((b+1:Nat)):Int)=(b:Int)+1:=rfl
 rw[e] at p2
 have d1:=rZ b (by omega)
 have d2:=rZ (b+1) (by omega)
 have ep:(2:Int) ^ (b+1)=2 ^ b*2:=Int.pow_succ 2 b
 have d3:(2:Int) ^ (b+1)<=2199023255552:=by
  have h1:(2 ^ (b+1):Nat)<=2 ^ 41:=Nat.pow_le_pow_right (by omega) (by omega)
  have h3:=bx (b+1)
  omega
 obtain⟨q,hq⟩:∃ q,q=n / 2 ^ b:=⟨_,rfl⟩
 have q0:0<=q:=by rw[hq]; exact Int.ediv_nonneg hn.1 (by omega)
 have q1:q < 2:=by rw[hq]; exact Int.ediv_lt_of_lt_mul (by omega) (by omega)
 refine Spec.enter aw Vj 100 Tryz.func96 rfl (by kernel_rfl) ?_
 refine⟨by omega,?_⟩
 refine li ?_ (show _<=(b:Int)+1/\(b:Int)+1<=_ by omega)
 have hm:n / 2 ^ b*2 ^ (b+1)=0\/n / 2 ^ b*2 ^ (b+1)=2 ^ (b+1):=by
  rw[← hq]
  have:q=0\/q=1:=by omega
  rcases this with h|h<;>rw[h]<;>omega
 refine⟨by omega,.inl ⟨aA (show _<=n / Ev.aC .i64 (b:Int)*Ev.aC .i64 ((b:Int)+1)/\n / Ev.aC .i64 (b:Int)*Ev.aC .i64 ((b:Int)+1)<=_ by rw[p1,p2]; omega),?_⟩⟩
 refine li ?_ (show _<=n - n / Ev.aC .i64 (b:Int)*Ev.aC .i64 ((b:Int)+1)/\n - n / Ev.aC .i64 (b:Int)*Ev.aC .i64 ((b:Int)+1)<=_ by rw[p1,p2]; omega)
 refine al ?_
 show n - n / Ev.aC .i64 (b:Int)*Ev.aC .i64 ((b:Int)+1)=bO n (b+1)
 have eb:aa n b 1=q:=by
  unfold aa
  rw[if_neg (by omega),← hq,show (2:Int) ^ 1=2 from rfl]
  omega
 unfold bO
 rw[p1,p2,Nat.add_sub_cancel,eb,← hq]
 have:q=0\/q=1:=by omega
 rcases this with h|h<;>rw[h]
 ·rw[if_neg (by decide)]; omega
 ·rw[if_pos rfl]; omega
theorem cO (k b:Int):ai gT 94 [.int .i64 k,.int .i64 b] (.int .i64 (if b=0/\(k=1\/k=2) then 32 else b)):=by
 refine Spec.enter aw Vh 100 Tryz.func94 rfl (by kernel_rfl) ?_
 repeat' ((conv=>whnf); first|(refine (And.intro (fun _=>?_) (fun _=>?_):(_->_)/\(_->_))<;>(first|(exfalso; first|contradiction|omega)|skip))|refine Or.inl (And.intro (by first|exact aA (by omega)|exact ah (by omega)|exact cH (by omega)|exact dF (by omega)) ?_)|(refine And.intro (show (_:Int)≠0 by omega) (Or.inl (And.intro (show (0:Int)<=_ by omega) (And.intro (show (0:Int) < _ by omega) ?_))))|(refine And.intro (show (_:Int)≠0 by omega) (Or.inl (And.intro (show (0:Int)<=_ by omega) (And.intro (by first|exact (show (_:Int)<=9223372036854775807 by omega)|exact (show (_:Int)<=4294967295 by omega)) (And.intro (show (0:Int) < _ by omega) ?_)))))|(refine al ?_; (show b=_); rw[if_neg (by omega)])|(refine al ?_; (show (32:Int)=_); rw[if_pos (by omega)])|(intro _))
def bf (i:IN) (w:Int):IN:={i with set:=aa w 20 1,rn:=aa w 16 4,rd:=aa w 8 4,rm:=aa w 0 4}
theorem aN (i:IN) (w:Int) (hw:cb w):ai gT 97 [bJ i,.int .u32 w] (bJ (bf i w)):=by
 refine Spec.enter aw Vk 100 Tryz.func97 rfl (by kernel_rfl) ?_
 refine (az w 20 1 hw (by decide) (by decide)).u ?_
 refine (az w 16 4 hw (by decide) (by decide)).u ?_
 refine (az w 8 4 hw (by decide) (by decide)).u ?_
 refine (az w 0 4 hw (by decide) (by decide)).u ?_
 exact rA
def bq (i:IN) (w:Int):IN:={i with rd:=aa w 0 3,rn:=aa w 3 3}
theorem jz (i:IN) (w:Int) (hw:cb w):ai gT 95 [bJ i,.int .u32 w] (bJ (bq i w)):=by
 refine Spec.enter aw Vi 100 Tryz.func95 rfl (by kernel_rfl) ?_
 refine (az w 0 3 hw (by decide) (by decide)).u ?_
 refine (az w 3 3 hw (by decide) (by decide)).u ?_
 exact rA
theorem iJ (a b:Int) (ha:a=0\/a=1) (hb:b=0\/b=1):ai gT 129 [.int .u32 a,.int .u32 b] (.int .u32 (if a=b then 1 else 0)):=by
 refine Spec.enter aw Ra 100 Tryz.func129 rfl (by kernel_rfl) ?_
 refine al ?_
 show bits .xor .u32 (bits .xor .u32 1 a) b=_
 rcases ha with rfl|rfl<;>rcases hb with rfl|rfl<;>decide
theorem wW (a b:Int) (ha:0<=a/\a<=4294967295) (hb:0<=b/\b<=4294967295):bits .or .i64 a b=bits .or .i64 b a:=by
 have ea:a=(a.toNat:Int):=by omega
 have eb:b=(b.toNat:Int):=by omega
 rw[ea,eb,Rm.l7 _ _ (by omega) (by omega),Rm.l7 _ _ (by omega) (by omega),Nat.or_comm]
def cF (w:Int):Int:=aa w 26 1*2048+aa w 12 3*256+aa w 0 8
theorem KP (w:Int):0<=cF w/\cF w < 4096:=by
 have b1:=ae w 26 1
 have b2:=ae w 12 3
 have b3:=ae w 0 8
 unfold cF; omega
theorem Al (w:Int):bits .or .i64 (bits .or .i64 (aa w 26 1*2048) (aa w 12 3*256)) (aa w 0 8)=cF w:=by
 have b1:=ae w 26 1
 have b2:=ae w 12 3
 have b3:=ae w 0 8
 rw[Rm.bG (aa w 26 1*2048) (aa w 12 3*256) 11 (by omega) (by omega) (by omega) (by omega) (by omega) (by omega)]
 rw[Rm.bG (aa w 26 1*2048+aa w 12 3*256) (aa w 0 8) 8 (by omega) (by omega) (by omega) (by omega) (by omega) (by omega)]
 rfl
theorem ke (w:Int) (hw:cb w):ai gT 98 [.int .u32 w,.ff] (.int .i64 (cF w)):=by
 have b1:=ae w 26 1
 have b2:=ae w 12 3
 have b3:=ae w 0 8
 refine Spec.enter aw Tb 100 Tryz.func98 rfl (by kernel_rfl) ?_
 refine (az w 26 1 hw (by decide) (by decide)).u ?_
 refine⟨by decide,.inl ⟨aA (by rw[Px]; omega),?_⟩⟩
 refine (az w 12 3 hw (by decide) (by decide)).u ?_
 refine⟨by decide,.inl ⟨aA (by rw[q8]; omega),?_⟩⟩
 refine (az w 0 8 hw (by decide) (by decide)).u ?_
 refine al ?_
 show bits .or .i64 (bits .or .i64 (aa w 26 1*Ev.aC .i64 11) (aa w 12 3*Ev.aC .i64 8)) (aa w 0 8)=cF w
 rw[Px,q8,Al]
theorem Am (w:Int) (hw:cb w):ai gT 98 [.int .u32 w,.tt] (.int .i64 (cF w+aa w 16 4*4096)):=by
 have b1:=ae w 26 1
 have b2:=ae w 12 3
 have b3:=ae w 0 8
 have b4:=ae w 16 4
 refine Spec.enter aw Tb 100 Tryz.func98 rfl (by kernel_rfl) ?_
 refine (az w 26 1 hw (by decide) (by decide)).u ?_
 refine⟨by decide,.inl ⟨aA (by rw[Px]; omega),?_⟩⟩
 refine (az w 12 3 hw (by decide) (by decide)).u ?_
 refine⟨by decide,.inl ⟨aA (by rw[q8]; omega),?_⟩⟩
 refine (az w 0 8 hw (by decide) (by decide)).u ?_
 refine (az w 16 4 hw (by decide) (by decide)).u ?_
 refine⟨by decide,.inl ⟨aA (by rw[Ly]; omega),?_⟩⟩
 refine al ?_
 show bits .or .i64 (bits .or .i64 (bits .or .i64 (aa w 26 1*Ev.aC .i64 11) (aa w 12 3*Ev.aC .i64 8)) (aa w 0 8)) (aa w 16 4*Ev.aC .i64 12)=_
 have nb:=KP w
 rw[Px,q8,Ly,Al,wW _ _ (by omega) (by omega),Rm.bG (aa w 16 4*4096) (cF w) 12 (by omega) (by omega) (by omega) (by omega) (by omega) (by omega)]
 omega
def m4 (w:Int):Int:=0+aa w 26 1*2 ^ 20+aa w 16 6*2 ^ 12+aa w 13 1*2 ^ 18+aa w 11 1*2 ^ 19+aa w 0 11*2 ^ 1
theorem sj (w:Int) (hw:cb w):ai gT 101 [.int .u32 w] (.int .i64 (bO (m4 w) 21)):=by
 have b1:=ae w 26 1
 have b2:=ae w 11 1
 have b3:=ae w 13 1
 have b4:=ae w 16 6
 have b5:=ae w 0 11
 refine Spec.enter aw Q9 100 Tryz.func101 rfl (by kernel_rfl) ?_
 refine (az w 26 1 hw (by decide) (by decide)).u ?_
 refine⟨by decide,.inl ⟨aA (by rw[TB]; omega),?_⟩⟩
 refine (az w 11 1 hw (by decide) (by decide)).u ?_
 refine⟨by decide,.inl ⟨aA (by rw[TA]; omega),?_⟩⟩
 refine (az w 13 1 hw (by decide) (by decide)).u ?_
 refine⟨by decide,.inl ⟨aA (by rw[Tz]; omega),?_⟩⟩
 refine (az w 16 6 hw (by decide) (by decide)).u ?_
 refine⟨by decide,.inl ⟨aA (by rw[Ly]; omega),?_⟩⟩
 refine (az w 0 11 hw (by decide) (by decide)).u ?_
 refine⟨by decide,.inl ⟨aA (by rw[q1]; omega),?_⟩⟩
 have e:bits .or .i64 (bits .or .i64 (bits .or .i64 (bits .or .i64 (aa w 26 1*Ev.aC .i64 20) (aa w 11 1*Ev.aC .i64 19)) (aa w 13 1*Ev.aC .i64 18)) (aa w 16 6*Ev.aC .i64 12)) (aa w 0 11*Ev.aC .i64 1)=m4 w:=by
  rw[TB,TA,Tz,Ly,q1]
  rw[Rm.bG (aa w 26 1*1048576) (aa w 11 1*524288) 20 (by omega) (by omega) (by omega) (by omega) (by omega) (by omega)]
  rw[Rm.bG (aa w 26 1*1048576+aa w 11 1*524288) (aa w 13 1*262144) 19 (by omega) (by omega) (by omega) (by omega) (by omega) (by omega)]
  rw[Rm.bG (aa w 26 1*1048576+aa w 11 1*524288+aa w 13 1*262144) (aa w 16 6*4096) 18 (by omega) (by omega) (by omega) (by omega) (by omega) (by omega)]
  rw[Rm.bG (aa w 26 1*1048576+aa w 11 1*524288+aa w 13 1*262144+aa w 16 6*4096) (aa w 0 11*2) 12 (by omega) (by omega) (by omega) (by omega) (by omega) (by omega)]
  unfold m4; omega
 have hb:0<=m4 w/\m4 w < 2 ^ (20+1):=by unfold m4; omega
 refine⟨[],aE,(fu (m4 w) 20 (by decide) hb).use (And.intro e (And.intro rfl trivial)) rfl rfl ?_⟩
 exact al rfl
def fY (w:Int):Int:=0+aa w 26 1*2 ^ 24+aa w 16 10*2 ^ 12+aa w 13 1*2 ^ 23+aa w 11 1*2 ^ 22+aa w 0 11*2 ^ 1
theorem jA (w:Int):0<=fY w/\fY w < 33554432/\fY w / 16777216=aa w 26 1/\fY w / 8388608 % 2=aa w 13 1/\fY w / 4194304 % 2=aa w 11 1/\fY w % 4194304=aa w 16 10*4096+aa w 0 11*2:=by
 have b1:=ae w 26 1
 have b2:=ae w 11 1
 have b3:=ae w 13 1
 have b4:=ae w 16 10
 have b5:=ae w 0 11
 unfold fY; omega
theorem uo (w:Int):aV (fY w) 2=aa w 26 1*16777216+(if aa w 13 1=aa w 26 1 then 1 else 0)*8388608+(if aa w 11 1=aa w 26 1 then 1 else 0)*4194304+aa w 16 10*4096+aa w 0 11*2:=by
 obtain⟨h0,h1,h2,h3,h4,h5⟩:=jA w
 have b:=iH ⟨h0,h1⟩
 have c:=kd ⟨h0,h1⟩
 have e:fY w / 16777216 % 2=aa w 26 1:=by omega
 rw[h2,h3,h4,h5,← h2,h2] at b
 have e2:aa w 26 1 % 2=aa w 26 1:=by omega
 rw[e2] at b
 obtain⟨t,ht⟩:∃ t,t=aV (fY w) 2:=⟨_,rfl⟩
 rw[← ht] at b c ⊢
 clear ht
 obtain⟨k1,k2,k3,k4⟩:=b
 rw[← k3,← k4]
 clear k3 k4
 omega
theorem sk (w:Int) (hw:cb w):ai gT 102 [.int .u32 w] (.int .i64 (bO (aV (fY w) 2) 25)):=by
 have b1:=ae w 26 1
 have b2:=ae w 11 1
 have b3:=ae w 13 1
 have b4:=ae w 16 10
 have b5:=ae w 0 11
 have c1:rW w 26 1=aa w 26 1:=fX hw.1 26 1
 have c2:rW w 13 1=aa w 13 1:=fX hw.1 13 1
 have c3:rW w 11 1=aa w 11 1:=fX hw.1 11 1
 have s2:=iJ (aa w 13 1) (aa w 26 1) (gv w 13) (gv w 26)
 have s3:=iJ (aa w 11 1) (aa w 26 1) (gv w 11) (gv w 26)
 have k2:=fW w 26 1 hw (by decide) (by decide)
 have k3:=fW w 13 1 hw (by decide) (by decide)
 have k4:=fW w 11 1 hw (by decide) (by decide)
 rw[c1] at k2
 rw[c2] at k3
 rw[c3] at k4
 have jt:=uo w
 obtain⟨m2,qQ⟩:∃ m:Int,m=if aa w 13 1=aa w 26 1 then 1 else 0:=⟨_,rfl⟩
 obtain⟨m3,OI⟩:∃ m:Int,m=if aa w 11 1=aa w 26 1 then 1 else 0:=⟨_,rfl⟩
 have d2:0<=m2/\m2<=1:=by rw[qQ]; split<;>omega
 have d3:0<=m3/\m3<=1:=by rw[OI]; split<;>omega
 rw[← qQ] at s2 jt
 rw[← OI] at s3 jt
 refine Spec.enter aw Q_ 100 Tryz.func102 rfl (by kernel_rfl) ?_
 refine k2.u ?_
 refine li ?_
 refine⟨by decide,.inl ⟨aA (by rw[TE]; omega),?_⟩⟩
 refine k3.u ?_
 refine s2.u ?_
 refine li ?_
 refine⟨by decide,.inl ⟨aA (by rw[TD]; omega),?_⟩⟩
 refine k4.u ?_
 refine s3.u ?_
 refine li ?_
 refine⟨by decide,.inl ⟨aA (by rw[TC]; omega),?_⟩⟩
 refine (az w 16 10 hw (by decide) (by decide)).u ?_
 refine⟨by decide,.inl ⟨aA (by rw[Ly]; omega),?_⟩⟩
 refine (az w 0 11 hw (by decide) (by decide)).u ?_
 refine⟨by decide,.inl ⟨aA (by rw[q1]; omega),?_⟩⟩
 have e:bits .or .i64 (bits .or .i64 (bits .or .i64 (bits .or .i64 (aa w 26 1*Ev.aC .i64 24) (m2*Ev.aC .i64 23)) (m3*Ev.aC .i64 22)) (aa w 16 10*Ev.aC .i64 12)) (aa w 0 11*Ev.aC .i64 1)=aV (fY w) 2:=by
  rw[TE,TD,TC,Ly,q1]
  rw[Rm.bG (aa w 26 1*16777216) (m2*8388608) 24 (by omega) (by omega) (by omega) (by omega) (by omega) (by omega)]
  rw[Rm.bG (aa w 26 1*16777216+m2*8388608) (m3*4194304) 23 (by omega) (by omega) (by omega) (by omega) (by omega) (by omega)]
  rw[Rm.bG (aa w 26 1*16777216+m2*8388608+m3*4194304) (aa w 16 10*4096) 22 (by omega) (by omega) (by omega) (by omega) (by omega) (by omega)]
  rw[Rm.bG (aa w 26 1*16777216+m2*8388608+m3*4194304+aa w 16 10*4096) (aa w 0 11*2) 12 (by omega) (by omega) (by omega) (by omega) (by omega) (by omega)]
  rw[jt]
 have hb:=kd ⟨(jA w).1,(jA w).2.1⟩
 refine⟨[],aE,(fu (aV (fY w) 2) 24 (by decide) ⟨hb.1,by omega⟩).use (And.intro e (And.intro rfl trivial)) rfl rfl ?_⟩
 exact al rfl
theorem ai.F1 {G:Gx} {f:FuncId} {args:List PV} {r r':PV} (h:ai G f args r) (hle:oH r r'):ai G f args r':=by
 refine Spec.intro h.run.1 fun I β w aS hH hM hA=>?_
 refine (h.run.2 I β w aS hH hM hA).mono fun e w' ⟨v,r1,S',I',aG,he,hr,hi,yQ⟩=>?_
 subst hr
 exact⟨v,r',S',I',aG,he,rfl,hle _ _ _ _ hi,yQ⟩
theorem ak {f K:Int} (h:af f=K):ai gT 56 [.int .i64 f] (.lit .i64 K) :=
 (gr f).F1 (cX (x:=.int .i64 (af f)) (y:=.lit .i64 K) h)
def B (v:Int) (l w a:Nat):Nat:=(aa v l w).toNat <<< a
theorem m5 (v:Int) {l w a:Nat} (h:w+a<=32):B v l w a < 4294967296:=by
 have b:=ae v l w
 have e:=bx w
 have h1:(aa v l w).toNat < 2 ^ w:=by omega
 unfold B
 rw[Nat.shiftLeft_eq]
 calc (aa v l w).toNat*2 ^ a < 2 ^ w*2 ^ a:=Nat.mul_lt_mul_of_pos_right h1 (Nat.two_pow_pos a)
  _=2 ^ (w+a):=(Nat.pow_add ..).symm
  _<=2 ^ 32:=Nat.pow_le_pow_right (by omega) h
theorem OJ (v:Int) (l w a:Nat) (p:Int) (hp:p=2 ^ a):aa v l w*p=((B v l w a:Nat):Int):=by
 have b:=ae v l w
 unfold B
 rw[Nat.shiftLeft_eq,hp,Int.natCast_mul,Int.toNat_of_nonneg b.1,bx]
def s_ (x:Int) (a:Nat):Prop:=x=(a:Int)/\a < 4294967296
theorem s_.or {x y:Int} {a b:Nat} (hx:s_ x a) (hy:s_ y b):s_ (bits .or .u32 x y) (a ||| b):=by
 obtain⟨rfl,ha⟩:=hx
 obtain⟨rfl,hb⟩:=hy
 refine⟨?_,Nat.or_lt_two_pow (n:=32) ha hb⟩
 rw[u32_or _ _ (by omega) (by omega) (by omega) (by omega),Int.toNat_natCast,Int.toNat_natCast]
theorem nO (v:Int) (l w a:Nat) {p:Int} (hp:p=2 ^ a) (h:w+a<=32):s_ (aa v l w*p) (B v l w a):=⟨OJ v l w a p hp,m5 v h⟩
theorem qb (v:Int) (l w:Nat) (h:w<=32):s_ (aa v l w) (B v l w 0):=⟨by have:=OJ v l w 0 1 rfl; rwa [Int.mul_one] at this,m5 v h⟩
theorem vy {v:Int} {w:Nat} (h:0<=v/\v < 2 ^ w):aa v 0 w=v:=by
 unfold aa
 rw[if_neg (by omega),show (2:Int) ^ 0=1 from rfl,Int.ediv_one]
 exact Int.emod_eq_of_lt h.1 h.2
theorem kR (v:Int) (w a:Nat) {p:Int} (hp:p=2 ^ a) (h:w+a<=32) (hv:0<=v/\v < 2 ^ w):s_ (v*p) (B v 0 w a):=by
 have:=nO v 0 w a hp h
 rwa [vy hv] at this
theorem m6 (v:Int) (w:Nat) (h:w<=32) (hv:0<=v/\v < 2 ^ w):s_ v (B v 0 w 0):=by
 have:=qb v 0 w h
 rwa [vy hv] at this
theorem m7 {v:Int} {l w a:Nat} (h:aa v l w=0):B v l w a=0:=by unfold B; rw[h]; simp
theorem dQ {v:Int} {l w a:Nat} (h:v=0):B v l w a=0:=by
 subst h
 apply m7
 unfold aa
 rw[if_neg (by omega),Int.zero_ediv,Int.zero_emod]
def cK (i:IN) (l:List (Nat × Nat × Nat × Nat)):Nat:=l.foldl (fun w x=>w ||| B (jx i x.1) x.2.1 x.2.2.2 x.2.2.1) 0
theorem vz (i:IN):∀ (l:List (Nat × Nat × Nat × Nat)) (W V:Nat),l.foldl (r_ i) (W ||| V)=W ||| l.foldl (fun w x=>w ||| B (jx i x.1) x.2.1 x.2.2.2 x.2.2.1) V
 | [],_,_=>rfl
 | x::l,W,V=>by
  rw[List.foldl_cons,List.foldl_cons]
  have e:r_ i (W ||| V) x=W ||| (V ||| B (jx i x.1) x.2.1 x.2.2.2 x.2.2.1):=by
   have h:(aa (jx i x.1) x.2.1 x.2.2.2).toNat < 2 ^ x.2.2.2:=EU i x
   unfold r_ plus B
   rw[Nat.mod_eq_of_lt h,Nat.or_assoc]
  rw[e,vz i l]
theorem sn (i:IN) (l:List (Nat × Nat × Nat × Nat)):oM i l=(l8 i.form).toNat ||| cK i l:=by
 unfold oM cK
 rw[← vz i l,Nat.or_zero]
theorem vA (i:IN):bZ i=(((l8 i.form).toNat ||| cK (cI i) (ao (af i.form)):Nat):Int):=by
 unfold bZ
 rw[sn,eV]
theorem ia {a b:Nat} (ha:a < 4294967296) (hb:b < 4294967296):a ||| b < 4294967296:=Nat.or_lt_two_pow (n:=32) ha hb
theorem de (i:IN):s_ ((B i.set 0 1 20 ||| B i.rn 0 4 16 ||| B i.ra 0 4 12 ||| B i.rd 0 4 8 ||| B i.rm 0 4 0:Nat):Int) (B i.set 0 1 20 ||| B i.rn 0 4 16 ||| B i.ra 0 4 12 ||| B i.rd 0 4 8 ||| B i.rm 0 4 0) :=
 ⟨rfl,ia (ia (ia (ia (m5 _ (by decide)) (m5 _ (by decide))) (m5 _ (by decide))) (m5 _ (by decide))) (m5 _ (by decide))⟩
theorem ib (n:Int):s_ ((B n 11 1 26 ||| B n 12 4 16 ||| B n 8 3 12 ||| B n 0 8 0:Nat):Int) (B n 11 1 26 ||| B n 12 4 16 ||| B n 8 3 12 ||| B n 0 8 0) :=
 ⟨rfl,ia (ia (ia (m5 _ (by decide)) (m5 _ (by decide))) (m5 _ (by decide))) (m5 _ (by decide))⟩
theorem ic (x:Int) (l w:Nat) (hx:cb x) (hw:1<=w/\w<=31) (hl:l<=31):ai gT 128 [.int .u32 x,.int .i64 ((l:Int)+w - 1),.int .i64 l] (.int .u32 (aa x l w)):=by
 have h:=fW x l w hx hw hl
 rwa [fX hx.1 l w] at h
theorem wX (v:Int) (l w:Nat) (h:l+w<=32) (hv:-1099511627776<=v):rW (IntKind.u32.wrap v) l w=aa v l w:=by
 rw[IntKind.wrap_u32',fX (by omega)]
 obtain⟨n,hn⟩:∃ n:Nat,(n:Int)=if v < 0 then v+1099511627776 else v:=⟨(if v < 0 then v+1099511627776 else v).toNat,Int.toNat_of_nonneg (by split<;>omega)⟩
 have e:v % 4294967296=((n % 4294967296:Nat):Int):=by
  rw[Int.natCast_emod,hn]
  split<;>omega
 rw[e,oN]
 unfold aa
 rw[← hn]
 have key:n % 4294967296 / 2 ^ l % 2 ^ w=n / 2 ^ l % 2 ^ w:=by
  apply Nat.eq_of_testBit_eq
  intro p
  rw[Nat.testBit_mod_two_pow,Nat.testBit_mod_two_pow,Nat.testBit_div_two_pow,Nat.testBit_div_two_pow,show (4294967296:Nat)=2 ^ 32 from rfl,Nat.testBit_mod_two_pow]
  by_cases hp:p < w
  ·rw[decide_eq_true hp,decide_eq_true (show p+l < 32 by omega)]; simp
  ·rw[decide_eq_false hp]; simp
 rw[key,← bx,← bx]
 norm_cast
theorem lQ (v:Int) (l w:Nat) (hv:-1099511627776<=v) (hw:1<=w/\w<=31) (hl:l<=31) (h:l+w<=32):ai gT 128 [.int .u32 (IntKind.u32.wrap v),.int .i64 ((l:Int)+w - 1),.int .i64 l] (.int .u32 (aa v l w)):=by
 have hx:0<=IntKind.u32.wrap v/\IntKind.u32.wrap v<=4294967295:=by rw[IntKind.wrap_u32']; omega
 have k:=fW (IntKind.u32.wrap v) l w hx hw hl
 rwa [wX v l w h hv] at k
theorem An {v:Int} (h:0<=v) (w:Nat):aa (v / 4) 0 w=aa v 2 w:=by
 unfold aa
 rw[if_neg (by omega),if_neg (by omega),show (2:Int) ^ 0=1 from rfl,show (2:Int) ^ 2=4 from rfl,Int.ediv_one]
theorem EZ {v:Int} {w a:Nat} (h:0<=v):B (v / 4) 0 w a=B v 2 w a:=by unfold B; rw[An h]
theorem TG (v:Int) (w:Nat) (h:w<=32) (h0:0<=v) (hv:v / 4 < 2 ^ w):s_ (v / 4) (B v 2 w 0):=by
 have:=m6 (v / 4) w h ⟨by omega,hv⟩
 rwa [EZ h0] at this
theorem jB (i:IN) (v:Int) (w:Nat) (hv:0<=v/\v < 2 ^ w) (hd:0<=i.rd/\i.rd < 8) (hn:0<=i.rn/\i.rn < 8) (hw:w<=20):ai gT 134 [bJ i,.int .u32 v] (.int .u32 ((B v 0 w 6 ||| B i.rn 0 3 3 ||| B i.rd 0 3 0:Nat):Int)):=by
 have hp:=mW w (by omega)
 have eg:(2:Int) ^ w<=1048576:=by
  have h1:(2 ^ w:Nat)<=2 ^ 20:=Nat.pow_le_pow_right (by omega) hw
  have h3:=bx w
  omega
 refine Spec.enter aw Ri 100 Tryz.func134 rfl (by kernel_rfl) ?_
 refine⟨by decide,.inl ⟨ah (by rw[r6]; omega),?_⟩⟩
 refine .inl ⟨ah (by omega),?_⟩
 refine⟨by decide,.inl ⟨ah (by rw[r3]; omega),?_⟩⟩
 refine .inl ⟨ah (by omega),?_⟩
 refine al ?_
 exact (show bits .or .u32 (bits .or .u32 (v*Ev.aC .u32 6) (i.rn*Ev.aC .u32 3)) i.rd=_ from (((kR v w 6 (by decide) (by omega) hv).or (kR i.rn 3 3 (by decide) (by decide) hn)).or (m6 i.rd 3 (by decide) hd)).1)
theorem bP (i:IN) (hs:0<=i.set/\i.set < 2) (hd:0<=i.rd/\i.rd < 16) (hn:0<=i.rn/\i.rn < 16) (hm:0<=i.rm/\i.rm < 16) (ha:0<=i.ra/\i.ra < 16):ai gT 130 [bJ i] (.int .u32 ((B i.set 0 1 20 ||| B i.rn 0 4 16 ||| B i.ra 0 4 12 ||| B i.rd 0 4 8 ||| B i.rm 0 4 0:Nat):Int)):=by
 refine Spec.enter aw Re 100 Tryz.func130 rfl (by kernel_rfl) ?_
 refine .inl ⟨ah (by omega),?_⟩
 refine⟨by decide,.inl ⟨ah (by rw[V0]; omega),?_⟩⟩
 refine .inl ⟨ah (by omega),?_⟩
 refine⟨by decide,.inl ⟨ah (by rw[EY]; omega),?_⟩⟩
 refine .inl ⟨ah (by omega),?_⟩
 refine⟨by decide,.inl ⟨ah (by rw[EX]; omega),?_⟩⟩
 refine .inl ⟨ah (by omega),?_⟩
 refine⟨by decide,.inl ⟨ah (by rw[r8]; omega),?_⟩⟩
 refine .inl ⟨ah (by omega),?_⟩
 refine al ?_
 exact (show bits .or .u32 (bits .or .u32 (bits .or .u32 (bits .or .u32 (i.set*Ev.aC .u32 20) (i.rn*Ev.aC .u32 16)) (i.ra*Ev.aC .u32 12)) (i.rd*Ev.aC .u32 8)) i.rm=_ from (((((kR i.set 1 20 (by decide) (by decide) hs).or (kR i.rn 4 16 (by decide) (by decide) hn)).or (kR i.ra 4 12 (by decide) (by decide) ha)).or (kR i.rd 4 8 (by decide) (by decide) hd)).or (m6 i.rm 4 (by decide) hm)).1)
theorem dS (n:Int) (hn:cb n):ai gT 131 [.int .u32 n] (.int .u32 ((B n 11 1 26 ||| B n 12 4 16 ||| B n 8 3 12 ||| B n 0 8 0:Nat):Int)):=by
 have b0:=ae n 11 1
 have b1:=ae n 12 4
 have b2:=ae n 8 3
 have b3:=ae n 0 8
 refine Spec.enter aw Rf 100 Tryz.func131 rfl (by kernel_rfl) ?_
 refine (ic n 11 1 hn (by decide) (by decide)).u ?_
 refine⟨by decide,.inl ⟨ah (by rw[RR]; omega),?_⟩⟩
 refine (ic n 12 4 hn (by decide) (by decide)).u ?_
 refine⟨by decide,.inl ⟨ah (by rw[EY]; omega),?_⟩⟩
 refine (ic n 8 3 hn (by decide) (by decide)).u ?_
 refine⟨by decide,.inl ⟨ah (by rw[EX]; omega),?_⟩⟩
 refine (ic n 0 8 hn (by decide) (by decide)).u ?_
 refine al ?_
 exact (show bits .or .u32 (bits .or .u32 (bits .or .u32 (aa n 11 1*Ev.aC .u32 26) (aa n 12 4*Ev.aC .u32 16)) (aa n 8 3*Ev.aC .u32 12)) (aa n 0 8)=_ from ((((nO n 11 1 26 (by decide) (by decide)).or (nO n 12 4 16 (by decide) (by decide))).or (nO n 8 3 12 (by decide) (by decide))).or (qb n 0 8 (by decide))).1)
end Go.Proofs.YtnbhdacpogplgaaGreatDoor.Pw

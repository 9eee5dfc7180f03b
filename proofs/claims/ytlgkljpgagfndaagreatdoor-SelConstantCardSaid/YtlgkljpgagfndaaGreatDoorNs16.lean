/- What this claim is proved with: no condition. -/
import Derived.Test.YtlgkljpgagfndaaGreatDoorNs15
set_option maxRecDepth 100000
set_option maxHeartbeats 4000000
set_option linter.unusedVariables false
set_option linter.unusedSimpArgs false
namespace Go.Proofs.YtlgkljpgagfndaaGreatDoor.Pw
open Go Go.RowKit
theorem Pn (t:Int) (h:0<=t/\t < 33554432) (h2:t % 2=0):0+ab t 24 1*2 ^ 24+ab t 12 10*2 ^ 12+ab t 23 1*2 ^ 23+ab t 22 1*2 ^ 22+ab t 1 11*2 ^ 1=t:=by
 unfold ab; rw[if_neg (by omega)]; omega
theorem zk (v:Int) (h:-16777216<=v/\v<=16777214/\v % 2=0):(0<=ab v 0 25/\ab v 0 25 < 33554432)/\ab v 0 25 % 2=0/\cO (ab v 0 25) 25=v:=by
 have e:ab v 0 25=if v < 0 then v+33554432 else v:=by unfold ab; split<;>omega
 have e2:∀ m:Int,0<=m->ab m 24 1=m / 16777216 % 2:=fun m hm=>by unfold ab; rw[if_neg (by omega)]; rfl
 have hb:0<=ab v 0 25/\ab v 0 25 < 33554432:=by rw[e]; split<;>omega
 refine⟨hb,by rw[e]; split<;>omega,?_⟩
 unfold cO
 rw[show (25 - 1:Nat)=24 from rfl,e2 _ hb.1,e]
 have p:(2:Int) ^ 25=33554432:=by decide
 rw[p]
 split<;>split<;>omega
theorem GX (i:IN) (hs:aa i.form=34) (hr:aF i (bX 34)):{cH 34 (du i) with form:=i.form}=i:=by
 obtain⟨hf,h1,h2,h3,h4,h5,h6,h7,h8,h9,cC⟩:=hr
 have g0:=aA (r:=i.rd) h1
 have g1:=aA (r:=i.rn) h2
 have g2:=aA (r:=i.rm) h3
 have g3:=aA (r:=i.ra) h4
 have g4:-16777216<=i.az/\i.az<=16777214/\i.az % 2=0:=dZ (s:=2) (by decide) h7
 have g5:i.kind=0:=(bd rfl h9).1
 have g6:i.bC=0:=bK (bd rfl h9).2
 have g7:i.set=0:=h8.elim id fun e=>absurd (show false=true from e.2) Bool.false_ne_true
 have g8:i.cond=0:=h6.elim id fun e=>absurd (show false=true from e.1) Bool.false_ne_true
 have g9:i.ao=0:=cT rfl h5
 obtain⟨hb,he,hl⟩:=zk i.az g4
 rw[RZ hs]
 have hn:=l_ hb
 have h2':bG (ab i.az 0 25) 2 % 2=0:=by have:=(kb hb).2.1; omega
 have e34:∀ x:Int,nK 34 i.form x=cO (bG x 2) 25:=fun x=>by
  unfold nK; rw[if_neg (by decide),if_neg (by decide),if_neg (by decide),if_pos rfl]
 have hi:nK 34 i.form (0+ab (bG (ab i.az 0 25) 2) 24 1*2 ^ 24+ab (bG (ab i.az 0 25) 2) 12 10*2 ^ 12+ab (bG (ab i.az 0 25) 2) 23 1*2 ^ 23+ab (bG (ab i.az 0 25) 2) 22 1*2 ^ 22+ab (bG (ab i.az 0 25) 2) 1 11*2 ^ 1)=i.az:=by
  rw[e34,Pn _ hn h2',zh hb,hl]
 exact aX rfl (O5 i.rd g0) (O6 i.rn g1) (O7 i.rm g2) (O8 i.ra g3) hi (O9 i.kind g5) ((bM (K:=34) (k:=0) (by decide)).trans (O' i.bC g6)) (O_ i.set g7) (Pa i.cond g8) (Pb i.ao g9)
theorem GY {s:Int} (h:1<=s/\s<=34):s=1\/s=2\/s=3\/s=4\/s=5\/s=6\/s=7\/s=8\/s=9\/s=10\/s=11\/s=12\/s=13\/s=14\/s=15\/s=16\/s=17\/s=18\/s=19\/s=20\/s=21\/s=22\/s=23\/s=24\/s=25\/s=26\/s=27\/s=28\/s=29\/s=30\/s=31\/s=32\/s=33\/s=34:=by omega
theorem CP (i:IN) (h:aa i.form=32) (hr:0<=i.rm/\i.rm < 15):ab (bs i) 0 4=ab (du i).rm 0 4:=by
 have hx:((2,0,0,4):Nat × Nat × Nat × Nat)∈ax (aa i.form):=by rw[h]; decide
 exact qx i hx
theorem back (i:IN) (h:aq i) (hg:i.ao<=9223372036854775807):aU i.form (bs i)=i:=by
 rw[zi i fun Gv=>CP i Gv (kY h).2.2.1]
 have hr:=h
 unfold aq at hr
 rcases GY (jE h.1) with hs|hs|hs|hs|hs|hs|hs|hs|hs|hs|hs|hs|hs|hs|hs|hs|hs|hs|hs|hs|hs|hs|hs|hs|hs|hs|hs|hs|hs|hs|hs|hs|hs|hs
 ·rw[hs] at hr ⊢; rw[aJ (by rw[hs]; decide)]; exact Pc i hs hr hg
 ·rw[hs] at hr ⊢; rw[aJ (by rw[hs]; decide)]; exact Pd i hs hr hg
 ·rw[hs] at hr ⊢; rw[aJ (by rw[hs]; decide)]; exact Pe i hs hr hg
 ·rw[hs] at hr ⊢; rw[aJ (by rw[hs]; decide)]; exact Pf i hs hr hg
 ·rw[hs] at hr ⊢; rw[aJ (by rw[hs]; decide)]; exact Pg i hs hr hg
 ·rw[hs] at hr ⊢; rw[aJ (by rw[hs]; decide)]; exact Ph i hs hr hg
 ·rw[hs] at hr ⊢; rw[aJ (by rw[hs]; decide)]; exact Pj i hs hr hg
 ·rw[hs] at hr ⊢; rw[aJ (by rw[hs]; decide)]; exact Pk i hs hr hg
 ·rw[hs] at hr ⊢; rw[aJ (by rw[hs]; decide)]; exact Pm i hs hr hg
 ·rw[hs] at hr ⊢; rw[aJ (by rw[hs]; decide)]; exact Gw i hs hr hg
 ·rw[hs] at hr ⊢; rw[aJ (by rw[hs]; decide)]; exact Gy i hs hr hg
 ·rw[hs] at hr ⊢; rw[aJ (by rw[hs]; decide)]; exact Gz i hs hr hg
 ·rw[hs] at hr ⊢; rw[aJ (by rw[hs]; decide)]; exact GA i hs hr hg
 ·rw[hs] at hr ⊢; rw[aJ (by rw[hs]; decide)]; exact GB i hs hr hg
 ·rw[hs] at hr ⊢; rw[aJ (by rw[hs]; decide)]; exact GC i hs hr hg
 ·rw[hs] at hr ⊢; rw[aJ (by rw[hs]; decide)]; exact GD i hs hr hg
 ·rw[hs] at hr ⊢; rw[aJ (by rw[hs]; decide)]; exact GF i hs hr hg
 ·rw[hs] at hr ⊢; rw[aJ (by rw[hs]; decide)]; exact GG i hs hr hg
 ·rw[hs] at hr ⊢; rw[aJ (by rw[hs]; decide)]; exact GH i hs hr hg
 ·rw[hs] at hr ⊢; rw[aJ (by rw[hs]; decide)]; exact GI i hs hr hg
 ·rw[hs] at hr ⊢; rw[aJ (by rw[hs]; decide)]; exact GJ i hs hr hg
 ·rw[hs] at hr ⊢; rw[aJ (by rw[hs]; decide)]; exact GK i hs hr hg
 ·rw[hs] at hr ⊢; rw[aJ (by rw[hs]; decide)]; exact GL i hs hr hg
 ·rw[hs] at hr ⊢; rw[aJ (by rw[hs]; decide)]; exact GM i hs hr hg
 ·rw[hs] at hr ⊢; rw[aJ (by rw[hs]; decide)]; exact GN i hs hr hg
 ·rw[hs] at hr ⊢; rw[aJ (by rw[hs]; decide)]; exact GO i hs hr hg
 ·rw[hs] at hr ⊢; rw[aJ (by rw[hs]; decide)]; exact GP i hs hr hg
 ·rw[hs] at hr ⊢; rw[aJ (by rw[hs]; decide)]; exact GQ i hs hr hg
 ·rw[hs] at hr ⊢; rw[aJ (by rw[hs]; decide)]; exact GR i hs hr hg
 ·rw[hs] at hr ⊢; rw[aJ (by rw[hs]; decide)]; exact GS i hs hr hg
 ·rw[hs] at hr ⊢; rw[aJ (by rw[hs]; decide)]; exact GU i hs hr hg
 ·rw[hs] at hr ⊢; rw[aJ (by rw[hs]; decide)]; exact GV i hs hr hg
 ·rw[hs] at hr ⊢; rw[aJ (by rw[hs]; decide)]; exact GW i hs hr hg
 ·rw[hs] at hr ⊢; exact GX i hs hr
def Po (f w:Int):IN:=⟨f,0+ab w 0 3*2 ^ 0,0,0+ab w 3 3*2 ^ 0,0,if 1 < f/\0+ab w 6 5*2 ^ 0=0 then 32 else 0+ab w 6 5*2 ^ 0,0,0,0,0,0⟩
theorem XQ {f w:Int} (h:aa f=1):aU f w=Po f w:=by
 unfold aU; rw[h]
 exact aX rfl rfl rfl rfl rfl (JO) rfl (bM (K:=1) (k:=xV 1 w 5) (by decide)) rfl rfl rfl
def Pp (f w:Int):IN:=⟨f,0+ab w 0 3*2 ^ 0,0+ab w 3 3*2 ^ 0,0+ab w 6 3*2 ^ 0,0,0,0,0,0,0,0⟩
theorem XR {f w:Int} (h:aa f=2):aU f w=Pp f w:=by
 unfold aU; rw[h]
 exact aX rfl rfl rfl rfl rfl (bj (K:=2) (f:=f) (by decide)) rfl (bM (K:=2) (k:=xV 2 w 5) (by decide)) rfl rfl rfl
def Pq (f w:Int):IN:=⟨f,0+ab w 0 3*2 ^ 0,0+ab w 3 3*2 ^ 0,0,0,0+ab w 6 3*2 ^ 0,0,0,0,0,0⟩
theorem XT {f w:Int} (h:aa f=3):aU f w=Pq f w:=by
 unfold aU; rw[h]
 exact aX rfl rfl rfl rfl rfl (bj (K:=3) (f:=f) (by decide)) rfl (bM (K:=3) (k:=xV 3 w 5) (by decide)) rfl rfl rfl
def Pr (f w:Int):IN:=⟨f,0+ab w 8 3*2 ^ 0,0,0,0,0+ab w 0 8*2 ^ 0,0,0,0,0,0⟩
theorem XU {f w:Int} (h:aa f=4):aU f w=Pr f w:=by
 unfold aU; rw[h]
 exact aX rfl rfl rfl rfl rfl (bj (K:=4) (f:=f) (by decide)) rfl (bM (K:=4) (k:=xV 4 w 5) (by decide)) rfl rfl rfl
def Ps (f w:Int):IN:=⟨f,0+ab w 0 3*2 ^ 0,0,0+ab w 3 3*2 ^ 0,0,0,0,0,0,0,0⟩
theorem XV {f w:Int} (h:aa f=5):aU f w=Ps f w:=by
 unfold aU; rw[h]
 exact aX rfl rfl rfl rfl rfl (bj (K:=5) (f:=f) (by decide)) rfl (bM (K:=5) (k:=xV 5 w 5) (by decide)) rfl rfl rfl
def Pt (f w:Int):IN:=⟨f,0+ab w 7 1*2 ^ 3+ab w 0 3*2 ^ 0,0,0+ab w 3 4*2 ^ 0,0,0,0,0,0,0,0⟩
theorem XW {f w:Int} (h:aa f=6):aU f w=Pt f w:=by
 unfold aU; rw[h]
 exact aX rfl rfl rfl rfl rfl (bj (K:=6) (f:=f) (by decide)) rfl (bM (K:=6) (k:=xV 6 w 5) (by decide)) rfl rfl rfl
def Pu (f w:Int):IN:=⟨f,0,0,0+ab w 3 4*2 ^ 0,0,0,0,0,0,0,0⟩
theorem XX {f w:Int} (h:aa f=7):aU f w=Pu f w:=by
 unfold aU; rw[h]
 exact aX rfl rfl rfl rfl rfl (bj (K:=7) (f:=f) (by decide)) rfl (bM (K:=7) (k:=xV 7 w 5) (by decide)) rfl rfl rfl
def Pv (f w:Int):IN:=⟨f,0+ab w 8 3*2 ^ 0,0,0,0,0+ab w 0 8*2 ^ 2,0,0,0,0,0⟩
theorem XY {f w:Int} (h:aa f=8):aU f w=Pv f w:=by
 unfold aU; rw[h]
 exact aX rfl rfl rfl rfl rfl (bj (K:=8) (f:=f) (by decide)) rfl (bM (K:=8) (k:=xV 8 w 5) (by decide)) rfl rfl rfl
def Px (f w:Int):IN:=⟨f,0+ab w 0 3*2 ^ 0,0+ab w 3 3*2 ^ 0,0,0,0+ab w 6 5*2 ^ 2,0,0,0,0,0⟩
theorem XZ {f w:Int} (h:aa f=9):aU f w=Px f w:=by
 unfold aU; rw[h]
 exact aX rfl rfl rfl rfl rfl (bj (K:=9) (f:=f) (by decide)) rfl (bM (K:=9) (k:=xV 9 w 5) (by decide)) rfl rfl rfl
def CQ (f w:Int):IN:=⟨f,0,0,0,0,0+ab w 0 7*2 ^ 2,0,0,0,0,0⟩
theorem Tx {f w:Int} (h:aa f=10):aU f w=CQ f w:=by
 unfold aU; rw[h]
 exact aX rfl rfl rfl rfl rfl (bj (K:=10) (f:=f) (by decide)) rfl (bM (K:=10) (k:=xV 10 w 5) (by decide)) rfl rfl rfl
def CR (f w:Int):IN:=⟨f,0,0,0,0,0,0,0,0,0,0+ab w 8 1*2 ^ 14+ab w 0 8*2 ^ 0⟩
theorem Ty {f w:Int} (h:aa f=11):aU f w=CR f w:=by
 unfold aU; rw[h]
 exact aX rfl rfl rfl rfl rfl (bj (K:=11) (f:=f) (by decide)) rfl (bM (K:=11) (k:=xV 11 w 5) (by decide)) rfl rfl rfl
def CS (f w:Int):IN:=⟨f,0,0,0,0,0,0,0,0,0,0+ab w 8 1*2 ^ 15+ab w 0 8*2 ^ 0⟩
theorem Tz {f w:Int} (h:aa f=12):aU f w=CS f w:=by
 unfold aU; rw[h]
 exact aX rfl rfl rfl rfl rfl (bj (K:=12) (f:=f) (by decide)) rfl (bM (K:=12) (k:=xV 12 w 5) (by decide)) rfl rfl rfl
def CT (f w:Int):IN:=⟨f,0,0,0,0,0,0,0,0,0,0⟩
theorem TA {f w:Int} (h:aa f=13):aU f w=CT f w:=by
 unfold aU; rw[h]
 exact aX rfl rfl rfl rfl rfl (bj (K:=13) (f:=f) (by decide)) rfl (bM (K:=13) (k:=xV 13 w 5) (by decide)) rfl rfl rfl
def CU (f w:Int):IN:=⟨f,0,0,0,0,0+ab w 0 8*2 ^ 0,0,0,0,0,0⟩
theorem TB {f w:Int} (h:aa f=14):aU f w=CU f w:=by
 unfold aU; rw[h]
 exact aX rfl rfl rfl rfl rfl (bj (K:=14) (f:=f) (by decide)) rfl (bM (K:=14) (k:=xV 14 w 5) (by decide)) rfl rfl rfl
def CV (f w:Int):IN:=⟨f,0,0,0,0,cO (0+ab w 0 8*2 ^ 1) 9,0,0,0,0+ab w 8 4*2 ^ 0,0⟩
theorem TC {f w:Int} (h:aa f=15):aU f w=CV f w:=by
 unfold aU; rw[h]
 exact aX rfl rfl rfl rfl rfl (rfl) rfl (bM (K:=15) (k:=xV 15 w 5) (by decide)) rfl rfl rfl
def CW (f w:Int):IN:=⟨f,0,0,0,0,cO (0+ab w 0 11*2 ^ 1) 12,0,0,0,0,0⟩
theorem TD {f w:Int} (h:aa f=16):aU f w=CW f w:=by
 unfold aU; rw[h]
 exact aX rfl rfl rfl rfl rfl (rfl) rfl (bM (K:=16) (k:=xV 16 w 5) (by decide)) rfl rfl rfl
def CX (f w:Int):IN:=⟨f,0+ab w 8 4*2 ^ 0,0,0,0,0+ab w 26 1*2 ^ 11+ab w 16 4*2 ^ 12+ab w 12 3*2 ^ 8+ab w 0 8*2 ^ 0,0,0,0,0,0⟩
theorem TE {f w:Int} (h:aa f=17):aU f w=CX f w:=by
 unfold aU; rw[h]
 exact aX rfl rfl rfl rfl rfl (bj (K:=17) (f:=f) (by decide)) rfl (bM (K:=17) (k:=xV 17 w 5) (by decide)) rfl rfl rfl
def xX (f w:Int):IN:=⟨f,0+ab w 8 4*2 ^ 0,0+ab w 16 4*2 ^ 0,0,0,0+ab w 26 1*2 ^ 11+ab w 12 3*2 ^ 8+ab w 0 8*2 ^ 0,0,0,0+ab w 20 1*2 ^ 0,0,0⟩
theorem TF {f w:Int} (h:aa f=18):aU f w=xX f w:=by
 unfold aU; rw[h]
 exact aX rfl rfl rfl rfl rfl (bj (K:=18) (f:=f) (by decide)) rfl (bM (K:=18) (k:=xV 18 w 5) (by decide)) rfl rfl rfl
def xY (f w:Int):IN:=⟨f,0+ab w 8 4*2 ^ 0,0,0,0,0+ab w 26 1*2 ^ 11+ab w 12 3*2 ^ 8+ab w 0 8*2 ^ 0,0,0,0+ab w 20 1*2 ^ 0,0,0⟩
theorem TG {f w:Int} (h:aa f=19):aU f w=xY f w:=by
 unfold aU; rw[h]
 exact aX rfl rfl rfl rfl rfl (bj (K:=19) (f:=f) (by decide)) rfl (bM (K:=19) (k:=xV 19 w 5) (by decide)) rfl rfl rfl
def xZ (f w:Int):IN:=⟨f,0,0+ab w 16 4*2 ^ 0,0,0,0+ab w 26 1*2 ^ 11+ab w 12 3*2 ^ 8+ab w 0 8*2 ^ 0,0,0,0,0,0⟩
theorem TH {f w:Int} (h:aa f=20):aU f w=xZ f w:=by
 unfold aU; rw[h]
 exact aX rfl rfl rfl rfl rfl (bj (K:=20) (f:=f) (by decide)) rfl (bM (K:=20) (k:=xV 20 w 5) (by decide)) rfl rfl rfl
def x4 (f w:Int):IN:=⟨f,0+ab w 8 4*2 ^ 0,0+ab w 16 4*2 ^ 0,0+ab w 0 4*2 ^ 0,0,0,0+ab w 4 2*2 ^ 0,if 0+ab w 12 3*2 ^ 2+ab w 6 2*2 ^ 0=0/\(0+ab w 4 2*2 ^ 0=1\/0+ab w 4 2*2 ^ 0=2) then 32 else 0+ab w 12 3*2 ^ 2+ab w 6 2*2 ^ 0,0+ab w 20 1*2 ^ 0,0,0⟩
theorem TJ {f w:Int} (h:aa f=21):aU f w=x4 f w:=by
 unfold aU; rw[h]
 exact aX rfl rfl rfl rfl rfl (bj (K:=21) (f:=f) (by decide)) rfl (qz (K:=21) (by decide)) rfl rfl rfl
def x5 (f w:Int):IN:=⟨f,0+ab w 8 4*2 ^ 0,0,0+ab w 0 4*2 ^ 0,0,0,0+ab w 4 2*2 ^ 0,if 0+ab w 12 3*2 ^ 2+ab w 6 2*2 ^ 0=0/\(0+ab w 4 2*2 ^ 0=1\/0+ab w 4 2*2 ^ 0=2) then 32 else 0+ab w 12 3*2 ^ 2+ab w 6 2*2 ^ 0,0+ab w 20 1*2 ^ 0,0,0⟩
theorem TK {f w:Int} (h:aa f=22):aU f w=x5 f w:=by
 unfold aU; rw[h]
 exact aX rfl rfl rfl rfl rfl (bj (K:=22) (f:=f) (by decide)) rfl (qz (K:=22) (by decide)) rfl rfl rfl
def x6 (f w:Int):IN:=⟨f,0,0+ab w 16 4*2 ^ 0,0+ab w 0 4*2 ^ 0,0,0,0+ab w 4 2*2 ^ 0,if 0+ab w 12 3*2 ^ 2+ab w 6 2*2 ^ 0=0/\(0+ab w 4 2*2 ^ 0=1\/0+ab w 4 2*2 ^ 0=2) then 32 else 0+ab w 12 3*2 ^ 2+ab w 6 2*2 ^ 0,0,0,0⟩
theorem TL {f w:Int} (h:aa f=23):aU f w=x6 f w:=by
 unfold aU; rw[h]
 exact aX rfl rfl rfl rfl rfl (bj (K:=23) (f:=f) (by decide)) rfl (qz (K:=23) (by decide)) rfl rfl rfl
def x7 (f w:Int):IN:=⟨f,0+ab w 8 4*2 ^ 0,0+ab w 16 4*2 ^ 0,0,0,0+ab w 26 1*2 ^ 11+ab w 12 3*2 ^ 8+ab w 0 8*2 ^ 0,0,0,0,0,0⟩
theorem TN {f w:Int} (h:aa f=24):aU f w=x7 f w:=by
 unfold aU; rw[h]
 exact aX rfl rfl rfl rfl rfl (bj (K:=24) (f:=f) (by decide)) rfl (bM (K:=24) (k:=xV 24 w 5) (by decide)) rfl rfl rfl
def CY (f w:Int):IN:=⟨f,0+ab w 12 4*2 ^ 0,0+ab w 16 4*2 ^ 0,0,0,0+ab w 0 12*2 ^ 0,0,0,0,0,0⟩
theorem TO {f w:Int} (h:aa f=25):aU f w=CY f w:=by
 unfold aU; rw[h]
 exact aX rfl rfl rfl rfl rfl (bj (K:=25) (f:=f) (by decide)) rfl (bM (K:=25) (k:=xV 25 w 5) (by decide)) rfl rfl rfl
def CZ (f w:Int):IN:=⟨f,0+ab w 12 4*2 ^ 0,0+ab w 16 4*2 ^ 0,0+ab w 0 4*2 ^ 0,0,0,0,0+ab w 4 2*2 ^ 0,0,0,0⟩
theorem TP {f w:Int} (h:aa f=26):aU f w=CZ f w:=by
 unfold aU; rw[h]
 exact aX rfl rfl rfl rfl rfl (bj (K:=26) (f:=f) (by decide)) rfl (bM (K:=26) (k:=xV 26 w 5) (by decide)) rfl rfl rfl
def C0 (f w:Int):IN:=⟨f,0+ab w 8 4*2 ^ 0,0+ab w 16 4*2 ^ 0,0+ab w 0 4*2 ^ 0,0,0,0,0,0+ab w 20 1*2 ^ 0,0,0⟩
theorem TQ {f w:Int} (h:aa f=27):aU f w=C0 f w:=by
 unfold aU; rw[h]
 exact aX rfl rfl rfl rfl rfl (bj (K:=27) (f:=f) (by decide)) rfl (bM (K:=27) (k:=xV 27 w 5) (by decide)) rfl rfl rfl
def C1 (f w:Int):IN:=⟨f,0+ab w 8 4*2 ^ 0,0+ab w 16 4*2 ^ 0,0+ab w 0 4*2 ^ 0,0,0,0,0,0,0,0⟩
theorem TR {f w:Int} (h:aa f=28):aU f w=C1 f w:=by
 unfold aU; rw[h]
 exact aX rfl rfl rfl rfl rfl (bj (K:=28) (f:=f) (by decide)) rfl (bM (K:=28) (k:=xV 28 w 5) (by decide)) rfl rfl rfl
def C2 (f w:Int):IN:=⟨f,0+ab w 8 4*2 ^ 0,0+ab w 16 4*2 ^ 0,0+ab w 0 4*2 ^ 0,0+ab w 12 4*2 ^ 0,0,0,0,0,0,0⟩
theorem TS {f w:Int} (h:aa f=29):aU f w=C2 f w:=by
 unfold aU; rw[h]
 exact aX rfl rfl rfl rfl rfl (bj (K:=29) (f:=f) (by decide)) rfl (bM (K:=29) (k:=xV 29 w 5) (by decide)) rfl rfl rfl
def C3 (f w:Int):IN:=⟨f,0+ab w 8 4*2 ^ 0,0+ab w 16 4*2 ^ 0,0+ab w 0 4*2 ^ 0,0+ab w 12 4*2 ^ 0,0,0,0,0,0,0⟩
theorem TT {f w:Int} (h:aa f=30):aU f w=C3 f w:=by
 unfold aU; rw[h]
 exact aX rfl rfl rfl rfl rfl (bj (K:=30) (f:=f) (by decide)) rfl (bM (K:=30) (k:=xV 30 w 5) (by decide)) rfl rfl rfl
def C4 (f w:Int):IN:=⟨f,0+ab w 12 4*2 ^ 0,0+ab w 16 4*2 ^ 0,0+ab w 0 4*2 ^ 0,0+ab w 8 4*2 ^ 0,0,0,0,0,0,0⟩
theorem TU {f w:Int} (h:aa f=31):aU f w=C4 f w:=by
 unfold aU; rw[h]
 exact aX rfl rfl rfl rfl rfl (bj (K:=31) (f:=f) (by decide)) rfl (bM (K:=31) (k:=xV 31 w 5) (by decide)) rfl rfl rfl
def C5 (f w:Int):IN:=⟨f,0+ab w 8 4*2 ^ 0,0,ab w 0 4,0,0,0,0,0,0,0⟩
theorem TV {f w:Int} (h:aa f=32):aU f w=C5 f w:=by
 unfold aU; rw[h]
 exact aX rfl rfl rfl rfl rfl (bj (K:=32) (f:=f) (by decide)) rfl (bM (K:=32) (k:=xV 32 w 5) (by decide)) rfl rfl rfl
def C6 (f w:Int):IN:=⟨f,0,0,0,0,cO (0+ab w 26 1*2 ^ 20+ab w 16 6*2 ^ 12+ab w 13 1*2 ^ 18+ab w 11 1*2 ^ 19+ab w 0 11*2 ^ 1) 21,0,0,0,0+ab w 22 4*2 ^ 0,0⟩
theorem TW {f w:Int} (h:aa f=33):aU f w=C6 f w:=by
 unfold aU; rw[h]
 exact aX rfl rfl rfl rfl rfl (rfl) rfl (bM (K:=33) (k:=xV 33 w 5) (by decide)) rfl rfl rfl
def C7 (f w:Int):IN:=⟨f,0,0,0,0,cO (bG (0+ab w 26 1*2 ^ 24+ab w 16 10*2 ^ 12+ab w 13 1*2 ^ 23+ab w 11 1*2 ^ 22+ab w 0 11*2 ^ 1) 2) 25,0,0,0,0,0⟩
theorem TX {f w:Int} (h:aa f=34):aU f w=C7 f w:=by
 unfold aU; rw[h]
 exact aX rfl rfl rfl rfl rfl (rfl) rfl (bM (K:=34) (k:=xV 34 w 5) (by decide)) rfl rfl rfl
def bO (x:Int):Prop:=0<=x/\x<=4294967295
theorem iz {x:Int} (hx:0<=x) (l w:Nat):tZ x l w=ab x l w:=by unfold tZ ab; rw[if_neg (by omega)]
theorem uj (n:Nat) (h:n<=64):Ev.aO .i64 (n:Int)=2 ^ n:=by
 unfold Ev.aO
 rw[Int.toNat_natCast,show min n (IntKind.bits .i64)=n from Nat.min_eq_left h]
 norm_cast
theorem q1:Ev.aO .i64 1=2:=by decide
theorem q4:Ev.aO .i64 4=16:=by decide
theorem q8:Ev.aO .i64 8=256:=by decide
theorem VE:Ev.aO .i64 11=2048:=by decide
theorem QP:Ev.aO .i64 12=4096:=by decide
theorem ZL:Ev.aO .i64 18=262144:=by decide
theorem ZM:Ev.aO .i64 19=524288:=by decide
theorem ZN:Ev.aO .i64 20=1048576:=by decide
theorem ZO:Ev.aO .i64 22=4194304:=by decide
theorem ZP:Ev.aO .i64 23=8388608:=by decide
theorem ZQ:Ev.aO .i64 24=16777216:=by decide
theorem q3:Ev.aO .i64 3=8:=by decide
theorem r1:Ev.aO .u32 1=2:=by decide
theorem r3:Ev.aO .u32 3=8:=by decide
theorem r4:Ev.aO .u32 4=16:=by decide
theorem r6:Ev.aO .u32 6=64:=by decide
theorem r7:Ev.aO .u32 7=128:=by decide
theorem r8:Ev.aO .u32 8=256:=by decide
theorem X0:Ev.aO .u32 11=2048:=by decide
theorem JP:Ev.aO .u32 12=4096:=by decide
theorem ZR:Ev.aO .u32 13=8192:=by decide
theorem JQ:Ev.aO .u32 16=65536:=by decide
theorem r20:Ev.aO .u32 20=1048576:=by decide
theorem r22:Ev.aO .u32 22=4194304:=by decide
theorem X1:Ev.aO .u32 26=67108864:=by decide
theorem aK (x:Int) (l w:Nat) (hx:bO x) (hw:1<=w/\w<=31) (hl:l<=31):ai gT 136 [.int .u32 x,.int .i64 ((l:Int)+w - 1),.int .i64 l] (.int .i64 (ab x l w)):=by
 have b:=ae x l w
 have p:=o4 w hw.2
 have c:=iz hx.1 l w
 refine Spec.enter an Xm 100 Tryz.func136 rfl (by kernel_rfl) ?_
 refine (iy x l w hx hw hl).u ?_
 rw[c]
 refine li ?_
 exact aD rfl
theorem gX (n:Int) (b:Nat) (hb:b<=40) (hn:0<=n/\n < 2 ^ (b+1)):ai gT 139 [.int .i64 n,.int .i64 b] (.int .i64 (cO n (b+1))):=by
 have p1:=uj b (by omega)
 have p2:=uj (b+1) (by omega)
 have e:(((b+1:Nat)):Int)=(b:Int)+1:=rfl
 rw[e] at p2
 have d1:=ub b (by omega)
 have d2:=ub (b+1) (by omega)
 have ep:(2:Int) ^ (b+1)=2 ^ b*2:=Int.pow_succ 2 b
 have d3:(2:Int) ^ (b+1)<=2199023255552:=by
  have h1:(2 ^ (b+1):Nat)<=2 ^ 41:=Nat.pow_le_pow_right (by omega) (by omega)
  have h3:=cn (b+1)
  omega
 obtain⟨q,hq⟩:∃ q,q=n / 2 ^ b:=⟨_,rfl⟩
 have q0:0<=q:=by rw[hq]; exact Int.ediv_nonneg hn.1 (by omega)
 have q1:q < 2:=by rw[hq]; exact Int.ediv_lt_of_lt_mul (by omega) (by omega)
 refine Spec.enter an Xp 100 Tryz.func139 rfl (by kernel_rfl) ?_
 refine⟨by omega,?_⟩
 refine li ?_ (show _<=(b:Int)+1/\(b:Int)+1<=_ by omega)
 have hm:n / 2 ^ b*2 ^ (b+1)=0\/n / 2 ^ b*2 ^ (b+1)=2 ^ (b+1):=by
  rw[← hq]
  have:q=0\/q=1:=by omega
  rcases this with h|h<;>rw[h]<;>omega
 refine⟨by omega,.inl ⟨av (show _<=n / Ev.aO .i64 (b:Int)*Ev.aO .i64 ((b:Int)+1)/\n / Ev.aO .i64 (b:Int)*Ev.aO .i64 ((b:Int)+1)<=_ by rw[p1,p2]; omega),?_⟩⟩
 refine li ?_ (show _<=n - n / Ev.aO .i64 (b:Int)*Ev.aO .i64 ((b:Int)+1)/\n - n / Ev.aO .i64 (b:Int)*Ev.aO .i64 ((b:Int)+1)<=_ by rw[p1,p2]; omega)
 refine aD ?_
 show n - n / Ev.aO .i64 (b:Int)*Ev.aO .i64 ((b:Int)+1)=cO n (b+1)
 have eb:ab n b 1=q:=by
  unfold ab
  rw[if_neg (by omega),← hq,show (2:Int) ^ 1=2 from rfl]
  omega
 unfold cO
 rw[p1,p2,Nat.add_sub_cancel,eb,← hq]
 have:q=0\/q=1:=by omega
 rcases this with h|h<;>rw[h]
 ·rw[if_neg (by decide)]; omega
 ·rw[if_pos rfl]; omega
theorem er (k b:Int):ai gT 137 [.int .i64 k,.int .i64 b] (.int .i64 (if b=0/\(k=1\/k=2) then 32 else b)):=by
 refine Spec.enter an Xn 100 Tryz.func137 rfl (by kernel_rfl) ?_
 repeat' ((conv=>whnf); first|(refine (And.intro (fun _=>?_) (fun _=>?_):(_->_)/\(_->_))<;>(first|(exfalso; first|contradiction|omega)|skip))|refine Or.inl (And.intro (by first|exact av (by omega)|exact af (by omega)|exact aP (by omega)|exact bb (by omega)) ?_)|(refine And.intro (show (_:Int)≠0 by omega) (Or.inl (And.intro (show (0:Int)<=_ by omega) (And.intro (show (0:Int) < _ by omega) ?_))))|(refine And.intro (show (_:Int)≠0 by omega) (Or.inl (And.intro (show (0:Int)<=_ by omega) (And.intro (by first|exact (show (_:Int)<=9223372036854775807 by omega)|exact (show (_:Int)<=4294967295 by omega)) (And.intro (show (0:Int) < _ by omega) ?_)))))|(refine aD ?_; (show b=_); rw[if_neg (by omega)])|(refine aD ?_; (show (32:Int)=_); rw[if_pos (by omega)])|(intro _))
def bS (i:IN) (w:Int):IN:={i with set:=ab w 20 1,rn:=ab w 16 4,rd:=ab w 8 4,rm:=ab w 0 4}
theorem bo (i:IN) (w:Int) (hw:bO w):ai gT 140 [cG i,.int .u32 w] (cG (bS i w)):=by
 refine Spec.enter an Xq 100 Tryz.func140 rfl (by kernel_rfl) ?_
 refine (aK w 20 1 hw (by decide) (by decide)).u ?_
 refine (aK w 16 4 hw (by decide) (by decide)).u ?_
 refine (aK w 8 4 hw (by decide) (by decide)).u ?_
 refine (aK w 0 4 hw (by decide) (by decide)).u ?_
 exact rA
def cj (i:IN) (w:Int):IN:={i with rd:=ab w 0 3,rn:=ab w 3 3}
theorem k7 (i:IN) (w:Int) (hw:bO w):ai gT 138 [cG i,.int .u32 w] (cG (cj i w)):=by
 refine Spec.enter an Xo 100 Tryz.func138 rfl (by kernel_rfl) ?_
 refine (aK w 0 3 hw (by decide) (by decide)).u ?_
 refine (aK w 3 3 hw (by decide) (by decide)).u ?_
 exact rA
theorem kf (a b:Int) (ha:a=0\/a=1) (hb:b=0\/b=1):ai gT 161 [.int .u32 a,.int .u32 b] (.int .u32 (if a=b then 1 else 0)):=by
 refine Spec.enter an Xk 100 Tryz.func161 rfl (by kernel_rfl) ?_
 refine aD ?_
 show bits .xor .u32 (bits .xor .u32 1 a) b=_
 rcases ha with rfl|rfl<;>rcases hb with rfl|rfl<;>decide
theorem zl (a b:Int) (ha:0<=a/\a<=4294967295) (hb:0<=b/\b<=4294967295):bits .or .i64 a b=bits .or .i64 b a:=by
 have ea:a=(a.toNat:Int):=by omega
 have eb:b=(b.toNat:Int):=by omega
 rw[ea,eb,Rm.nX _ _ (by omega) (by omega),Rm.nX _ _ (by omega) (by omega),Nat.or_comm]
def dT (w:Int):Int:=ab w 26 1*2048+ab w 12 3*256+ab w 0 8
theorem Py (w:Int):0<=dT w/\dT w < 4096:=by
 have b1:=ae w 26 1
 have b2:=ae w 12 3
 have b3:=ae w 0 8
 unfold dT; omega
theorem C8 (w:Int):bits .or .i64 (bits .or .i64 (ab w 26 1*2048) (ab w 12 3*256)) (ab w 0 8)=dT w:=by
 have b1:=ae w 26 1
 have b2:=ae w 12 3
 have b3:=ae w 0 8
 rw[Rm.cr (ab w 26 1*2048) (ab w 12 3*256) 11 (by omega) (by omega) (by omega) (by omega) (by omega) (by omega)]
 rw[Rm.cr (ab w 26 1*2048+ab w 12 3*256) (ab w 0 8) 8 (by omega) (by omega) (by omega) (by omega) (by omega) (by omega)]
 rfl
theorem ma (w:Int) (hw:bO w):ai gT 141 [.int .u32 w,.ff] (.int .i64 (dT w)):=by
 have b1:=ae w 26 1
 have b2:=ae w 12 3
 have b3:=ae w 0 8
 refine Spec.enter an RK 100 Tryz.func141 rfl (by kernel_rfl) ?_
 refine (aK w 26 1 hw (by decide) (by decide)).u ?_
 refine⟨by decide,.inl ⟨av (by rw[VE]; omega),?_⟩⟩
 refine (aK w 12 3 hw (by decide) (by decide)).u ?_
 refine⟨by decide,.inl ⟨av (by rw[q8]; omega),?_⟩⟩
 refine (aK w 0 8 hw (by decide) (by decide)).u ?_
 refine aD ?_
 show bits .or .i64 (bits .or .i64 (ab w 26 1*Ev.aO .i64 11) (ab w 12 3*Ev.aO .i64 8)) (ab w 0 8)=dT w
 rw[VE,q8,C8]
theorem C9 (w:Int) (hw:bO w):ai gT 141 [.int .u32 w,.tt] (.int .i64 (dT w+ab w 16 4*4096)):=by
 have b1:=ae w 26 1
 have b2:=ae w 12 3
 have b3:=ae w 0 8
 have b4:=ae w 16 4
 refine Spec.enter an RK 100 Tryz.func141 rfl (by kernel_rfl) ?_
 refine (aK w 26 1 hw (by decide) (by decide)).u ?_
 refine⟨by decide,.inl ⟨av (by rw[VE]; omega),?_⟩⟩
 refine (aK w 12 3 hw (by decide) (by decide)).u ?_
 refine⟨by decide,.inl ⟨av (by rw[q8]; omega),?_⟩⟩
 refine (aK w 0 8 hw (by decide) (by decide)).u ?_
 refine (aK w 16 4 hw (by decide) (by decide)).u ?_
 refine⟨by decide,.inl ⟨av (by rw[QP]; omega),?_⟩⟩
 refine aD ?_
 show bits .or .i64 (bits .or .i64 (bits .or .i64 (ab w 26 1*Ev.aO .i64 11) (ab w 12 3*Ev.aO .i64 8)) (ab w 0 8)) (ab w 16 4*Ev.aO .i64 12)=_
 have nb:=Py w
 rw[VE,q8,QP,C8,zl _ _ (by omega) (by omega),Rm.cr (ab w 16 4*4096) (dT w) 12 (by omega) (by omega) (by omega) (by omega) (by omega) (by omega)]
 omega
def o7 (w:Int):Int:=0+ab w 26 1*2 ^ 20+ab w 16 6*2 ^ 12+ab w 13 1*2 ^ 18+ab w 11 1*2 ^ 19+ab w 0 11*2 ^ 1
theorem uk (w:Int) (hw:bO w):ai gT 144 [.int .u32 w] (.int .i64 (cO (o7 w) 21)):=by
 have b1:=ae w 26 1
 have b2:=ae w 11 1
 have b3:=ae w 13 1
 have b4:=ae w 16 6
 have b5:=ae w 0 11
 refine Spec.enter an Xr 100 Tryz.func144 rfl (by kernel_rfl) ?_
 refine (aK w 26 1 hw (by decide) (by decide)).u ?_
 refine⟨by decide,.inl ⟨av (by rw[ZN]; omega),?_⟩⟩
 refine (aK w 11 1 hw (by decide) (by decide)).u ?_
 refine⟨by decide,.inl ⟨av (by rw[ZM]; omega),?_⟩⟩
 refine (aK w 13 1 hw (by decide) (by decide)).u ?_
 refine⟨by decide,.inl ⟨av (by rw[ZL]; omega),?_⟩⟩
 refine (aK w 16 6 hw (by decide) (by decide)).u ?_
 refine⟨by decide,.inl ⟨av (by rw[QP]; omega),?_⟩⟩
 refine (aK w 0 11 hw (by decide) (by decide)).u ?_
 refine⟨by decide,.inl ⟨av (by rw[q1]; omega),?_⟩⟩
 have e:bits .or .i64 (bits .or .i64 (bits .or .i64 (bits .or .i64 (ab w 26 1*Ev.aO .i64 20) (ab w 11 1*Ev.aO .i64 19)) (ab w 13 1*Ev.aO .i64 18)) (ab w 16 6*Ev.aO .i64 12)) (ab w 0 11*Ev.aO .i64 1)=o7 w:=by
  rw[ZN,ZM,ZL,QP,q1]
  rw[Rm.cr (ab w 26 1*1048576) (ab w 11 1*524288) 20 (by omega) (by omega) (by omega) (by omega) (by omega) (by omega)]
  rw[Rm.cr (ab w 26 1*1048576+ab w 11 1*524288) (ab w 13 1*262144) 19 (by omega) (by omega) (by omega) (by omega) (by omega) (by omega)]
  rw[Rm.cr (ab w 26 1*1048576+ab w 11 1*524288+ab w 13 1*262144) (ab w 16 6*4096) 18 (by omega) (by omega) (by omega) (by omega) (by omega) (by omega)]
  rw[Rm.cr (ab w 26 1*1048576+ab w 11 1*524288+ab w 13 1*262144+ab w 16 6*4096) (ab w 0 11*2) 12 (by omega) (by omega) (by omega) (by omega) (by omega) (by omega)]
  unfold o7; omega
 have hb:0<=o7 w/\o7 w < 2 ^ (20+1):=by unfold o7; omega
 refine⟨[],br,(gX (o7 w) 20 (by decide) hb).use (And.intro e (And.intro rfl trivial)) rfl rfl ?_⟩
 exact aD rfl
def iA (w:Int):Int:=0+ab w 26 1*2 ^ 24+ab w 16 10*2 ^ 12+ab w 13 1*2 ^ 23+ab w 11 1*2 ^ 22+ab w 0 11*2 ^ 1
theorem k8 (w:Int):0<=iA w/\iA w < 33554432/\iA w / 16777216=ab w 26 1/\iA w / 8388608 % 2=ab w 13 1/\iA w / 4194304 % 2=ab w 11 1/\iA w % 4194304=ab w 16 10*4096+ab w 0 11*2:=by
 have b1:=ae w 26 1
 have b2:=ae w 11 1
 have b3:=ae w 13 1
 have b4:=ae w 16 10
 have b5:=ae w 0 11
 unfold iA; omega
theorem wH (w:Int):bG (iA w) 2=ab w 26 1*16777216+(if ab w 13 1=ab w 26 1 then 1 else 0)*8388608+(if ab w 11 1=ab w 26 1 then 1 else 0)*4194304+ab w 16 10*4096+ab w 0 11*2:=by
 obtain⟨h0,h1,h2,h3,h4,h5⟩:=k8 w
 have b:=kb ⟨h0,h1⟩
 have c:=l_ ⟨h0,h1⟩
 have e:iA w / 16777216 % 2=ab w 26 1:=by omega
 rw[h2,h3,h4,h5,← h2,h2] at b
 have e2:ab w 26 1 % 2=ab w 26 1:=by omega
 rw[e2] at b
 obtain⟨t,ht⟩:∃ t,t=bG (iA w) 2:=⟨_,rfl⟩
 rw[← ht] at b c ⊢
 clear ht
 obtain⟨k1,k2,k3,k4⟩:=b
 rw[← k3,← k4]
 clear k3 k4
 omega
theorem um (w:Int) (hw:bO w):ai gT 145 [.int .u32 w] (.int .i64 (cO (bG (iA w) 2) 25)):=by
 have b1:=ae w 26 1
 have b2:=ae w 11 1
 have b3:=ae w 13 1
 have b4:=ae w 16 10
 have b5:=ae w 0 11
 have c1:tZ w 26 1=ab w 26 1:=iz hw.1 26 1
 have c2:tZ w 13 1=ab w 13 1:=iz hw.1 13 1
 have c3:tZ w 11 1=ab w 11 1:=iz hw.1 11 1
 have s2:=kf (ab w 13 1) (ab w 26 1) (iU w 13) (iU w 26)
 have s3:=kf (ab w 11 1) (ab w 26 1) (iU w 11) (iU w 26)
 have k2:=iy w 26 1 hw (by decide) (by decide)
 have k3:=iy w 13 1 hw (by decide) (by decide)
 have k4:=iy w 11 1 hw (by decide) (by decide)
 rw[c1] at k2
 rw[c2] at k3
 rw[c3] at k4
 have jt:=wH w
 obtain⟨m2,yN⟩:∃ m:Int,m=if ab w 13 1=ab w 26 1 then 1 else 0:=⟨_,rfl⟩
 obtain⟨m3,VF⟩:∃ m:Int,m=if ab w 11 1=ab w 26 1 then 1 else 0:=⟨_,rfl⟩
 have d2:0<=m2/\m2<=1:=by rw[yN]; split<;>omega
 have d3:0<=m3/\m3<=1:=by rw[VF]; split<;>omega
 rw[← yN] at s2 jt
 rw[← VF] at s3 jt
 refine Spec.enter an Xs 100 Tryz.func145 rfl (by kernel_rfl) ?_
 refine k2.u ?_
 refine li ?_
 refine⟨by decide,.inl ⟨av (by rw[ZQ]; omega),?_⟩⟩
 refine k3.u ?_
 refine s2.u ?_
 refine li ?_
 refine⟨by decide,.inl ⟨av (by rw[ZP]; omega),?_⟩⟩
 refine k4.u ?_
 refine s3.u ?_
 refine li ?_
 refine⟨by decide,.inl ⟨av (by rw[ZO]; omega),?_⟩⟩
 refine (aK w 16 10 hw (by decide) (by decide)).u ?_
 refine⟨by decide,.inl ⟨av (by rw[QP]; omega),?_⟩⟩
 refine (aK w 0 11 hw (by decide) (by decide)).u ?_
 refine⟨by decide,.inl ⟨av (by rw[q1]; omega),?_⟩⟩
 have e:bits .or .i64 (bits .or .i64 (bits .or .i64 (bits .or .i64 (ab w 26 1*Ev.aO .i64 24) (m2*Ev.aO .i64 23)) (m3*Ev.aO .i64 22)) (ab w 16 10*Ev.aO .i64 12)) (ab w 0 11*Ev.aO .i64 1)=bG (iA w) 2:=by
  rw[ZQ,ZP,ZO,QP,q1]
  rw[Rm.cr (ab w 26 1*16777216) (m2*8388608) 24 (by omega) (by omega) (by omega) (by omega) (by omega) (by omega)]
  rw[Rm.cr (ab w 26 1*16777216+m2*8388608) (m3*4194304) 23 (by omega) (by omega) (by omega) (by omega) (by omega) (by omega)]
  rw[Rm.cr (ab w 26 1*16777216+m2*8388608+m3*4194304) (ab w 16 10*4096) 22 (by omega) (by omega) (by omega) (by omega) (by omega) (by omega)]
  rw[Rm.cr (ab w 26 1*16777216+m2*8388608+m3*4194304+ab w 16 10*4096) (ab w 0 11*2) 12 (by omega) (by omega) (by omega) (by omega) (by omega) (by omega)]
  rw[jt]
 have hb:=l_ ⟨(k8 w).1,(k8 w).2.1⟩
 refine⟨[],br,(gX (bG (iA w) 2) 24 (by decide) ⟨hb.1,by omega⟩).use (And.intro e (And.intro rfl trivial)) rfl rfl ?_⟩
 exact aD rfl
theorem ai.F6 {G:Gx} {f:FuncId} {args:List PV} {r r':PV} (h:ai G f args r) (hle:xA r r'):ai G f args r':=by
 refine Spec.intro h.run.1 fun I β w bw hH hM hA=>?_
 refine (h.run.2 I β w bw hH hM hA).mono fun e w' ⟨v,r1,S',I',aV,he,hr,hi,BG⟩=>?_
 subst hr
 exact⟨v,r',S',I',aV,he,rfl,hle _ _ _ _ hi,BG⟩
theorem ar {f K:Int} (h:aa f=K):ai gT 122 [.int .i64 f] (.lit .i64 K) :=
 (eX f).F6 (eH (x:=.int .i64 (aa f)) (y:=.lit .i64 K) h)
def B (v:Int) (l w a:Nat):Nat:=(ab v l w).toNat <<< a
theorem o8 (v:Int) {l w a:Nat} (h:w+a<=32):B v l w a < 4294967296:=by
 have b:=ae v l w
 have e:=cn w
 have h1:(ab v l w).toNat < 2 ^ w:=by omega
 unfold B
 rw[Nat.shiftLeft_eq]
 calc (ab v l w).toNat*2 ^ a < 2 ^ w*2 ^ a:=Nat.mul_lt_mul_of_pos_right h1 (Nat.two_pow_pos a)
  _=2 ^ (w+a):=(Nat.pow_add ..).symm
  _<=2 ^ 32:=Nat.pow_le_pow_right (by omega) h
theorem TY (v:Int) (l w a:Nat) (p:Int) (hp:p=2 ^ a):ab v l w*p=((B v l w a:Nat):Int):=by
 have b:=ae v l w
 unfold B
 rw[Nat.shiftLeft_eq,hp,Int.natCast_mul,Int.toNat_of_nonneg b.1,cn]
def vk (x:Int) (a:Nat):Prop:=x=(a:Int)/\a < 4294967296
theorem vk.or {x y:Int} {a b:Nat} (hx:vk x a) (hy:vk y b):vk (bits .or .u32 x y) (a ||| b):=by
 obtain⟨rfl,ha⟩:=hx
 obtain⟨rfl,hb⟩:=hy
 refine⟨?_,Nat.or_lt_two_pow (n:=32) ha hb⟩
 rw[u32_or _ _ (by omega) (by omega) (by omega) (by omega),Int.toNat_natCast,Int.toNat_natCast]
theorem pL (v:Int) (l w a:Nat) {p:Int} (hp:p=2 ^ a) (h:w+a<=32):vk (ab v l w*p) (B v l w a):=⟨TY v l w a p hp,o8 v h⟩
theorem sj (v:Int) (l w:Nat) (h:w<=32):vk (ab v l w) (B v l w 0):=⟨by have:=TY v l w 0 1 rfl; rwa [Int.mul_one] at this,o8 v h⟩
theorem x8 {v:Int} {w:Nat} (h:0<=v/\v < 2 ^ w):ab v 0 w=v:=by
 unfold ab
 rw[if_neg (by omega),show (2:Int) ^ 0=1 from rfl,Int.ediv_one]
 exact Int.emod_eq_of_lt h.1 h.2
theorem mN (v:Int) (w a:Nat) {p:Int} (hp:p=2 ^ a) (h:w+a<=32) (hv:0<=v/\v < 2 ^ w):vk (v*p) (B v 0 w a):=by
 have:=pL v 0 w a hp h
 rwa [x8 hv] at this
theorem o9 (v:Int) (w:Nat) (h:w<=32) (hv:0<=v/\v < 2 ^ w):vk v (B v 0 w 0):=by
 have:=sj v 0 w h
 rwa [x8 hv] at this
theorem o_ {v:Int} {l w a:Nat} (h:ab v l w=0):B v l w a=0:=by unfold B; rw[h]; simp
theorem fL {v:Int} {l w a:Nat} (h:v=0):B v l w a=0:=by
 subst h
 apply o_
 unfold ab
 rw[if_neg (by omega),Int.zero_ediv,Int.zero_emod]
def dS (i:IN) (l:List (Nat × Nat × Nat × Nat)):Nat:=l.foldl (fun w x=>w ||| B (iT i x.1) x.2.1 x.2.2.2 x.2.2.1) 0
theorem x9 (i:IN):∀ (l:List (Nat × Nat × Nat × Nat)) (W V:Nat),l.foldl (ud i) (W ||| V)=W ||| l.foldl (fun w x=>w ||| B (iT i x.1) x.2.1 x.2.2.2 x.2.2.1) V
 | [],_,_=>rfl
 | x::l,W,V=>by
  rw[List.foldl_cons,List.foldl_cons]
  have e:ud i (W ||| V) x=W ||| (V ||| B (iT i x.1) x.2.1 x.2.2.2 x.2.2.1):=by
   have h:(ab (iT i x.1) x.2.1 x.2.2.2).toNat < 2 ^ x.2.2.2:=JM i x
   unfold ud plus B
   rw[Nat.mod_eq_of_lt h,Nat.or_assoc]
  rw[e,x9 i l]
theorem uo (i:IN) (l:List (Nat × Nat × Nat × Nat)):qv i l=(lp i.form).toNat ||| dS i l:=by
 unfold qv dS
 rw[← x9 i l,Nat.or_zero]
theorem mb (i:IN):bs i=(((lp i.form).toNat ||| dS (du i) (ax (aa i.form)):Nat):Int):=by
 unfold bs
 rw[uo,gD]
theorem iV {a b:Nat} (ha:a < 4294967296) (hb:b < 4294967296):a ||| b < 4294967296:=Nat.or_lt_two_pow (n:=32) ha hb
theorem eS (i:IN):vk ((B i.set 0 1 20 ||| B i.rn 0 4 16 ||| B i.ra 0 4 12 ||| B i.rd 0 4 8 ||| B i.rm 0 4 0:Nat):Int) (B i.set 0 1 20 ||| B i.rn 0 4 16 ||| B i.ra 0 4 12 ||| B i.rd 0 4 8 ||| B i.rm 0 4 0) :=
 ⟨rfl,iV (iV (iV (iV (o8 _ (by decide)) (o8 _ (by decide))) (o8 _ (by decide))) (o8 _ (by decide))) (o8 _ (by decide))⟩
theorem jF (n:Int):vk ((B n 11 1 26 ||| B n 12 4 16 ||| B n 8 3 12 ||| B n 0 8 0:Nat):Int) (B n 11 1 26 ||| B n 12 4 16 ||| B n 8 3 12 ||| B n 0 8 0) :=
 ⟨rfl,iV (iV (iV (o8 _ (by decide)) (o8 _ (by decide))) (o8 _ (by decide))) (o8 _ (by decide))⟩
theorem jG (x:Int) (l w:Nat) (hx:bO x) (hw:1<=w/\w<=31) (hl:l<=31):ai gT 157 [.int .u32 x,.int .i64 ((l:Int)+w - 1),.int .i64 l] (.int .u32 (ab x l w)):=by
 have h:=iy x l w hx hw hl
 rwa [iz hx.1 l w] at h
theorem zm (v:Int) (l w:Nat) (h:l+w<=32) (hv:-1099511627776<=v):tZ (IntKind.u32.wrap v) l w=ab v l w:=by
 rw[IntKind.wrap_u32',iz (by omega)]
 obtain⟨n,hn⟩:∃ n:Nat,(n:Int)=if v < 0 then v+1099511627776 else v:=⟨(if v < 0 then v+1099511627776 else v).toNat,Int.toNat_of_nonneg (by split<;>omega)⟩
 have e:v % 4294967296=((n % 4294967296:Nat):Int):=by
  rw[Int.natCast_emod,hn]
  split<;>omega
 rw[e,qw]
 unfold ab
 rw[← hn]
 have key:n % 4294967296 / 2 ^ l % 2 ^ w=n / 2 ^ l % 2 ^ w:=by
  apply Nat.eq_of_testBit_eq
  intro p
  rw[Nat.testBit_mod_two_pow,Nat.testBit_mod_two_pow,Nat.testBit_div_two_pow,Nat.testBit_div_two_pow,show (4294967296:Nat)=2 ^ 32 from rfl,Nat.testBit_mod_two_pow]
  by_cases hp:p < w
  ·rw[decide_eq_true hp,decide_eq_true (show p+l < 32 by omega)]; simp
  ·rw[decide_eq_false hp]; simp
 rw[key,← cn,← cn]
 norm_cast
theorem nL (v:Int) (l w:Nat) (hv:-1099511627776<=v) (hw:1<=w/\w<=31) (hl:l<=31) (h:l+w<=32):ai gT 157 [.int .u32 (IntKind.u32.wrap v),.int .i64 ((l:Int)+w - 1),.int .i64 l] (.int .u32 (ab v l w)):=by
 have hx:0<=IntKind.u32.wrap v/\IntKind.u32.wrap v<=4294967295:=by rw[IntKind.wrap_u32']; omega
 have k:=iy (IntKind.u32.wrap v) l w hx hw hl
 rwa [zm v l w h hv] at k
theorem C' {v:Int} (h:0<=v) (w:Nat):ab (v / 4) 0 w=ab v 2 w:=by
 unfold ab
 rw[if_neg (by omega),if_neg (by omega),show (2:Int) ^ 0=1 from rfl,show (2:Int) ^ 2=4 from rfl,Int.ediv_one]
theorem JR {v:Int} {w a:Nat} (h:0<=v):B (v / 4) 0 w a=B v 2 w a:=by unfold B; rw[C' h]
theorem ZS (v:Int) (w:Nat) (h:w<=32) (h0:0<=v) (hv:v / 4 < 2 ^ w):vk (v / 4) (B v 2 w 0):=by
 have:=o9 (v / 4) w h ⟨by omega,hv⟩
 rwa [JR h0] at this
theorem k9 (i:IN) (v:Int) (w:Nat) (hv:0<=v/\v < 2 ^ w) (hd:0<=i.rd/\i.rd < 8) (hn:0<=i.rn/\i.rn < 8) (hw:w<=20):ai gT 160 [cG i,.int .u32 v] (.int .u32 ((B v 0 w 6 ||| B i.rn 0 3 3 ||| B i.rd 0 3 0:Nat):Int)):=by
 have hp:=o4 w (by omega)
 have f_:(2:Int) ^ w<=1048576:=by
  have h1:(2 ^ w:Nat)<=2 ^ 20:=Nat.pow_le_pow_right (by omega) hw
  have h3:=cn w
  omega
 refine Spec.enter an Xl 100 Tryz.func160 rfl (by kernel_rfl) ?_
 refine⟨by decide,.inl ⟨af (by rw[r6]; omega),?_⟩⟩
 refine .inl ⟨af (by omega),?_⟩
 refine⟨by decide,.inl ⟨af (by rw[r3]; omega),?_⟩⟩
 refine .inl ⟨af (by omega),?_⟩
 refine aD ?_
 exact (show bits .or .u32 (bits .or .u32 (v*Ev.aO .u32 6) (i.rn*Ev.aO .u32 3)) i.rd=_ from (((mN v w 6 (by decide) (by omega) hv).or (mN i.rn 3 3 (by decide) (by decide) hn)).or (o9 i.rd 3 (by decide) hd)).1)
theorem cP (i:IN) (hs:0<=i.set/\i.set < 2) (hd:0<=i.rd/\i.rd < 16) (hn:0<=i.rn/\i.rn < 16) (hm:0<=i.rm/\i.rm < 16) (ha:0<=i.ra/\i.ra < 16):ai gT 155 [cG i] (.int .u32 ((B i.set 0 1 20 ||| B i.rn 0 4 16 ||| B i.ra 0 4 12 ||| B i.rd 0 4 8 ||| B i.rm 0 4 0:Nat):Int)):=by
 refine Spec.enter an Xf 100 Tryz.func155 rfl (by kernel_rfl) ?_
 refine .inl ⟨af (by omega),?_⟩
 refine⟨by decide,.inl ⟨af (by rw[r20]; omega),?_⟩⟩
 refine .inl ⟨af (by omega),?_⟩
 refine⟨by decide,.inl ⟨af (by rw[JQ]; omega),?_⟩⟩
 refine .inl ⟨af (by omega),?_⟩
 refine⟨by decide,.inl ⟨af (by rw[JP]; omega),?_⟩⟩
 refine .inl ⟨af (by omega),?_⟩
 refine⟨by decide,.inl ⟨af (by rw[r8]; omega),?_⟩⟩
 refine .inl ⟨af (by omega),?_⟩
 refine aD ?_
 exact (show bits .or .u32 (bits .or .u32 (bits .or .u32 (bits .or .u32 (i.set*Ev.aO .u32 20) (i.rn*Ev.aO .u32 16)) (i.ra*Ev.aO .u32 12)) (i.rd*Ev.aO .u32 8)) i.rm=_ from (((((mN i.set 1 20 (by decide) (by decide) hs).or (mN i.rn 4 16 (by decide) (by decide) hn)).or (mN i.ra 4 12 (by decide) (by decide) ha)).or (mN i.rd 4 8 (by decide) (by decide) hd)).or (o9 i.rm 4 (by decide) hm)).1)
theorem fP (n:Int) (hn:bO n):ai gT 156 [.int .u32 n] (.int .u32 ((B n 11 1 26 ||| B n 12 4 16 ||| B n 8 3 12 ||| B n 0 8 0:Nat):Int)):=by
 have b0:=ae n 11 1
 have b1:=ae n 12 4
 have b2:=ae n 8 3
 have b3:=ae n 0 8
 refine Spec.enter an Xg 100 Tryz.func156 rfl (by kernel_rfl) ?_
 refine (jG n 11 1 hn (by decide) (by decide)).u ?_
 refine⟨by decide,.inl ⟨af (by rw[X1]; omega),?_⟩⟩
 refine (jG n 12 4 hn (by decide) (by decide)).u ?_
 refine⟨by decide,.inl ⟨af (by rw[JQ]; omega),?_⟩⟩
 refine (jG n 8 3 hn (by decide) (by decide)).u ?_
 refine⟨by decide,.inl ⟨af (by rw[JP]; omega),?_⟩⟩
 refine (jG n 0 8 hn (by decide) (by decide)).u ?_
 refine aD ?_
 exact (show bits .or .u32 (bits .or .u32 (bits .or .u32 (ab n 11 1*Ev.aO .u32 26) (ab n 12 4*Ev.aO .u32 16)) (ab n 8 3*Ev.aO .u32 12)) (ab n 0 8)=_ from ((((pL n 11 1 26 (by decide) (by decide)).or (pL n 12 4 16 (by decide) (by decide))).or (pL n 8 3 12 (by decide) (by decide))).or (sj n 0 8 (by decide))).1)
end Go.Proofs.YtlgkljpgagfndaaGreatDoor.Pw

/- What this claim is proved with: no condition. -/
import Derived.Test.YtnbngokbamifbaaGreatDoorNr16
set_option maxRecDepth 100000
set_option linter.unusedVariables false
set_option linter.unusedSimpArgs false
namespace Go.Proofs.YtnbngokbamifbaaGreatDoor.Pw
open Go Go.RowKit
theorem QB (k v:Int) (h:bM k v):(if 0+aa v 2 3*2 ^ 2+aa v 0 2*2 ^ 0=0/\(k=1\/k=2) then 32 else 0+aa v 2 3*2 ^ 2+aa v 0 2*2 ^ 0)=v:=by
 unfold bM at h; unfold aa; (repeat' split)<;>omega
theorem mE {k v:Int} (h:bM k v):0<=k/\k < 4:=by unfold bM at h; omega
theorem XZ (v:Int) (h:0<=v/\v < 8):0+aa v 0 3*2 ^ 0=v:=by
 unfold aa; (repeat' split)<;>omega
theorem X0 (v:Int) (h:v=0):0=v:=by
 omega
theorem X3 (v:Int) (h:0<=v/\v < 8):0+aa v 0 3*2 ^ 0=v:=by
 unfold aa; (repeat' split)<;>omega
theorem X4 (v:Int) (h:v=0):0=v:=by
 omega
theorem X5 (v:Int) (h:v=0):0=v:=by
 omega
theorem X6 (v:Int) (h:v=0):0=v:=by
 omega
theorem X7 (v:Int) (h:v=0):0=v:=by
 omega
theorem X8 (v:Int) (h:v=0):0=v:=by
 omega
theorem X9 (v:Int) (h:v=0):0=v:=by
 omega
theorem X' (f v:Int) (h:0<=v/\v<=32) (h1:f=1->v < 32) (h2:f=2\/f=3->0 < v) (h3:f=1\/f=2\/f=3):(if 1 < f/\0+aa v 0 5*2 ^ 0=0 then 32 else 0+aa v 0 5*2 ^ 0)=v:=by
 unfold aa; (repeat' split)<;>omega
theorem X_ (v:Int) (h:0<=v/\v < 8):0+aa v 0 3*2 ^ 0=v:=by
 unfold aa; (repeat' split)<;>omega
theorem Ya (v:Int) (h:0<=v/\v < 8):0+aa v 0 3*2 ^ 0=v:=by
 unfold aa; (repeat' split)<;>omega
theorem Yb (v:Int) (h:0<=v/\v < 8):0+aa v 0 3*2 ^ 0=v:=by
 unfold aa; (repeat' split)<;>omega
theorem Yc (v:Int) (h:v=0):0=v:=by
 omega
theorem Yd (v:Int) (h:v=0):0=v:=by
 omega
theorem Ye (v:Int) (h:v=0):0=v:=by
 omega
theorem Yf (v:Int) (h:v=0):0=v:=by
 omega
theorem Yg (v:Int) (h:v=0):0=v:=by
 omega
theorem Yh (v:Int) (h:v=0):0=v:=by
 omega
theorem Yi (v:Int) (h:v=0):0=v:=by
 omega
theorem Yj (v:Int) (h:0<=v/\v < 8):0+aa v 0 3*2 ^ 0=v:=by
 unfold aa; (repeat' split)<;>omega
theorem Yk (v:Int) (h:0<=v/\v < 8):0+aa v 0 3*2 ^ 0=v:=by
 unfold aa; (repeat' split)<;>omega
theorem Yl (v:Int) (h:v=0):0=v:=by
 omega
theorem Ym (v:Int) (h:v=0):0=v:=by
 omega
theorem Yn (v:Int) (h:0<=v/\v<=7/\v % 1=0):0+aa v 0 3*2 ^ 0=v:=by
 unfold aa; (repeat' split)<;>omega
theorem Yo (v:Int) (h:v=0):0=v:=by
 omega
theorem Yp (v:Int) (h:v=0):0=v:=by
 omega
theorem Yq (v:Int) (h:v=0):0=v:=by
 omega
theorem Yr (v:Int) (h:v=0):0=v:=by
 omega
theorem Ys (v:Int) (h:v=0):0=v:=by
 omega
theorem Yt (v:Int) (h:0<=v/\v < 8):0+aa v 0 3*2 ^ 0=v:=by
 unfold aa; (repeat' split)<;>omega
theorem Yu (v:Int) (h:v=0):0=v:=by
 omega
theorem Yv (v:Int) (h:v=0):0=v:=by
 omega
theorem Yw (v:Int) (h:v=0):0=v:=by
 omega
theorem Yx (v:Int) (h:0<=v/\v<=255/\v % 1=0):0+aa v 0 8*2 ^ 0=v:=by
 unfold aa; (repeat' split)<;>omega
theorem Yy (v:Int) (h:v=0):0=v:=by
 omega
theorem Yz (v:Int) (h:v=0):0=v:=by
 omega
theorem YA (v:Int) (h:v=0):0=v:=by
 omega
theorem YB (v:Int) (h:v=0):0=v:=by
 omega
theorem YC (v:Int) (h:v=0):0=v:=by
 omega
theorem YD (v:Int) (h:0<=v/\v < 8):0+aa v 0 3*2 ^ 0=v:=by
 unfold aa; (repeat' split)<;>omega
theorem YE (v:Int) (h:v=0):0=v:=by
 omega
theorem YF (v:Int) (h:0<=v/\v < 8):0+aa v 0 3*2 ^ 0=v:=by
 unfold aa; (repeat' split)<;>omega
theorem YG (v:Int) (h:v=0):0=v:=by
 omega
theorem YH (v:Int) (h:v=0):0=v:=by
 omega
theorem YI (v:Int) (h:v=0):0=v:=by
 omega
theorem YJ (v:Int) (h:v=0):0=v:=by
 omega
theorem YK (v:Int) (h:v=0):0=v:=by
 omega
theorem YL (v:Int) (h:v=0):0=v:=by
 omega
theorem YM (v:Int) (h:v=0):0=v:=by
 omega
theorem YN (v:Int) (h:0<=v/\v < 15):0+aa v 3 1*2 ^ 3+aa v 0 3*2 ^ 0=v:=by
 unfold aa; (repeat' split)<;>omega
theorem YO (v:Int) (h:v=0):0=v:=by
 omega
theorem YP (v:Int) (h:0<=v/\v < 15):0+aa v 0 4*2 ^ 0=v:=by
 unfold aa; (repeat' split)<;>omega
theorem YQ (v:Int) (h:v=0):0=v:=by
 omega
theorem YR (v:Int) (h:v=0):0=v:=by
 omega
theorem YS (v:Int) (h:v=0):0=v:=by
 omega
theorem YT (v:Int) (h:v=0):0=v:=by
 omega
theorem YU (v:Int) (h:v=0):0=v:=by
 omega
theorem YV (v:Int) (h:v=0):0=v:=by
 omega
theorem YW (v:Int) (h:v=0):0=v:=by
 omega
theorem YX (v:Int) (h:v=0):0=v:=by
 omega
theorem YY (v:Int) (h:v=0):0=v:=by
 omega
theorem YZ (v:Int) (h:0<=v/\v < 15):0+aa v 0 4*2 ^ 0=v:=by
 unfold aa; (repeat' split)<;>omega
theorem Y0 (v:Int) (h:v=0):0=v:=by
 omega
theorem Y1 (v:Int) (h:v=0):0=v:=by
 omega
theorem Y2 (v:Int) (h:v=0):0=v:=by
 omega
theorem Y3 (v:Int) (h:v=0):0=v:=by
 omega
theorem Y4 (v:Int) (h:v=0):0=v:=by
 omega
theorem Y5 (v:Int) (h:v=0):0=v:=by
 omega
theorem Y6 (v:Int) (h:v=0):0=v:=by
 omega
theorem Y7 (v:Int) (h:0<=v/\v < 8):0+aa v 0 3*2 ^ 0=v:=by
 unfold aa; (repeat' split)<;>omega
theorem Y8 (v:Int) (h:v=0):0=v:=by
 omega
theorem Y9 (v:Int) (h:v=0):0=v:=by
 omega
theorem Y' (v:Int) (h:v=0):0=v:=by
 omega
theorem Y_ (v:Int) (h:0<=v/\v<=1020/\v % 4=0):0+aa v 2 8*2 ^ 2=v:=by
 unfold aa; (repeat' split)<;>omega
theorem Za (v:Int) (h:v=0):0=v:=by
 omega
theorem Zb (v:Int) (h:v=0):0=v:=by
 omega
theorem Zc (v:Int) (h:v=0):0=v:=by
 omega
theorem Zd (v:Int) (h:v=0):0=v:=by
 omega
theorem Ze (v:Int) (h:v=0):0=v:=by
 omega
theorem Zf (v:Int) (h:0<=v/\v < 8):0+aa v 0 3*2 ^ 0=v:=by
 unfold aa; (repeat' split)<;>omega
theorem Zg (v:Int) (h:0<=v/\v < 8):0+aa v 0 3*2 ^ 0=v:=by
 unfold aa; (repeat' split)<;>omega
theorem Zh (v:Int) (h:v=0):0=v:=by
 omega
theorem Zi (v:Int) (h:v=0):0=v:=by
 omega
theorem Zj (v:Int) (h:0<=v/\v<=124/\v % 4=0):0+aa v 2 5*2 ^ 2=v:=by
 unfold aa; (repeat' split)<;>omega
theorem Zk (v:Int) (h:v=0):0=v:=by
 omega
theorem Zl (v:Int) (h:v=0):0=v:=by
 omega
theorem Zm (v:Int) (h:v=0):0=v:=by
 omega
theorem Zn (v:Int) (h:v=0):0=v:=by
 omega
theorem Zo (v:Int) (h:v=0):0=v:=by
 omega
theorem QC (v:Int) (h:v=0):0=v:=by
 omega
theorem QD (v:Int) (h:v=0):0=v:=by
 omega
theorem QE (v:Int) (h:v=0):0=v:=by
 omega
theorem QF (v:Int) (h:v=0):0=v:=by
 omega
theorem QG (v:Int) (h:0<=v/\v<=508/\v % 4=0):0+aa v 2 7*2 ^ 2=v:=by
 unfold aa; (repeat' split)<;>omega
theorem QH (v:Int) (h:v=0):0=v:=by
 omega
theorem QI (v:Int) (h:v=0):0=v:=by
 omega
theorem QJ (v:Int) (h:v=0):0=v:=by
 omega
theorem QK (v:Int) (h:v=0):0=v:=by
 omega
theorem QL (v:Int) (h:v=0):0=v:=by
 omega
theorem QM (v:Int) (h:v=0):0=v:=by
 omega
theorem QN (v:Int) (h:v=0):0=v:=by
 omega
theorem QO (v:Int) (h:v=0):0=v:=by
 omega
theorem QP (v:Int) (h:v=0):0=v:=by
 omega
theorem QQ (v:Int) (h:v=0):0=v:=by
 omega
theorem QR (v:Int) (h:v=0):0=v:=by
 omega
theorem QS (v:Int) (h:v=0):0=v:=by
 omega
theorem QT (v:Int) (h:v=0):0=v:=by
 omega
theorem QU (v:Int) (h:v=0):0=v:=by
 omega
theorem QV (v:Int) (h:0 < v/\v / 16384 % 2*16384+v % 256=v):0+aa v 14 1*2 ^ 14+aa v 0 8*2 ^ 0=v:=by
 unfold aa; (repeat' split)<;>omega
theorem QW (v:Int) (h:v=0):0=v:=by
 omega
theorem QX (v:Int) (h:v=0):0=v:=by
 omega
theorem QY (v:Int) (h:v=0):0=v:=by
 omega
theorem QZ (v:Int) (h:v=0):0=v:=by
 omega
theorem Q0 (v:Int) (h:v=0):0=v:=by
 omega
theorem Q1 (v:Int) (h:v=0):0=v:=by
 omega
theorem Q2 (v:Int) (h:v=0):0=v:=by
 omega
theorem Q3 (v:Int) (h:v=0):0=v:=by
 omega
theorem Q4 (v:Int) (h:v=0):0=v:=by
 omega
theorem Q5 (v:Int) (h:0 < v/\v / 32768 % 2*32768+v % 256=v):0+aa v 15 1*2 ^ 15+aa v 0 8*2 ^ 0=v:=by
 unfold aa; (repeat' split)<;>omega
theorem Q6 (v:Int) (h:v=0):0=v:=by
 omega
theorem Q7 (v:Int) (h:v=0):0=v:=by
 omega
theorem Q8 (v:Int) (h:v=0):0=v:=by
 omega
theorem Q9 (v:Int) (h:v=0):0=v:=by
 omega
theorem Q_ (v:Int) (h:v=0):0=v:=by
 omega
theorem Ra (v:Int) (h:v=0):0=v:=by
 omega
theorem Rb (v:Int) (h:v=0):0=v:=by
 omega
theorem Rc (v:Int) (h:v=0):0=v:=by
 omega
theorem Rd (v:Int) (h:v=0):0=v:=by
 omega
theorem Re (v:Int) (h:v=0):0=v:=by
 omega
theorem Rf (v:Int) (h:v=0):0=v:=by
 omega
theorem Rg (v:Int) (h:v=0):0=v:=by
 omega
theorem Rh (v:Int) (h:v=0):0=v:=by
 omega
theorem Ri (v:Int) (h:v=0):0=v:=by
 omega
theorem Rj (v:Int) (h:0<=v/\v<=255/\v % 1=0):0+aa v 0 8*2 ^ 0=v:=by
 unfold aa; (repeat' split)<;>omega
theorem Rk (v:Int) (h:v=0):0=v:=by
 omega
theorem Rl (v:Int) (h:v=0):0=v:=by
 omega
theorem Rn (v:Int) (h:v=0):0=v:=by
 omega
theorem Ro (v:Int) (h:v=0):0=v:=by
 omega
theorem Rp (v:Int) (h:v=0):0=v:=by
 omega
theorem Rq (v:Int) (h:v=0):0=v:=by
 omega
theorem Rr (v:Int) (h:v=0):0=v:=by
 omega
theorem Rs (v:Int) (h:v=0):0=v:=by
 omega
theorem Rt (v:Int) (h:v=0):0=v:=by
 omega
theorem Ru (v:Int) (h:-256<=v/\v<=254/\v % 2=0):cM (0+aa v 1 8*2 ^ 1) 9=v:=by
 unfold cM aa; (repeat' split)<;>omega
theorem Rv (v:Int) (h:v=0):0=v:=by
 omega
theorem Rw (v:Int) (h:v=0):0=v:=by
 omega
theorem Rx (v:Int) (h:v=0):0=v:=by
 omega
theorem Ry (v:Int) (h:0<=v/\v<=13):0+aa v 0 4*2 ^ 0=v:=by
 unfold aa; (repeat' split)<;>omega
theorem Rz (v:Int) (h:v=0):0=v:=by
 omega
theorem RA (v:Int) (h:v=0):0=v:=by
 omega
theorem RB (v:Int) (h:v=0):0=v:=by
 omega
theorem RC (v:Int) (h:v=0):0=v:=by
 omega
theorem RD (v:Int) (h:v=0):0=v:=by
 omega
theorem RE (v:Int) (h:-2048<=v/\v<=2046/\v % 2=0):cM (0+aa v 1 11*2 ^ 1) 12=v:=by
 unfold cM aa; (repeat' split)<;>omega
theorem RF (v:Int) (h:v=0):0=v:=by
 omega
theorem RG (v:Int) (h:v=0):0=v:=by
 omega
theorem RH (v:Int) (h:v=0):0=v:=by
 omega
theorem RI (v:Int) (h:v=0):0=v:=by
 omega
theorem RJ (v:Int) (h:v=0):0=v:=by
 omega
theorem RK (v:Int) (h:0<=v/\v < 15):0+aa v 0 4*2 ^ 0=v:=by
 unfold aa; (repeat' split)<;>omega
theorem RL (v:Int) (h:v=0):0=v:=by
 omega
theorem RM (v:Int) (h:v=0):0=v:=by
 omega
theorem RN (v:Int) (h:v=0):0=v:=by
 omega
theorem RO (v:Int) (h:0<=v/\v<=65535/\v % 1=0):0+aa v 11 1*2 ^ 11+aa v 12 4*2 ^ 12+aa v 8 3*2 ^ 8+aa v 0 8*2 ^ 0=v:=by
 unfold aa; (repeat' split)<;>omega
theorem RP (v:Int) (h:v=0):0=v:=by
 omega
theorem RQ (v:Int) (h:v=0):0=v:=by
 omega
theorem RR (v:Int) (h:v=0):0=v:=by
 omega
theorem RT (v:Int) (h:v=0):0=v:=by
 omega
theorem RV (v:Int) (h:v=0):0=v:=by
 omega
theorem RW (v:Int) (h:0<=v/\v < 15):0+aa v 0 4*2 ^ 0=v:=by
 unfold aa; (repeat' split)<;>omega
theorem RX (v:Int) (h:0<=v/\v < 15):0+aa v 0 4*2 ^ 0=v:=by
 unfold aa; (repeat' split)<;>omega
theorem RY (v:Int) (h:v=0):0=v:=by
 omega
theorem RZ (v:Int) (h:v=0):0=v:=by
 omega
theorem R0 (v:Int) (h:0<=v/\v<=4095/\v % 1=0):0+aa v 11 1*2 ^ 11+aa v 8 3*2 ^ 8+aa v 0 8*2 ^ 0=v:=by
 unfold aa; (repeat' split)<;>omega
theorem R1 (v:Int) (h:v=0):0=v:=by
 omega
theorem R2 (v:Int) (h:v=0):0=v:=by
 omega
theorem R3 (v:Int) (h:v=0\/v=1):0+aa v 0 1*2 ^ 0=v:=by
 unfold aa; (repeat' split)<;>omega
theorem R4 (v:Int) (h:v=0):0=v:=by
 omega
theorem R5 (v:Int) (h:v=0):0=v:=by
 omega
theorem R6 (v:Int) (h:0<=v/\v < 15):0+aa v 0 4*2 ^ 0=v:=by
 unfold aa; (repeat' split)<;>omega
theorem R7 (v:Int) (h:v=0):0=v:=by
 omega
theorem R8 (v:Int) (h:v=0):0=v:=by
 omega
theorem R9 (v:Int) (h:v=0):0=v:=by
 omega
theorem R' (v:Int) (h:0<=v/\v<=4095/\v % 1=0):0+aa v 11 1*2 ^ 11+aa v 8 3*2 ^ 8+aa v 0 8*2 ^ 0=v:=by
 unfold aa; (repeat' split)<;>omega
theorem R_ (v:Int) (h:v=0):0=v:=by
 omega
theorem Sa (v:Int) (h:v=0):0=v:=by
 omega
theorem Sb (v:Int) (h:v=0\/v=1):0+aa v 0 1*2 ^ 0=v:=by
 unfold aa; (repeat' split)<;>omega
theorem Sc (v:Int) (h:v=0):0=v:=by
 omega
theorem Sd (v:Int) (h:v=0):0=v:=by
 omega
theorem Se (v:Int) (h:v=0):0=v:=by
 omega
theorem Sf (v:Int) (h:0<=v/\v < 15):0+aa v 0 4*2 ^ 0=v:=by
 unfold aa; (repeat' split)<;>omega
theorem Sg (v:Int) (h:v=0):0=v:=by
 omega
theorem Sh (v:Int) (h:v=0):0=v:=by
 omega
theorem Si (v:Int) (h:0<=v/\v<=4095/\v % 1=0):0+aa v 11 1*2 ^ 11+aa v 8 3*2 ^ 8+aa v 0 8*2 ^ 0=v:=by
 unfold aa; (repeat' split)<;>omega
theorem Sj (v:Int) (h:v=0):0=v:=by
 omega
theorem Sk (v:Int) (h:v=0):0=v:=by
 omega
theorem Sl (v:Int) (h:v=0):0=v:=by
 omega
theorem Sm (v:Int) (h:v=0):0=v:=by
 omega
theorem Sn (v:Int) (h:v=0):0=v:=by
 omega
theorem So (v:Int) (h:0<=v/\v < 15):0+aa v 0 4*2 ^ 0=v:=by
 unfold aa; (repeat' split)<;>omega
theorem Sp (v:Int) (h:0<=v/\v < 15):0+aa v 0 4*2 ^ 0=v:=by
 unfold aa; (repeat' split)<;>omega
theorem Sq (v:Int) (h:0<=v/\v < 15):0+aa v 0 4*2 ^ 0=v:=by
 unfold aa; (repeat' split)<;>omega
theorem Sr (v:Int) (h:v=0):0=v:=by
 omega
theorem Su (v:Int) (h:v=0):0=v:=by
 omega
theorem HB (v:Int) (h:0<=v/\v < 4):0+aa v 0 2*2 ^ 0=v:=by
 unfold aa; (repeat' split)<;>omega
theorem Sv (v:Int) (h:v=0\/v=1):0+aa v 0 1*2 ^ 0=v:=by
 unfold aa; (repeat' split)<;>omega
theorem Sw (v:Int) (h:v=0):0=v:=by
 omega
theorem Sx (v:Int) (h:v=0):0=v:=by
 omega
theorem Sy (v:Int) (h:0<=v/\v < 15):0+aa v 0 4*2 ^ 0=v:=by
 unfold aa; (repeat' split)<;>omega
theorem Sz (v:Int) (h:v=0):0=v:=by
 omega
theorem SA (v:Int) (h:0<=v/\v < 15):0+aa v 0 4*2 ^ 0=v:=by
 unfold aa; (repeat' split)<;>omega
theorem SB (v:Int) (h:v=0):0=v:=by
 omega
theorem SC (v:Int) (h:v=0):0=v:=by
 omega
theorem HE (v:Int) (h:0<=v/\v < 4):0+aa v 0 2*2 ^ 0=v:=by
 unfold aa; (repeat' split)<;>omega
theorem SD (v:Int) (h:v=0\/v=1):0+aa v 0 1*2 ^ 0=v:=by
 unfold aa; (repeat' split)<;>omega
theorem SE (v:Int) (h:v=0):0=v:=by
 omega
theorem SF (v:Int) (h:v=0):0=v:=by
 omega
theorem SG (v:Int) (h:v=0):0=v:=by
 omega
theorem SH (v:Int) (h:0<=v/\v < 15):0+aa v 0 4*2 ^ 0=v:=by
 unfold aa; (repeat' split)<;>omega
theorem SI (v:Int) (h:0<=v/\v < 15):0+aa v 0 4*2 ^ 0=v:=by
 unfold aa; (repeat' split)<;>omega
theorem SJ (v:Int) (h:v=0):0=v:=by
 omega
theorem SK (v:Int) (h:v=0):0=v:=by
 omega
theorem HF (v:Int) (h:0<=v/\v < 4):0+aa v 0 2*2 ^ 0=v:=by
 unfold aa; (repeat' split)<;>omega
theorem SL (v:Int) (h:v=0):0=v:=by
 omega
theorem SM (v:Int) (h:v=0):0=v:=by
 omega
theorem SN (v:Int) (h:v=0):0=v:=by
 omega
theorem SO (v:Int) (h:0<=v/\v < 15):0+aa v 0 4*2 ^ 0=v:=by
 unfold aa; (repeat' split)<;>omega
theorem SP (v:Int) (h:0<=v/\v < 15):0+aa v 0 4*2 ^ 0=v:=by
 unfold aa; (repeat' split)<;>omega
theorem SQ (v:Int) (h:v=0):0=v:=by
 omega
theorem SR (v:Int) (h:v=0):0=v:=by
 omega
theorem SS (v:Int) (h:0<=v/\v<=4095/\v % 1=0):0+aa v 11 1*2 ^ 11+aa v 8 3*2 ^ 8+aa v 0 8*2 ^ 0=v:=by
 unfold aa; (repeat' split)<;>omega
theorem SU (v:Int) (h:v=0):0=v:=by
 omega
theorem SV (v:Int) (h:v=0):0=v:=by
 omega
theorem SX (v:Int) (h:v=0):0=v:=by
 omega
theorem SY (v:Int) (h:v=0):0=v:=by
 omega
theorem SZ (v:Int) (h:v=0):0=v:=by
 omega
theorem S3 (v:Int) (h:0<=v/\v < 15):0+aa v 0 4*2 ^ 0=v:=by
 unfold aa; (repeat' split)<;>omega
theorem S4 (v:Int) (h:0<=v/\v < 15):0+aa v 0 4*2 ^ 0=v:=by
 unfold aa; (repeat' split)<;>omega
theorem S5 (v:Int) (h:v=0):0=v:=by
 omega
theorem S6 (v:Int) (h:v=0):0=v:=by
 omega
theorem S7 (v:Int) (h:0<=v/\v<=4095/\v % 1=0):0+aa v 0 12*2 ^ 0=v:=by
 unfold aa; (repeat' split)<;>omega
theorem S8 (v:Int) (h:v=0):0=v:=by
 omega
theorem S9 (v:Int) (h:v=0):0=v:=by
 omega
theorem S_ (v:Int) (h:v=0):0=v:=by
 omega
theorem Ta (v:Int) (h:v=0):0=v:=by
 omega
theorem Tb (v:Int) (h:v=0):0=v:=by
 omega
theorem Tc (v:Int) (h:0<=v/\v < 15):0+aa v 0 4*2 ^ 0=v:=by
 unfold aa; (repeat' split)<;>omega
theorem Td (v:Int) (h:0<=v/\v < 15):0+aa v 0 4*2 ^ 0=v:=by
 unfold aa; (repeat' split)<;>omega
theorem Te (v:Int) (h:0<=v/\v < 15):0+aa v 0 4*2 ^ 0=v:=by
 unfold aa; (repeat' split)<;>omega
theorem Tf (v:Int) (h:v=0):0=v:=by
 omega
theorem Tg (v:Int) (h:v=0):0=v:=by
 omega
theorem Th (v:Int) (h:v=0):0=v:=by
 omega
theorem Ti (v:Int) (h:0<=v/\v<=3/\v % 1=0):0+aa v 0 2*2 ^ 0=v:=by
 unfold aa; (repeat' split)<;>omega
theorem Tj (v:Int) (h:v=0):0=v:=by
 omega
theorem Tk (v:Int) (h:v=0):0=v:=by
 omega
theorem Tl (v:Int) (h:v=0):0=v:=by
 omega
theorem Tm (v:Int) (h:0<=v/\v < 15):0+aa v 0 4*2 ^ 0=v:=by
 unfold aa; (repeat' split)<;>omega
theorem Tn (v:Int) (h:0<=v/\v < 15):0+aa v 0 4*2 ^ 0=v:=by
 unfold aa; (repeat' split)<;>omega
theorem To (v:Int) (h:0<=v/\v < 15):0+aa v 0 4*2 ^ 0=v:=by
 unfold aa; (repeat' split)<;>omega
theorem Tp (v:Int) (h:v=0):0=v:=by
 omega
theorem Tq (v:Int) (h:v=0):0=v:=by
 omega
theorem Ts (v:Int) (h:v=0):0=v:=by
 omega
theorem Tt (v:Int) (h:v=0):0=v:=by
 omega
theorem Tu (v:Int) (h:v=0\/v=1):0+aa v 0 1*2 ^ 0=v:=by
 unfold aa; (repeat' split)<;>omega
theorem Tv (v:Int) (h:v=0):0=v:=by
 omega
theorem Tw (v:Int) (h:v=0):0=v:=by
 omega
theorem Tx (v:Int) (h:0<=v/\v < 15):0+aa v 0 4*2 ^ 0=v:=by
 unfold aa; (repeat' split)<;>omega
theorem Ty (v:Int) (h:0<=v/\v < 15):0+aa v 0 4*2 ^ 0=v:=by
 unfold aa; (repeat' split)<;>omega
theorem Tz (v:Int) (h:0<=v/\v < 15):0+aa v 0 4*2 ^ 0=v:=by
 unfold aa; (repeat' split)<;>omega
theorem TA (v:Int) (h:v=0):0=v:=by
 omega
theorem TB (v:Int) (h:v=0):0=v:=by
 omega
theorem TC (v:Int) (h:v=0):0=v:=by
 omega
theorem TD (v:Int) (h:v=0):0=v:=by
 omega
theorem TE (v:Int) (h:v=0):0=v:=by
 omega
theorem TF (v:Int) (h:v=0):0=v:=by
 omega
theorem TG (v:Int) (h:v=0):0=v:=by
 omega
theorem TH (v:Int) (h:0<=v/\v < 15):0+aa v 0 4*2 ^ 0=v:=by
 unfold aa; (repeat' split)<;>omega
theorem TJ (v:Int) (h:0<=v/\v < 15):0+aa v 0 4*2 ^ 0=v:=by
 unfold aa; (repeat' split)<;>omega
theorem TK (v:Int) (h:0<=v/\v < 15):0+aa v 0 4*2 ^ 0=v:=by
 unfold aa; (repeat' split)<;>omega
theorem TL (v:Int) (h:0<=v/\v < 15):0+aa v 0 4*2 ^ 0=v:=by
 unfold aa; (repeat' split)<;>omega
theorem TN (v:Int) (h:v=0):0=v:=by
 omega
theorem TO (v:Int) (h:v=0):0=v:=by
 omega
theorem TP (v:Int) (h:v=0):0=v:=by
 omega
theorem TQ (v:Int) (h:v=0):0=v:=by
 omega
theorem TR (v:Int) (h:v=0):0=v:=by
 omega
theorem TS (v:Int) (h:v=0):0=v:=by
 omega
theorem TT (v:Int) (h:0<=v/\v < 15):0+aa v 0 4*2 ^ 0=v:=by
 unfold aa; (repeat' split)<;>omega
theorem TU (v:Int) (h:0<=v/\v < 15):0+aa v 0 4*2 ^ 0=v:=by
 unfold aa; (repeat' split)<;>omega
theorem TV (v:Int) (h:0<=v/\v < 15):0+aa v 0 4*2 ^ 0=v:=by
 unfold aa; (repeat' split)<;>omega
theorem TW (v:Int) (h:0<=v/\v < 15):0+aa v 0 4*2 ^ 0=v:=by
 unfold aa; (repeat' split)<;>omega
theorem TX (v:Int) (h:v=0):0=v:=by
 omega
theorem TY (v:Int) (h:v=0):0=v:=by
 omega
theorem TZ (v:Int) (h:v=0):0=v:=by
 omega
theorem T0 (v:Int) (h:v=0):0=v:=by
 omega
theorem T1 (v:Int) (h:v=0):0=v:=by
 omega
theorem T2 (v:Int) (h:v=0):0=v:=by
 omega
theorem T3 (v:Int) (h:0<=v/\v < 15):0+aa v 0 4*2 ^ 0=v:=by
 unfold aa; (repeat' split)<;>omega
theorem T4 (v:Int) (h:0<=v/\v < 15):0+aa v 0 4*2 ^ 0=v:=by
 unfold aa; (repeat' split)<;>omega
theorem T5 (v:Int) (h:0<=v/\v < 15):0+aa v 0 4*2 ^ 0=v:=by
 unfold aa; (repeat' split)<;>omega
theorem T6 (v:Int) (h:0<=v/\v < 15):0+aa v 0 4*2 ^ 0=v:=by
 unfold aa; (repeat' split)<;>omega
theorem T7 (v:Int) (h:v=0):0=v:=by
 omega
theorem T8 (v:Int) (h:v=0):0=v:=by
 omega
theorem T9 (v:Int) (h:v=0):0=v:=by
 omega
theorem T' (v:Int) (h:v=0):0=v:=by
 omega
theorem T_ (v:Int) (h:v=0):0=v:=by
 omega
theorem Ua (v:Int) (h:v=0):0=v:=by
 omega
theorem Ub (v:Int) (h:0<=v/\v < 15):0+aa v 0 4*2 ^ 0=v:=by
 unfold aa; (repeat' split)<;>omega
theorem Uc (v:Int) (h:v=0):0=v:=by
 omega
theorem Ud (v:Int) (h:0<=v/\v < 15):aa v 0 4=v:=by
 unfold aa; split<;>omega
theorem Ue (v:Int) (h:v=0):0=v:=by
 omega
theorem Uf (v:Int) (h:v=0):0=v:=by
 omega
theorem Ug (v:Int) (h:v=0):0=v:=by
 omega
theorem Uh (v:Int) (h:v=0):0=v:=by
 omega
theorem Ui (v:Int) (h:v=0):0=v:=by
 omega
theorem Uj (v:Int) (h:v=0):0=v:=by
 omega
theorem Uk (v:Int) (h:v=0):0=v:=by
 omega
theorem Ul (v:Int) (h:v=0):0=v:=by
 omega
theorem Um (v:Int) (h:v=0):0=v:=by
 omega
theorem Un (v:Int) (h:v=0):0=v:=by
 omega
theorem Uo (v:Int) (h:v=0):0=v:=by
 omega
theorem Up (v:Int) (h:-1048576<=v/\v<=1048574/\v % 2=0):cM (0+aa v 20 1*2 ^ 20+aa v 12 6*2 ^ 12+aa v 18 1*2 ^ 18+aa v 19 1*2 ^ 19+aa v 1 11*2 ^ 1) 21=v:=by
 unfold cM aa; (repeat' split)<;>omega
theorem Uq (v:Int) (h:v=0):0=v:=by
 omega
theorem Ur (v:Int) (h:v=0):0=v:=by
 omega
theorem Us (v:Int) (h:v=0):0=v:=by
 omega
theorem Ut (v:Int) (h:0<=v/\v<=13):0+aa v 0 4*2 ^ 0=v:=by
 unfold aa; (repeat' split)<;>omega
theorem Uu (v:Int) (h:v=0):0=v:=by
 omega
theorem Uv (v:Int) (h:v=0):0=v:=by
 omega
theorem Uw (v:Int) (h:v=0):0=v:=by
 omega
theorem Ux (v:Int) (h:v=0):0=v:=by
 omega
theorem Uy (v:Int) (h:v=0):0=v:=by
 omega
theorem Uz (v:Int) (h:v=0):0=v:=by
 omega
theorem UA (v:Int) (h:v=0):0=v:=by
 omega
theorem UB (v:Int) (h:v=0):0=v:=by
 omega
theorem UC (v:Int) (h:v=0):0=v:=by
 omega
theorem UD (v:Int) (h:v=0):0=v:=by
 omega
theorem aA {r:Int} (h:ij 0 r):r=0:=by unfold ij at h; omega
theorem d_ {r:Int} (h:ij 1 r):0<=r/\r < 8:=by unfold ij at h; omega
theorem na {r:Int} (h:ij 2 r):0<=r/\r < 15:=by unfold ij at h; omega
theorem bE {r:Int} (h:ij 3 r):0<=r/\r < 15:=by unfold ij at h; omega
theorem bO {a b n:Int} (h:gr a b 0 n):n=0:=(yL h).elim (fun e=>e.2) fun e=>absurd rfl e.1
theorem eR {a b s n:Int} (hs:s≠0) (h:gr a b s n):a<=n/\n<=b/\n % s=0:=(yL h).elim (fun e=>absurd e.1 hs) fun e=>e.2
theorem bu {K f x:Int} (h:K≠1/\K≠15/\K≠16/\K≠33/\K≠34):qH K f x=x:=by
 unfold qH; rw[if_neg h.2.1,if_neg h.2.2.1,if_neg h.2.2.2.1,if_neg h.2.2.2.2,if_neg (fun e=>h.1 e.1)]
theorem OQ {f x:Int}:qH 1 f x=if 1 < f/\x=0 then 32 else x:=by
 unfold qH; rw[if_neg (by decide),if_neg (by decide),if_neg (by decide),if_neg (by decide)]
 by_cases h:1 < f/\x=0
 ·rw[if_pos ⟨rfl,h⟩,if_pos h]
 ·rw[if_neg (fun e=>h e.2),if_neg h]
theorem bP {K k x:Int} (h:¬ (21<=K/\K<=23)):OP K k x=x:=if_neg fun e=>h ⟨e.1,e.2.1⟩
theorem uR {K k x:Int} (h:21<=K/\K<=23):OP K k x=if x=0/\(k=1\/k=2) then 32 else x:=by
 unfold OP
 by_cases g:x=0/\(k=1\/k=2)
 ·rw[if_pos ⟨h.1,h.2,g⟩,if_pos g]
 ·rw[if_neg (fun e=>g e.2.2),if_neg g]
theorem dw {i:IN} {r:RU} (hr:r.an=0) (h:fu i r):i.an=0:=h.elim (fun e=>e.2) fun e=>absurd hr e.1
theorem Cp {i:IN} {r:RU} (k:Nat) (hk:8<=k) (vW:k<=15) (hr:r.an=2 ^ k+255) (h:fu i r) (hg:i.an<=9223372036854775807):0 < i.an/\i.an / 2 ^ k % 2*2 ^ k+i.an % 256=i.an:=by
 have hp:(0:Int) < 2 ^ k:=by have:=cl k; have:=Nat.two_pow_pos k; omega
 rcases h with h|h
 ·have:=hr.symm.trans h.1; omega
 ·exact⟨h.2.1,mB k hk vW i.an r.an hr h.2.1 hg h.2.2⟩
theorem bo {i:IN} {r:RU} (hr:r.kind=false) (h:gK i r):i.kind=0/\gr r.b0 r.b1 r.b2 i.bG:=h.elim (fun e=>by rw[hr] at e; exact absurd e.1 Bool.false_ne_true) fun e=>e.2
theorem Eh {i:IN} {r:RU} (hr:r.kind=true) (h:gK i r):bM i.kind i.bG:=h.elim (fun e=>e.2) fun e=>absurd hr e.1
theorem UE (i:IN) (hs:ae i.form=1) (hr:aC i (cU 1)) (hg:i.an<=9223372036854775807):c9 1 i=i:=by
 obtain⟨hf,h1,h2,h3,h4,h5,h6,h7,h8,h9,cY⟩:=hr
 have g0:=d_ (r:=i.rd) h1
 have g1:=aA (r:=i.rn) h2
 have g2:=d_ (r:=i.rm) h3
 have g3:=aA (r:=i.ra) h4
 have g4:0<=i.av/\i.av<=32/\i.av % 1=0:=eR (s:=1) (by decide) h7
 have g5:i.kind=0:=(bo rfl h9).1
 have g6:i.bG=0:=bO (bo rfl h9).2
 have g7:i.set=0:=h8.elim id fun e=>absurd (show false=true from e.2) Bool.false_ne_true
 have g8:i.cond=0:=h6.elim id fun e=>absurd (show false=true from e.1) Bool.false_ne_true
 have g9:i.an=0:=dw rfl h5
 exact aZ rfl (XZ i.rd g0) (X0 i.rn g1) (X3 i.rm g2) (X4 i.ra g3) (OQ.trans (X' i.form i.av ⟨g4.1,g4.2.1⟩ cY.1 cY.2.1 (uQ hf hs))) (X5 i.kind g5) ((bP (K:=1) (k:=xR 1 i 5) (by decide)).trans (X6 i.bG g6)) (X7 i.set g7) (X8 i.cond g8) (X9 i.an g9)
theorem UF (i:IN) (hs:ae i.form=2) (hr:aC i (cU 2)) (hg:i.an<=9223372036854775807):c9 2 i=i:=by
 obtain⟨hf,h1,h2,h3,h4,h5,h6,h7,h8,h9,cY⟩:=hr
 have g0:=d_ (r:=i.rd) h1
 have g1:=d_ (r:=i.rn) h2
 have g2:=d_ (r:=i.rm) h3
 have g3:=aA (r:=i.ra) h4
 have g4:i.av=0:=bO h7
 have g5:i.kind=0:=(bo rfl h9).1
 have g6:i.bG=0:=bO (bo rfl h9).2
 have g7:i.set=0:=h8.elim id fun e=>absurd (show false=true from e.2) Bool.false_ne_true
 have g8:i.cond=0:=h6.elim id fun e=>absurd (show false=true from e.1) Bool.false_ne_true
 have g9:i.an=0:=dw rfl h5
 exact aZ rfl (X_ i.rd g0) (Ya i.rn g1) (Yb i.rm g2) (Yc i.ra g3) ((bu (K:=2) (f:=i.form) (by decide)).trans (Yd i.av g4)) (Ye i.kind g5) ((bP (K:=2) (k:=xR 2 i 5) (by decide)).trans (Yf i.bG g6)) (Yg i.set g7) (Yh i.cond g8) (Yi i.an g9)
theorem UG (i:IN) (hs:ae i.form=3) (hr:aC i (cU 3)) (hg:i.an<=9223372036854775807):c9 3 i=i:=by
 obtain⟨hf,h1,h2,h3,h4,h5,h6,h7,h8,h9,cY⟩:=hr
 have g0:=d_ (r:=i.rd) h1
 have g1:=d_ (r:=i.rn) h2
 have g2:=aA (r:=i.rm) h3
 have g3:=aA (r:=i.ra) h4
 have g4:0<=i.av/\i.av<=7/\i.av % 1=0:=eR (s:=1) (by decide) h7
 have g5:i.kind=0:=(bo rfl h9).1
 have g6:i.bG=0:=bO (bo rfl h9).2
 have g7:i.set=0:=h8.elim id fun e=>absurd (show false=true from e.2) Bool.false_ne_true
 have g8:i.cond=0:=h6.elim id fun e=>absurd (show false=true from e.1) Bool.false_ne_true
 have g9:i.an=0:=dw rfl h5
 exact aZ rfl (Yj i.rd g0) (Yk i.rn g1) (Yl i.rm g2) (Ym i.ra g3) ((bu (K:=3) (f:=i.form) (by decide)).trans (Yn i.av g4)) (Yo i.kind g5) ((bP (K:=3) (k:=xR 3 i 5) (by decide)).trans (Yp i.bG g6)) (Yq i.set g7) (Yr i.cond g8) (Ys i.an g9)
theorem UH (i:IN) (hs:ae i.form=4) (hr:aC i (cU 4)) (hg:i.an<=9223372036854775807):c9 4 i=i:=by
 obtain⟨hf,h1,h2,h3,h4,h5,h6,h7,h8,h9,cY⟩:=hr
 have g0:=d_ (r:=i.rd) h1
 have g1:=aA (r:=i.rn) h2
 have g2:=aA (r:=i.rm) h3
 have g3:=aA (r:=i.ra) h4
 have g4:0<=i.av/\i.av<=255/\i.av % 1=0:=eR (s:=1) (by decide) h7
 have g5:i.kind=0:=(bo rfl h9).1
 have g6:i.bG=0:=bO (bo rfl h9).2
 have g7:i.set=0:=h8.elim id fun e=>absurd (show false=true from e.2) Bool.false_ne_true
 have g8:i.cond=0:=h6.elim id fun e=>absurd (show false=true from e.1) Bool.false_ne_true
 have g9:i.an=0:=dw rfl h5
 exact aZ rfl (Yt i.rd g0) (Yu i.rn g1) (Yv i.rm g2) (Yw i.ra g3) ((bu (K:=4) (f:=i.form) (by decide)).trans (Yx i.av g4)) (Yy i.kind g5) ((bP (K:=4) (k:=xR 4 i 5) (by decide)).trans (Yz i.bG g6)) (YA i.set g7) (YB i.cond g8) (YC i.an g9)
theorem UI (i:IN) (hs:ae i.form=5) (hr:aC i (cU 5)) (hg:i.an<=9223372036854775807):c9 5 i=i:=by
 obtain⟨hf,h1,h2,h3,h4,h5,h6,h7,h8,h9,cY⟩:=hr
 have g0:=d_ (r:=i.rd) h1
 have g1:=aA (r:=i.rn) h2
 have g2:=d_ (r:=i.rm) h3
 have g3:=aA (r:=i.ra) h4
 have g4:i.av=0:=bO h7
 have g5:i.kind=0:=(bo rfl h9).1
 have g6:i.bG=0:=bO (bo rfl h9).2
 have g7:i.set=0:=h8.elim id fun e=>absurd (show false=true from e.2) Bool.false_ne_true
 have g8:i.cond=0:=h6.elim id fun e=>absurd (show false=true from e.1) Bool.false_ne_true
 have g9:i.an=0:=dw rfl h5
 exact aZ rfl (YD i.rd g0) (YE i.rn g1) (YF i.rm g2) (YG i.ra g3) ((bu (K:=5) (f:=i.form) (by decide)).trans (YH i.av g4)) (YI i.kind g5) ((bP (K:=5) (k:=xR 5 i 5) (by decide)).trans (YJ i.bG g6)) (YK i.set g7) (YL i.cond g8) (YM i.an g9)
theorem UJ (i:IN) (hs:ae i.form=6) (hr:aC i (cU 6)) (hg:i.an<=9223372036854775807):c9 6 i=i:=by
 obtain⟨hf,h1,h2,h3,h4,h5,h6,h7,h8,h9,cY⟩:=hr
 have g0:=na (r:=i.rd) h1
 have g1:=aA (r:=i.rn) h2
 have g2:=na (r:=i.rm) h3
 have g3:=aA (r:=i.ra) h4
 have g4:i.av=0:=bO h7
 have g5:i.kind=0:=(bo rfl h9).1
 have g6:i.bG=0:=bO (bo rfl h9).2
 have g7:i.set=0:=h8.elim id fun e=>absurd (show false=true from e.2) Bool.false_ne_true
 have g8:i.cond=0:=h6.elim id fun e=>absurd (show false=true from e.1) Bool.false_ne_true
 have g9:i.an=0:=dw rfl h5
 exact aZ rfl (YN i.rd g0) (YO i.rn g1) (YP i.rm g2) (YQ i.ra g3) ((bu (K:=6) (f:=i.form) (by decide)).trans (YR i.av g4)) (YS i.kind g5) ((bP (K:=6) (k:=xR 6 i 5) (by decide)).trans (YT i.bG g6)) (YU i.set g7) (YV i.cond g8) (YW i.an g9)
theorem UK (i:IN) (hs:ae i.form=7) (hr:aC i (cU 7)) (hg:i.an<=9223372036854775807):c9 7 i=i:=by
 obtain⟨hf,h1,h2,h3,h4,h5,h6,h7,h8,h9,cY⟩:=hr
 have g0:=aA (r:=i.rd) h1
 have g1:=aA (r:=i.rn) h2
 have g2:=na (r:=i.rm) h3
 have g3:=aA (r:=i.ra) h4
 have g4:i.av=0:=bO h7
 have g5:i.kind=0:=(bo rfl h9).1
 have g6:i.bG=0:=bO (bo rfl h9).2
 have g7:i.set=0:=h8.elim id fun e=>absurd (show false=true from e.2) Bool.false_ne_true
 have g8:i.cond=0:=h6.elim id fun e=>absurd (show false=true from e.1) Bool.false_ne_true
 have g9:i.an=0:=dw rfl h5
 exact aZ rfl (YX i.rd g0) (YY i.rn g1) (YZ i.rm g2) (Y0 i.ra g3) ((bu (K:=7) (f:=i.form) (by decide)).trans (Y1 i.av g4)) (Y2 i.kind g5) ((bP (K:=7) (k:=xR 7 i 5) (by decide)).trans (Y3 i.bG g6)) (Y4 i.set g7) (Y5 i.cond g8) (Y6 i.an g9)
theorem UL (i:IN) (hs:ae i.form=8) (hr:aC i (cU 8)) (hg:i.an<=9223372036854775807):c9 8 i=i:=by
 obtain⟨hf,h1,h2,h3,h4,h5,h6,h7,h8,h9,cY⟩:=hr
 have g0:=d_ (r:=i.rd) h1
 have g1:=aA (r:=i.rn) h2
 have g2:=aA (r:=i.rm) h3
 have g3:=aA (r:=i.ra) h4
 have g4:0<=i.av/\i.av<=1020/\i.av % 4=0:=eR (s:=4) (by decide) h7
 have g5:i.kind=0:=(bo rfl h9).1
 have g6:i.bG=0:=bO (bo rfl h9).2
 have g7:i.set=0:=h8.elim id fun e=>absurd (show false=true from e.2) Bool.false_ne_true
 have g8:i.cond=0:=h6.elim id fun e=>absurd (show false=true from e.1) Bool.false_ne_true
 have g9:i.an=0:=dw rfl h5
 exact aZ rfl (Y7 i.rd g0) (Y8 i.rn g1) (Y9 i.rm g2) (Y' i.ra g3) ((bu (K:=8) (f:=i.form) (by decide)).trans (Y_ i.av g4)) (Za i.kind g5) ((bP (K:=8) (k:=xR 8 i 5) (by decide)).trans (Zb i.bG g6)) (Zc i.set g7) (Zd i.cond g8) (Ze i.an g9)
theorem UM (i:IN) (hs:ae i.form=9) (hr:aC i (cU 9)) (hg:i.an<=9223372036854775807):c9 9 i=i:=by
 obtain⟨hf,h1,h2,h3,h4,h5,h6,h7,h8,h9,cY⟩:=hr
 have g0:=d_ (r:=i.rd) h1
 have g1:=d_ (r:=i.rn) h2
 have g2:=aA (r:=i.rm) h3
 have g3:=aA (r:=i.ra) h4
 have g4:0<=i.av/\i.av<=124/\i.av % 4=0:=eR (s:=4) (by decide) h7
 have g5:i.kind=0:=(bo rfl h9).1
 have g6:i.bG=0:=bO (bo rfl h9).2
 have g7:i.set=0:=h8.elim id fun e=>absurd (show false=true from e.2) Bool.false_ne_true
 have g8:i.cond=0:=h6.elim id fun e=>absurd (show false=true from e.1) Bool.false_ne_true
 have g9:i.an=0:=dw rfl h5
 exact aZ rfl (Zf i.rd g0) (Zg i.rn g1) (Zh i.rm g2) (Zi i.ra g3) ((bu (K:=9) (f:=i.form) (by decide)).trans (Zj i.av g4)) (Zk i.kind g5) ((bP (K:=9) (k:=xR 9 i 5) (by decide)).trans (Zl i.bG g6)) (Zm i.set g7) (Zn i.cond g8) (Zo i.an g9)
theorem Ll (i:IN) (hs:ae i.form=10) (hr:aC i (cU 10)) (hg:i.an<=9223372036854775807):c9 10 i=i:=by
 obtain⟨hf,h1,h2,h3,h4,h5,h6,h7,h8,h9,cY⟩:=hr
 have g0:=aA (r:=i.rd) h1
 have g1:=aA (r:=i.rn) h2
 have g2:=aA (r:=i.rm) h3
 have g3:=aA (r:=i.ra) h4
 have g4:0<=i.av/\i.av<=508/\i.av % 4=0:=eR (s:=4) (by decide) h7
 have g5:i.kind=0:=(bo rfl h9).1
 have g6:i.bG=0:=bO (bo rfl h9).2
 have g7:i.set=0:=h8.elim id fun e=>absurd (show false=true from e.2) Bool.false_ne_true
 have g8:i.cond=0:=h6.elim id fun e=>absurd (show false=true from e.1) Bool.false_ne_true
 have g9:i.an=0:=dw rfl h5
 exact aZ rfl (QC i.rd g0) (QD i.rn g1) (QE i.rm g2) (QF i.ra g3) ((bu (K:=10) (f:=i.form) (by decide)).trans (QG i.av g4)) (QH i.kind g5) ((bP (K:=10) (k:=xR 10 i 5) (by decide)).trans (QI i.bG g6)) (QJ i.set g7) (QK i.cond g8) (QL i.an g9)
theorem Lm (i:IN) (hs:ae i.form=11) (hr:aC i (cU 11)) (hg:i.an<=9223372036854775807):c9 11 i=i:=by
 obtain⟨hf,h1,h2,h3,h4,h5,h6,h7,h8,h9,cY⟩:=hr
 have g0:=aA (r:=i.rd) h1
 have g1:=aA (r:=i.rn) h2
 have g2:=aA (r:=i.rm) h3
 have g3:=aA (r:=i.ra) h4
 have g4:i.av=0:=bO h7
 have g5:i.kind=0:=(bo rfl h9).1
 have g6:i.bG=0:=bO (bo rfl h9).2
 have g7:i.set=0:=h8.elim id fun e=>absurd (show false=true from e.2) Bool.false_ne_true
 have g8:i.cond=0:=h6.elim id fun e=>absurd (show false=true from e.1) Bool.false_ne_true
 have g9:0 < i.an/\i.an / 16384 % 2*16384+i.an % 256=i.an:=Cp 14 (by decide) (by decide) rfl h5 hg
 exact aZ rfl (QM i.rd g0) (QN i.rn g1) (QO i.rm g2) (QP i.ra g3) ((bu (K:=11) (f:=i.form) (by decide)).trans (QQ i.av g4)) (QR i.kind g5) ((bP (K:=11) (k:=xR 11 i 5) (by decide)).trans (QS i.bG g6)) (QT i.set g7) (QU i.cond g8) (QV i.an g9)
theorem Ln (i:IN) (hs:ae i.form=12) (hr:aC i (cU 12)) (hg:i.an<=9223372036854775807):c9 12 i=i:=by
 obtain⟨hf,h1,h2,h3,h4,h5,h6,h7,h8,h9,cY⟩:=hr
 have g0:=aA (r:=i.rd) h1
 have g1:=aA (r:=i.rn) h2
 have g2:=aA (r:=i.rm) h3
 have g3:=aA (r:=i.ra) h4
 have g4:i.av=0:=bO h7
 have g5:i.kind=0:=(bo rfl h9).1
 have g6:i.bG=0:=bO (bo rfl h9).2
 have g7:i.set=0:=h8.elim id fun e=>absurd (show false=true from e.2) Bool.false_ne_true
 have g8:i.cond=0:=h6.elim id fun e=>absurd (show false=true from e.1) Bool.false_ne_true
 have g9:0 < i.an/\i.an / 32768 % 2*32768+i.an % 256=i.an:=Cp 15 (by decide) (by decide) rfl h5 hg
 exact aZ rfl (QW i.rd g0) (QX i.rn g1) (QY i.rm g2) (QZ i.ra g3) ((bu (K:=12) (f:=i.form) (by decide)).trans (Q0 i.av g4)) (Q1 i.kind g5) ((bP (K:=12) (k:=xR 12 i 5) (by decide)).trans (Q2 i.bG g6)) (Q3 i.set g7) (Q4 i.cond g8) (Q5 i.an g9)
theorem Lo (i:IN) (hs:ae i.form=13) (hr:aC i (cU 13)) (hg:i.an<=9223372036854775807):c9 13 i=i:=by
 obtain⟨hf,h1,h2,h3,h4,h5,h6,h7,h8,h9,cY⟩:=hr
 have g0:=aA (r:=i.rd) h1
 have g1:=aA (r:=i.rn) h2
 have g2:=aA (r:=i.rm) h3
 have g3:=aA (r:=i.ra) h4
 have g4:i.av=0:=bO h7
 have g5:i.kind=0:=(bo rfl h9).1
 have g6:i.bG=0:=bO (bo rfl h9).2
 have g7:i.set=0:=h8.elim id fun e=>absurd (show false=true from e.2) Bool.false_ne_true
 have g8:i.cond=0:=h6.elim id fun e=>absurd (show false=true from e.1) Bool.false_ne_true
 have g9:i.an=0:=dw rfl h5
 exact aZ rfl (Q6 i.rd g0) (Q7 i.rn g1) (Q8 i.rm g2) (Q9 i.ra g3) ((bu (K:=13) (f:=i.form) (by decide)).trans (Q_ i.av g4)) (Ra i.kind g5) ((bP (K:=13) (k:=xR 13 i 5) (by decide)).trans (Rb i.bG g6)) (Rc i.set g7) (Rd i.cond g8) (Re i.an g9)
theorem Lp (i:IN) (hs:ae i.form=14) (hr:aC i (cU 14)) (hg:i.an<=9223372036854775807):c9 14 i=i:=by
 obtain⟨hf,h1,h2,h3,h4,h5,h6,h7,h8,h9,cY⟩:=hr
 have g0:=aA (r:=i.rd) h1
 have g1:=aA (r:=i.rn) h2
 have g2:=aA (r:=i.rm) h3
 have g3:=aA (r:=i.ra) h4
 have g4:0<=i.av/\i.av<=255/\i.av % 1=0:=eR (s:=1) (by decide) h7
 have g5:i.kind=0:=(bo rfl h9).1
 have g6:i.bG=0:=bO (bo rfl h9).2
 have g7:i.set=0:=h8.elim id fun e=>absurd (show false=true from e.2) Bool.false_ne_true
 have g8:i.cond=0:=h6.elim id fun e=>absurd (show false=true from e.1) Bool.false_ne_true
 have g9:i.an=0:=dw rfl h5
 exact aZ rfl (Rf i.rd g0) (Rg i.rn g1) (Rh i.rm g2) (Ri i.ra g3) ((bu (K:=14) (f:=i.form) (by decide)).trans (Rj i.av g4)) (Rk i.kind g5) ((bP (K:=14) (k:=xR 14 i 5) (by decide)).trans (Rl i.bG g6)) (Rn i.set g7) (Ro i.cond g8) (Rp i.an g9)
theorem Lq (i:IN) (hs:ae i.form=15) (hr:aC i (cU 15)) (hg:i.an<=9223372036854775807):c9 15 i=i:=by
 obtain⟨hf,h1,h2,h3,h4,h5,h6,h7,h8,h9,cY⟩:=hr
 have g0:=aA (r:=i.rd) h1
 have g1:=aA (r:=i.rn) h2
 have g2:=aA (r:=i.rm) h3
 have g3:=aA (r:=i.ra) h4
 have g4:-256<=i.av/\i.av<=254/\i.av % 2=0:=eR (s:=2) (by decide) h7
 have g5:i.kind=0:=(bo rfl h9).1
 have g6:i.bG=0:=bO (bo rfl h9).2
 have g7:i.set=0:=h8.elim id fun e=>absurd (show false=true from e.2) Bool.false_ne_true
 have g8:0<=i.cond/\i.cond<=13:=by rcases h6 with h6|h6<;>omega
 have g9:i.an=0:=dw rfl h5
 exact aZ rfl (Rq i.rd g0) (Rr i.rn g1) (Rs i.rm g2) (Rt i.ra g3) (Ru i.av g4) (Rv i.kind g5) ((bP (K:=15) (k:=xR 15 i 5) (by decide)).trans (Rw i.bG g6)) (Rx i.set g7) (Ry i.cond g8) (Rz i.an g9)
theorem Lr (i:IN) (hs:ae i.form=16) (hr:aC i (cU 16)) (hg:i.an<=9223372036854775807):c9 16 i=i:=by
 obtain⟨hf,h1,h2,h3,h4,h5,h6,h7,h8,h9,cY⟩:=hr
 have g0:=aA (r:=i.rd) h1
 have g1:=aA (r:=i.rn) h2
 have g2:=aA (r:=i.rm) h3
 have g3:=aA (r:=i.ra) h4
 have g4:-2048<=i.av/\i.av<=2046/\i.av % 2=0:=eR (s:=2) (by decide) h7
 have g5:i.kind=0:=(bo rfl h9).1
 have g6:i.bG=0:=bO (bo rfl h9).2
 have g7:i.set=0:=h8.elim id fun e=>absurd (show false=true from e.2) Bool.false_ne_true
 have g8:i.cond=0:=h6.elim id fun e=>absurd (show false=true from e.1) Bool.false_ne_true
 have g9:i.an=0:=dw rfl h5
 exact aZ rfl (RA i.rd g0) (RB i.rn g1) (RC i.rm g2) (RD i.ra g3) (RE i.av g4) (RF i.kind g5) ((bP (K:=16) (k:=xR 16 i 5) (by decide)).trans (RG i.bG g6)) (RH i.set g7) (RI i.cond g8) (RJ i.an g9)
theorem Ls (i:IN) (hs:ae i.form=17) (hr:aC i (cU 17)) (hg:i.an<=9223372036854775807):c9 17 i=i:=by
 obtain⟨hf,h1,h2,h3,h4,h5,h6,h7,h8,h9,cY⟩:=hr
 have g0:=bE (r:=i.rd) h1
 have g1:=aA (r:=i.rn) h2
 have g2:=aA (r:=i.rm) h3
 have g3:=aA (r:=i.ra) h4
 have g4:0<=i.av/\i.av<=65535/\i.av % 1=0:=eR (s:=1) (by decide) h7
 have g5:i.kind=0:=(bo rfl h9).1
 have g6:i.bG=0:=bO (bo rfl h9).2
 have g7:i.set=0:=h8.elim id fun e=>absurd (show false=true from e.2) Bool.false_ne_true
 have g8:i.cond=0:=h6.elim id fun e=>absurd (show false=true from e.1) Bool.false_ne_true
 have g9:i.an=0:=dw rfl h5
 exact aZ rfl (RK i.rd g0) (RL i.rn g1) (RM i.rm g2) (RN i.ra g3) ((bu (K:=17) (f:=i.form) (by decide)).trans (RO i.av g4)) (RP i.kind g5) ((bP (K:=17) (k:=xR 17 i 5) (by decide)).trans (RQ i.bG g6)) (RR i.set g7) (RT i.cond g8) (RV i.an g9)
theorem Lt (i:IN) (hs:ae i.form=18) (hr:aC i (cU 18)) (hg:i.an<=9223372036854775807):c9 18 i=i:=by
 obtain⟨hf,h1,h2,h3,h4,h5,h6,h7,h8,h9,cY⟩:=hr
 have g0:=bE (r:=i.rd) h1
 have g1:=bE (r:=i.rn) h2
 have g2:=aA (r:=i.rm) h3
 have g3:=aA (r:=i.ra) h4
 have g4:0<=i.av/\i.av<=4095/\i.av % 1=0:=eR (s:=1) (by decide) h7
 have g5:i.kind=0:=(bo rfl h9).1
 have g6:i.bG=0:=bO (bo rfl h9).2
 have g7:i.set=0\/i.set=1:=h8.imp id fun e=>e.1
 have g8:i.cond=0:=h6.elim id fun e=>absurd (show false=true from e.1) Bool.false_ne_true
 have g9:i.an=0:=dw rfl h5
 exact aZ rfl (RW i.rd g0) (RX i.rn g1) (RY i.rm g2) (RZ i.ra g3) ((bu (K:=18) (f:=i.form) (by decide)).trans (R0 i.av g4)) (R1 i.kind g5) ((bP (K:=18) (k:=xR 18 i 5) (by decide)).trans (R2 i.bG g6)) (R3 i.set g7) (R4 i.cond g8) (R5 i.an g9)
theorem Lu (i:IN) (hs:ae i.form=19) (hr:aC i (cU 19)) (hg:i.an<=9223372036854775807):c9 19 i=i:=by
 obtain⟨hf,h1,h2,h3,h4,h5,h6,h7,h8,h9,cY⟩:=hr
 have g0:=bE (r:=i.rd) h1
 have g1:=aA (r:=i.rn) h2
 have g2:=aA (r:=i.rm) h3
 have g3:=aA (r:=i.ra) h4
 have g4:0<=i.av/\i.av<=4095/\i.av % 1=0:=eR (s:=1) (by decide) h7
 have g5:i.kind=0:=(bo rfl h9).1
 have g6:i.bG=0:=bO (bo rfl h9).2
 have g7:i.set=0\/i.set=1:=h8.imp id fun e=>e.1
 have g8:i.cond=0:=h6.elim id fun e=>absurd (show false=true from e.1) Bool.false_ne_true
 have g9:i.an=0:=dw rfl h5
 exact aZ rfl (R6 i.rd g0) (R7 i.rn g1) (R8 i.rm g2) (R9 i.ra g3) ((bu (K:=19) (f:=i.form) (by decide)).trans (R' i.av g4)) (R_ i.kind g5) ((bP (K:=19) (k:=xR 19 i 5) (by decide)).trans (Sa i.bG g6)) (Sb i.set g7) (Sc i.cond g8) (Sd i.an g9)
theorem Lv (i:IN) (hs:ae i.form=20) (hr:aC i (cU 20)) (hg:i.an<=9223372036854775807):c9 20 i=i:=by
 obtain⟨hf,h1,h2,h3,h4,h5,h6,h7,h8,h9,cY⟩:=hr
 have g0:=aA (r:=i.rd) h1
 have g1:=bE (r:=i.rn) h2
 have g2:=aA (r:=i.rm) h3
 have g3:=aA (r:=i.ra) h4
 have g4:0<=i.av/\i.av<=4095/\i.av % 1=0:=eR (s:=1) (by decide) h7
 have g5:i.kind=0:=(bo rfl h9).1
 have g6:i.bG=0:=bO (bo rfl h9).2
 have g7:i.set=0:=h8.elim id fun e=>absurd (show false=true from e.2) Bool.false_ne_true
 have g8:i.cond=0:=h6.elim id fun e=>absurd (show false=true from e.1) Bool.false_ne_true
 have g9:i.an=0:=dw rfl h5
 exact aZ rfl (Se i.rd g0) (Sf i.rn g1) (Sg i.rm g2) (Sh i.ra g3) ((bu (K:=20) (f:=i.form) (by decide)).trans (Si i.av g4)) (Sj i.kind g5) ((bP (K:=20) (k:=xR 20 i 5) (by decide)).trans (Sk i.bG g6)) (Sl i.set g7) (Sm i.cond g8) (Sn i.an g9)
theorem Lw (i:IN) (hs:ae i.form=21) (hr:aC i (cU 21)) (hg:i.an<=9223372036854775807):c9 21 i=i:=by
 obtain⟨hf,h1,h2,h3,h4,h5,h6,h7,h8,h9,cY⟩:=hr
 have g0:=bE (r:=i.rd) h1
 have g1:=bE (r:=i.rn) h2
 have g2:=bE (r:=i.rm) h3
 have g3:=aA (r:=i.ra) h4
 have g4:i.av=0:=bO h7
 have g6:bM i.kind i.bG:=Eh rfl h9
 have g5:=mE g6
 have g7:i.set=0\/i.set=1:=h8.imp id fun e=>e.1
 have g8:i.cond=0:=h6.elim id fun e=>absurd (show false=true from e.1) Bool.false_ne_true
 have g9:i.an=0:=dw rfl h5
 exact aZ rfl (So i.rd g0) (Sp i.rn g1) (Sq i.rm g2) (Sr i.ra g3) ((bu (K:=21) (f:=i.form) (by decide)).trans (Su i.av g4)) (HB i.kind g5) ((uR (K:=21) (k:=xR 21 i 5) (by decide)).trans ((congrArg (fun k=>if xR 21 i 6=0/\(k=1\/k=2) then 32 else xR 21 i 6) (HB i.kind g5)).trans (QB i.kind i.bG g6))) (Sv i.set g7) (Sw i.cond g8) (Sx i.an g9)
theorem Lx (i:IN) (hs:ae i.form=22) (hr:aC i (cU 22)) (hg:i.an<=9223372036854775807):c9 22 i=i:=by
 obtain⟨hf,h1,h2,h3,h4,h5,h6,h7,h8,h9,cY⟩:=hr
 have g0:=bE (r:=i.rd) h1
 have g1:=aA (r:=i.rn) h2
 have g2:=bE (r:=i.rm) h3
 have g3:=aA (r:=i.ra) h4
 have g4:i.av=0:=bO h7
 have g6:bM i.kind i.bG:=Eh rfl h9
 have g5:=mE g6
 have g7:i.set=0\/i.set=1:=h8.imp id fun e=>e.1
 have g8:i.cond=0:=h6.elim id fun e=>absurd (show false=true from e.1) Bool.false_ne_true
 have g9:i.an=0:=dw rfl h5
 exact aZ rfl (Sy i.rd g0) (Sz i.rn g1) (SA i.rm g2) (SB i.ra g3) ((bu (K:=22) (f:=i.form) (by decide)).trans (SC i.av g4)) (HE i.kind g5) ((uR (K:=22) (k:=xR 22 i 5) (by decide)).trans ((congrArg (fun k=>if xR 22 i 6=0/\(k=1\/k=2) then 32 else xR 22 i 6) (HE i.kind g5)).trans (QB i.kind i.bG g6))) (SD i.set g7) (SE i.cond g8) (SF i.an g9)
theorem Ly (i:IN) (hs:ae i.form=23) (hr:aC i (cU 23)) (hg:i.an<=9223372036854775807):c9 23 i=i:=by
 obtain⟨hf,h1,h2,h3,h4,h5,h6,h7,h8,h9,cY⟩:=hr
 have g0:=aA (r:=i.rd) h1
 have g1:=bE (r:=i.rn) h2
 have g2:=bE (r:=i.rm) h3
 have g3:=aA (r:=i.ra) h4
 have g4:i.av=0:=bO h7
 have g6:bM i.kind i.bG:=Eh rfl h9
 have g5:=mE g6
 have g7:i.set=0:=h8.elim id fun e=>absurd (show false=true from e.2) Bool.false_ne_true
 have g8:i.cond=0:=h6.elim id fun e=>absurd (show false=true from e.1) Bool.false_ne_true
 have g9:i.an=0:=dw rfl h5
 exact aZ rfl (SG i.rd g0) (SH i.rn g1) (SI i.rm g2) (SJ i.ra g3) ((bu (K:=23) (f:=i.form) (by decide)).trans (SK i.av g4)) (HF i.kind g5) ((uR (K:=23) (k:=xR 23 i 5) (by decide)).trans ((congrArg (fun k=>if xR 23 i 6=0/\(k=1\/k=2) then 32 else xR 23 i 6) (HF i.kind g5)).trans (QB i.kind i.bG g6))) (SL i.set g7) (SM i.cond g8) (SN i.an g9)
theorem Lz (i:IN) (hs:ae i.form=24) (hr:aC i (cU 24)) (hg:i.an<=9223372036854775807):c9 24 i=i:=by
 obtain⟨hf,h1,h2,h3,h4,h5,h6,h7,h8,h9,cY⟩:=hr
 have g0:=bE (r:=i.rd) h1
 have g1:=bE (r:=i.rn) h2
 have g2:=aA (r:=i.rm) h3
 have g3:=aA (r:=i.ra) h4
 have g4:0<=i.av/\i.av<=4095/\i.av % 1=0:=eR (s:=1) (by decide) h7
 have g5:i.kind=0:=(bo rfl h9).1
 have g6:i.bG=0:=bO (bo rfl h9).2
 have g7:i.set=0:=h8.elim id fun e=>absurd (show false=true from e.2) Bool.false_ne_true
 have g8:i.cond=0:=h6.elim id fun e=>absurd (show false=true from e.1) Bool.false_ne_true
 have g9:i.an=0:=dw rfl h5
 exact aZ rfl (SO i.rd g0) (SP i.rn g1) (SQ i.rm g2) (SR i.ra g3) ((bu (K:=24) (f:=i.form) (by decide)).trans (SS i.av g4)) (SU i.kind g5) ((bP (K:=24) (k:=xR 24 i 5) (by decide)).trans (SV i.bG g6)) (SX i.set g7) (SY i.cond g8) (SZ i.an g9)
theorem LA (i:IN) (hs:ae i.form=25) (hr:aC i (cU 25)) (hg:i.an<=9223372036854775807):c9 25 i=i:=by
 obtain⟨hf,h1,h2,h3,h4,h5,h6,h7,h8,h9,cY⟩:=hr
 have g0:=bE (r:=i.rd) h1
 have g1:=na (r:=i.rn) h2
 have g2:=aA (r:=i.rm) h3
 have g3:=aA (r:=i.ra) h4
 have g4:0<=i.av/\i.av<=4095/\i.av % 1=0:=eR (s:=1) (by decide) h7
 have g5:i.kind=0:=(bo rfl h9).1
 have g6:i.bG=0:=bO (bo rfl h9).2
 have g7:i.set=0:=h8.elim id fun e=>absurd (show false=true from e.2) Bool.false_ne_true
 have g8:i.cond=0:=h6.elim id fun e=>absurd (show false=true from e.1) Bool.false_ne_true
 have g9:i.an=0:=dw rfl h5
 exact aZ rfl (S3 i.rd g0) (S4 i.rn g1) (S5 i.rm g2) (S6 i.ra g3) ((bu (K:=25) (f:=i.form) (by decide)).trans (S7 i.av g4)) (S8 i.kind g5) ((bP (K:=25) (k:=xR 25 i 5) (by decide)).trans (S9 i.bG g6)) (S_ i.set g7) (Ta i.cond g8) (Tb i.an g9)
theorem LB (i:IN) (hs:ae i.form=26) (hr:aC i (cU 26)) (hg:i.an<=9223372036854775807):c9 26 i=i:=by
 obtain⟨hf,h1,h2,h3,h4,h5,h6,h7,h8,h9,cY⟩:=hr
 have g0:=bE (r:=i.rd) h1
 have g1:=na (r:=i.rn) h2
 have g2:=bE (r:=i.rm) h3
 have g3:=aA (r:=i.ra) h4
 have g4:i.av=0:=bO h7
 have g5:i.kind=0:=(bo rfl h9).1
 have g6:0<=i.bG/\i.bG<=3/\i.bG % 1=0:=eR (s:=1) (by decide) (bo rfl h9).2
 have g7:i.set=0:=h8.elim id fun e=>absurd (show false=true from e.2) Bool.false_ne_true
 have g8:i.cond=0:=h6.elim id fun e=>absurd (show false=true from e.1) Bool.false_ne_true
 have g9:i.an=0:=dw rfl h5
 exact aZ rfl (Tc i.rd g0) (Td i.rn g1) (Te i.rm g2) (Tf i.ra g3) ((bu (K:=26) (f:=i.form) (by decide)).trans (Tg i.av g4)) (Th i.kind g5) ((bP (K:=26) (k:=xR 26 i 5) (by decide)).trans (Ti i.bG g6)) (Tj i.set g7) (Tk i.cond g8) (Tl i.an g9)
theorem LC (i:IN) (hs:ae i.form=27) (hr:aC i (cU 27)) (hg:i.an<=9223372036854775807):c9 27 i=i:=by
 obtain⟨hf,h1,h2,h3,h4,h5,h6,h7,h8,h9,cY⟩:=hr
 have g0:=bE (r:=i.rd) h1
 have g1:=bE (r:=i.rn) h2
 have g2:=bE (r:=i.rm) h3
 have g3:=aA (r:=i.ra) h4
 have g4:i.av=0:=bO h7
 have g5:i.kind=0:=(bo rfl h9).1
 have g6:i.bG=0:=bO (bo rfl h9).2
 have g7:i.set=0\/i.set=1:=h8.imp id fun e=>e.1
 have g8:i.cond=0:=h6.elim id fun e=>absurd (show false=true from e.1) Bool.false_ne_true
 have g9:i.an=0:=dw rfl h5
 exact aZ rfl (Tm i.rd g0) (Tn i.rn g1) (To i.rm g2) (Tp i.ra g3) ((bu (K:=27) (f:=i.form) (by decide)).trans (Tq i.av g4)) (Ts i.kind g5) ((bP (K:=27) (k:=xR 27 i 5) (by decide)).trans (Tt i.bG g6)) (Tu i.set g7) (Tv i.cond g8) (Tw i.an g9)
theorem LD (i:IN) (hs:ae i.form=28) (hr:aC i (cU 28)) (hg:i.an<=9223372036854775807):c9 28 i=i:=by
 obtain⟨hf,h1,h2,h3,h4,h5,h6,h7,h8,h9,cY⟩:=hr
 have g0:=bE (r:=i.rd) h1
 have g1:=bE (r:=i.rn) h2
 have g2:=bE (r:=i.rm) h3
 have g3:=aA (r:=i.ra) h4
 have g4:i.av=0:=bO h7
 have g5:i.kind=0:=(bo rfl h9).1
 have g6:i.bG=0:=bO (bo rfl h9).2
 have g7:i.set=0:=h8.elim id fun e=>absurd (show false=true from e.2) Bool.false_ne_true
 have g8:i.cond=0:=h6.elim id fun e=>absurd (show false=true from e.1) Bool.false_ne_true
 have g9:i.an=0:=dw rfl h5
 exact aZ rfl (Tx i.rd g0) (Ty i.rn g1) (Tz i.rm g2) (TA i.ra g3) ((bu (K:=28) (f:=i.form) (by decide)).trans (TB i.av g4)) (TC i.kind g5) ((bP (K:=28) (k:=xR 28 i 5) (by decide)).trans (TD i.bG g6)) (TE i.set g7) (TF i.cond g8) (TG i.an g9)
theorem LF (i:IN) (hs:ae i.form=29) (hr:aC i (cU 29)) (hg:i.an<=9223372036854775807):c9 29 i=i:=by
 obtain⟨hf,h1,h2,h3,h4,h5,h6,h7,h8,h9,cY⟩:=hr
 have g0:=bE (r:=i.rd) h1
 have g1:=bE (r:=i.rn) h2
 have g2:=bE (r:=i.rm) h3
 have g3:=bE (r:=i.ra) h4
 have g4:i.av=0:=bO h7
 have g5:i.kind=0:=(bo rfl h9).1
 have g6:i.bG=0:=bO (bo rfl h9).2
 have g7:i.set=0:=h8.elim id fun e=>absurd (show false=true from e.2) Bool.false_ne_true
 have g8:i.cond=0:=h6.elim id fun e=>absurd (show false=true from e.1) Bool.false_ne_true
 have g9:i.an=0:=dw rfl h5
 exact aZ rfl (TH i.rd g0) (TJ i.rn g1) (TK i.rm g2) (TL i.ra g3) ((bu (K:=29) (f:=i.form) (by decide)).trans (TN i.av g4)) (TO i.kind g5) ((bP (K:=29) (k:=xR 29 i 5) (by decide)).trans (TP i.bG g6)) (TQ i.set g7) (TR i.cond g8) (TS i.an g9)
theorem LG (i:IN) (hs:ae i.form=30) (hr:aC i (cU 30)) (hg:i.an<=9223372036854775807):c9 30 i=i:=by
 obtain⟨hf,h1,h2,h3,h4,h5,h6,h7,h8,h9,cY⟩:=hr
 have g0:=bE (r:=i.rd) h1
 have g1:=bE (r:=i.rn) h2
 have g2:=bE (r:=i.rm) h3
 have g3:=bE (r:=i.ra) h4
 have g4:i.av=0:=bO h7
 have g5:i.kind=0:=(bo rfl h9).1
 have g6:i.bG=0:=bO (bo rfl h9).2
 have g7:i.set=0:=h8.elim id fun e=>absurd (show false=true from e.2) Bool.false_ne_true
 have g8:i.cond=0:=h6.elim id fun e=>absurd (show false=true from e.1) Bool.false_ne_true
 have g9:i.an=0:=dw rfl h5
 exact aZ rfl (TT i.rd g0) (TU i.rn g1) (TV i.rm g2) (TW i.ra g3) ((bu (K:=30) (f:=i.form) (by decide)).trans (TX i.av g4)) (TY i.kind g5) ((bP (K:=30) (k:=xR 30 i 5) (by decide)).trans (TZ i.bG g6)) (T0 i.set g7) (T1 i.cond g8) (T2 i.an g9)
theorem LH (i:IN) (hs:ae i.form=31) (hr:aC i (cU 31)) (hg:i.an<=9223372036854775807):c9 31 i=i:=by
 obtain⟨hf,h1,h2,h3,h4,h5,h6,h7,h8,h9,cY⟩:=hr
 have g0:=bE (r:=i.rd) h1
 have g1:=bE (r:=i.rn) h2
 have g2:=bE (r:=i.rm) h3
 have g3:=bE (r:=i.ra) h4
 have g4:i.av=0:=bO h7
 have g5:i.kind=0:=(bo rfl h9).1
 have g6:i.bG=0:=bO (bo rfl h9).2
 have g7:i.set=0:=h8.elim id fun e=>absurd (show false=true from e.2) Bool.false_ne_true
 have g8:i.cond=0:=h6.elim id fun e=>absurd (show false=true from e.1) Bool.false_ne_true
 have g9:i.an=0:=dw rfl h5
 exact aZ rfl (T3 i.rd g0) (T4 i.rn g1) (T5 i.rm g2) (T6 i.ra g3) ((bu (K:=31) (f:=i.form) (by decide)).trans (T7 i.av g4)) (T8 i.kind g5) ((bP (K:=31) (k:=xR 31 i 5) (by decide)).trans (T9 i.bG g6)) (T' i.set g7) (T_ i.cond g8) (Ua i.an g9)
theorem LI (i:IN) (hs:ae i.form=32) (hr:aC i (cU 32)) (hg:i.an<=9223372036854775807):c9 32 i=i:=by
 obtain⟨hf,h1,h2,h3,h4,h5,h6,h7,h8,h9,cY⟩:=hr
 have g0:=bE (r:=i.rd) h1
 have g1:=aA (r:=i.rn) h2
 have g2:=bE (r:=i.rm) h3
 have g3:=aA (r:=i.ra) h4
 have g4:i.av=0:=bO h7
 have g5:i.kind=0:=(bo rfl h9).1
 have g6:i.bG=0:=bO (bo rfl h9).2
 have g7:i.set=0:=h8.elim id fun e=>absurd (show false=true from e.2) Bool.false_ne_true
 have g8:i.cond=0:=h6.elim id fun e=>absurd (show false=true from e.1) Bool.false_ne_true
 have g9:i.an=0:=dw rfl h5
 exact aZ rfl (Ub i.rd g0) (Uc i.rn g1) (Ud i.rm g2) (Ue i.ra g3) ((bu (K:=32) (f:=i.form) (by decide)).trans (Uf i.av g4)) (Ug i.kind g5) ((bP (K:=32) (k:=xR 32 i 5) (by decide)).trans (Uh i.bG g6)) (Ui i.set g7) (Uj i.cond g8) (Uk i.an g9)
theorem LJ (i:IN) (hs:ae i.form=33) (hr:aC i (cU 33)) (hg:i.an<=9223372036854775807):c9 33 i=i:=by
 obtain⟨hf,h1,h2,h3,h4,h5,h6,h7,h8,h9,cY⟩:=hr
 have g0:=aA (r:=i.rd) h1
 have g1:=aA (r:=i.rn) h2
 have g2:=aA (r:=i.rm) h3
 have g3:=aA (r:=i.ra) h4
 have g4:-1048576<=i.av/\i.av<=1048574/\i.av % 2=0:=eR (s:=2) (by decide) h7
 have g5:i.kind=0:=(bo rfl h9).1
 have g6:i.bG=0:=bO (bo rfl h9).2
 have g7:i.set=0:=h8.elim id fun e=>absurd (show false=true from e.2) Bool.false_ne_true
 have g8:0<=i.cond/\i.cond<=13:=by rcases h6 with h6|h6<;>omega
 have g9:i.an=0:=dw rfl h5
 exact aZ rfl (Ul i.rd g0) (Um i.rn g1) (Un i.rm g2) (Uo i.ra g3) (Up i.av g4) (Uq i.kind g5) ((bP (K:=33) (k:=xR 33 i 5) (by decide)).trans (Ur i.bG g6)) (Us i.set g7) (Ut i.cond g8) (Uu i.an g9)
end Go.Proofs.YtnbngokbamifbaaGreatDoor.Pw

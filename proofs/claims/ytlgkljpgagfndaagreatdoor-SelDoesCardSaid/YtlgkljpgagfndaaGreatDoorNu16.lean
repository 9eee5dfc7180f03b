/- What this claim is proved with: no condition. -/
import Derived.Test.YtlgkljpgagfndaaGreatDoorNu15
set_option maxRecDepth 100000
set_option linter.unusedVariables false
set_option linter.unusedSimpArgs false
namespace Go.Proofs.YtlgkljpgagfndaaGreatDoor.Pw
open Go Go.RowKit
theorem QN (k v:Int) (h:cP k v):(if 0+ab v 2 3*2 ^ 2+ab v 0 2*2 ^ 0=0/\(k=1\/k=2) then 32 else 0+ab v 2 3*2 ^ 2+ab v 0 2*2 ^ 0)=v:=by
 unfold cP at h; unfold ab; (repeat' split)<;>omega
theorem mn {k v:Int} (h:cP k v):0<=k/\k < 4:=by unfold cP at h; omega
theorem Ym (v:Int) (h:0<=v/\v < 8):0+ab v 0 3*2 ^ 0=v:=by
 unfold ab; (repeat' split)<;>omega
theorem Yn (v:Int) (h:v=0):0=v:=by
 omega
theorem Yo (v:Int) (h:0<=v/\v < 8):0+ab v 0 3*2 ^ 0=v:=by
 unfold ab; (repeat' split)<;>omega
theorem Yp (v:Int) (h:v=0):0=v:=by
 omega
theorem Yq (v:Int) (h:v=0):0=v:=by
 omega
theorem Yr (v:Int) (h:v=0):0=v:=by
 omega
theorem Ys (v:Int) (h:v=0):0=v:=by
 omega
theorem Yt (v:Int) (h:v=0):0=v:=by
 omega
theorem Yu (v:Int) (h:v=0):0=v:=by
 omega
theorem Yv (f v:Int) (h:0<=v/\v<=32) (h1:f=1->v < 32) (h2:f=2\/f=3->0 < v) (h3:f=1\/f=2\/f=3):(if 1 < f/\0+ab v 0 5*2 ^ 0=0 then 32 else 0+ab v 0 5*2 ^ 0)=v:=by
 unfold ab; (repeat' split)<;>omega
theorem Yw (v:Int) (h:0<=v/\v < 8):0+ab v 0 3*2 ^ 0=v:=by
 unfold ab; (repeat' split)<;>omega
theorem Yx (v:Int) (h:0<=v/\v < 8):0+ab v 0 3*2 ^ 0=v:=by
 unfold ab; (repeat' split)<;>omega
theorem Yy (v:Int) (h:0<=v/\v < 8):0+ab v 0 3*2 ^ 0=v:=by
 unfold ab; (repeat' split)<;>omega
theorem Yz (v:Int) (h:v=0):0=v:=by
 omega
theorem YA (v:Int) (h:v=0):0=v:=by
 omega
theorem YB (v:Int) (h:v=0):0=v:=by
 omega
theorem YC (v:Int) (h:v=0):0=v:=by
 omega
theorem YD (v:Int) (h:v=0):0=v:=by
 omega
theorem YE (v:Int) (h:v=0):0=v:=by
 omega
theorem YF (v:Int) (h:v=0):0=v:=by
 omega
theorem YG (v:Int) (h:0<=v/\v < 8):0+ab v 0 3*2 ^ 0=v:=by
 unfold ab; (repeat' split)<;>omega
theorem YH (v:Int) (h:0<=v/\v < 8):0+ab v 0 3*2 ^ 0=v:=by
 unfold ab; (repeat' split)<;>omega
theorem YI (v:Int) (h:v=0):0=v:=by
 omega
theorem YJ (v:Int) (h:v=0):0=v:=by
 omega
theorem YK (v:Int) (h:0<=v/\v<=7/\v % 1=0):0+ab v 0 3*2 ^ 0=v:=by
 unfold ab; (repeat' split)<;>omega
theorem YL (v:Int) (h:v=0):0=v:=by
 omega
theorem YM (v:Int) (h:v=0):0=v:=by
 omega
theorem YN (v:Int) (h:v=0):0=v:=by
 omega
theorem YO (v:Int) (h:v=0):0=v:=by
 omega
theorem YP (v:Int) (h:v=0):0=v:=by
 omega
theorem YQ (v:Int) (h:0<=v/\v < 8):0+ab v 0 3*2 ^ 0=v:=by
 unfold ab; (repeat' split)<;>omega
theorem YR (v:Int) (h:v=0):0=v:=by
 omega
theorem YS (v:Int) (h:v=0):0=v:=by
 omega
theorem YT (v:Int) (h:v=0):0=v:=by
 omega
theorem YU (v:Int) (h:0<=v/\v<=255/\v % 1=0):0+ab v 0 8*2 ^ 0=v:=by
 unfold ab; (repeat' split)<;>omega
theorem YV (v:Int) (h:v=0):0=v:=by
 omega
theorem YW (v:Int) (h:v=0):0=v:=by
 omega
theorem YX (v:Int) (h:v=0):0=v:=by
 omega
theorem YY (v:Int) (h:v=0):0=v:=by
 omega
theorem YZ (v:Int) (h:v=0):0=v:=by
 omega
theorem Y0 (v:Int) (h:0<=v/\v < 8):0+ab v 0 3*2 ^ 0=v:=by
 unfold ab; (repeat' split)<;>omega
theorem Y1 (v:Int) (h:v=0):0=v:=by
 omega
theorem Y2 (v:Int) (h:0<=v/\v < 8):0+ab v 0 3*2 ^ 0=v:=by
 unfold ab; (repeat' split)<;>omega
theorem Y3 (v:Int) (h:v=0):0=v:=by
 omega
theorem Y4 (v:Int) (h:v=0):0=v:=by
 omega
theorem Y5 (v:Int) (h:v=0):0=v:=by
 omega
theorem Y6 (v:Int) (h:v=0):0=v:=by
 omega
theorem Y7 (v:Int) (h:v=0):0=v:=by
 omega
theorem Y8 (v:Int) (h:v=0):0=v:=by
 omega
theorem Y9 (v:Int) (h:v=0):0=v:=by
 omega
theorem Y' (v:Int) (h:0<=v/\v < 15):0+ab v 3 1*2 ^ 3+ab v 0 3*2 ^ 0=v:=by
 unfold ab; (repeat' split)<;>omega
theorem Y_ (v:Int) (h:v=0):0=v:=by
 omega
theorem Za (v:Int) (h:0<=v/\v < 15):0+ab v 0 4*2 ^ 0=v:=by
 unfold ab; (repeat' split)<;>omega
theorem Zb (v:Int) (h:v=0):0=v:=by
 omega
theorem Zc (v:Int) (h:v=0):0=v:=by
 omega
theorem Zd (v:Int) (h:v=0):0=v:=by
 omega
theorem Ze (v:Int) (h:v=0):0=v:=by
 omega
theorem Zf (v:Int) (h:v=0):0=v:=by
 omega
theorem Zg (v:Int) (h:v=0):0=v:=by
 omega
theorem Zh (v:Int) (h:v=0):0=v:=by
 omega
theorem Zi (v:Int) (h:v=0):0=v:=by
 omega
theorem Zj (v:Int) (h:v=0):0=v:=by
 omega
theorem Zk (v:Int) (h:0<=v/\v < 15):0+ab v 0 4*2 ^ 0=v:=by
 unfold ab; (repeat' split)<;>omega
theorem Zl (v:Int) (h:v=0):0=v:=by
 omega
theorem Zm (v:Int) (h:v=0):0=v:=by
 omega
theorem Zn (v:Int) (h:v=0):0=v:=by
 omega
theorem Zo (v:Int) (h:v=0):0=v:=by
 omega
theorem Zp (v:Int) (h:v=0):0=v:=by
 omega
theorem Zq (v:Int) (h:v=0):0=v:=by
 omega
theorem Zr (v:Int) (h:v=0):0=v:=by
 omega
theorem Zs (v:Int) (h:0<=v/\v < 8):0+ab v 0 3*2 ^ 0=v:=by
 unfold ab; (repeat' split)<;>omega
theorem Zt (v:Int) (h:v=0):0=v:=by
 omega
theorem Zu (v:Int) (h:v=0):0=v:=by
 omega
theorem Zv (v:Int) (h:v=0):0=v:=by
 omega
theorem Zw (v:Int) (h:0<=v/\v<=1020/\v % 4=0):0+ab v 2 8*2 ^ 2=v:=by
 unfold ab; (repeat' split)<;>omega
theorem Zx (v:Int) (h:v=0):0=v:=by
 omega
theorem Zy (v:Int) (h:v=0):0=v:=by
 omega
theorem Zz (v:Int) (h:v=0):0=v:=by
 omega
theorem ZA (v:Int) (h:v=0):0=v:=by
 omega
theorem ZB (v:Int) (h:v=0):0=v:=by
 omega
theorem ZC (v:Int) (h:0<=v/\v < 8):0+ab v 0 3*2 ^ 0=v:=by
 unfold ab; (repeat' split)<;>omega
theorem ZD (v:Int) (h:0<=v/\v < 8):0+ab v 0 3*2 ^ 0=v:=by
 unfold ab; (repeat' split)<;>omega
theorem ZE (v:Int) (h:v=0):0=v:=by
 omega
theorem ZF (v:Int) (h:v=0):0=v:=by
 omega
theorem ZG (v:Int) (h:0<=v/\v<=124/\v % 4=0):0+ab v 2 5*2 ^ 2=v:=by
 unfold ab; (repeat' split)<;>omega
theorem ZH (v:Int) (h:v=0):0=v:=by
 omega
theorem ZI (v:Int) (h:v=0):0=v:=by
 omega
theorem ZJ (v:Int) (h:v=0):0=v:=by
 omega
theorem ZK (v:Int) (h:v=0):0=v:=by
 omega
theorem ZL (v:Int) (h:v=0):0=v:=by
 omega
theorem QO (v:Int) (h:v=0):0=v:=by
 omega
theorem QP (v:Int) (h:v=0):0=v:=by
 omega
theorem QQ (v:Int) (h:v=0):0=v:=by
 omega
theorem QR (v:Int) (h:v=0):0=v:=by
 omega
theorem QS (v:Int) (h:0<=v/\v<=508/\v % 4=0):0+ab v 2 7*2 ^ 2=v:=by
 unfold ab; (repeat' split)<;>omega
theorem QT (v:Int) (h:v=0):0=v:=by
 omega
theorem QU (v:Int) (h:v=0):0=v:=by
 omega
theorem QV (v:Int) (h:v=0):0=v:=by
 omega
theorem QW (v:Int) (h:v=0):0=v:=by
 omega
theorem QX (v:Int) (h:v=0):0=v:=by
 omega
theorem QY (v:Int) (h:v=0):0=v:=by
 omega
theorem QZ (v:Int) (h:v=0):0=v:=by
 omega
theorem Q0 (v:Int) (h:v=0):0=v:=by
 omega
theorem Q1 (v:Int) (h:v=0):0=v:=by
 omega
theorem Q2 (v:Int) (h:v=0):0=v:=by
 omega
theorem Q3 (v:Int) (h:v=0):0=v:=by
 omega
theorem Q4 (v:Int) (h:v=0):0=v:=by
 omega
theorem Q5 (v:Int) (h:v=0):0=v:=by
 omega
theorem Q6 (v:Int) (h:v=0):0=v:=by
 omega
theorem Q7 (v:Int) (h:0 < v/\v / 16384 % 2*16384+v % 256=v):0+ab v 14 1*2 ^ 14+ab v 0 8*2 ^ 0=v:=by
 unfold ab; (repeat' split)<;>omega
theorem Q8 (v:Int) (h:v=0):0=v:=by
 omega
theorem Q9 (v:Int) (h:v=0):0=v:=by
 omega
theorem Q_ (v:Int) (h:v=0):0=v:=by
 omega
theorem Ra (v:Int) (h:v=0):0=v:=by
 omega
theorem Rb (v:Int) (h:v=0):0=v:=by
 omega
theorem Rc (v:Int) (h:v=0):0=v:=by
 omega
theorem Rd (v:Int) (h:v=0):0=v:=by
 omega
theorem Re (v:Int) (h:v=0):0=v:=by
 omega
theorem Rf (v:Int) (h:v=0):0=v:=by
 omega
theorem Rg (v:Int) (h:0 < v/\v / 32768 % 2*32768+v % 256=v):0+ab v 15 1*2 ^ 15+ab v 0 8*2 ^ 0=v:=by
 unfold ab; (repeat' split)<;>omega
theorem Rh (v:Int) (h:v=0):0=v:=by
 omega
theorem Ri (v:Int) (h:v=0):0=v:=by
 omega
theorem Rj (v:Int) (h:v=0):0=v:=by
 omega
theorem Rk (v:Int) (h:v=0):0=v:=by
 omega
theorem Rl (v:Int) (h:v=0):0=v:=by
 omega
theorem Rn (v:Int) (h:v=0):0=v:=by
 omega
theorem Ro (v:Int) (h:v=0):0=v:=by
 omega
theorem Rp (v:Int) (h:v=0):0=v:=by
 omega
theorem Rq (v:Int) (h:v=0):0=v:=by
 omega
theorem Rr (v:Int) (h:v=0):0=v:=by
 omega
theorem Rs (v:Int) (h:v=0):0=v:=by
 omega
theorem Rt (v:Int) (h:v=0):0=v:=by
 omega
theorem Ru (v:Int) (h:v=0):0=v:=by
 omega
theorem Rv (v:Int) (h:v=0):0=v:=by
 omega
theorem Rw (v:Int) (h:0<=v/\v<=255/\v % 1=0):0+ab v 0 8*2 ^ 0=v:=by
 unfold ab; (repeat' split)<;>omega
theorem Rx (v:Int) (h:v=0):0=v:=by
 omega
theorem Ry (v:Int) (h:v=0):0=v:=by
 omega
theorem Rz (v:Int) (h:v=0):0=v:=by
 omega
theorem RA (v:Int) (h:v=0):0=v:=by
 omega
theorem RB (v:Int) (h:v=0):0=v:=by
 omega
theorem RC (v:Int) (h:v=0):0=v:=by
 omega
theorem RD (v:Int) (h:v=0):0=v:=by
 omega
theorem RE (v:Int) (h:v=0):0=v:=by
 omega
theorem RF (v:Int) (h:v=0):0=v:=by
 omega
theorem RG (v:Int) (h:-256<=v/\v<=254/\v % 2=0):dp (0+ab v 1 8*2 ^ 1) 9=v:=by
 unfold dp ab; (repeat' split)<;>omega
theorem RH (v:Int) (h:v=0):0=v:=by
 omega
theorem RI (v:Int) (h:v=0):0=v:=by
 omega
theorem RJ (v:Int) (h:v=0):0=v:=by
 omega
theorem RK (v:Int) (h:0<=v/\v<=13):0+ab v 0 4*2 ^ 0=v:=by
 unfold ab; (repeat' split)<;>omega
theorem RL (v:Int) (h:v=0):0=v:=by
 omega
theorem RM (v:Int) (h:v=0):0=v:=by
 omega
theorem RN (v:Int) (h:v=0):0=v:=by
 omega
theorem RO (v:Int) (h:v=0):0=v:=by
 omega
theorem RP (v:Int) (h:v=0):0=v:=by
 omega
theorem RQ (v:Int) (h:-2048<=v/\v<=2046/\v % 2=0):dp (0+ab v 1 11*2 ^ 1) 12=v:=by
 unfold dp ab; (repeat' split)<;>omega
theorem RR (v:Int) (h:v=0):0=v:=by
 omega
theorem RT (v:Int) (h:v=0):0=v:=by
 omega
theorem RV (v:Int) (h:v=0):0=v:=by
 omega
theorem RW (v:Int) (h:v=0):0=v:=by
 omega
theorem RX (v:Int) (h:v=0):0=v:=by
 omega
theorem RY (v:Int) (h:0<=v/\v < 15):0+ab v 0 4*2 ^ 0=v:=by
 unfold ab; (repeat' split)<;>omega
theorem RZ (v:Int) (h:v=0):0=v:=by
 omega
theorem R0 (v:Int) (h:v=0):0=v:=by
 omega
theorem R1 (v:Int) (h:v=0):0=v:=by
 omega
theorem R3 (v:Int) (h:0<=v/\v<=65535/\v % 1=0):0+ab v 11 1*2 ^ 11+ab v 12 4*2 ^ 12+ab v 8 3*2 ^ 8+ab v 0 8*2 ^ 0=v:=by
 unfold ab; (repeat' split)<;>omega
theorem R4 (v:Int) (h:v=0):0=v:=by
 omega
theorem R5 (v:Int) (h:v=0):0=v:=by
 omega
theorem R6 (v:Int) (h:v=0):0=v:=by
 omega
theorem R7 (v:Int) (h:v=0):0=v:=by
 omega
theorem R8 (v:Int) (h:v=0):0=v:=by
 omega
theorem R9 (v:Int) (h:0<=v/\v < 15):0+ab v 0 4*2 ^ 0=v:=by
 unfold ab; (repeat' split)<;>omega
theorem R_ (v:Int) (h:0<=v/\v < 15):0+ab v 0 4*2 ^ 0=v:=by
 unfold ab; (repeat' split)<;>omega
theorem Sa (v:Int) (h:v=0):0=v:=by
 omega
theorem Sb (v:Int) (h:v=0):0=v:=by
 omega
theorem Sc (v:Int) (h:0<=v/\v<=4095/\v % 1=0):0+ab v 11 1*2 ^ 11+ab v 8 3*2 ^ 8+ab v 0 8*2 ^ 0=v:=by
 unfold ab; (repeat' split)<;>omega
theorem Sd (v:Int) (h:v=0):0=v:=by
 omega
theorem Se (v:Int) (h:v=0):0=v:=by
 omega
theorem Sf (v:Int) (h:v=0\/v=1):0+ab v 0 1*2 ^ 0=v:=by
 unfold ab; (repeat' split)<;>omega
theorem Sg (v:Int) (h:v=0):0=v:=by
 omega
theorem Sh (v:Int) (h:v=0):0=v:=by
 omega
theorem Si (v:Int) (h:0<=v/\v < 15):0+ab v 0 4*2 ^ 0=v:=by
 unfold ab; (repeat' split)<;>omega
theorem Sj (v:Int) (h:v=0):0=v:=by
 omega
theorem Sk (v:Int) (h:v=0):0=v:=by
 omega
theorem Sl (v:Int) (h:v=0):0=v:=by
 omega
theorem Sm (v:Int) (h:0<=v/\v<=4095/\v % 1=0):0+ab v 11 1*2 ^ 11+ab v 8 3*2 ^ 8+ab v 0 8*2 ^ 0=v:=by
 unfold ab; (repeat' split)<;>omega
theorem Sn (v:Int) (h:v=0):0=v:=by
 omega
theorem So (v:Int) (h:v=0):0=v:=by
 omega
theorem Sp (v:Int) (h:v=0\/v=1):0+ab v 0 1*2 ^ 0=v:=by
 unfold ab; (repeat' split)<;>omega
theorem Sq (v:Int) (h:v=0):0=v:=by
 omega
theorem Sr (v:Int) (h:v=0):0=v:=by
 omega
theorem Su (v:Int) (h:v=0):0=v:=by
 omega
theorem Sv (v:Int) (h:0<=v/\v < 15):0+ab v 0 4*2 ^ 0=v:=by
 unfold ab; (repeat' split)<;>omega
theorem Sw (v:Int) (h:v=0):0=v:=by
 omega
theorem Sx (v:Int) (h:v=0):0=v:=by
 omega
theorem Sy (v:Int) (h:0<=v/\v<=4095/\v % 1=0):0+ab v 11 1*2 ^ 11+ab v 8 3*2 ^ 8+ab v 0 8*2 ^ 0=v:=by
 unfold ab; (repeat' split)<;>omega
theorem Sz (v:Int) (h:v=0):0=v:=by
 omega
theorem SA (v:Int) (h:v=0):0=v:=by
 omega
theorem SB (v:Int) (h:v=0):0=v:=by
 omega
theorem SC (v:Int) (h:v=0):0=v:=by
 omega
theorem SD (v:Int) (h:v=0):0=v:=by
 omega
theorem SE (v:Int) (h:0<=v/\v < 15):0+ab v 0 4*2 ^ 0=v:=by
 unfold ab; (repeat' split)<;>omega
theorem SF (v:Int) (h:0<=v/\v < 15):0+ab v 0 4*2 ^ 0=v:=by
 unfold ab; (repeat' split)<;>omega
theorem SG (v:Int) (h:0<=v/\v < 15):0+ab v 0 4*2 ^ 0=v:=by
 unfold ab; (repeat' split)<;>omega
theorem SH (v:Int) (h:v=0):0=v:=by
 omega
theorem SI (v:Int) (h:v=0):0=v:=by
 omega
theorem Hj (v:Int) (h:0<=v/\v < 4):0+ab v 0 2*2 ^ 0=v:=by
 unfold ab; (repeat' split)<;>omega
theorem SJ (v:Int) (h:v=0\/v=1):0+ab v 0 1*2 ^ 0=v:=by
 unfold ab; (repeat' split)<;>omega
theorem SK (v:Int) (h:v=0):0=v:=by
 omega
theorem SL (v:Int) (h:v=0):0=v:=by
 omega
theorem SM (v:Int) (h:0<=v/\v < 15):0+ab v 0 4*2 ^ 0=v:=by
 unfold ab; (repeat' split)<;>omega
theorem SN (v:Int) (h:v=0):0=v:=by
 omega
theorem SO (v:Int) (h:0<=v/\v < 15):0+ab v 0 4*2 ^ 0=v:=by
 unfold ab; (repeat' split)<;>omega
theorem SP (v:Int) (h:v=0):0=v:=by
 omega
theorem SQ (v:Int) (h:v=0):0=v:=by
 omega
theorem Hk (v:Int) (h:0<=v/\v < 4):0+ab v 0 2*2 ^ 0=v:=by
 unfold ab; (repeat' split)<;>omega
theorem SR (v:Int) (h:v=0\/v=1):0+ab v 0 1*2 ^ 0=v:=by
 unfold ab; (repeat' split)<;>omega
theorem SS (v:Int) (h:v=0):0=v:=by
 omega
theorem SU (v:Int) (h:v=0):0=v:=by
 omega
theorem SV (v:Int) (h:v=0):0=v:=by
 omega
theorem SX (v:Int) (h:0<=v/\v < 15):0+ab v 0 4*2 ^ 0=v:=by
 unfold ab; (repeat' split)<;>omega
theorem SY (v:Int) (h:0<=v/\v < 15):0+ab v 0 4*2 ^ 0=v:=by
 unfold ab; (repeat' split)<;>omega
theorem SZ (v:Int) (h:v=0):0=v:=by
 omega
theorem S3 (v:Int) (h:v=0):0=v:=by
 omega
theorem Hl (v:Int) (h:0<=v/\v < 4):0+ab v 0 2*2 ^ 0=v:=by
 unfold ab; (repeat' split)<;>omega
theorem S4 (v:Int) (h:v=0):0=v:=by
 omega
theorem S5 (v:Int) (h:v=0):0=v:=by
 omega
theorem S6 (v:Int) (h:v=0):0=v:=by
 omega
theorem S7 (v:Int) (h:0<=v/\v < 15):0+ab v 0 4*2 ^ 0=v:=by
 unfold ab; (repeat' split)<;>omega
theorem S8 (v:Int) (h:0<=v/\v < 15):0+ab v 0 4*2 ^ 0=v:=by
 unfold ab; (repeat' split)<;>omega
theorem S9 (v:Int) (h:v=0):0=v:=by
 omega
theorem S_ (v:Int) (h:v=0):0=v:=by
 omega
theorem Ta (v:Int) (h:0<=v/\v<=4095/\v % 1=0):0+ab v 11 1*2 ^ 11+ab v 8 3*2 ^ 8+ab v 0 8*2 ^ 0=v:=by
 unfold ab; (repeat' split)<;>omega
theorem Tb (v:Int) (h:v=0):0=v:=by
 omega
theorem Tc (v:Int) (h:v=0):0=v:=by
 omega
theorem Td (v:Int) (h:v=0):0=v:=by
 omega
theorem Te (v:Int) (h:v=0):0=v:=by
 omega
theorem Tf (v:Int) (h:v=0):0=v:=by
 omega
theorem Tg (v:Int) (h:0<=v/\v < 15):0+ab v 0 4*2 ^ 0=v:=by
 unfold ab; (repeat' split)<;>omega
theorem Th (v:Int) (h:0<=v/\v < 15):0+ab v 0 4*2 ^ 0=v:=by
 unfold ab; (repeat' split)<;>omega
theorem Ti (v:Int) (h:v=0):0=v:=by
 omega
theorem Tj (v:Int) (h:v=0):0=v:=by
 omega
theorem Tk (v:Int) (h:0<=v/\v<=4095/\v % 1=0):0+ab v 0 12*2 ^ 0=v:=by
 unfold ab; (repeat' split)<;>omega
theorem Tl (v:Int) (h:v=0):0=v:=by
 omega
theorem Tm (v:Int) (h:v=0):0=v:=by
 omega
theorem Tn (v:Int) (h:v=0):0=v:=by
 omega
theorem To (v:Int) (h:v=0):0=v:=by
 omega
theorem Tp (v:Int) (h:v=0):0=v:=by
 omega
theorem Tq (v:Int) (h:0<=v/\v < 15):0+ab v 0 4*2 ^ 0=v:=by
 unfold ab; (repeat' split)<;>omega
theorem Ts (v:Int) (h:0<=v/\v < 15):0+ab v 0 4*2 ^ 0=v:=by
 unfold ab; (repeat' split)<;>omega
theorem Tt (v:Int) (h:0<=v/\v < 15):0+ab v 0 4*2 ^ 0=v:=by
 unfold ab; (repeat' split)<;>omega
theorem Tu (v:Int) (h:v=0):0=v:=by
 omega
theorem Tv (v:Int) (h:v=0):0=v:=by
 omega
theorem Tw (v:Int) (h:v=0):0=v:=by
 omega
theorem Tx (v:Int) (h:0<=v/\v<=3/\v % 1=0):0+ab v 0 2*2 ^ 0=v:=by
 unfold ab; (repeat' split)<;>omega
theorem Ty (v:Int) (h:v=0):0=v:=by
 omega
theorem Tz (v:Int) (h:v=0):0=v:=by
 omega
theorem TA (v:Int) (h:v=0):0=v:=by
 omega
theorem TB (v:Int) (h:0<=v/\v < 15):0+ab v 0 4*2 ^ 0=v:=by
 unfold ab; (repeat' split)<;>omega
theorem TC (v:Int) (h:0<=v/\v < 15):0+ab v 0 4*2 ^ 0=v:=by
 unfold ab; (repeat' split)<;>omega
theorem TD (v:Int) (h:0<=v/\v < 15):0+ab v 0 4*2 ^ 0=v:=by
 unfold ab; (repeat' split)<;>omega
theorem TE (v:Int) (h:v=0):0=v:=by
 omega
theorem TF (v:Int) (h:v=0):0=v:=by
 omega
theorem TG (v:Int) (h:v=0):0=v:=by
 omega
theorem TH (v:Int) (h:v=0):0=v:=by
 omega
theorem TJ (v:Int) (h:v=0\/v=1):0+ab v 0 1*2 ^ 0=v:=by
 unfold ab; (repeat' split)<;>omega
theorem TK (v:Int) (h:v=0):0=v:=by
 omega
theorem TL (v:Int) (h:v=0):0=v:=by
 omega
theorem TN (v:Int) (h:0<=v/\v < 15):0+ab v 0 4*2 ^ 0=v:=by
 unfold ab; (repeat' split)<;>omega
theorem TO (v:Int) (h:0<=v/\v < 15):0+ab v 0 4*2 ^ 0=v:=by
 unfold ab; (repeat' split)<;>omega
theorem TP (v:Int) (h:0<=v/\v < 15):0+ab v 0 4*2 ^ 0=v:=by
 unfold ab; (repeat' split)<;>omega
theorem TQ (v:Int) (h:v=0):0=v:=by
 omega
theorem TR (v:Int) (h:v=0):0=v:=by
 omega
theorem TS (v:Int) (h:v=0):0=v:=by
 omega
theorem TT (v:Int) (h:v=0):0=v:=by
 omega
theorem TU (v:Int) (h:v=0):0=v:=by
 omega
theorem TV (v:Int) (h:v=0):0=v:=by
 omega
theorem TW (v:Int) (h:v=0):0=v:=by
 omega
theorem TX (v:Int) (h:0<=v/\v < 15):0+ab v 0 4*2 ^ 0=v:=by
 unfold ab; (repeat' split)<;>omega
theorem TY (v:Int) (h:0<=v/\v < 15):0+ab v 0 4*2 ^ 0=v:=by
 unfold ab; (repeat' split)<;>omega
theorem TZ (v:Int) (h:0<=v/\v < 15):0+ab v 0 4*2 ^ 0=v:=by
 unfold ab; (repeat' split)<;>omega
theorem T0 (v:Int) (h:0<=v/\v < 15):0+ab v 0 4*2 ^ 0=v:=by
 unfold ab; (repeat' split)<;>omega
theorem T1 (v:Int) (h:v=0):0=v:=by
 omega
theorem T2 (v:Int) (h:v=0):0=v:=by
 omega
theorem T3 (v:Int) (h:v=0):0=v:=by
 omega
theorem T4 (v:Int) (h:v=0):0=v:=by
 omega
theorem T5 (v:Int) (h:v=0):0=v:=by
 omega
theorem T6 (v:Int) (h:v=0):0=v:=by
 omega
theorem T7 (v:Int) (h:0<=v/\v < 15):0+ab v 0 4*2 ^ 0=v:=by
 unfold ab; (repeat' split)<;>omega
theorem T8 (v:Int) (h:0<=v/\v < 15):0+ab v 0 4*2 ^ 0=v:=by
 unfold ab; (repeat' split)<;>omega
theorem T9 (v:Int) (h:0<=v/\v < 15):0+ab v 0 4*2 ^ 0=v:=by
 unfold ab; (repeat' split)<;>omega
theorem T' (v:Int) (h:0<=v/\v < 15):0+ab v 0 4*2 ^ 0=v:=by
 unfold ab; (repeat' split)<;>omega
theorem T_ (v:Int) (h:v=0):0=v:=by
 omega
theorem Ua (v:Int) (h:v=0):0=v:=by
 omega
theorem Ub (v:Int) (h:v=0):0=v:=by
 omega
theorem Uc (v:Int) (h:v=0):0=v:=by
 omega
theorem Ud (v:Int) (h:v=0):0=v:=by
 omega
theorem Ue (v:Int) (h:v=0):0=v:=by
 omega
theorem Uf (v:Int) (h:0<=v/\v < 15):0+ab v 0 4*2 ^ 0=v:=by
 unfold ab; (repeat' split)<;>omega
theorem Ug (v:Int) (h:0<=v/\v < 15):0+ab v 0 4*2 ^ 0=v:=by
 unfold ab; (repeat' split)<;>omega
theorem Uh (v:Int) (h:0<=v/\v < 15):0+ab v 0 4*2 ^ 0=v:=by
 unfold ab; (repeat' split)<;>omega
theorem Ui (v:Int) (h:0<=v/\v < 15):0+ab v 0 4*2 ^ 0=v:=by
 unfold ab; (repeat' split)<;>omega
theorem Uj (v:Int) (h:v=0):0=v:=by
 omega
theorem Uk (v:Int) (h:v=0):0=v:=by
 omega
theorem Ul (v:Int) (h:v=0):0=v:=by
 omega
theorem Um (v:Int) (h:v=0):0=v:=by
 omega
theorem Un (v:Int) (h:v=0):0=v:=by
 omega
theorem Uo (v:Int) (h:v=0):0=v:=by
 omega
theorem Up (v:Int) (h:0<=v/\v < 15):0+ab v 0 4*2 ^ 0=v:=by
 unfold ab; (repeat' split)<;>omega
theorem Uq (v:Int) (h:v=0):0=v:=by
 omega
theorem Ur (v:Int) (h:0<=v/\v < 15):ab v 0 4=v:=by
 unfold ab; split<;>omega
theorem Us (v:Int) (h:v=0):0=v:=by
 omega
theorem Ut (v:Int) (h:v=0):0=v:=by
 omega
theorem Uu (v:Int) (h:v=0):0=v:=by
 omega
theorem Uv (v:Int) (h:v=0):0=v:=by
 omega
theorem Uw (v:Int) (h:v=0):0=v:=by
 omega
theorem Ux (v:Int) (h:v=0):0=v:=by
 omega
theorem Uy (v:Int) (h:v=0):0=v:=by
 omega
theorem Uz (v:Int) (h:v=0):0=v:=by
 omega
theorem UA (v:Int) (h:v=0):0=v:=by
 omega
theorem UB (v:Int) (h:v=0):0=v:=by
 omega
theorem UC (v:Int) (h:v=0):0=v:=by
 omega
theorem UD (v:Int) (h:-1048576<=v/\v<=1048574/\v % 2=0):dp (0+ab v 20 1*2 ^ 20+ab v 12 6*2 ^ 12+ab v 18 1*2 ^ 18+ab v 19 1*2 ^ 19+ab v 1 11*2 ^ 1) 21=v:=by
 unfold dp ab; (repeat' split)<;>omega
theorem UE (v:Int) (h:v=0):0=v:=by
 omega
theorem UF (v:Int) (h:v=0):0=v:=by
 omega
theorem UG (v:Int) (h:v=0):0=v:=by
 omega
theorem UH (v:Int) (h:0<=v/\v<=13):0+ab v 0 4*2 ^ 0=v:=by
 unfold ab; (repeat' split)<;>omega
theorem UI (v:Int) (h:v=0):0=v:=by
 omega
theorem UJ (v:Int) (h:v=0):0=v:=by
 omega
theorem UK (v:Int) (h:v=0):0=v:=by
 omega
theorem UL (v:Int) (h:v=0):0=v:=by
 omega
theorem UM (v:Int) (h:v=0):0=v:=by
 omega
theorem UN (v:Int) (h:v=0):0=v:=by
 omega
theorem UO (v:Int) (h:v=0):0=v:=by
 omega
theorem UP (v:Int) (h:v=0):0=v:=by
 omega
theorem UQ (v:Int) (h:v=0):0=v:=by
 omega
theorem UR (v:Int) (h:v=0):0=v:=by
 omega
theorem aE {r:Int} (h:aG 0 r):r=0:=by unfold aG at h; omega
theorem eW {r:Int} (h:aG 1 r):0<=r/\r < 8:=by unfold aG at h; omega
theorem mM {r:Int} (h:aG 2 r):0<=r/\r < 15:=by unfold aG at h; omega
theorem bD {r:Int} (h:aG 3 r):0<=r/\r < 15:=by unfold aG at h; omega
theorem bQ {a b n:Int} (h:dN a b 0 n):n=0:=(yo h).elim (fun e=>e.2) fun e=>absurd rfl e.1
theorem fw {a b s n:Int} (hs:s≠0) (h:dN a b s n):a<=n/\n<=b/\n % s=0:=(yo h).elim (fun e=>absurd e.1 hs) fun e=>e.2
theorem bu {K f x:Int} (h:K≠1/\K≠15/\K≠16/\K≠33/\K≠34):qv K f x=x:=by
 unfold qv; rw[if_neg h.2.1,if_neg h.2.2.1,if_neg h.2.2.2.1,if_neg h.2.2.2.2,if_neg (fun e=>h.1 e.1)]
theorem Pa {f x:Int}:qv 1 f x=if 1 < f/\x=0 then 32 else x:=by
 unfold qv; rw[if_neg (by decide),if_neg (by decide),if_neg (by decide),if_neg (by decide)]
 by_cases h:1 < f/\x=0
 ·rw[if_pos ⟨rfl,h⟩,if_pos h]
 ·rw[if_neg (fun e=>h e.2),if_neg h]
theorem bS {K k x:Int} (h:¬ (21<=K/\K<=23)):O_ K k x=x:=if_neg fun e=>h ⟨e.1,e.2.1⟩
theorem uH {K k x:Int} (h:21<=K/\K<=23):O_ K k x=if x=0/\(k=1\/k=2) then 32 else x:=by
 unfold O_
 by_cases g:x=0/\(k=1\/k=2)
 ·rw[if_pos ⟨h.1,h.2,g⟩,if_pos g]
 ·rw[if_neg (fun e=>g e.2.2),if_neg g]
theorem dy {i:IN} {r:RU} (hr:r.av=0) (h:kC i r):i.av=0:=h.elim (fun e=>e.2) fun e=>absurd hr e.1
theorem BV {i:IN} {r:RU} (k:Nat) (hk:8<=k) (tN:k<=15) (hr:r.av=2 ^ k+255) (h:kC i r) (hg:i.av<=9223372036854775807):0 < i.av/\i.av / 2 ^ k % 2*2 ^ k+i.av % 256=i.av:=by
 have hp:(0:Int) < 2 ^ k:=by have:=cK k; have:=Nat.two_pow_pos k; omega
 rcases h with h|h
 ·have:=hr.symm.trans h.1; omega
 ·exact⟨h.2.1,wg k hk tN i.av r.av hr h.2.1 hg h.2.2⟩
theorem br {i:IN} {r:RU} (hr:r.kind=false) (h:nh i r):i.kind=0/\dN r.b0 r.b1 r.b2 i.bF:=h.elim (fun e=>by rw[hr] at e; exact absurd e.1 Bool.false_ne_true) fun e=>e.2
theorem Dq {i:IN} {r:RU} (hr:r.kind=true) (h:nh i r):cP i.kind i.bF:=h.elim (fun e=>e.2) fun e=>absurd hr e.1
theorem US (i:IN) (hs:aa i.form=1) (hr:aJ i (cg 1)) (hg:i.av<=9223372036854775807):c_ 1 i=i:=by
 obtain⟨hf,h1,h2,h3,h4,h5,h6,h7,h8,h9,cZ⟩:=hr
 have g0:=eW (r:=i.rd) h1
 have g1:=aE (r:=i.rn) h2
 have g2:=eW (r:=i.rm) h3
 have g3:=aE (r:=i.ra) h4
 have g4:0<=i.ay/\i.ay<=32/\i.ay % 1=0:=fw (s:=1) (by decide) h7
 have g5:i.kind=0:=(br rfl h9).1
 have g6:i.bF=0:=bQ (br rfl h9).2
 have g7:i.set=0:=h8.elim id fun e=>absurd (show false=true from e.2) Bool.false_ne_true
 have g8:i.cond=0:=h6.elim id fun e=>absurd (show false=true from e.1) Bool.false_ne_true
 have g9:i.av=0:=dy rfl h5
 exact bj rfl (Ym i.rd g0) (Yn i.rn g1) (Yo i.rm g2) (Yp i.ra g3) (Pa.trans (Yv i.form i.ay ⟨g4.1,g4.2.1⟩ cZ.1 cZ.2.1 (uG hf hs))) (Yq i.kind g5) ((bS (K:=1) (k:=xR 1 i 5) (by decide)).trans (Yr i.bF g6)) (Ys i.set g7) (Yt i.cond g8) (Yu i.av g9)
theorem UT (i:IN) (hs:aa i.form=2) (hr:aJ i (cg 2)) (hg:i.av<=9223372036854775807):c_ 2 i=i:=by
 obtain⟨hf,h1,h2,h3,h4,h5,h6,h7,h8,h9,cZ⟩:=hr
 have g0:=eW (r:=i.rd) h1
 have g1:=eW (r:=i.rn) h2
 have g2:=eW (r:=i.rm) h3
 have g3:=aE (r:=i.ra) h4
 have g4:i.ay=0:=bQ h7
 have g5:i.kind=0:=(br rfl h9).1
 have g6:i.bF=0:=bQ (br rfl h9).2
 have g7:i.set=0:=h8.elim id fun e=>absurd (show false=true from e.2) Bool.false_ne_true
 have g8:i.cond=0:=h6.elim id fun e=>absurd (show false=true from e.1) Bool.false_ne_true
 have g9:i.av=0:=dy rfl h5
 exact bj rfl (Yw i.rd g0) (Yx i.rn g1) (Yy i.rm g2) (Yz i.ra g3) ((bu (K:=2) (f:=i.form) (by decide)).trans (YA i.ay g4)) (YB i.kind g5) ((bS (K:=2) (k:=xR 2 i 5) (by decide)).trans (YC i.bF g6)) (YD i.set g7) (YE i.cond g8) (YF i.av g9)
theorem UU (i:IN) (hs:aa i.form=3) (hr:aJ i (cg 3)) (hg:i.av<=9223372036854775807):c_ 3 i=i:=by
 obtain⟨hf,h1,h2,h3,h4,h5,h6,h7,h8,h9,cZ⟩:=hr
 have g0:=eW (r:=i.rd) h1
 have g1:=eW (r:=i.rn) h2
 have g2:=aE (r:=i.rm) h3
 have g3:=aE (r:=i.ra) h4
 have g4:0<=i.ay/\i.ay<=7/\i.ay % 1=0:=fw (s:=1) (by decide) h7
 have g5:i.kind=0:=(br rfl h9).1
 have g6:i.bF=0:=bQ (br rfl h9).2
 have g7:i.set=0:=h8.elim id fun e=>absurd (show false=true from e.2) Bool.false_ne_true
 have g8:i.cond=0:=h6.elim id fun e=>absurd (show false=true from e.1) Bool.false_ne_true
 have g9:i.av=0:=dy rfl h5
 exact bj rfl (YG i.rd g0) (YH i.rn g1) (YI i.rm g2) (YJ i.ra g3) ((bu (K:=3) (f:=i.form) (by decide)).trans (YK i.ay g4)) (YL i.kind g5) ((bS (K:=3) (k:=xR 3 i 5) (by decide)).trans (YM i.bF g6)) (YN i.set g7) (YO i.cond g8) (YP i.av g9)
theorem UW (i:IN) (hs:aa i.form=4) (hr:aJ i (cg 4)) (hg:i.av<=9223372036854775807):c_ 4 i=i:=by
 obtain⟨hf,h1,h2,h3,h4,h5,h6,h7,h8,h9,cZ⟩:=hr
 have g0:=eW (r:=i.rd) h1
 have g1:=aE (r:=i.rn) h2
 have g2:=aE (r:=i.rm) h3
 have g3:=aE (r:=i.ra) h4
 have g4:0<=i.ay/\i.ay<=255/\i.ay % 1=0:=fw (s:=1) (by decide) h7
 have g5:i.kind=0:=(br rfl h9).1
 have g6:i.bF=0:=bQ (br rfl h9).2
 have g7:i.set=0:=h8.elim id fun e=>absurd (show false=true from e.2) Bool.false_ne_true
 have g8:i.cond=0:=h6.elim id fun e=>absurd (show false=true from e.1) Bool.false_ne_true
 have g9:i.av=0:=dy rfl h5
 exact bj rfl (YQ i.rd g0) (YR i.rn g1) (YS i.rm g2) (YT i.ra g3) ((bu (K:=4) (f:=i.form) (by decide)).trans (YU i.ay g4)) (YV i.kind g5) ((bS (K:=4) (k:=xR 4 i 5) (by decide)).trans (YW i.bF g6)) (YX i.set g7) (YY i.cond g8) (YZ i.av g9)
theorem UX (i:IN) (hs:aa i.form=5) (hr:aJ i (cg 5)) (hg:i.av<=9223372036854775807):c_ 5 i=i:=by
 obtain⟨hf,h1,h2,h3,h4,h5,h6,h7,h8,h9,cZ⟩:=hr
 have g0:=eW (r:=i.rd) h1
 have g1:=aE (r:=i.rn) h2
 have g2:=eW (r:=i.rm) h3
 have g3:=aE (r:=i.ra) h4
 have g4:i.ay=0:=bQ h7
 have g5:i.kind=0:=(br rfl h9).1
 have g6:i.bF=0:=bQ (br rfl h9).2
 have g7:i.set=0:=h8.elim id fun e=>absurd (show false=true from e.2) Bool.false_ne_true
 have g8:i.cond=0:=h6.elim id fun e=>absurd (show false=true from e.1) Bool.false_ne_true
 have g9:i.av=0:=dy rfl h5
 exact bj rfl (Y0 i.rd g0) (Y1 i.rn g1) (Y2 i.rm g2) (Y3 i.ra g3) ((bu (K:=5) (f:=i.form) (by decide)).trans (Y4 i.ay g4)) (Y5 i.kind g5) ((bS (K:=5) (k:=xR 5 i 5) (by decide)).trans (Y6 i.bF g6)) (Y7 i.set g7) (Y8 i.cond g8) (Y9 i.av g9)
theorem UY (i:IN) (hs:aa i.form=6) (hr:aJ i (cg 6)) (hg:i.av<=9223372036854775807):c_ 6 i=i:=by
 obtain⟨hf,h1,h2,h3,h4,h5,h6,h7,h8,h9,cZ⟩:=hr
 have g0:=mM (r:=i.rd) h1
 have g1:=aE (r:=i.rn) h2
 have g2:=mM (r:=i.rm) h3
 have g3:=aE (r:=i.ra) h4
 have g4:i.ay=0:=bQ h7
 have g5:i.kind=0:=(br rfl h9).1
 have g6:i.bF=0:=bQ (br rfl h9).2
 have g7:i.set=0:=h8.elim id fun e=>absurd (show false=true from e.2) Bool.false_ne_true
 have g8:i.cond=0:=h6.elim id fun e=>absurd (show false=true from e.1) Bool.false_ne_true
 have g9:i.av=0:=dy rfl h5
 exact bj rfl (Y' i.rd g0) (Y_ i.rn g1) (Za i.rm g2) (Zb i.ra g3) ((bu (K:=6) (f:=i.form) (by decide)).trans (Zc i.ay g4)) (Zd i.kind g5) ((bS (K:=6) (k:=xR 6 i 5) (by decide)).trans (Ze i.bF g6)) (Zf i.set g7) (Zg i.cond g8) (Zh i.av g9)
theorem UZ (i:IN) (hs:aa i.form=7) (hr:aJ i (cg 7)) (hg:i.av<=9223372036854775807):c_ 7 i=i:=by
 obtain⟨hf,h1,h2,h3,h4,h5,h6,h7,h8,h9,cZ⟩:=hr
 have g0:=aE (r:=i.rd) h1
 have g1:=aE (r:=i.rn) h2
 have g2:=mM (r:=i.rm) h3
 have g3:=aE (r:=i.ra) h4
 have g4:i.ay=0:=bQ h7
 have g5:i.kind=0:=(br rfl h9).1
 have g6:i.bF=0:=bQ (br rfl h9).2
 have g7:i.set=0:=h8.elim id fun e=>absurd (show false=true from e.2) Bool.false_ne_true
 have g8:i.cond=0:=h6.elim id fun e=>absurd (show false=true from e.1) Bool.false_ne_true
 have g9:i.av=0:=dy rfl h5
 exact bj rfl (Zi i.rd g0) (Zj i.rn g1) (Zk i.rm g2) (Zl i.ra g3) ((bu (K:=7) (f:=i.form) (by decide)).trans (Zm i.ay g4)) (Zn i.kind g5) ((bS (K:=7) (k:=xR 7 i 5) (by decide)).trans (Zo i.bF g6)) (Zp i.set g7) (Zq i.cond g8) (Zr i.av g9)
theorem U0 (i:IN) (hs:aa i.form=8) (hr:aJ i (cg 8)) (hg:i.av<=9223372036854775807):c_ 8 i=i:=by
 obtain⟨hf,h1,h2,h3,h4,h5,h6,h7,h8,h9,cZ⟩:=hr
 have g0:=eW (r:=i.rd) h1
 have g1:=aE (r:=i.rn) h2
 have g2:=aE (r:=i.rm) h3
 have g3:=aE (r:=i.ra) h4
 have g4:0<=i.ay/\i.ay<=1020/\i.ay % 4=0:=fw (s:=4) (by decide) h7
 have g5:i.kind=0:=(br rfl h9).1
 have g6:i.bF=0:=bQ (br rfl h9).2
 have g7:i.set=0:=h8.elim id fun e=>absurd (show false=true from e.2) Bool.false_ne_true
 have g8:i.cond=0:=h6.elim id fun e=>absurd (show false=true from e.1) Bool.false_ne_true
 have g9:i.av=0:=dy rfl h5
 exact bj rfl (Zs i.rd g0) (Zt i.rn g1) (Zu i.rm g2) (Zv i.ra g3) ((bu (K:=8) (f:=i.form) (by decide)).trans (Zw i.ay g4)) (Zx i.kind g5) ((bS (K:=8) (k:=xR 8 i 5) (by decide)).trans (Zy i.bF g6)) (Zz i.set g7) (ZA i.cond g8) (ZB i.av g9)
theorem U1 (i:IN) (hs:aa i.form=9) (hr:aJ i (cg 9)) (hg:i.av<=9223372036854775807):c_ 9 i=i:=by
 obtain⟨hf,h1,h2,h3,h4,h5,h6,h7,h8,h9,cZ⟩:=hr
 have g0:=eW (r:=i.rd) h1
 have g1:=eW (r:=i.rn) h2
 have g2:=aE (r:=i.rm) h3
 have g3:=aE (r:=i.ra) h4
 have g4:0<=i.ay/\i.ay<=124/\i.ay % 4=0:=fw (s:=4) (by decide) h7
 have g5:i.kind=0:=(br rfl h9).1
 have g6:i.bF=0:=bQ (br rfl h9).2
 have g7:i.set=0:=h8.elim id fun e=>absurd (show false=true from e.2) Bool.false_ne_true
 have g8:i.cond=0:=h6.elim id fun e=>absurd (show false=true from e.1) Bool.false_ne_true
 have g9:i.av=0:=dy rfl h5
 exact bj rfl (ZC i.rd g0) (ZD i.rn g1) (ZE i.rm g2) (ZF i.ra g3) ((bu (K:=9) (f:=i.form) (by decide)).trans (ZG i.ay g4)) (ZH i.kind g5) ((bS (K:=9) (k:=xR 9 i 5) (by decide)).trans (ZI i.bF g6)) (ZJ i.set g7) (ZK i.cond g8) (ZL i.av g9)
theorem LK (i:IN) (hs:aa i.form=10) (hr:aJ i (cg 10)) (hg:i.av<=9223372036854775807):c_ 10 i=i:=by
 obtain⟨hf,h1,h2,h3,h4,h5,h6,h7,h8,h9,cZ⟩:=hr
 have g0:=aE (r:=i.rd) h1
 have g1:=aE (r:=i.rn) h2
 have g2:=aE (r:=i.rm) h3
 have g3:=aE (r:=i.ra) h4
 have g4:0<=i.ay/\i.ay<=508/\i.ay % 4=0:=fw (s:=4) (by decide) h7
 have g5:i.kind=0:=(br rfl h9).1
 have g6:i.bF=0:=bQ (br rfl h9).2
 have g7:i.set=0:=h8.elim id fun e=>absurd (show false=true from e.2) Bool.false_ne_true
 have g8:i.cond=0:=h6.elim id fun e=>absurd (show false=true from e.1) Bool.false_ne_true
 have g9:i.av=0:=dy rfl h5
 exact bj rfl (QO i.rd g0) (QP i.rn g1) (QQ i.rm g2) (QR i.ra g3) ((bu (K:=10) (f:=i.form) (by decide)).trans (QS i.ay g4)) (QT i.kind g5) ((bS (K:=10) (k:=xR 10 i 5) (by decide)).trans (QU i.bF g6)) (QV i.set g7) (QW i.cond g8) (QX i.av g9)
theorem LL (i:IN) (hs:aa i.form=11) (hr:aJ i (cg 11)) (hg:i.av<=9223372036854775807):c_ 11 i=i:=by
 obtain⟨hf,h1,h2,h3,h4,h5,h6,h7,h8,h9,cZ⟩:=hr
 have g0:=aE (r:=i.rd) h1
 have g1:=aE (r:=i.rn) h2
 have g2:=aE (r:=i.rm) h3
 have g3:=aE (r:=i.ra) h4
 have g4:i.ay=0:=bQ h7
 have g5:i.kind=0:=(br rfl h9).1
 have g6:i.bF=0:=bQ (br rfl h9).2
 have g7:i.set=0:=h8.elim id fun e=>absurd (show false=true from e.2) Bool.false_ne_true
 have g8:i.cond=0:=h6.elim id fun e=>absurd (show false=true from e.1) Bool.false_ne_true
 have g9:0 < i.av/\i.av / 16384 % 2*16384+i.av % 256=i.av:=BV 14 (by decide) (by decide) rfl h5 hg
 exact bj rfl (QY i.rd g0) (QZ i.rn g1) (Q0 i.rm g2) (Q1 i.ra g3) ((bu (K:=11) (f:=i.form) (by decide)).trans (Q2 i.ay g4)) (Q3 i.kind g5) ((bS (K:=11) (k:=xR 11 i 5) (by decide)).trans (Q4 i.bF g6)) (Q5 i.set g7) (Q6 i.cond g8) (Q7 i.av g9)
theorem LM (i:IN) (hs:aa i.form=12) (hr:aJ i (cg 12)) (hg:i.av<=9223372036854775807):c_ 12 i=i:=by
 obtain⟨hf,h1,h2,h3,h4,h5,h6,h7,h8,h9,cZ⟩:=hr
 have g0:=aE (r:=i.rd) h1
 have g1:=aE (r:=i.rn) h2
 have g2:=aE (r:=i.rm) h3
 have g3:=aE (r:=i.ra) h4
 have g4:i.ay=0:=bQ h7
 have g5:i.kind=0:=(br rfl h9).1
 have g6:i.bF=0:=bQ (br rfl h9).2
 have g7:i.set=0:=h8.elim id fun e=>absurd (show false=true from e.2) Bool.false_ne_true
 have g8:i.cond=0:=h6.elim id fun e=>absurd (show false=true from e.1) Bool.false_ne_true
 have g9:0 < i.av/\i.av / 32768 % 2*32768+i.av % 256=i.av:=BV 15 (by decide) (by decide) rfl h5 hg
 exact bj rfl (Q8 i.rd g0) (Q9 i.rn g1) (Q_ i.rm g2) (Ra i.ra g3) ((bu (K:=12) (f:=i.form) (by decide)).trans (Rb i.ay g4)) (Rc i.kind g5) ((bS (K:=12) (k:=xR 12 i 5) (by decide)).trans (Rd i.bF g6)) (Re i.set g7) (Rf i.cond g8) (Rg i.av g9)
theorem LN (i:IN) (hs:aa i.form=13) (hr:aJ i (cg 13)) (hg:i.av<=9223372036854775807):c_ 13 i=i:=by
 obtain⟨hf,h1,h2,h3,h4,h5,h6,h7,h8,h9,cZ⟩:=hr
 have g0:=aE (r:=i.rd) h1
 have g1:=aE (r:=i.rn) h2
 have g2:=aE (r:=i.rm) h3
 have g3:=aE (r:=i.ra) h4
 have g4:i.ay=0:=bQ h7
 have g5:i.kind=0:=(br rfl h9).1
 have g6:i.bF=0:=bQ (br rfl h9).2
 have g7:i.set=0:=h8.elim id fun e=>absurd (show false=true from e.2) Bool.false_ne_true
 have g8:i.cond=0:=h6.elim id fun e=>absurd (show false=true from e.1) Bool.false_ne_true
 have g9:i.av=0:=dy rfl h5
 exact bj rfl (Rh i.rd g0) (Ri i.rn g1) (Rj i.rm g2) (Rk i.ra g3) ((bu (K:=13) (f:=i.form) (by decide)).trans (Rl i.ay g4)) (Rn i.kind g5) ((bS (K:=13) (k:=xR 13 i 5) (by decide)).trans (Ro i.bF g6)) (Rp i.set g7) (Rq i.cond g8) (Rr i.av g9)
theorem LO (i:IN) (hs:aa i.form=14) (hr:aJ i (cg 14)) (hg:i.av<=9223372036854775807):c_ 14 i=i:=by
 obtain⟨hf,h1,h2,h3,h4,h5,h6,h7,h8,h9,cZ⟩:=hr
 have g0:=aE (r:=i.rd) h1
 have g1:=aE (r:=i.rn) h2
 have g2:=aE (r:=i.rm) h3
 have g3:=aE (r:=i.ra) h4
 have g4:0<=i.ay/\i.ay<=255/\i.ay % 1=0:=fw (s:=1) (by decide) h7
 have g5:i.kind=0:=(br rfl h9).1
 have g6:i.bF=0:=bQ (br rfl h9).2
 have g7:i.set=0:=h8.elim id fun e=>absurd (show false=true from e.2) Bool.false_ne_true
 have g8:i.cond=0:=h6.elim id fun e=>absurd (show false=true from e.1) Bool.false_ne_true
 have g9:i.av=0:=dy rfl h5
 exact bj rfl (Rs i.rd g0) (Rt i.rn g1) (Ru i.rm g2) (Rv i.ra g3) ((bu (K:=14) (f:=i.form) (by decide)).trans (Rw i.ay g4)) (Rx i.kind g5) ((bS (K:=14) (k:=xR 14 i 5) (by decide)).trans (Ry i.bF g6)) (Rz i.set g7) (RA i.cond g8) (RB i.av g9)
theorem LP (i:IN) (hs:aa i.form=15) (hr:aJ i (cg 15)) (hg:i.av<=9223372036854775807):c_ 15 i=i:=by
 obtain⟨hf,h1,h2,h3,h4,h5,h6,h7,h8,h9,cZ⟩:=hr
 have g0:=aE (r:=i.rd) h1
 have g1:=aE (r:=i.rn) h2
 have g2:=aE (r:=i.rm) h3
 have g3:=aE (r:=i.ra) h4
 have g4:-256<=i.ay/\i.ay<=254/\i.ay % 2=0:=fw (s:=2) (by decide) h7
 have g5:i.kind=0:=(br rfl h9).1
 have g6:i.bF=0:=bQ (br rfl h9).2
 have g7:i.set=0:=h8.elim id fun e=>absurd (show false=true from e.2) Bool.false_ne_true
 have g8:0<=i.cond/\i.cond<=13:=by rcases h6 with h6|h6<;>omega
 have g9:i.av=0:=dy rfl h5
 exact bj rfl (RC i.rd g0) (RD i.rn g1) (RE i.rm g2) (RF i.ra g3) (RG i.ay g4) (RH i.kind g5) ((bS (K:=15) (k:=xR 15 i 5) (by decide)).trans (RI i.bF g6)) (RJ i.set g7) (RK i.cond g8) (RL i.av g9)
theorem LQ (i:IN) (hs:aa i.form=16) (hr:aJ i (cg 16)) (hg:i.av<=9223372036854775807):c_ 16 i=i:=by
 obtain⟨hf,h1,h2,h3,h4,h5,h6,h7,h8,h9,cZ⟩:=hr
 have g0:=aE (r:=i.rd) h1
 have g1:=aE (r:=i.rn) h2
 have g2:=aE (r:=i.rm) h3
 have g3:=aE (r:=i.ra) h4
 have g4:-2048<=i.ay/\i.ay<=2046/\i.ay % 2=0:=fw (s:=2) (by decide) h7
 have g5:i.kind=0:=(br rfl h9).1
 have g6:i.bF=0:=bQ (br rfl h9).2
 have g7:i.set=0:=h8.elim id fun e=>absurd (show false=true from e.2) Bool.false_ne_true
 have g8:i.cond=0:=h6.elim id fun e=>absurd (show false=true from e.1) Bool.false_ne_true
 have g9:i.av=0:=dy rfl h5
 exact bj rfl (RM i.rd g0) (RN i.rn g1) (RO i.rm g2) (RP i.ra g3) (RQ i.ay g4) (RR i.kind g5) ((bS (K:=16) (k:=xR 16 i 5) (by decide)).trans (RT i.bF g6)) (RV i.set g7) (RW i.cond g8) (RX i.av g9)
theorem LR (i:IN) (hs:aa i.form=17) (hr:aJ i (cg 17)) (hg:i.av<=9223372036854775807):c_ 17 i=i:=by
 obtain⟨hf,h1,h2,h3,h4,h5,h6,h7,h8,h9,cZ⟩:=hr
 have g0:=bD (r:=i.rd) h1
 have g1:=aE (r:=i.rn) h2
 have g2:=aE (r:=i.rm) h3
 have g3:=aE (r:=i.ra) h4
 have g4:0<=i.ay/\i.ay<=65535/\i.ay % 1=0:=fw (s:=1) (by decide) h7
 have g5:i.kind=0:=(br rfl h9).1
 have g6:i.bF=0:=bQ (br rfl h9).2
 have g7:i.set=0:=h8.elim id fun e=>absurd (show false=true from e.2) Bool.false_ne_true
 have g8:i.cond=0:=h6.elim id fun e=>absurd (show false=true from e.1) Bool.false_ne_true
 have g9:i.av=0:=dy rfl h5
 exact bj rfl (RY i.rd g0) (RZ i.rn g1) (R0 i.rm g2) (R1 i.ra g3) ((bu (K:=17) (f:=i.form) (by decide)).trans (R3 i.ay g4)) (R4 i.kind g5) ((bS (K:=17) (k:=xR 17 i 5) (by decide)).trans (R5 i.bF g6)) (R6 i.set g7) (R7 i.cond g8) (R8 i.av g9)
theorem LS (i:IN) (hs:aa i.form=18) (hr:aJ i (cg 18)) (hg:i.av<=9223372036854775807):c_ 18 i=i:=by
 obtain⟨hf,h1,h2,h3,h4,h5,h6,h7,h8,h9,cZ⟩:=hr
 have g0:=bD (r:=i.rd) h1
 have g1:=bD (r:=i.rn) h2
 have g2:=aE (r:=i.rm) h3
 have g3:=aE (r:=i.ra) h4
 have g4:0<=i.ay/\i.ay<=4095/\i.ay % 1=0:=fw (s:=1) (by decide) h7
 have g5:i.kind=0:=(br rfl h9).1
 have g6:i.bF=0:=bQ (br rfl h9).2
 have g7:i.set=0\/i.set=1:=h8.imp id fun e=>e.1
 have g8:i.cond=0:=h6.elim id fun e=>absurd (show false=true from e.1) Bool.false_ne_true
 have g9:i.av=0:=dy rfl h5
 exact bj rfl (R9 i.rd g0) (R_ i.rn g1) (Sa i.rm g2) (Sb i.ra g3) ((bu (K:=18) (f:=i.form) (by decide)).trans (Sc i.ay g4)) (Sd i.kind g5) ((bS (K:=18) (k:=xR 18 i 5) (by decide)).trans (Se i.bF g6)) (Sf i.set g7) (Sg i.cond g8) (Sh i.av g9)
theorem LU (i:IN) (hs:aa i.form=19) (hr:aJ i (cg 19)) (hg:i.av<=9223372036854775807):c_ 19 i=i:=by
 obtain⟨hf,h1,h2,h3,h4,h5,h6,h7,h8,h9,cZ⟩:=hr
 have g0:=bD (r:=i.rd) h1
 have g1:=aE (r:=i.rn) h2
 have g2:=aE (r:=i.rm) h3
 have g3:=aE (r:=i.ra) h4
 have g4:0<=i.ay/\i.ay<=4095/\i.ay % 1=0:=fw (s:=1) (by decide) h7
 have g5:i.kind=0:=(br rfl h9).1
 have g6:i.bF=0:=bQ (br rfl h9).2
 have g7:i.set=0\/i.set=1:=h8.imp id fun e=>e.1
 have g8:i.cond=0:=h6.elim id fun e=>absurd (show false=true from e.1) Bool.false_ne_true
 have g9:i.av=0:=dy rfl h5
 exact bj rfl (Si i.rd g0) (Sj i.rn g1) (Sk i.rm g2) (Sl i.ra g3) ((bu (K:=19) (f:=i.form) (by decide)).trans (Sm i.ay g4)) (Sn i.kind g5) ((bS (K:=19) (k:=xR 19 i 5) (by decide)).trans (So i.bF g6)) (Sp i.set g7) (Sq i.cond g8) (Sr i.av g9)
theorem LV (i:IN) (hs:aa i.form=20) (hr:aJ i (cg 20)) (hg:i.av<=9223372036854775807):c_ 20 i=i:=by
 obtain⟨hf,h1,h2,h3,h4,h5,h6,h7,h8,h9,cZ⟩:=hr
 have g0:=aE (r:=i.rd) h1
 have g1:=bD (r:=i.rn) h2
 have g2:=aE (r:=i.rm) h3
 have g3:=aE (r:=i.ra) h4
 have g4:0<=i.ay/\i.ay<=4095/\i.ay % 1=0:=fw (s:=1) (by decide) h7
 have g5:i.kind=0:=(br rfl h9).1
 have g6:i.bF=0:=bQ (br rfl h9).2
 have g7:i.set=0:=h8.elim id fun e=>absurd (show false=true from e.2) Bool.false_ne_true
 have g8:i.cond=0:=h6.elim id fun e=>absurd (show false=true from e.1) Bool.false_ne_true
 have g9:i.av=0:=dy rfl h5
 exact bj rfl (Su i.rd g0) (Sv i.rn g1) (Sw i.rm g2) (Sx i.ra g3) ((bu (K:=20) (f:=i.form) (by decide)).trans (Sy i.ay g4)) (Sz i.kind g5) ((bS (K:=20) (k:=xR 20 i 5) (by decide)).trans (SA i.bF g6)) (SB i.set g7) (SC i.cond g8) (SD i.av g9)
theorem LW (i:IN) (hs:aa i.form=21) (hr:aJ i (cg 21)) (hg:i.av<=9223372036854775807):c_ 21 i=i:=by
 obtain⟨hf,h1,h2,h3,h4,h5,h6,h7,h8,h9,cZ⟩:=hr
 have g0:=bD (r:=i.rd) h1
 have g1:=bD (r:=i.rn) h2
 have g2:=bD (r:=i.rm) h3
 have g3:=aE (r:=i.ra) h4
 have g4:i.ay=0:=bQ h7
 have g6:cP i.kind i.bF:=Dq rfl h9
 have g5:=mn g6
 have g7:i.set=0\/i.set=1:=h8.imp id fun e=>e.1
 have g8:i.cond=0:=h6.elim id fun e=>absurd (show false=true from e.1) Bool.false_ne_true
 have g9:i.av=0:=dy rfl h5
 exact bj rfl (SE i.rd g0) (SF i.rn g1) (SG i.rm g2) (SH i.ra g3) ((bu (K:=21) (f:=i.form) (by decide)).trans (SI i.ay g4)) (Hj i.kind g5) ((uH (K:=21) (k:=xR 21 i 5) (by decide)).trans ((congrArg (fun k=>if xR 21 i 6=0/\(k=1\/k=2) then 32 else xR 21 i 6) (Hj i.kind g5)).trans (QN i.kind i.bF g6))) (SJ i.set g7) (SK i.cond g8) (SL i.av g9)
theorem LX (i:IN) (hs:aa i.form=22) (hr:aJ i (cg 22)) (hg:i.av<=9223372036854775807):c_ 22 i=i:=by
 obtain⟨hf,h1,h2,h3,h4,h5,h6,h7,h8,h9,cZ⟩:=hr
 have g0:=bD (r:=i.rd) h1
 have g1:=aE (r:=i.rn) h2
 have g2:=bD (r:=i.rm) h3
 have g3:=aE (r:=i.ra) h4
 have g4:i.ay=0:=bQ h7
 have g6:cP i.kind i.bF:=Dq rfl h9
 have g5:=mn g6
 have g7:i.set=0\/i.set=1:=h8.imp id fun e=>e.1
 have g8:i.cond=0:=h6.elim id fun e=>absurd (show false=true from e.1) Bool.false_ne_true
 have g9:i.av=0:=dy rfl h5
 exact bj rfl (SM i.rd g0) (SN i.rn g1) (SO i.rm g2) (SP i.ra g3) ((bu (K:=22) (f:=i.form) (by decide)).trans (SQ i.ay g4)) (Hk i.kind g5) ((uH (K:=22) (k:=xR 22 i 5) (by decide)).trans ((congrArg (fun k=>if xR 22 i 6=0/\(k=1\/k=2) then 32 else xR 22 i 6) (Hk i.kind g5)).trans (QN i.kind i.bF g6))) (SR i.set g7) (SS i.cond g8) (SU i.av g9)
theorem LY (i:IN) (hs:aa i.form=23) (hr:aJ i (cg 23)) (hg:i.av<=9223372036854775807):c_ 23 i=i:=by
 obtain⟨hf,h1,h2,h3,h4,h5,h6,h7,h8,h9,cZ⟩:=hr
 have g0:=aE (r:=i.rd) h1
 have g1:=bD (r:=i.rn) h2
 have g2:=bD (r:=i.rm) h3
 have g3:=aE (r:=i.ra) h4
 have g4:i.ay=0:=bQ h7
 have g6:cP i.kind i.bF:=Dq rfl h9
 have g5:=mn g6
 have g7:i.set=0:=h8.elim id fun e=>absurd (show false=true from e.2) Bool.false_ne_true
 have g8:i.cond=0:=h6.elim id fun e=>absurd (show false=true from e.1) Bool.false_ne_true
 have g9:i.av=0:=dy rfl h5
 exact bj rfl (SV i.rd g0) (SX i.rn g1) (SY i.rm g2) (SZ i.ra g3) ((bu (K:=23) (f:=i.form) (by decide)).trans (S3 i.ay g4)) (Hl i.kind g5) ((uH (K:=23) (k:=xR 23 i 5) (by decide)).trans ((congrArg (fun k=>if xR 23 i 6=0/\(k=1\/k=2) then 32 else xR 23 i 6) (Hl i.kind g5)).trans (QN i.kind i.bF g6))) (S4 i.set g7) (S5 i.cond g8) (S6 i.av g9)
theorem LZ (i:IN) (hs:aa i.form=24) (hr:aJ i (cg 24)) (hg:i.av<=9223372036854775807):c_ 24 i=i:=by
 obtain⟨hf,h1,h2,h3,h4,h5,h6,h7,h8,h9,cZ⟩:=hr
 have g0:=bD (r:=i.rd) h1
 have g1:=bD (r:=i.rn) h2
 have g2:=aE (r:=i.rm) h3
 have g3:=aE (r:=i.ra) h4
 have g4:0<=i.ay/\i.ay<=4095/\i.ay % 1=0:=fw (s:=1) (by decide) h7
 have g5:i.kind=0:=(br rfl h9).1
 have g6:i.bF=0:=bQ (br rfl h9).2
 have g7:i.set=0:=h8.elim id fun e=>absurd (show false=true from e.2) Bool.false_ne_true
 have g8:i.cond=0:=h6.elim id fun e=>absurd (show false=true from e.1) Bool.false_ne_true
 have g9:i.av=0:=dy rfl h5
 exact bj rfl (S7 i.rd g0) (S8 i.rn g1) (S9 i.rm g2) (S_ i.ra g3) ((bu (K:=24) (f:=i.form) (by decide)).trans (Ta i.ay g4)) (Tb i.kind g5) ((bS (K:=24) (k:=xR 24 i 5) (by decide)).trans (Tc i.bF g6)) (Td i.set g7) (Te i.cond g8) (Tf i.av g9)
theorem L0 (i:IN) (hs:aa i.form=25) (hr:aJ i (cg 25)) (hg:i.av<=9223372036854775807):c_ 25 i=i:=by
 obtain⟨hf,h1,h2,h3,h4,h5,h6,h7,h8,h9,cZ⟩:=hr
 have g0:=bD (r:=i.rd) h1
 have g1:=mM (r:=i.rn) h2
 have g2:=aE (r:=i.rm) h3
 have g3:=aE (r:=i.ra) h4
 have g4:0<=i.ay/\i.ay<=4095/\i.ay % 1=0:=fw (s:=1) (by decide) h7
 have g5:i.kind=0:=(br rfl h9).1
 have g6:i.bF=0:=bQ (br rfl h9).2
 have g7:i.set=0:=h8.elim id fun e=>absurd (show false=true from e.2) Bool.false_ne_true
 have g8:i.cond=0:=h6.elim id fun e=>absurd (show false=true from e.1) Bool.false_ne_true
 have g9:i.av=0:=dy rfl h5
 exact bj rfl (Tg i.rd g0) (Th i.rn g1) (Ti i.rm g2) (Tj i.ra g3) ((bu (K:=25) (f:=i.form) (by decide)).trans (Tk i.ay g4)) (Tl i.kind g5) ((bS (K:=25) (k:=xR 25 i 5) (by decide)).trans (Tm i.bF g6)) (Tn i.set g7) (To i.cond g8) (Tp i.av g9)
theorem L1 (i:IN) (hs:aa i.form=26) (hr:aJ i (cg 26)) (hg:i.av<=9223372036854775807):c_ 26 i=i:=by
 obtain⟨hf,h1,h2,h3,h4,h5,h6,h7,h8,h9,cZ⟩:=hr
 have g0:=bD (r:=i.rd) h1
 have g1:=mM (r:=i.rn) h2
 have g2:=bD (r:=i.rm) h3
 have g3:=aE (r:=i.ra) h4
 have g4:i.ay=0:=bQ h7
 have g5:i.kind=0:=(br rfl h9).1
 have g6:0<=i.bF/\i.bF<=3/\i.bF % 1=0:=fw (s:=1) (by decide) (br rfl h9).2
 have g7:i.set=0:=h8.elim id fun e=>absurd (show false=true from e.2) Bool.false_ne_true
 have g8:i.cond=0:=h6.elim id fun e=>absurd (show false=true from e.1) Bool.false_ne_true
 have g9:i.av=0:=dy rfl h5
 exact bj rfl (Tq i.rd g0) (Ts i.rn g1) (Tt i.rm g2) (Tu i.ra g3) ((bu (K:=26) (f:=i.form) (by decide)).trans (Tv i.ay g4)) (Tw i.kind g5) ((bS (K:=26) (k:=xR 26 i 5) (by decide)).trans (Tx i.bF g6)) (Ty i.set g7) (Tz i.cond g8) (TA i.av g9)
theorem L3 (i:IN) (hs:aa i.form=27) (hr:aJ i (cg 27)) (hg:i.av<=9223372036854775807):c_ 27 i=i:=by
 obtain⟨hf,h1,h2,h3,h4,h5,h6,h7,h8,h9,cZ⟩:=hr
 have g0:=bD (r:=i.rd) h1
 have g1:=bD (r:=i.rn) h2
 have g2:=bD (r:=i.rm) h3
 have g3:=aE (r:=i.ra) h4
 have g4:i.ay=0:=bQ h7
 have g5:i.kind=0:=(br rfl h9).1
 have g6:i.bF=0:=bQ (br rfl h9).2
 have g7:i.set=0\/i.set=1:=h8.imp id fun e=>e.1
 have g8:i.cond=0:=h6.elim id fun e=>absurd (show false=true from e.1) Bool.false_ne_true
 have g9:i.av=0:=dy rfl h5
 exact bj rfl (TB i.rd g0) (TC i.rn g1) (TD i.rm g2) (TE i.ra g3) ((bu (K:=27) (f:=i.form) (by decide)).trans (TF i.ay g4)) (TG i.kind g5) ((bS (K:=27) (k:=xR 27 i 5) (by decide)).trans (TH i.bF g6)) (TJ i.set g7) (TK i.cond g8) (TL i.av g9)
theorem L4 (i:IN) (hs:aa i.form=28) (hr:aJ i (cg 28)) (hg:i.av<=9223372036854775807):c_ 28 i=i:=by
 obtain⟨hf,h1,h2,h3,h4,h5,h6,h7,h8,h9,cZ⟩:=hr
 have g0:=bD (r:=i.rd) h1
 have g1:=bD (r:=i.rn) h2
 have g2:=bD (r:=i.rm) h3
 have g3:=aE (r:=i.ra) h4
 have g4:i.ay=0:=bQ h7
 have g5:i.kind=0:=(br rfl h9).1
 have g6:i.bF=0:=bQ (br rfl h9).2
 have g7:i.set=0:=h8.elim id fun e=>absurd (show false=true from e.2) Bool.false_ne_true
 have g8:i.cond=0:=h6.elim id fun e=>absurd (show false=true from e.1) Bool.false_ne_true
 have g9:i.av=0:=dy rfl h5
 exact bj rfl (TN i.rd g0) (TO i.rn g1) (TP i.rm g2) (TQ i.ra g3) ((bu (K:=28) (f:=i.form) (by decide)).trans (TR i.ay g4)) (TS i.kind g5) ((bS (K:=28) (k:=xR 28 i 5) (by decide)).trans (TT i.bF g6)) (TU i.set g7) (TV i.cond g8) (TW i.av g9)
theorem L5 (i:IN) (hs:aa i.form=29) (hr:aJ i (cg 29)) (hg:i.av<=9223372036854775807):c_ 29 i=i:=by
 obtain⟨hf,h1,h2,h3,h4,h5,h6,h7,h8,h9,cZ⟩:=hr
 have g0:=bD (r:=i.rd) h1
 have g1:=bD (r:=i.rn) h2
 have g2:=bD (r:=i.rm) h3
 have g3:=bD (r:=i.ra) h4
 have g4:i.ay=0:=bQ h7
 have g5:i.kind=0:=(br rfl h9).1
 have g6:i.bF=0:=bQ (br rfl h9).2
 have g7:i.set=0:=h8.elim id fun e=>absurd (show false=true from e.2) Bool.false_ne_true
 have g8:i.cond=0:=h6.elim id fun e=>absurd (show false=true from e.1) Bool.false_ne_true
 have g9:i.av=0:=dy rfl h5
 exact bj rfl (TX i.rd g0) (TY i.rn g1) (TZ i.rm g2) (T0 i.ra g3) ((bu (K:=29) (f:=i.form) (by decide)).trans (T1 i.ay g4)) (T2 i.kind g5) ((bS (K:=29) (k:=xR 29 i 5) (by decide)).trans (T3 i.bF g6)) (T4 i.set g7) (T5 i.cond g8) (T6 i.av g9)
theorem L6 (i:IN) (hs:aa i.form=30) (hr:aJ i (cg 30)) (hg:i.av<=9223372036854775807):c_ 30 i=i:=by
 obtain⟨hf,h1,h2,h3,h4,h5,h6,h7,h8,h9,cZ⟩:=hr
 have g0:=bD (r:=i.rd) h1
 have g1:=bD (r:=i.rn) h2
 have g2:=bD (r:=i.rm) h3
 have g3:=bD (r:=i.ra) h4
 have g4:i.ay=0:=bQ h7
 have g5:i.kind=0:=(br rfl h9).1
 have g6:i.bF=0:=bQ (br rfl h9).2
 have g7:i.set=0:=h8.elim id fun e=>absurd (show false=true from e.2) Bool.false_ne_true
 have g8:i.cond=0:=h6.elim id fun e=>absurd (show false=true from e.1) Bool.false_ne_true
 have g9:i.av=0:=dy rfl h5
 exact bj rfl (T7 i.rd g0) (T8 i.rn g1) (T9 i.rm g2) (T' i.ra g3) ((bu (K:=30) (f:=i.form) (by decide)).trans (T_ i.ay g4)) (Ua i.kind g5) ((bS (K:=30) (k:=xR 30 i 5) (by decide)).trans (Ub i.bF g6)) (Uc i.set g7) (Ud i.cond g8) (Ue i.av g9)
theorem L7 (i:IN) (hs:aa i.form=31) (hr:aJ i (cg 31)) (hg:i.av<=9223372036854775807):c_ 31 i=i:=by
 obtain⟨hf,h1,h2,h3,h4,h5,h6,h7,h8,h9,cZ⟩:=hr
 have g0:=bD (r:=i.rd) h1
 have g1:=bD (r:=i.rn) h2
 have g2:=bD (r:=i.rm) h3
 have g3:=bD (r:=i.ra) h4
 have g4:i.ay=0:=bQ h7
 have g5:i.kind=0:=(br rfl h9).1
 have g6:i.bF=0:=bQ (br rfl h9).2
 have g7:i.set=0:=h8.elim id fun e=>absurd (show false=true from e.2) Bool.false_ne_true
 have g8:i.cond=0:=h6.elim id fun e=>absurd (show false=true from e.1) Bool.false_ne_true
 have g9:i.av=0:=dy rfl h5
 exact bj rfl (Uf i.rd g0) (Ug i.rn g1) (Uh i.rm g2) (Ui i.ra g3) ((bu (K:=31) (f:=i.form) (by decide)).trans (Uj i.ay g4)) (Uk i.kind g5) ((bS (K:=31) (k:=xR 31 i 5) (by decide)).trans (Ul i.bF g6)) (Um i.set g7) (Un i.cond g8) (Uo i.av g9)
theorem L8 (i:IN) (hs:aa i.form=32) (hr:aJ i (cg 32)) (hg:i.av<=9223372036854775807):c_ 32 i=i:=by
 obtain⟨hf,h1,h2,h3,h4,h5,h6,h7,h8,h9,cZ⟩:=hr
 have g0:=bD (r:=i.rd) h1
 have g1:=aE (r:=i.rn) h2
 have g2:=bD (r:=i.rm) h3
 have g3:=aE (r:=i.ra) h4
 have g4:i.ay=0:=bQ h7
 have g5:i.kind=0:=(br rfl h9).1
 have g6:i.bF=0:=bQ (br rfl h9).2
 have g7:i.set=0:=h8.elim id fun e=>absurd (show false=true from e.2) Bool.false_ne_true
 have g8:i.cond=0:=h6.elim id fun e=>absurd (show false=true from e.1) Bool.false_ne_true
 have g9:i.av=0:=dy rfl h5
 exact bj rfl (Up i.rd g0) (Uq i.rn g1) (Ur i.rm g2) (Us i.ra g3) ((bu (K:=32) (f:=i.form) (by decide)).trans (Ut i.ay g4)) (Uu i.kind g5) ((bS (K:=32) (k:=xR 32 i 5) (by decide)).trans (Uv i.bF g6)) (Uw i.set g7) (Ux i.cond g8) (Uy i.av g9)
theorem L9 (i:IN) (hs:aa i.form=33) (hr:aJ i (cg 33)) (hg:i.av<=9223372036854775807):c_ 33 i=i:=by
 obtain⟨hf,h1,h2,h3,h4,h5,h6,h7,h8,h9,cZ⟩:=hr
 have g0:=aE (r:=i.rd) h1
 have g1:=aE (r:=i.rn) h2
 have g2:=aE (r:=i.rm) h3
 have g3:=aE (r:=i.ra) h4
 have g4:-1048576<=i.ay/\i.ay<=1048574/\i.ay % 2=0:=fw (s:=2) (by decide) h7
 have g5:i.kind=0:=(br rfl h9).1
 have g6:i.bF=0:=bQ (br rfl h9).2
 have g7:i.set=0:=h8.elim id fun e=>absurd (show false=true from e.2) Bool.false_ne_true
 have g8:0<=i.cond/\i.cond<=13:=by rcases h6 with h6|h6<;>omega
 have g9:i.av=0:=dy rfl h5
 exact bj rfl (Uz i.rd g0) (UA i.rn g1) (UB i.rm g2) (UC i.ra g3) (UD i.ay g4) (UE i.kind g5) ((bS (K:=33) (k:=xR 33 i 5) (by decide)).trans (UF i.bF g6)) (UG i.set g7) (UH i.cond g8) (UI i.av g9)
end Go.Proofs.YtlgkljpgagfndaaGreatDoor.Pw

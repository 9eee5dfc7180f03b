/- What this claim is proved with: no condition. -/
import Derived.Test.YtlgkljpgagfndaaGreatDoorNv15
set_option maxRecDepth 100000
set_option linter.unusedVariables false
set_option linter.unusedSimpArgs false
namespace Go.Proofs.YtlgkljpgagfndaaGreatDoor.Pw
open Go Go.RowKit
theorem Pv (k v:Int) (h:cO k v):(if 0+ab v 2 3*2 ^ 2+ab v 0 2*2 ^ 0=0/\(k=1\/k=2) then 32 else 0+ab v 2 3*2 ^ 2+ab v 0 2*2 ^ 0)=v:=by
 unfold cO at h; unfold ab; (repeat' split)<;>omega
theorem lL {k v:Int} (h:cO k v):0<=k/\k < 4:=by unfold cO at h; omega
theorem WT (v:Int) (h:0<=v/\v < 8):0+ab v 0 3*2 ^ 0=v:=by
 unfold ab; (repeat' split)<;>omega
theorem WU (v:Int) (h:v=0):0=v:=by
 omega
theorem WV (v:Int) (h:0<=v/\v < 8):0+ab v 0 3*2 ^ 0=v:=by
 unfold ab; (repeat' split)<;>omega
theorem WW (v:Int) (h:v=0):0=v:=by
 omega
theorem WX (v:Int) (h:v=0):0=v:=by
 omega
theorem WY (v:Int) (h:v=0):0=v:=by
 omega
theorem WZ (v:Int) (h:v=0):0=v:=by
 omega
theorem W0 (v:Int) (h:v=0):0=v:=by
 omega
theorem W5 (v:Int) (h:v=0):0=v:=by
 omega
theorem W6 (f v:Int) (h:0<=v/\v<=32) (h1:f=1->v < 32) (h2:f=2\/f=3->0 < v) (h3:f=1\/f=2\/f=3):(if 1 < f/\0+ab v 0 5*2 ^ 0=0 then 32 else 0+ab v 0 5*2 ^ 0)=v:=by
 unfold ab; (repeat' split)<;>omega
theorem W7 (v:Int) (h:0<=v/\v < 8):0+ab v 0 3*2 ^ 0=v:=by
 unfold ab; (repeat' split)<;>omega
theorem W8 (v:Int) (h:0<=v/\v < 8):0+ab v 0 3*2 ^ 0=v:=by
 unfold ab; (repeat' split)<;>omega
theorem W9 (v:Int) (h:0<=v/\v < 8):0+ab v 0 3*2 ^ 0=v:=by
 unfold ab; (repeat' split)<;>omega
theorem W_ (v:Int) (h:v=0):0=v:=by
 omega
theorem Xa (v:Int) (h:v=0):0=v:=by
 omega
theorem Xb (v:Int) (h:v=0):0=v:=by
 omega
theorem Xc (v:Int) (h:v=0):0=v:=by
 omega
theorem Xd (v:Int) (h:v=0):0=v:=by
 omega
theorem Xe (v:Int) (h:v=0):0=v:=by
 omega
theorem Xf (v:Int) (h:v=0):0=v:=by
 omega
theorem Xg (v:Int) (h:0<=v/\v < 8):0+ab v 0 3*2 ^ 0=v:=by
 unfold ab; (repeat' split)<;>omega
theorem Xh (v:Int) (h:0<=v/\v < 8):0+ab v 0 3*2 ^ 0=v:=by
 unfold ab; (repeat' split)<;>omega
theorem Xi (v:Int) (h:v=0):0=v:=by
 omega
theorem Xj (v:Int) (h:v=0):0=v:=by
 omega
theorem Xk (v:Int) (h:0<=v/\v<=7/\v % 1=0):0+ab v 0 3*2 ^ 0=v:=by
 unfold ab; (repeat' split)<;>omega
theorem Xl (v:Int) (h:v=0):0=v:=by
 omega
theorem Xm (v:Int) (h:v=0):0=v:=by
 omega
theorem Xn (v:Int) (h:v=0):0=v:=by
 omega
theorem Xo (v:Int) (h:v=0):0=v:=by
 omega
theorem Xp (v:Int) (h:v=0):0=v:=by
 omega
theorem Xq (v:Int) (h:0<=v/\v < 8):0+ab v 0 3*2 ^ 0=v:=by
 unfold ab; (repeat' split)<;>omega
theorem Xr (v:Int) (h:v=0):0=v:=by
 omega
theorem Xs (v:Int) (h:v=0):0=v:=by
 omega
theorem Xt (v:Int) (h:v=0):0=v:=by
 omega
theorem Xu (v:Int) (h:0<=v/\v<=255/\v % 1=0):0+ab v 0 8*2 ^ 0=v:=by
 unfold ab; (repeat' split)<;>omega
theorem Xv (v:Int) (h:v=0):0=v:=by
 omega
theorem Xw (v:Int) (h:v=0):0=v:=by
 omega
theorem Xx (v:Int) (h:v=0):0=v:=by
 omega
theorem Xy (v:Int) (h:v=0):0=v:=by
 omega
theorem Xz (v:Int) (h:v=0):0=v:=by
 omega
theorem XA (v:Int) (h:0<=v/\v < 8):0+ab v 0 3*2 ^ 0=v:=by
 unfold ab; (repeat' split)<;>omega
theorem XB (v:Int) (h:v=0):0=v:=by
 omega
theorem XC (v:Int) (h:0<=v/\v < 8):0+ab v 0 3*2 ^ 0=v:=by
 unfold ab; (repeat' split)<;>omega
theorem XD (v:Int) (h:v=0):0=v:=by
 omega
theorem XE (v:Int) (h:v=0):0=v:=by
 omega
theorem XF (v:Int) (h:v=0):0=v:=by
 omega
theorem XG (v:Int) (h:v=0):0=v:=by
 omega
theorem XH (v:Int) (h:v=0):0=v:=by
 omega
theorem XI (v:Int) (h:v=0):0=v:=by
 omega
theorem XJ (v:Int) (h:v=0):0=v:=by
 omega
theorem XK (v:Int) (h:0<=v/\v < 15):0+ab v 3 1*2 ^ 3+ab v 0 3*2 ^ 0=v:=by
 unfold ab; (repeat' split)<;>omega
theorem XL (v:Int) (h:v=0):0=v:=by
 omega
theorem XM (v:Int) (h:0<=v/\v < 15):0+ab v 0 4*2 ^ 0=v:=by
 unfold ab; (repeat' split)<;>omega
theorem XN (v:Int) (h:v=0):0=v:=by
 omega
theorem XO (v:Int) (h:v=0):0=v:=by
 omega
theorem XP (v:Int) (h:v=0):0=v:=by
 omega
theorem XQ (v:Int) (h:v=0):0=v:=by
 omega
theorem XR (v:Int) (h:v=0):0=v:=by
 omega
theorem XT (v:Int) (h:v=0):0=v:=by
 omega
theorem XU (v:Int) (h:v=0):0=v:=by
 omega
theorem XV (v:Int) (h:v=0):0=v:=by
 omega
theorem XW (v:Int) (h:v=0):0=v:=by
 omega
theorem XX (v:Int) (h:0<=v/\v < 15):0+ab v 0 4*2 ^ 0=v:=by
 unfold ab; (repeat' split)<;>omega
theorem XY (v:Int) (h:v=0):0=v:=by
 omega
theorem XZ (v:Int) (h:v=0):0=v:=by
 omega
theorem X0 (v:Int) (h:v=0):0=v:=by
 omega
theorem X3 (v:Int) (h:v=0):0=v:=by
 omega
theorem X4 (v:Int) (h:v=0):0=v:=by
 omega
theorem X5 (v:Int) (h:v=0):0=v:=by
 omega
theorem X6 (v:Int) (h:v=0):0=v:=by
 omega
theorem X7 (v:Int) (h:0<=v/\v < 8):0+ab v 0 3*2 ^ 0=v:=by
 unfold ab; (repeat' split)<;>omega
theorem X8 (v:Int) (h:v=0):0=v:=by
 omega
theorem X9 (v:Int) (h:v=0):0=v:=by
 omega
theorem X' (v:Int) (h:v=0):0=v:=by
 omega
theorem X_ (v:Int) (h:0<=v/\v<=1020/\v % 4=0):0+ab v 2 8*2 ^ 2=v:=by
 unfold ab; (repeat' split)<;>omega
theorem Ya (v:Int) (h:v=0):0=v:=by
 omega
theorem Yb (v:Int) (h:v=0):0=v:=by
 omega
theorem Yc (v:Int) (h:v=0):0=v:=by
 omega
theorem Yd (v:Int) (h:v=0):0=v:=by
 omega
theorem Ye (v:Int) (h:v=0):0=v:=by
 omega
theorem Yf (v:Int) (h:0<=v/\v < 8):0+ab v 0 3*2 ^ 0=v:=by
 unfold ab; (repeat' split)<;>omega
theorem Yg (v:Int) (h:0<=v/\v < 8):0+ab v 0 3*2 ^ 0=v:=by
 unfold ab; (repeat' split)<;>omega
theorem Yh (v:Int) (h:v=0):0=v:=by
 omega
theorem Yi (v:Int) (h:v=0):0=v:=by
 omega
theorem Yj (v:Int) (h:0<=v/\v<=124/\v % 4=0):0+ab v 2 5*2 ^ 2=v:=by
 unfold ab; (repeat' split)<;>omega
theorem Yk (v:Int) (h:v=0):0=v:=by
 omega
theorem Yl (v:Int) (h:v=0):0=v:=by
 omega
theorem Ym (v:Int) (h:v=0):0=v:=by
 omega
theorem Yn (v:Int) (h:v=0):0=v:=by
 omega
theorem Yo (v:Int) (h:v=0):0=v:=by
 omega
theorem Px (v:Int) (h:v=0):0=v:=by
 omega
theorem Py (v:Int) (h:v=0):0=v:=by
 omega
theorem Pz (v:Int) (h:v=0):0=v:=by
 omega
theorem PA (v:Int) (h:v=0):0=v:=by
 omega
theorem PB (v:Int) (h:0<=v/\v<=508/\v % 4=0):0+ab v 2 7*2 ^ 2=v:=by
 unfold ab; (repeat' split)<;>omega
theorem PD (v:Int) (h:v=0):0=v:=by
 omega
theorem PE (v:Int) (h:v=0):0=v:=by
 omega
theorem PF (v:Int) (h:v=0):0=v:=by
 omega
theorem PG (v:Int) (h:v=0):0=v:=by
 omega
theorem PH (v:Int) (h:v=0):0=v:=by
 omega
theorem PI (v:Int) (h:v=0):0=v:=by
 omega
theorem PJ (v:Int) (h:v=0):0=v:=by
 omega
theorem PK (v:Int) (h:v=0):0=v:=by
 omega
theorem PL (v:Int) (h:v=0):0=v:=by
 omega
theorem PM (v:Int) (h:v=0):0=v:=by
 omega
theorem PN (v:Int) (h:v=0):0=v:=by
 omega
theorem PO (v:Int) (h:v=0):0=v:=by
 omega
theorem PQ (v:Int) (h:v=0):0=v:=by
 omega
theorem PR (v:Int) (h:v=0):0=v:=by
 omega
theorem PS (v:Int) (h:0 < v/\v / 16384 % 2*16384+v % 256=v):0+ab v 14 1*2 ^ 14+ab v 0 8*2 ^ 0=v:=by
 unfold ab; (repeat' split)<;>omega
theorem PT (v:Int) (h:v=0):0=v:=by
 omega
theorem PU (v:Int) (h:v=0):0=v:=by
 omega
theorem PW (v:Int) (h:v=0):0=v:=by
 omega
theorem PX (v:Int) (h:v=0):0=v:=by
 omega
theorem PY (v:Int) (h:v=0):0=v:=by
 omega
theorem PZ (v:Int) (h:v=0):0=v:=by
 omega
theorem P0 (v:Int) (h:v=0):0=v:=by
 omega
theorem P1 (v:Int) (h:v=0):0=v:=by
 omega
theorem P2 (v:Int) (h:v=0):0=v:=by
 omega
theorem P3 (v:Int) (h:0 < v/\v / 32768 % 2*32768+v % 256=v):0+ab v 15 1*2 ^ 15+ab v 0 8*2 ^ 0=v:=by
 unfold ab; (repeat' split)<;>omega
theorem P4 (v:Int) (h:v=0):0=v:=by
 omega
theorem P9 (v:Int) (h:v=0):0=v:=by
 omega
theorem P' (v:Int) (h:v=0):0=v:=by
 omega
theorem P_ (v:Int) (h:v=0):0=v:=by
 omega
theorem Qa (v:Int) (h:v=0):0=v:=by
 omega
theorem Qb (v:Int) (h:v=0):0=v:=by
 omega
theorem Qc (v:Int) (h:v=0):0=v:=by
 omega
theorem Qd (v:Int) (h:v=0):0=v:=by
 omega
theorem Qe (v:Int) (h:v=0):0=v:=by
 omega
theorem Qf (v:Int) (h:v=0):0=v:=by
 omega
theorem Qg (v:Int) (h:v=0):0=v:=by
 omega
theorem Qh (v:Int) (h:v=0):0=v:=by
 omega
theorem Qi (v:Int) (h:v=0):0=v:=by
 omega
theorem Qj (v:Int) (h:v=0):0=v:=by
 omega
theorem Qk (v:Int) (h:0<=v/\v<=255/\v % 1=0):0+ab v 0 8*2 ^ 0=v:=by
 unfold ab; (repeat' split)<;>omega
theorem Ql (v:Int) (h:v=0):0=v:=by
 omega
theorem Qm (v:Int) (h:v=0):0=v:=by
 omega
theorem Qn (v:Int) (h:v=0):0=v:=by
 omega
theorem Qo (v:Int) (h:v=0):0=v:=by
 omega
theorem Qp (v:Int) (h:v=0):0=v:=by
 omega
theorem Qq (v:Int) (h:v=0):0=v:=by
 omega
theorem Qr (v:Int) (h:v=0):0=v:=by
 omega
theorem Qs (v:Int) (h:v=0):0=v:=by
 omega
theorem Qt (v:Int) (h:v=0):0=v:=by
 omega
theorem Qu (v:Int) (h:-256<=v/\v<=254/\v % 2=0):dh (0+ab v 1 8*2 ^ 1) 9=v:=by
 unfold dh ab; (repeat' split)<;>omega
theorem Qv (v:Int) (h:v=0):0=v:=by
 omega
theorem Qw (v:Int) (h:v=0):0=v:=by
 omega
theorem Qx (v:Int) (h:v=0):0=v:=by
 omega
theorem Qy (v:Int) (h:0<=v/\v<=13):0+ab v 0 4*2 ^ 0=v:=by
 unfold ab; (repeat' split)<;>omega
theorem Qz (v:Int) (h:v=0):0=v:=by
 omega
theorem QA (v:Int) (h:v=0):0=v:=by
 omega
theorem QB (v:Int) (h:v=0):0=v:=by
 omega
theorem QC (v:Int) (h:v=0):0=v:=by
 omega
theorem QD (v:Int) (h:v=0):0=v:=by
 omega
theorem QE (v:Int) (h:-2048<=v/\v<=2046/\v % 2=0):dh (0+ab v 1 11*2 ^ 1) 12=v:=by
 unfold dh ab; (repeat' split)<;>omega
theorem QF (v:Int) (h:v=0):0=v:=by
 omega
theorem QG (v:Int) (h:v=0):0=v:=by
 omega
theorem QH (v:Int) (h:v=0):0=v:=by
 omega
theorem QI (v:Int) (h:v=0):0=v:=by
 omega
theorem QJ (v:Int) (h:v=0):0=v:=by
 omega
theorem QK (v:Int) (h:0<=v/\v < 15):0+ab v 0 4*2 ^ 0=v:=by
 unfold ab; (repeat' split)<;>omega
theorem QL (v:Int) (h:v=0):0=v:=by
 omega
theorem QM (v:Int) (h:v=0):0=v:=by
 omega
theorem QN (v:Int) (h:v=0):0=v:=by
 omega
theorem QO (v:Int) (h:0<=v/\v<=65535/\v % 1=0):0+ab v 11 1*2 ^ 11+ab v 12 4*2 ^ 12+ab v 8 3*2 ^ 8+ab v 0 8*2 ^ 0=v:=by
 unfold ab; (repeat' split)<;>omega
theorem QP (v:Int) (h:v=0):0=v:=by
 omega
theorem QQ (v:Int) (h:v=0):0=v:=by
 omega
theorem QR (v:Int) (h:v=0):0=v:=by
 omega
theorem QS (v:Int) (h:v=0):0=v:=by
 omega
theorem QT (v:Int) (h:v=0):0=v:=by
 omega
theorem QU (v:Int) (h:0<=v/\v < 15):0+ab v 0 4*2 ^ 0=v:=by
 unfold ab; (repeat' split)<;>omega
theorem QV (v:Int) (h:0<=v/\v < 15):0+ab v 0 4*2 ^ 0=v:=by
 unfold ab; (repeat' split)<;>omega
theorem QW (v:Int) (h:v=0):0=v:=by
 omega
theorem QX (v:Int) (h:v=0):0=v:=by
 omega
theorem QY (v:Int) (h:0<=v/\v<=4095/\v % 1=0):0+ab v 11 1*2 ^ 11+ab v 8 3*2 ^ 8+ab v 0 8*2 ^ 0=v:=by
 unfold ab; (repeat' split)<;>omega
theorem QZ (v:Int) (h:v=0):0=v:=by
 omega
theorem Q0 (v:Int) (h:v=0):0=v:=by
 omega
theorem Q1 (v:Int) (h:v=0\/v=1):0+ab v 0 1*2 ^ 0=v:=by
 unfold ab; (repeat' split)<;>omega
theorem Q2 (v:Int) (h:v=0):0=v:=by
 omega
theorem Q3 (v:Int) (h:v=0):0=v:=by
 omega
theorem Q4 (v:Int) (h:0<=v/\v < 15):0+ab v 0 4*2 ^ 0=v:=by
 unfold ab; (repeat' split)<;>omega
theorem Q5 (v:Int) (h:v=0):0=v:=by
 omega
theorem Q6 (v:Int) (h:v=0):0=v:=by
 omega
theorem Q7 (v:Int) (h:v=0):0=v:=by
 omega
theorem Q8 (v:Int) (h:0<=v/\v<=4095/\v % 1=0):0+ab v 11 1*2 ^ 11+ab v 8 3*2 ^ 8+ab v 0 8*2 ^ 0=v:=by
 unfold ab; (repeat' split)<;>omega
theorem Q9 (v:Int) (h:v=0):0=v:=by
 omega
theorem Q_ (v:Int) (h:v=0):0=v:=by
 omega
theorem Ra (v:Int) (h:v=0\/v=1):0+ab v 0 1*2 ^ 0=v:=by
 unfold ab; (repeat' split)<;>omega
theorem Rb (v:Int) (h:v=0):0=v:=by
 omega
theorem Rc (v:Int) (h:v=0):0=v:=by
 omega
theorem Rd (v:Int) (h:v=0):0=v:=by
 omega
theorem Re (v:Int) (h:0<=v/\v < 15):0+ab v 0 4*2 ^ 0=v:=by
 unfold ab; (repeat' split)<;>omega
theorem Rf (v:Int) (h:v=0):0=v:=by
 omega
theorem Rg (v:Int) (h:v=0):0=v:=by
 omega
theorem Rh (v:Int) (h:0<=v/\v<=4095/\v % 1=0):0+ab v 11 1*2 ^ 11+ab v 8 3*2 ^ 8+ab v 0 8*2 ^ 0=v:=by
 unfold ab; (repeat' split)<;>omega
theorem Ri (v:Int) (h:v=0):0=v:=by
 omega
theorem Rj (v:Int) (h:v=0):0=v:=by
 omega
theorem Rk (v:Int) (h:v=0):0=v:=by
 omega
theorem Rl (v:Int) (h:v=0):0=v:=by
 omega
theorem Rn (v:Int) (h:v=0):0=v:=by
 omega
theorem Ro (v:Int) (h:0<=v/\v < 15):0+ab v 0 4*2 ^ 0=v:=by
 unfold ab; (repeat' split)<;>omega
theorem Rp (v:Int) (h:0<=v/\v < 15):0+ab v 0 4*2 ^ 0=v:=by
 unfold ab; (repeat' split)<;>omega
theorem Rq (v:Int) (h:0<=v/\v < 15):0+ab v 0 4*2 ^ 0=v:=by
 unfold ab; (repeat' split)<;>omega
theorem Rr (v:Int) (h:v=0):0=v:=by
 omega
theorem Rs (v:Int) (h:v=0):0=v:=by
 omega
theorem Gp (v:Int) (h:0<=v/\v < 4):0+ab v 0 2*2 ^ 0=v:=by
 unfold ab; (repeat' split)<;>omega
theorem Rt (v:Int) (h:v=0\/v=1):0+ab v 0 1*2 ^ 0=v:=by
 unfold ab; (repeat' split)<;>omega
theorem Ru (v:Int) (h:v=0):0=v:=by
 omega
theorem Rv (v:Int) (h:v=0):0=v:=by
 omega
theorem Rw (v:Int) (h:0<=v/\v < 15):0+ab v 0 4*2 ^ 0=v:=by
 unfold ab; (repeat' split)<;>omega
theorem Rx (v:Int) (h:v=0):0=v:=by
 omega
theorem Ry (v:Int) (h:0<=v/\v < 15):0+ab v 0 4*2 ^ 0=v:=by
 unfold ab; (repeat' split)<;>omega
theorem Rz (v:Int) (h:v=0):0=v:=by
 omega
theorem RA (v:Int) (h:v=0):0=v:=by
 omega
theorem Gq (v:Int) (h:0<=v/\v < 4):0+ab v 0 2*2 ^ 0=v:=by
 unfold ab; (repeat' split)<;>omega
theorem RB (v:Int) (h:v=0\/v=1):0+ab v 0 1*2 ^ 0=v:=by
 unfold ab; (repeat' split)<;>omega
theorem RC (v:Int) (h:v=0):0=v:=by
 omega
theorem RD (v:Int) (h:v=0):0=v:=by
 omega
theorem RE (v:Int) (h:v=0):0=v:=by
 omega
theorem RF (v:Int) (h:0<=v/\v < 15):0+ab v 0 4*2 ^ 0=v:=by
 unfold ab; (repeat' split)<;>omega
theorem RG (v:Int) (h:0<=v/\v < 15):0+ab v 0 4*2 ^ 0=v:=by
 unfold ab; (repeat' split)<;>omega
theorem RH (v:Int) (h:v=0):0=v:=by
 omega
theorem RI (v:Int) (h:v=0):0=v:=by
 omega
theorem Gr (v:Int) (h:0<=v/\v < 4):0+ab v 0 2*2 ^ 0=v:=by
 unfold ab; (repeat' split)<;>omega
theorem RJ (v:Int) (h:v=0):0=v:=by
 omega
theorem RK (v:Int) (h:v=0):0=v:=by
 omega
theorem RL (v:Int) (h:v=0):0=v:=by
 omega
theorem RM (v:Int) (h:0<=v/\v < 15):0+ab v 0 4*2 ^ 0=v:=by
 unfold ab; (repeat' split)<;>omega
theorem RN (v:Int) (h:0<=v/\v < 15):0+ab v 0 4*2 ^ 0=v:=by
 unfold ab; (repeat' split)<;>omega
theorem RO (v:Int) (h:v=0):0=v:=by
 omega
theorem RP (v:Int) (h:v=0):0=v:=by
 omega
theorem RQ (v:Int) (h:0<=v/\v<=4095/\v % 1=0):0+ab v 11 1*2 ^ 11+ab v 8 3*2 ^ 8+ab v 0 8*2 ^ 0=v:=by
 unfold ab; (repeat' split)<;>omega
theorem RR (v:Int) (h:v=0):0=v:=by
 omega
theorem RT (v:Int) (h:v=0):0=v:=by
 omega
theorem RV (v:Int) (h:v=0):0=v:=by
 omega
theorem RW (v:Int) (h:v=0):0=v:=by
 omega
theorem RX (v:Int) (h:v=0):0=v:=by
 omega
theorem RY (v:Int) (h:0<=v/\v < 15):0+ab v 0 4*2 ^ 0=v:=by
 unfold ab; (repeat' split)<;>omega
theorem RZ (v:Int) (h:0<=v/\v < 15):0+ab v 0 4*2 ^ 0=v:=by
 unfold ab; (repeat' split)<;>omega
theorem R0 (v:Int) (h:v=0):0=v:=by
 omega
theorem R1 (v:Int) (h:v=0):0=v:=by
 omega
theorem R2 (v:Int) (h:0<=v/\v<=4095/\v % 1=0):0+ab v 0 12*2 ^ 0=v:=by
 unfold ab; (repeat' split)<;>omega
theorem R3 (v:Int) (h:v=0):0=v:=by
 omega
theorem R4 (v:Int) (h:v=0):0=v:=by
 omega
theorem R5 (v:Int) (h:v=0):0=v:=by
 omega
theorem R6 (v:Int) (h:v=0):0=v:=by
 omega
theorem R7 (v:Int) (h:v=0):0=v:=by
 omega
theorem R8 (v:Int) (h:0<=v/\v < 15):0+ab v 0 4*2 ^ 0=v:=by
 unfold ab; (repeat' split)<;>omega
theorem R9 (v:Int) (h:0<=v/\v < 15):0+ab v 0 4*2 ^ 0=v:=by
 unfold ab; (repeat' split)<;>omega
theorem R' (v:Int) (h:0<=v/\v < 15):0+ab v 0 4*2 ^ 0=v:=by
 unfold ab; (repeat' split)<;>omega
theorem R_ (v:Int) (h:v=0):0=v:=by
 omega
theorem Sa (v:Int) (h:v=0):0=v:=by
 omega
theorem Sb (v:Int) (h:v=0):0=v:=by
 omega
theorem Sc (v:Int) (h:0<=v/\v<=3/\v % 1=0):0+ab v 0 2*2 ^ 0=v:=by
 unfold ab; (repeat' split)<;>omega
theorem Sd (v:Int) (h:v=0):0=v:=by
 omega
theorem Se (v:Int) (h:v=0):0=v:=by
 omega
theorem Sf (v:Int) (h:v=0):0=v:=by
 omega
theorem Sg (v:Int) (h:0<=v/\v < 15):0+ab v 0 4*2 ^ 0=v:=by
 unfold ab; (repeat' split)<;>omega
theorem Sh (v:Int) (h:0<=v/\v < 15):0+ab v 0 4*2 ^ 0=v:=by
 unfold ab; (repeat' split)<;>omega
theorem Si (v:Int) (h:0<=v/\v < 15):0+ab v 0 4*2 ^ 0=v:=by
 unfold ab; (repeat' split)<;>omega
theorem Sj (v:Int) (h:v=0):0=v:=by
 omega
theorem Sk (v:Int) (h:v=0):0=v:=by
 omega
theorem Sl (v:Int) (h:v=0):0=v:=by
 omega
theorem Sm (v:Int) (h:v=0):0=v:=by
 omega
theorem Sn (v:Int) (h:v=0\/v=1):0+ab v 0 1*2 ^ 0=v:=by
 unfold ab; (repeat' split)<;>omega
theorem So (v:Int) (h:v=0):0=v:=by
 omega
theorem Sp (v:Int) (h:v=0):0=v:=by
 omega
theorem Sq (v:Int) (h:0<=v/\v < 15):0+ab v 0 4*2 ^ 0=v:=by
 unfold ab; (repeat' split)<;>omega
theorem Sr (v:Int) (h:0<=v/\v < 15):0+ab v 0 4*2 ^ 0=v:=by
 unfold ab; (repeat' split)<;>omega
theorem Su (v:Int) (h:0<=v/\v < 15):0+ab v 0 4*2 ^ 0=v:=by
 unfold ab; (repeat' split)<;>omega
theorem Sv (v:Int) (h:v=0):0=v:=by
 omega
theorem Sw (v:Int) (h:v=0):0=v:=by
 omega
theorem Sx (v:Int) (h:v=0):0=v:=by
 omega
theorem Sy (v:Int) (h:v=0):0=v:=by
 omega
theorem Sz (v:Int) (h:v=0):0=v:=by
 omega
theorem SA (v:Int) (h:v=0):0=v:=by
 omega
theorem SB (v:Int) (h:v=0):0=v:=by
 omega
theorem SC (v:Int) (h:0<=v/\v < 15):0+ab v 0 4*2 ^ 0=v:=by
 unfold ab; (repeat' split)<;>omega
theorem SD (v:Int) (h:0<=v/\v < 15):0+ab v 0 4*2 ^ 0=v:=by
 unfold ab; (repeat' split)<;>omega
theorem SE (v:Int) (h:0<=v/\v < 15):0+ab v 0 4*2 ^ 0=v:=by
 unfold ab; (repeat' split)<;>omega
theorem SF (v:Int) (h:0<=v/\v < 15):0+ab v 0 4*2 ^ 0=v:=by
 unfold ab; (repeat' split)<;>omega
theorem SG (v:Int) (h:v=0):0=v:=by
 omega
theorem SH (v:Int) (h:v=0):0=v:=by
 omega
theorem SI (v:Int) (h:v=0):0=v:=by
 omega
theorem SJ (v:Int) (h:v=0):0=v:=by
 omega
theorem SK (v:Int) (h:v=0):0=v:=by
 omega
theorem SL (v:Int) (h:v=0):0=v:=by
 omega
theorem SM (v:Int) (h:0<=v/\v < 15):0+ab v 0 4*2 ^ 0=v:=by
 unfold ab; (repeat' split)<;>omega
theorem SN (v:Int) (h:0<=v/\v < 15):0+ab v 0 4*2 ^ 0=v:=by
 unfold ab; (repeat' split)<;>omega
theorem SO (v:Int) (h:0<=v/\v < 15):0+ab v 0 4*2 ^ 0=v:=by
 unfold ab; (repeat' split)<;>omega
theorem SP (v:Int) (h:0<=v/\v < 15):0+ab v 0 4*2 ^ 0=v:=by
 unfold ab; (repeat' split)<;>omega
theorem SQ (v:Int) (h:v=0):0=v:=by
 omega
theorem SR (v:Int) (h:v=0):0=v:=by
 omega
theorem SS (v:Int) (h:v=0):0=v:=by
 omega
theorem SU (v:Int) (h:v=0):0=v:=by
 omega
theorem SV (v:Int) (h:v=0):0=v:=by
 omega
theorem SX (v:Int) (h:v=0):0=v:=by
 omega
theorem SY (v:Int) (h:0<=v/\v < 15):0+ab v 0 4*2 ^ 0=v:=by
 unfold ab; (repeat' split)<;>omega
theorem SZ (v:Int) (h:0<=v/\v < 15):0+ab v 0 4*2 ^ 0=v:=by
 unfold ab; (repeat' split)<;>omega
theorem S3 (v:Int) (h:0<=v/\v < 15):0+ab v 0 4*2 ^ 0=v:=by
 unfold ab; (repeat' split)<;>omega
theorem S4 (v:Int) (h:0<=v/\v < 15):0+ab v 0 4*2 ^ 0=v:=by
 unfold ab; (repeat' split)<;>omega
theorem S5 (v:Int) (h:v=0):0=v:=by
 omega
theorem S6 (v:Int) (h:v=0):0=v:=by
 omega
theorem S7 (v:Int) (h:v=0):0=v:=by
 omega
theorem S8 (v:Int) (h:v=0):0=v:=by
 omega
theorem S9 (v:Int) (h:v=0):0=v:=by
 omega
theorem S_ (v:Int) (h:v=0):0=v:=by
 omega
theorem Ta (v:Int) (h:0<=v/\v < 15):0+ab v 0 4*2 ^ 0=v:=by
 unfold ab; (repeat' split)<;>omega
theorem Tb (v:Int) (h:v=0):0=v:=by
 omega
theorem Tc (v:Int) (h:0<=v/\v < 15):ab v 0 4=v:=by
 unfold ab; split<;>omega
theorem Td (v:Int) (h:v=0):0=v:=by
 omega
theorem Te (v:Int) (h:v=0):0=v:=by
 omega
theorem Tf (v:Int) (h:v=0):0=v:=by
 omega
theorem Tg (v:Int) (h:v=0):0=v:=by
 omega
theorem Th (v:Int) (h:v=0):0=v:=by
 omega
theorem Ti (v:Int) (h:v=0):0=v:=by
 omega
theorem Tj (v:Int) (h:v=0):0=v:=by
 omega
theorem Tk (v:Int) (h:v=0):0=v:=by
 omega
theorem Tl (v:Int) (h:v=0):0=v:=by
 omega
theorem Tm (v:Int) (h:v=0):0=v:=by
 omega
theorem Tn (v:Int) (h:v=0):0=v:=by
 omega
theorem To (v:Int) (h:-1048576<=v/\v<=1048574/\v % 2=0):dh (0+ab v 20 1*2 ^ 20+ab v 12 6*2 ^ 12+ab v 18 1*2 ^ 18+ab v 19 1*2 ^ 19+ab v 1 11*2 ^ 1) 21=v:=by
 unfold dh ab; (repeat' split)<;>omega
theorem Tp (v:Int) (h:v=0):0=v:=by
 omega
theorem Tq (v:Int) (h:v=0):0=v:=by
 omega
theorem Ts (v:Int) (h:v=0):0=v:=by
 omega
theorem Tt (v:Int) (h:0<=v/\v<=13):0+ab v 0 4*2 ^ 0=v:=by
 unfold ab; (repeat' split)<;>omega
theorem Tu (v:Int) (h:v=0):0=v:=by
 omega
theorem Tv (v:Int) (h:v=0):0=v:=by
 omega
theorem Tw (v:Int) (h:v=0):0=v:=by
 omega
theorem Tx (v:Int) (h:v=0):0=v:=by
 omega
theorem Ty (v:Int) (h:v=0):0=v:=by
 omega
theorem Tz (v:Int) (h:v=0):0=v:=by
 omega
theorem TA (v:Int) (h:v=0):0=v:=by
 omega
theorem TB (v:Int) (h:v=0):0=v:=by
 omega
theorem TC (v:Int) (h:v=0):0=v:=by
 omega
theorem TD (v:Int) (h:v=0):0=v:=by
 omega
theorem aE {r:Int} (h:aG 0 r):r=0:=by unfold aG at h; omega
theorem eJ {r:Int} (h:aG 1 r):0<=r/\r < 8:=by unfold aG at h; omega
theorem mg {r:Int} (h:aG 2 r):0<=r/\r < 15:=by unfold aG at h; omega
theorem bD {r:Int} (h:aG 3 r):0<=r/\r < 15:=by unfold aG at h; omega
theorem bQ {a b n:Int} (h:dG a b 0 n):n=0:=(xh h).elim (fun e=>e.2) fun e=>absurd rfl e.1
theorem fi {a b s n:Int} (hs:s≠0) (h:dG a b s n):a<=n/\n<=b/\n % s=0:=(xh h).elim (fun e=>absurd e.1 hs) fun e=>e.2
theorem bw {K f x:Int} (h:K≠1/\K≠15/\K≠16/\K≠33/\K≠34):pV K f x=x:=by
 unfold pV; rw[if_neg h.2.1,if_neg h.2.2.1,if_neg h.2.2.2.1,if_neg h.2.2.2.2,if_neg (fun e=>h.1 e.1)]
theorem NJ {f x:Int}:pV 1 f x=if 1 < f/\x=0 then 32 else x:=by
 unfold pV; rw[if_neg (by decide),if_neg (by decide),if_neg (by decide),if_neg (by decide)]
 by_cases h:1 < f/\x=0
 ·rw[if_pos ⟨rfl,h⟩,if_pos h]
 ·rw[if_neg (fun e=>h e.2),if_neg h]
theorem bR {K k x:Int} (h:¬ (21<=K/\K<=23)):ND K k x=x:=if_neg fun e=>h ⟨e.1,e.2.1⟩
theorem tO {K k x:Int} (h:21<=K/\K<=23):ND K k x=if x=0/\(k=1\/k=2) then 32 else x:=by
 unfold ND
 by_cases g:x=0/\(k=1\/k=2)
 ·rw[if_pos ⟨h.1,h.2,g⟩,if_pos g]
 ·rw[if_neg (fun e=>g e.2.2),if_neg g]
theorem dn {i:IN} {r:RU} (hr:r.ar=0) (h:j4 i r):i.ar=0:=h.elim (fun e=>e.2) fun e=>absurd hr e.1
theorem AU {i:IN} {r:RU} (k:Nat) (hk:8<=k) (sI:k<=15) (hr:r.ar=2 ^ k+255) (h:j4 i r) (hg:i.ar<=9223372036854775807):0 < i.ar/\i.ar / 2 ^ k % 2*2 ^ k+i.ar % 256=i.ar:=by
 have hp:(0:Int) < 2 ^ k:=by have:=cK k; have:=Nat.two_pow_pos k; omega
 rcases h with h|h
 ·have:=hr.symm.trans h.1; omega
 ·exact⟨h.2.1,vd k hk sI i.ar r.ar hr h.2.1 hg h.2.2⟩
theorem br {i:IN} {r:RU} (hr:r.kind=false) (h:mF i r):i.kind=0/\dG r.b0 r.b1 r.b2 i.bG:=h.elim (fun e=>by rw[hr] at e; exact absurd e.1 Bool.false_ne_true) fun e=>e.2
theorem CW {i:IN} {r:RU} (hr:r.kind=true) (h:mF i r):cO i.kind i.bG:=h.elim (fun e=>e.2) fun e=>absurd hr e.1
theorem TE (i:IN) (hs:aa i.form=1) (hr:aI i (ch 1)) (hg:i.ar<=9223372036854775807):cY 1 i=i:=by
 obtain⟨hf,h1,h2,h3,h4,h5,h6,h7,h8,h9,cV⟩:=hr
 have g0:=eJ (r:=i.rd) h1
 have g1:=aE (r:=i.rn) h2
 have g2:=eJ (r:=i.rm) h3
 have g3:=aE (r:=i.ra) h4
 have g4:0<=i.az/\i.az<=32/\i.az % 1=0:=fi (s:=1) (by decide) h7
 have g5:i.kind=0:=(br rfl h9).1
 have g6:i.bG=0:=bQ (br rfl h9).2
 have g7:i.set=0:=h8.elim id fun e=>absurd (show false=true from e.2) Bool.false_ne_true
 have g8:i.cond=0:=h6.elim id fun e=>absurd (show false=true from e.1) Bool.false_ne_true
 have g9:i.ar=0:=dn rfl h5
 exact bg rfl (WT i.rd g0) (WU i.rn g1) (WV i.rm g2) (WW i.ra g3) (NJ.trans (W6 i.form i.az ⟨g4.1,g4.2.1⟩ cV.1 cV.2.1 (tK hf hs))) (WX i.kind g5) ((bR (K:=1) (k:=xR 1 i 5) (by decide)).trans (WY i.bG g6)) (WZ i.set g7) (W0 i.cond g8) (W5 i.ar g9)
theorem TF (i:IN) (hs:aa i.form=2) (hr:aI i (ch 2)) (hg:i.ar<=9223372036854775807):cY 2 i=i:=by
 obtain⟨hf,h1,h2,h3,h4,h5,h6,h7,h8,h9,cV⟩:=hr
 have g0:=eJ (r:=i.rd) h1
 have g1:=eJ (r:=i.rn) h2
 have g2:=eJ (r:=i.rm) h3
 have g3:=aE (r:=i.ra) h4
 have g4:i.az=0:=bQ h7
 have g5:i.kind=0:=(br rfl h9).1
 have g6:i.bG=0:=bQ (br rfl h9).2
 have g7:i.set=0:=h8.elim id fun e=>absurd (show false=true from e.2) Bool.false_ne_true
 have g8:i.cond=0:=h6.elim id fun e=>absurd (show false=true from e.1) Bool.false_ne_true
 have g9:i.ar=0:=dn rfl h5
 exact bg rfl (W7 i.rd g0) (W8 i.rn g1) (W9 i.rm g2) (W_ i.ra g3) ((bw (K:=2) (f:=i.form) (by decide)).trans (Xa i.az g4)) (Xb i.kind g5) ((bR (K:=2) (k:=xR 2 i 5) (by decide)).trans (Xc i.bG g6)) (Xd i.set g7) (Xe i.cond g8) (Xf i.ar g9)
theorem TG (i:IN) (hs:aa i.form=3) (hr:aI i (ch 3)) (hg:i.ar<=9223372036854775807):cY 3 i=i:=by
 obtain⟨hf,h1,h2,h3,h4,h5,h6,h7,h8,h9,cV⟩:=hr
 have g0:=eJ (r:=i.rd) h1
 have g1:=eJ (r:=i.rn) h2
 have g2:=aE (r:=i.rm) h3
 have g3:=aE (r:=i.ra) h4
 have g4:0<=i.az/\i.az<=7/\i.az % 1=0:=fi (s:=1) (by decide) h7
 have g5:i.kind=0:=(br rfl h9).1
 have g6:i.bG=0:=bQ (br rfl h9).2
 have g7:i.set=0:=h8.elim id fun e=>absurd (show false=true from e.2) Bool.false_ne_true
 have g8:i.cond=0:=h6.elim id fun e=>absurd (show false=true from e.1) Bool.false_ne_true
 have g9:i.ar=0:=dn rfl h5
 exact bg rfl (Xg i.rd g0) (Xh i.rn g1) (Xi i.rm g2) (Xj i.ra g3) ((bw (K:=3) (f:=i.form) (by decide)).trans (Xk i.az g4)) (Xl i.kind g5) ((bR (K:=3) (k:=xR 3 i 5) (by decide)).trans (Xm i.bG g6)) (Xn i.set g7) (Xo i.cond g8) (Xp i.ar g9)
theorem TH (i:IN) (hs:aa i.form=4) (hr:aI i (ch 4)) (hg:i.ar<=9223372036854775807):cY 4 i=i:=by
 obtain⟨hf,h1,h2,h3,h4,h5,h6,h7,h8,h9,cV⟩:=hr
 have g0:=eJ (r:=i.rd) h1
 have g1:=aE (r:=i.rn) h2
 have g2:=aE (r:=i.rm) h3
 have g3:=aE (r:=i.ra) h4
 have g4:0<=i.az/\i.az<=255/\i.az % 1=0:=fi (s:=1) (by decide) h7
 have g5:i.kind=0:=(br rfl h9).1
 have g6:i.bG=0:=bQ (br rfl h9).2
 have g7:i.set=0:=h8.elim id fun e=>absurd (show false=true from e.2) Bool.false_ne_true
 have g8:i.cond=0:=h6.elim id fun e=>absurd (show false=true from e.1) Bool.false_ne_true
 have g9:i.ar=0:=dn rfl h5
 exact bg rfl (Xq i.rd g0) (Xr i.rn g1) (Xs i.rm g2) (Xt i.ra g3) ((bw (K:=4) (f:=i.form) (by decide)).trans (Xu i.az g4)) (Xv i.kind g5) ((bR (K:=4) (k:=xR 4 i 5) (by decide)).trans (Xw i.bG g6)) (Xx i.set g7) (Xy i.cond g8) (Xz i.ar g9)
theorem TJ (i:IN) (hs:aa i.form=5) (hr:aI i (ch 5)) (hg:i.ar<=9223372036854775807):cY 5 i=i:=by
 obtain⟨hf,h1,h2,h3,h4,h5,h6,h7,h8,h9,cV⟩:=hr
 have g0:=eJ (r:=i.rd) h1
 have g1:=aE (r:=i.rn) h2
 have g2:=eJ (r:=i.rm) h3
 have g3:=aE (r:=i.ra) h4
 have g4:i.az=0:=bQ h7
 have g5:i.kind=0:=(br rfl h9).1
 have g6:i.bG=0:=bQ (br rfl h9).2
 have g7:i.set=0:=h8.elim id fun e=>absurd (show false=true from e.2) Bool.false_ne_true
 have g8:i.cond=0:=h6.elim id fun e=>absurd (show false=true from e.1) Bool.false_ne_true
 have g9:i.ar=0:=dn rfl h5
 exact bg rfl (XA i.rd g0) (XB i.rn g1) (XC i.rm g2) (XD i.ra g3) ((bw (K:=5) (f:=i.form) (by decide)).trans (XE i.az g4)) (XF i.kind g5) ((bR (K:=5) (k:=xR 5 i 5) (by decide)).trans (XG i.bG g6)) (XH i.set g7) (XI i.cond g8) (XJ i.ar g9)
theorem TK (i:IN) (hs:aa i.form=6) (hr:aI i (ch 6)) (hg:i.ar<=9223372036854775807):cY 6 i=i:=by
 obtain⟨hf,h1,h2,h3,h4,h5,h6,h7,h8,h9,cV⟩:=hr
 have g0:=mg (r:=i.rd) h1
 have g1:=aE (r:=i.rn) h2
 have g2:=mg (r:=i.rm) h3
 have g3:=aE (r:=i.ra) h4
 have g4:i.az=0:=bQ h7
 have g5:i.kind=0:=(br rfl h9).1
 have g6:i.bG=0:=bQ (br rfl h9).2
 have g7:i.set=0:=h8.elim id fun e=>absurd (show false=true from e.2) Bool.false_ne_true
 have g8:i.cond=0:=h6.elim id fun e=>absurd (show false=true from e.1) Bool.false_ne_true
 have g9:i.ar=0:=dn rfl h5
 exact bg rfl (XK i.rd g0) (XL i.rn g1) (XM i.rm g2) (XN i.ra g3) ((bw (K:=6) (f:=i.form) (by decide)).trans (XO i.az g4)) (XP i.kind g5) ((bR (K:=6) (k:=xR 6 i 5) (by decide)).trans (XQ i.bG g6)) (XR i.set g7) (XT i.cond g8) (XU i.ar g9)
theorem TL (i:IN) (hs:aa i.form=7) (hr:aI i (ch 7)) (hg:i.ar<=9223372036854775807):cY 7 i=i:=by
 obtain⟨hf,h1,h2,h3,h4,h5,h6,h7,h8,h9,cV⟩:=hr
 have g0:=aE (r:=i.rd) h1
 have g1:=aE (r:=i.rn) h2
 have g2:=mg (r:=i.rm) h3
 have g3:=aE (r:=i.ra) h4
 have g4:i.az=0:=bQ h7
 have g5:i.kind=0:=(br rfl h9).1
 have g6:i.bG=0:=bQ (br rfl h9).2
 have g7:i.set=0:=h8.elim id fun e=>absurd (show false=true from e.2) Bool.false_ne_true
 have g8:i.cond=0:=h6.elim id fun e=>absurd (show false=true from e.1) Bool.false_ne_true
 have g9:i.ar=0:=dn rfl h5
 exact bg rfl (XV i.rd g0) (XW i.rn g1) (XX i.rm g2) (XY i.ra g3) ((bw (K:=7) (f:=i.form) (by decide)).trans (XZ i.az g4)) (X0 i.kind g5) ((bR (K:=7) (k:=xR 7 i 5) (by decide)).trans (X3 i.bG g6)) (X4 i.set g7) (X5 i.cond g8) (X6 i.ar g9)
theorem TN (i:IN) (hs:aa i.form=8) (hr:aI i (ch 8)) (hg:i.ar<=9223372036854775807):cY 8 i=i:=by
 obtain⟨hf,h1,h2,h3,h4,h5,h6,h7,h8,h9,cV⟩:=hr
 have g0:=eJ (r:=i.rd) h1
 have g1:=aE (r:=i.rn) h2
 have g2:=aE (r:=i.rm) h3
 have g3:=aE (r:=i.ra) h4
 have g4:0<=i.az/\i.az<=1020/\i.az % 4=0:=fi (s:=4) (by decide) h7
 have g5:i.kind=0:=(br rfl h9).1
 have g6:i.bG=0:=bQ (br rfl h9).2
 have g7:i.set=0:=h8.elim id fun e=>absurd (show false=true from e.2) Bool.false_ne_true
 have g8:i.cond=0:=h6.elim id fun e=>absurd (show false=true from e.1) Bool.false_ne_true
 have g9:i.ar=0:=dn rfl h5
 exact bg rfl (X7 i.rd g0) (X8 i.rn g1) (X9 i.rm g2) (X' i.ra g3) ((bw (K:=8) (f:=i.form) (by decide)).trans (X_ i.az g4)) (Ya i.kind g5) ((bR (K:=8) (k:=xR 8 i 5) (by decide)).trans (Yb i.bG g6)) (Yc i.set g7) (Yd i.cond g8) (Ye i.ar g9)
theorem TO (i:IN) (hs:aa i.form=9) (hr:aI i (ch 9)) (hg:i.ar<=9223372036854775807):cY 9 i=i:=by
 obtain⟨hf,h1,h2,h3,h4,h5,h6,h7,h8,h9,cV⟩:=hr
 have g0:=eJ (r:=i.rd) h1
 have g1:=eJ (r:=i.rn) h2
 have g2:=aE (r:=i.rm) h3
 have g3:=aE (r:=i.ra) h4
 have g4:0<=i.az/\i.az<=124/\i.az % 4=0:=fi (s:=4) (by decide) h7
 have g5:i.kind=0:=(br rfl h9).1
 have g6:i.bG=0:=bQ (br rfl h9).2
 have g7:i.set=0:=h8.elim id fun e=>absurd (show false=true from e.2) Bool.false_ne_true
 have g8:i.cond=0:=h6.elim id fun e=>absurd (show false=true from e.1) Bool.false_ne_true
 have g9:i.ar=0:=dn rfl h5
 exact bg rfl (Yf i.rd g0) (Yg i.rn g1) (Yh i.rm g2) (Yi i.ra g3) ((bw (K:=9) (f:=i.form) (by decide)).trans (Yj i.az g4)) (Yk i.kind g5) ((bR (K:=9) (k:=xR 9 i 5) (by decide)).trans (Yl i.bG g6)) (Ym i.set g7) (Yn i.cond g8) (Yo i.ar g9)
theorem KV (i:IN) (hs:aa i.form=10) (hr:aI i (ch 10)) (hg:i.ar<=9223372036854775807):cY 10 i=i:=by
 obtain⟨hf,h1,h2,h3,h4,h5,h6,h7,h8,h9,cV⟩:=hr
 have g0:=aE (r:=i.rd) h1
 have g1:=aE (r:=i.rn) h2
 have g2:=aE (r:=i.rm) h3
 have g3:=aE (r:=i.ra) h4
 have g4:0<=i.az/\i.az<=508/\i.az % 4=0:=fi (s:=4) (by decide) h7
 have g5:i.kind=0:=(br rfl h9).1
 have g6:i.bG=0:=bQ (br rfl h9).2
 have g7:i.set=0:=h8.elim id fun e=>absurd (show false=true from e.2) Bool.false_ne_true
 have g8:i.cond=0:=h6.elim id fun e=>absurd (show false=true from e.1) Bool.false_ne_true
 have g9:i.ar=0:=dn rfl h5
 exact bg rfl (Px i.rd g0) (Py i.rn g1) (Pz i.rm g2) (PA i.ra g3) ((bw (K:=10) (f:=i.form) (by decide)).trans (PB i.az g4)) (PD i.kind g5) ((bR (K:=10) (k:=xR 10 i 5) (by decide)).trans (PE i.bG g6)) (PF i.set g7) (PG i.cond g8) (PH i.ar g9)
theorem KW (i:IN) (hs:aa i.form=11) (hr:aI i (ch 11)) (hg:i.ar<=9223372036854775807):cY 11 i=i:=by
 obtain⟨hf,h1,h2,h3,h4,h5,h6,h7,h8,h9,cV⟩:=hr
 have g0:=aE (r:=i.rd) h1
 have g1:=aE (r:=i.rn) h2
 have g2:=aE (r:=i.rm) h3
 have g3:=aE (r:=i.ra) h4
 have g4:i.az=0:=bQ h7
 have g5:i.kind=0:=(br rfl h9).1
 have g6:i.bG=0:=bQ (br rfl h9).2
 have g7:i.set=0:=h8.elim id fun e=>absurd (show false=true from e.2) Bool.false_ne_true
 have g8:i.cond=0:=h6.elim id fun e=>absurd (show false=true from e.1) Bool.false_ne_true
 have g9:0 < i.ar/\i.ar / 16384 % 2*16384+i.ar % 256=i.ar:=AU 14 (by decide) (by decide) rfl h5 hg
 exact bg rfl (PI i.rd g0) (PJ i.rn g1) (PK i.rm g2) (PL i.ra g3) ((bw (K:=11) (f:=i.form) (by decide)).trans (PM i.az g4)) (PN i.kind g5) ((bR (K:=11) (k:=xR 11 i 5) (by decide)).trans (PO i.bG g6)) (PQ i.set g7) (PR i.cond g8) (PS i.ar g9)
theorem KX (i:IN) (hs:aa i.form=12) (hr:aI i (ch 12)) (hg:i.ar<=9223372036854775807):cY 12 i=i:=by
 obtain⟨hf,h1,h2,h3,h4,h5,h6,h7,h8,h9,cV⟩:=hr
 have g0:=aE (r:=i.rd) h1
 have g1:=aE (r:=i.rn) h2
 have g2:=aE (r:=i.rm) h3
 have g3:=aE (r:=i.ra) h4
 have g4:i.az=0:=bQ h7
 have g5:i.kind=0:=(br rfl h9).1
 have g6:i.bG=0:=bQ (br rfl h9).2
 have g7:i.set=0:=h8.elim id fun e=>absurd (show false=true from e.2) Bool.false_ne_true
 have g8:i.cond=0:=h6.elim id fun e=>absurd (show false=true from e.1) Bool.false_ne_true
 have g9:0 < i.ar/\i.ar / 32768 % 2*32768+i.ar % 256=i.ar:=AU 15 (by decide) (by decide) rfl h5 hg
 exact bg rfl (PT i.rd g0) (PU i.rn g1) (PW i.rm g2) (PX i.ra g3) ((bw (K:=12) (f:=i.form) (by decide)).trans (PY i.az g4)) (PZ i.kind g5) ((bR (K:=12) (k:=xR 12 i 5) (by decide)).trans (P0 i.bG g6)) (P1 i.set g7) (P2 i.cond g8) (P3 i.ar g9)
theorem KY (i:IN) (hs:aa i.form=13) (hr:aI i (ch 13)) (hg:i.ar<=9223372036854775807):cY 13 i=i:=by
 obtain⟨hf,h1,h2,h3,h4,h5,h6,h7,h8,h9,cV⟩:=hr
 have g0:=aE (r:=i.rd) h1
 have g1:=aE (r:=i.rn) h2
 have g2:=aE (r:=i.rm) h3
 have g3:=aE (r:=i.ra) h4
 have g4:i.az=0:=bQ h7
 have g5:i.kind=0:=(br rfl h9).1
 have g6:i.bG=0:=bQ (br rfl h9).2
 have g7:i.set=0:=h8.elim id fun e=>absurd (show false=true from e.2) Bool.false_ne_true
 have g8:i.cond=0:=h6.elim id fun e=>absurd (show false=true from e.1) Bool.false_ne_true
 have g9:i.ar=0:=dn rfl h5
 exact bg rfl (P4 i.rd g0) (P9 i.rn g1) (P' i.rm g2) (P_ i.ra g3) ((bw (K:=13) (f:=i.form) (by decide)).trans (Qa i.az g4)) (Qb i.kind g5) ((bR (K:=13) (k:=xR 13 i 5) (by decide)).trans (Qc i.bG g6)) (Qd i.set g7) (Qe i.cond g8) (Qf i.ar g9)
theorem KZ (i:IN) (hs:aa i.form=14) (hr:aI i (ch 14)) (hg:i.ar<=9223372036854775807):cY 14 i=i:=by
 obtain⟨hf,h1,h2,h3,h4,h5,h6,h7,h8,h9,cV⟩:=hr
 have g0:=aE (r:=i.rd) h1
 have g1:=aE (r:=i.rn) h2
 have g2:=aE (r:=i.rm) h3
 have g3:=aE (r:=i.ra) h4
 have g4:0<=i.az/\i.az<=255/\i.az % 1=0:=fi (s:=1) (by decide) h7
 have g5:i.kind=0:=(br rfl h9).1
 have g6:i.bG=0:=bQ (br rfl h9).2
 have g7:i.set=0:=h8.elim id fun e=>absurd (show false=true from e.2) Bool.false_ne_true
 have g8:i.cond=0:=h6.elim id fun e=>absurd (show false=true from e.1) Bool.false_ne_true
 have g9:i.ar=0:=dn rfl h5
 exact bg rfl (Qg i.rd g0) (Qh i.rn g1) (Qi i.rm g2) (Qj i.ra g3) ((bw (K:=14) (f:=i.form) (by decide)).trans (Qk i.az g4)) (Ql i.kind g5) ((bR (K:=14) (k:=xR 14 i 5) (by decide)).trans (Qm i.bG g6)) (Qn i.set g7) (Qo i.cond g8) (Qp i.ar g9)
theorem K0 (i:IN) (hs:aa i.form=15) (hr:aI i (ch 15)) (hg:i.ar<=9223372036854775807):cY 15 i=i:=by
 obtain⟨hf,h1,h2,h3,h4,h5,h6,h7,h8,h9,cV⟩:=hr
 have g0:=aE (r:=i.rd) h1
 have g1:=aE (r:=i.rn) h2
 have g2:=aE (r:=i.rm) h3
 have g3:=aE (r:=i.ra) h4
 have g4:-256<=i.az/\i.az<=254/\i.az % 2=0:=fi (s:=2) (by decide) h7
 have g5:i.kind=0:=(br rfl h9).1
 have g6:i.bG=0:=bQ (br rfl h9).2
 have g7:i.set=0:=h8.elim id fun e=>absurd (show false=true from e.2) Bool.false_ne_true
 have g8:0<=i.cond/\i.cond<=13:=by rcases h6 with h6|h6<;>omega
 have g9:i.ar=0:=dn rfl h5
 exact bg rfl (Qq i.rd g0) (Qr i.rn g1) (Qs i.rm g2) (Qt i.ra g3) (Qu i.az g4) (Qv i.kind g5) ((bR (K:=15) (k:=xR 15 i 5) (by decide)).trans (Qw i.bG g6)) (Qx i.set g7) (Qy i.cond g8) (Qz i.ar g9)
theorem K1 (i:IN) (hs:aa i.form=16) (hr:aI i (ch 16)) (hg:i.ar<=9223372036854775807):cY 16 i=i:=by
 obtain⟨hf,h1,h2,h3,h4,h5,h6,h7,h8,h9,cV⟩:=hr
 have g0:=aE (r:=i.rd) h1
 have g1:=aE (r:=i.rn) h2
 have g2:=aE (r:=i.rm) h3
 have g3:=aE (r:=i.ra) h4
 have g4:-2048<=i.az/\i.az<=2046/\i.az % 2=0:=fi (s:=2) (by decide) h7
 have g5:i.kind=0:=(br rfl h9).1
 have g6:i.bG=0:=bQ (br rfl h9).2
 have g7:i.set=0:=h8.elim id fun e=>absurd (show false=true from e.2) Bool.false_ne_true
 have g8:i.cond=0:=h6.elim id fun e=>absurd (show false=true from e.1) Bool.false_ne_true
 have g9:i.ar=0:=dn rfl h5
 exact bg rfl (QA i.rd g0) (QB i.rn g1) (QC i.rm g2) (QD i.ra g3) (QE i.az g4) (QF i.kind g5) ((bR (K:=16) (k:=xR 16 i 5) (by decide)).trans (QG i.bG g6)) (QH i.set g7) (QI i.cond g8) (QJ i.ar g9)
theorem K2 (i:IN) (hs:aa i.form=17) (hr:aI i (ch 17)) (hg:i.ar<=9223372036854775807):cY 17 i=i:=by
 obtain⟨hf,h1,h2,h3,h4,h5,h6,h7,h8,h9,cV⟩:=hr
 have g0:=bD (r:=i.rd) h1
 have g1:=aE (r:=i.rn) h2
 have g2:=aE (r:=i.rm) h3
 have g3:=aE (r:=i.ra) h4
 have g4:0<=i.az/\i.az<=65535/\i.az % 1=0:=fi (s:=1) (by decide) h7
 have g5:i.kind=0:=(br rfl h9).1
 have g6:i.bG=0:=bQ (br rfl h9).2
 have g7:i.set=0:=h8.elim id fun e=>absurd (show false=true from e.2) Bool.false_ne_true
 have g8:i.cond=0:=h6.elim id fun e=>absurd (show false=true from e.1) Bool.false_ne_true
 have g9:i.ar=0:=dn rfl h5
 exact bg rfl (QK i.rd g0) (QL i.rn g1) (QM i.rm g2) (QN i.ra g3) ((bw (K:=17) (f:=i.form) (by decide)).trans (QO i.az g4)) (QP i.kind g5) ((bR (K:=17) (k:=xR 17 i 5) (by decide)).trans (QQ i.bG g6)) (QR i.set g7) (QS i.cond g8) (QT i.ar g9)
theorem K3 (i:IN) (hs:aa i.form=18) (hr:aI i (ch 18)) (hg:i.ar<=9223372036854775807):cY 18 i=i:=by
 obtain⟨hf,h1,h2,h3,h4,h5,h6,h7,h8,h9,cV⟩:=hr
 have g0:=bD (r:=i.rd) h1
 have g1:=bD (r:=i.rn) h2
 have g2:=aE (r:=i.rm) h3
 have g3:=aE (r:=i.ra) h4
 have g4:0<=i.az/\i.az<=4095/\i.az % 1=0:=fi (s:=1) (by decide) h7
 have g5:i.kind=0:=(br rfl h9).1
 have g6:i.bG=0:=bQ (br rfl h9).2
 have g7:i.set=0\/i.set=1:=h8.imp id fun e=>e.1
 have g8:i.cond=0:=h6.elim id fun e=>absurd (show false=true from e.1) Bool.false_ne_true
 have g9:i.ar=0:=dn rfl h5
 exact bg rfl (QU i.rd g0) (QV i.rn g1) (QW i.rm g2) (QX i.ra g3) ((bw (K:=18) (f:=i.form) (by decide)).trans (QY i.az g4)) (QZ i.kind g5) ((bR (K:=18) (k:=xR 18 i 5) (by decide)).trans (Q0 i.bG g6)) (Q1 i.set g7) (Q2 i.cond g8) (Q3 i.ar g9)
theorem K4 (i:IN) (hs:aa i.form=19) (hr:aI i (ch 19)) (hg:i.ar<=9223372036854775807):cY 19 i=i:=by
 obtain⟨hf,h1,h2,h3,h4,h5,h6,h7,h8,h9,cV⟩:=hr
 have g0:=bD (r:=i.rd) h1
 have g1:=aE (r:=i.rn) h2
 have g2:=aE (r:=i.rm) h3
 have g3:=aE (r:=i.ra) h4
 have g4:0<=i.az/\i.az<=4095/\i.az % 1=0:=fi (s:=1) (by decide) h7
 have g5:i.kind=0:=(br rfl h9).1
 have g6:i.bG=0:=bQ (br rfl h9).2
 have g7:i.set=0\/i.set=1:=h8.imp id fun e=>e.1
 have g8:i.cond=0:=h6.elim id fun e=>absurd (show false=true from e.1) Bool.false_ne_true
 have g9:i.ar=0:=dn rfl h5
 exact bg rfl (Q4 i.rd g0) (Q5 i.rn g1) (Q6 i.rm g2) (Q7 i.ra g3) ((bw (K:=19) (f:=i.form) (by decide)).trans (Q8 i.az g4)) (Q9 i.kind g5) ((bR (K:=19) (k:=xR 19 i 5) (by decide)).trans (Q_ i.bG g6)) (Ra i.set g7) (Rb i.cond g8) (Rc i.ar g9)
theorem K5 (i:IN) (hs:aa i.form=20) (hr:aI i (ch 20)) (hg:i.ar<=9223372036854775807):cY 20 i=i:=by
 obtain⟨hf,h1,h2,h3,h4,h5,h6,h7,h8,h9,cV⟩:=hr
 have g0:=aE (r:=i.rd) h1
 have g1:=bD (r:=i.rn) h2
 have g2:=aE (r:=i.rm) h3
 have g3:=aE (r:=i.ra) h4
 have g4:0<=i.az/\i.az<=4095/\i.az % 1=0:=fi (s:=1) (by decide) h7
 have g5:i.kind=0:=(br rfl h9).1
 have g6:i.bG=0:=bQ (br rfl h9).2
 have g7:i.set=0:=h8.elim id fun e=>absurd (show false=true from e.2) Bool.false_ne_true
 have g8:i.cond=0:=h6.elim id fun e=>absurd (show false=true from e.1) Bool.false_ne_true
 have g9:i.ar=0:=dn rfl h5
 exact bg rfl (Rd i.rd g0) (Re i.rn g1) (Rf i.rm g2) (Rg i.ra g3) ((bw (K:=20) (f:=i.form) (by decide)).trans (Rh i.az g4)) (Ri i.kind g5) ((bR (K:=20) (k:=xR 20 i 5) (by decide)).trans (Rj i.bG g6)) (Rk i.set g7) (Rl i.cond g8) (Rn i.ar g9)
theorem K6 (i:IN) (hs:aa i.form=21) (hr:aI i (ch 21)) (hg:i.ar<=9223372036854775807):cY 21 i=i:=by
 obtain⟨hf,h1,h2,h3,h4,h5,h6,h7,h8,h9,cV⟩:=hr
 have g0:=bD (r:=i.rd) h1
 have g1:=bD (r:=i.rn) h2
 have g2:=bD (r:=i.rm) h3
 have g3:=aE (r:=i.ra) h4
 have g4:i.az=0:=bQ h7
 have g6:cO i.kind i.bG:=CW rfl h9
 have g5:=lL g6
 have g7:i.set=0\/i.set=1:=h8.imp id fun e=>e.1
 have g8:i.cond=0:=h6.elim id fun e=>absurd (show false=true from e.1) Bool.false_ne_true
 have g9:i.ar=0:=dn rfl h5
 exact bg rfl (Ro i.rd g0) (Rp i.rn g1) (Rq i.rm g2) (Rr i.ra g3) ((bw (K:=21) (f:=i.form) (by decide)).trans (Rs i.az g4)) (Gp i.kind g5) ((tO (K:=21) (k:=xR 21 i 5) (by decide)).trans ((congrArg (fun k=>if xR 21 i 6=0/\(k=1\/k=2) then 32 else xR 21 i 6) (Gp i.kind g5)).trans (Pv i.kind i.bG g6))) (Rt i.set g7) (Ru i.cond g8) (Rv i.ar g9)
theorem K7 (i:IN) (hs:aa i.form=22) (hr:aI i (ch 22)) (hg:i.ar<=9223372036854775807):cY 22 i=i:=by
 obtain⟨hf,h1,h2,h3,h4,h5,h6,h7,h8,h9,cV⟩:=hr
 have g0:=bD (r:=i.rd) h1
 have g1:=aE (r:=i.rn) h2
 have g2:=bD (r:=i.rm) h3
 have g3:=aE (r:=i.ra) h4
 have g4:i.az=0:=bQ h7
 have g6:cO i.kind i.bG:=CW rfl h9
 have g5:=lL g6
 have g7:i.set=0\/i.set=1:=h8.imp id fun e=>e.1
 have g8:i.cond=0:=h6.elim id fun e=>absurd (show false=true from e.1) Bool.false_ne_true
 have g9:i.ar=0:=dn rfl h5
 exact bg rfl (Rw i.rd g0) (Rx i.rn g1) (Ry i.rm g2) (Rz i.ra g3) ((bw (K:=22) (f:=i.form) (by decide)).trans (RA i.az g4)) (Gq i.kind g5) ((tO (K:=22) (k:=xR 22 i 5) (by decide)).trans ((congrArg (fun k=>if xR 22 i 6=0/\(k=1\/k=2) then 32 else xR 22 i 6) (Gq i.kind g5)).trans (Pv i.kind i.bG g6))) (RB i.set g7) (RC i.cond g8) (RD i.ar g9)
theorem K8 (i:IN) (hs:aa i.form=23) (hr:aI i (ch 23)) (hg:i.ar<=9223372036854775807):cY 23 i=i:=by
 obtain⟨hf,h1,h2,h3,h4,h5,h6,h7,h8,h9,cV⟩:=hr
 have g0:=aE (r:=i.rd) h1
 have g1:=bD (r:=i.rn) h2
 have g2:=bD (r:=i.rm) h3
 have g3:=aE (r:=i.ra) h4
 have g4:i.az=0:=bQ h7
 have g6:cO i.kind i.bG:=CW rfl h9
 have g5:=lL g6
 have g7:i.set=0:=h8.elim id fun e=>absurd (show false=true from e.2) Bool.false_ne_true
 have g8:i.cond=0:=h6.elim id fun e=>absurd (show false=true from e.1) Bool.false_ne_true
 have g9:i.ar=0:=dn rfl h5
 exact bg rfl (RE i.rd g0) (RF i.rn g1) (RG i.rm g2) (RH i.ra g3) ((bw (K:=23) (f:=i.form) (by decide)).trans (RI i.az g4)) (Gr i.kind g5) ((tO (K:=23) (k:=xR 23 i 5) (by decide)).trans ((congrArg (fun k=>if xR 23 i 6=0/\(k=1\/k=2) then 32 else xR 23 i 6) (Gr i.kind g5)).trans (Pv i.kind i.bG g6))) (RJ i.set g7) (RK i.cond g8) (RL i.ar g9)
theorem K9 (i:IN) (hs:aa i.form=24) (hr:aI i (ch 24)) (hg:i.ar<=9223372036854775807):cY 24 i=i:=by
 obtain⟨hf,h1,h2,h3,h4,h5,h6,h7,h8,h9,cV⟩:=hr
 have g0:=bD (r:=i.rd) h1
 have g1:=bD (r:=i.rn) h2
 have g2:=aE (r:=i.rm) h3
 have g3:=aE (r:=i.ra) h4
 have g4:0<=i.az/\i.az<=4095/\i.az % 1=0:=fi (s:=1) (by decide) h7
 have g5:i.kind=0:=(br rfl h9).1
 have g6:i.bG=0:=bQ (br rfl h9).2
 have g7:i.set=0:=h8.elim id fun e=>absurd (show false=true from e.2) Bool.false_ne_true
 have g8:i.cond=0:=h6.elim id fun e=>absurd (show false=true from e.1) Bool.false_ne_true
 have g9:i.ar=0:=dn rfl h5
 exact bg rfl (RM i.rd g0) (RN i.rn g1) (RO i.rm g2) (RP i.ra g3) ((bw (K:=24) (f:=i.form) (by decide)).trans (RQ i.az g4)) (RR i.kind g5) ((bR (K:=24) (k:=xR 24 i 5) (by decide)).trans (RT i.bG g6)) (RV i.set g7) (RW i.cond g8) (RX i.ar g9)
theorem K_ (i:IN) (hs:aa i.form=25) (hr:aI i (ch 25)) (hg:i.ar<=9223372036854775807):cY 25 i=i:=by
 obtain⟨hf,h1,h2,h3,h4,h5,h6,h7,h8,h9,cV⟩:=hr
 have g0:=bD (r:=i.rd) h1
 have g1:=mg (r:=i.rn) h2
 have g2:=aE (r:=i.rm) h3
 have g3:=aE (r:=i.ra) h4
 have g4:0<=i.az/\i.az<=4095/\i.az % 1=0:=fi (s:=1) (by decide) h7
 have g5:i.kind=0:=(br rfl h9).1
 have g6:i.bG=0:=bQ (br rfl h9).2
 have g7:i.set=0:=h8.elim id fun e=>absurd (show false=true from e.2) Bool.false_ne_true
 have g8:i.cond=0:=h6.elim id fun e=>absurd (show false=true from e.1) Bool.false_ne_true
 have g9:i.ar=0:=dn rfl h5
 exact bg rfl (RY i.rd g0) (RZ i.rn g1) (R0 i.rm g2) (R1 i.ra g3) ((bw (K:=25) (f:=i.form) (by decide)).trans (R2 i.az g4)) (R3 i.kind g5) ((bR (K:=25) (k:=xR 25 i 5) (by decide)).trans (R4 i.bG g6)) (R5 i.set g7) (R6 i.cond g8) (R7 i.ar g9)
theorem La (i:IN) (hs:aa i.form=26) (hr:aI i (ch 26)) (hg:i.ar<=9223372036854775807):cY 26 i=i:=by
 obtain⟨hf,h1,h2,h3,h4,h5,h6,h7,h8,h9,cV⟩:=hr
 have g0:=bD (r:=i.rd) h1
 have g1:=mg (r:=i.rn) h2
 have g2:=bD (r:=i.rm) h3
 have g3:=aE (r:=i.ra) h4
 have g4:i.az=0:=bQ h7
 have g5:i.kind=0:=(br rfl h9).1
 have g6:0<=i.bG/\i.bG<=3/\i.bG % 1=0:=fi (s:=1) (by decide) (br rfl h9).2
 have g7:i.set=0:=h8.elim id fun e=>absurd (show false=true from e.2) Bool.false_ne_true
 have g8:i.cond=0:=h6.elim id fun e=>absurd (show false=true from e.1) Bool.false_ne_true
 have g9:i.ar=0:=dn rfl h5
 exact bg rfl (R8 i.rd g0) (R9 i.rn g1) (R' i.rm g2) (R_ i.ra g3) ((bw (K:=26) (f:=i.form) (by decide)).trans (Sa i.az g4)) (Sb i.kind g5) ((bR (K:=26) (k:=xR 26 i 5) (by decide)).trans (Sc i.bG g6)) (Sd i.set g7) (Se i.cond g8) (Sf i.ar g9)
theorem Lb (i:IN) (hs:aa i.form=27) (hr:aI i (ch 27)) (hg:i.ar<=9223372036854775807):cY 27 i=i:=by
 obtain⟨hf,h1,h2,h3,h4,h5,h6,h7,h8,h9,cV⟩:=hr
 have g0:=bD (r:=i.rd) h1
 have g1:=bD (r:=i.rn) h2
 have g2:=bD (r:=i.rm) h3
 have g3:=aE (r:=i.ra) h4
 have g4:i.az=0:=bQ h7
 have g5:i.kind=0:=(br rfl h9).1
 have g6:i.bG=0:=bQ (br rfl h9).2
 have g7:i.set=0\/i.set=1:=h8.imp id fun e=>e.1
 have g8:i.cond=0:=h6.elim id fun e=>absurd (show false=true from e.1) Bool.false_ne_true
 have g9:i.ar=0:=dn rfl h5
 exact bg rfl (Sg i.rd g0) (Sh i.rn g1) (Si i.rm g2) (Sj i.ra g3) ((bw (K:=27) (f:=i.form) (by decide)).trans (Sk i.az g4)) (Sl i.kind g5) ((bR (K:=27) (k:=xR 27 i 5) (by decide)).trans (Sm i.bG g6)) (Sn i.set g7) (So i.cond g8) (Sp i.ar g9)
theorem Lc (i:IN) (hs:aa i.form=28) (hr:aI i (ch 28)) (hg:i.ar<=9223372036854775807):cY 28 i=i:=by
 obtain⟨hf,h1,h2,h3,h4,h5,h6,h7,h8,h9,cV⟩:=hr
 have g0:=bD (r:=i.rd) h1
 have g1:=bD (r:=i.rn) h2
 have g2:=bD (r:=i.rm) h3
 have g3:=aE (r:=i.ra) h4
 have g4:i.az=0:=bQ h7
 have g5:i.kind=0:=(br rfl h9).1
 have g6:i.bG=0:=bQ (br rfl h9).2
 have g7:i.set=0:=h8.elim id fun e=>absurd (show false=true from e.2) Bool.false_ne_true
 have g8:i.cond=0:=h6.elim id fun e=>absurd (show false=true from e.1) Bool.false_ne_true
 have g9:i.ar=0:=dn rfl h5
 exact bg rfl (Sq i.rd g0) (Sr i.rn g1) (Su i.rm g2) (Sv i.ra g3) ((bw (K:=28) (f:=i.form) (by decide)).trans (Sw i.az g4)) (Sx i.kind g5) ((bR (K:=28) (k:=xR 28 i 5) (by decide)).trans (Sy i.bG g6)) (Sz i.set g7) (SA i.cond g8) (SB i.ar g9)
theorem Ld (i:IN) (hs:aa i.form=29) (hr:aI i (ch 29)) (hg:i.ar<=9223372036854775807):cY 29 i=i:=by
 obtain⟨hf,h1,h2,h3,h4,h5,h6,h7,h8,h9,cV⟩:=hr
 have g0:=bD (r:=i.rd) h1
 have g1:=bD (r:=i.rn) h2
 have g2:=bD (r:=i.rm) h3
 have g3:=bD (r:=i.ra) h4
 have g4:i.az=0:=bQ h7
 have g5:i.kind=0:=(br rfl h9).1
 have g6:i.bG=0:=bQ (br rfl h9).2
 have g7:i.set=0:=h8.elim id fun e=>absurd (show false=true from e.2) Bool.false_ne_true
 have g8:i.cond=0:=h6.elim id fun e=>absurd (show false=true from e.1) Bool.false_ne_true
 have g9:i.ar=0:=dn rfl h5
 exact bg rfl (SC i.rd g0) (SD i.rn g1) (SE i.rm g2) (SF i.ra g3) ((bw (K:=29) (f:=i.form) (by decide)).trans (SG i.az g4)) (SH i.kind g5) ((bR (K:=29) (k:=xR 29 i 5) (by decide)).trans (SI i.bG g6)) (SJ i.set g7) (SK i.cond g8) (SL i.ar g9)
theorem Le (i:IN) (hs:aa i.form=30) (hr:aI i (ch 30)) (hg:i.ar<=9223372036854775807):cY 30 i=i:=by
 obtain⟨hf,h1,h2,h3,h4,h5,h6,h7,h8,h9,cV⟩:=hr
 have g0:=bD (r:=i.rd) h1
 have g1:=bD (r:=i.rn) h2
 have g2:=bD (r:=i.rm) h3
 have g3:=bD (r:=i.ra) h4
 have g4:i.az=0:=bQ h7
 have g5:i.kind=0:=(br rfl h9).1
 have g6:i.bG=0:=bQ (br rfl h9).2
 have g7:i.set=0:=h8.elim id fun e=>absurd (show false=true from e.2) Bool.false_ne_true
 have g8:i.cond=0:=h6.elim id fun e=>absurd (show false=true from e.1) Bool.false_ne_true
 have g9:i.ar=0:=dn rfl h5
 exact bg rfl (SM i.rd g0) (SN i.rn g1) (SO i.rm g2) (SP i.ra g3) ((bw (K:=30) (f:=i.form) (by decide)).trans (SQ i.az g4)) (SR i.kind g5) ((bR (K:=30) (k:=xR 30 i 5) (by decide)).trans (SS i.bG g6)) (SU i.set g7) (SV i.cond g8) (SX i.ar g9)
theorem Lf (i:IN) (hs:aa i.form=31) (hr:aI i (ch 31)) (hg:i.ar<=9223372036854775807):cY 31 i=i:=by
 obtain⟨hf,h1,h2,h3,h4,h5,h6,h7,h8,h9,cV⟩:=hr
 have g0:=bD (r:=i.rd) h1
 have g1:=bD (r:=i.rn) h2
 have g2:=bD (r:=i.rm) h3
 have g3:=bD (r:=i.ra) h4
 have g4:i.az=0:=bQ h7
 have g5:i.kind=0:=(br rfl h9).1
 have g6:i.bG=0:=bQ (br rfl h9).2
 have g7:i.set=0:=h8.elim id fun e=>absurd (show false=true from e.2) Bool.false_ne_true
 have g8:i.cond=0:=h6.elim id fun e=>absurd (show false=true from e.1) Bool.false_ne_true
 have g9:i.ar=0:=dn rfl h5
 exact bg rfl (SY i.rd g0) (SZ i.rn g1) (S3 i.rm g2) (S4 i.ra g3) ((bw (K:=31) (f:=i.form) (by decide)).trans (S5 i.az g4)) (S6 i.kind g5) ((bR (K:=31) (k:=xR 31 i 5) (by decide)).trans (S7 i.bG g6)) (S8 i.set g7) (S9 i.cond g8) (S_ i.ar g9)
theorem Lg (i:IN) (hs:aa i.form=32) (hr:aI i (ch 32)) (hg:i.ar<=9223372036854775807):cY 32 i=i:=by
 obtain⟨hf,h1,h2,h3,h4,h5,h6,h7,h8,h9,cV⟩:=hr
 have g0:=bD (r:=i.rd) h1
 have g1:=aE (r:=i.rn) h2
 have g2:=bD (r:=i.rm) h3
 have g3:=aE (r:=i.ra) h4
 have g4:i.az=0:=bQ h7
 have g5:i.kind=0:=(br rfl h9).1
 have g6:i.bG=0:=bQ (br rfl h9).2
 have g7:i.set=0:=h8.elim id fun e=>absurd (show false=true from e.2) Bool.false_ne_true
 have g8:i.cond=0:=h6.elim id fun e=>absurd (show false=true from e.1) Bool.false_ne_true
 have g9:i.ar=0:=dn rfl h5
 exact bg rfl (Ta i.rd g0) (Tb i.rn g1) (Tc i.rm g2) (Td i.ra g3) ((bw (K:=32) (f:=i.form) (by decide)).trans (Te i.az g4)) (Tf i.kind g5) ((bR (K:=32) (k:=xR 32 i 5) (by decide)).trans (Tg i.bG g6)) (Th i.set g7) (Ti i.cond g8) (Tj i.ar g9)
theorem Lh (i:IN) (hs:aa i.form=33) (hr:aI i (ch 33)) (hg:i.ar<=9223372036854775807):cY 33 i=i:=by
 obtain⟨hf,h1,h2,h3,h4,h5,h6,h7,h8,h9,cV⟩:=hr
 have g0:=aE (r:=i.rd) h1
 have g1:=aE (r:=i.rn) h2
 have g2:=aE (r:=i.rm) h3
 have g3:=aE (r:=i.ra) h4
 have g4:-1048576<=i.az/\i.az<=1048574/\i.az % 2=0:=fi (s:=2) (by decide) h7
 have g5:i.kind=0:=(br rfl h9).1
 have g6:i.bG=0:=bQ (br rfl h9).2
 have g7:i.set=0:=h8.elim id fun e=>absurd (show false=true from e.2) Bool.false_ne_true
 have g8:0<=i.cond/\i.cond<=13:=by rcases h6 with h6|h6<;>omega
 have g9:i.ar=0:=dn rfl h5
 exact bg rfl (Tk i.rd g0) (Tl i.rn g1) (Tm i.rm g2) (Tn i.ra g3) (To i.az g4) (Tp i.kind g5) ((bR (K:=33) (k:=xR 33 i 5) (by decide)).trans (Tq i.bG g6)) (Ts i.set g7) (Tt i.cond g8) (Tu i.ar g9)
end Go.Proofs.YtlgkljpgagfndaaGreatDoor.Pw

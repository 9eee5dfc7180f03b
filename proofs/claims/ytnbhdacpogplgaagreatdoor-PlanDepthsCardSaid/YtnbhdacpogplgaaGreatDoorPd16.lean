/- What this claim is proved with: no condition. -/
import Derived.Test.YtnbhdacpogplgaaGreatDoorPd15
set_option maxRecDepth 100000
set_option linter.unusedVariables false
set_option linter.unusedSimpArgs false
namespace Go.Proofs.YtnbhdacpogplgaaGreatDoor.Pw
open Go Go.RowKit
theorem Ly (k v:Int) (h:bU k v):(if 0+aa v 2 3*2 ^ 2+aa v 0 2*2 ^ 0=0/\(k=1\/k=2) then 32 else 0+aa v 2 3*2 ^ 2+aa v 0 2*2 ^ 0)=v:=by
 unfold bU at h; unfold aa; (repeat' split)<;>omega
theorem kv {k v:Int} (h:bU k v):0<=k/\k < 4:=by unfold bU at h; omega
theorem Sq (v:Int) (h:0<=v/\v < 8):0+aa v 0 3*2 ^ 0=v:=by
 unfold aa; (repeat' split)<;>omega
theorem Sr (v:Int) (h:v=0):0=v:=by
 omega
theorem Su (v:Int) (h:0<=v/\v < 8):0+aa v 0 3*2 ^ 0=v:=by
 unfold aa; (repeat' split)<;>omega
theorem Sv (v:Int) (h:v=0):0=v:=by
 omega
theorem Sw (v:Int) (h:v=0):0=v:=by
 omega
theorem Sx (v:Int) (h:v=0):0=v:=by
 omega
theorem Sy (v:Int) (h:v=0):0=v:=by
 omega
theorem Sz (v:Int) (h:v=0):0=v:=by
 omega
theorem SA (v:Int) (h:v=0):0=v:=by
 omega
theorem SB (f v:Int) (h:0<=v/\v<=32) (h1:f=1->v < 32) (h2:f=2\/f=3->0 < v) (h3:f=1\/f=2\/f=3):(if 1 < f/\0+aa v 0 5*2 ^ 0=0 then 32 else 0+aa v 0 5*2 ^ 0)=v:=by
 unfold aa; (repeat' split)<;>omega
theorem SE (v:Int) (h:0<=v/\v < 8):0+aa v 0 3*2 ^ 0=v:=by
 unfold aa; (repeat' split)<;>omega
theorem SF (v:Int) (h:0<=v/\v < 8):0+aa v 0 3*2 ^ 0=v:=by
 unfold aa; (repeat' split)<;>omega
theorem SI (v:Int) (h:0<=v/\v < 8):0+aa v 0 3*2 ^ 0=v:=by
 unfold aa; (repeat' split)<;>omega
theorem SJ (v:Int) (h:v=0):0=v:=by
 omega
theorem SK (v:Int) (h:v=0):0=v:=by
 omega
theorem SL (v:Int) (h:v=0):0=v:=by
 omega
theorem SM (v:Int) (h:v=0):0=v:=by
 omega
theorem SN (v:Int) (h:v=0):0=v:=by
 omega
theorem SO (v:Int) (h:v=0):0=v:=by
 omega
theorem SQ (v:Int) (h:v=0):0=v:=by
 omega
theorem SR (v:Int) (h:0<=v/\v < 8):0+aa v 0 3*2 ^ 0=v:=by
 unfold aa; (repeat' split)<;>omega
theorem SU (v:Int) (h:0<=v/\v < 8):0+aa v 0 3*2 ^ 0=v:=by
 unfold aa; (repeat' split)<;>omega
theorem SV (v:Int) (h:v=0):0=v:=by
 omega
theorem SX (v:Int) (h:v=0):0=v:=by
 omega
theorem SY (v:Int) (h:0<=v/\v<=7/\v % 1=0):0+aa v 0 3*2 ^ 0=v:=by
 unfold aa; (repeat' split)<;>omega
theorem SZ (v:Int) (h:v=0):0=v:=by
 omega
theorem S3 (v:Int) (h:v=0):0=v:=by
 omega
theorem S4 (v:Int) (h:v=0):0=v:=by
 omega
theorem S5 (v:Int) (h:v=0):0=v:=by
 omega
theorem S6 (v:Int) (h:v=0):0=v:=by
 omega
theorem S7 (v:Int) (h:0<=v/\v < 8):0+aa v 0 3*2 ^ 0=v:=by
 unfold aa; (repeat' split)<;>omega
theorem S8 (v:Int) (h:v=0):0=v:=by
 omega
theorem S9 (v:Int) (h:v=0):0=v:=by
 omega
theorem S_ (v:Int) (h:v=0):0=v:=by
 omega
theorem Ta (v:Int) (h:0<=v/\v<=255/\v % 1=0):0+aa v 0 8*2 ^ 0=v:=by
 unfold aa; (repeat' split)<;>omega
theorem Tb (v:Int) (h:v=0):0=v:=by
 omega
theorem Tc (v:Int) (h:v=0):0=v:=by
 omega
theorem Td (v:Int) (h:v=0):0=v:=by
 omega
theorem Te (v:Int) (h:v=0):0=v:=by
 omega
theorem Tf (v:Int) (h:v=0):0=v:=by
 omega
theorem Tg (v:Int) (h:0<=v/\v < 8):0+aa v 0 3*2 ^ 0=v:=by
 unfold aa; (repeat' split)<;>omega
theorem Th (v:Int) (h:v=0):0=v:=by
 omega
theorem Ti (v:Int) (h:0<=v/\v < 8):0+aa v 0 3*2 ^ 0=v:=by
 unfold aa; (repeat' split)<;>omega
theorem Tj (v:Int) (h:v=0):0=v:=by
 omega
theorem Tk (v:Int) (h:v=0):0=v:=by
 omega
theorem Tl (v:Int) (h:v=0):0=v:=by
 omega
theorem Tm (v:Int) (h:v=0):0=v:=by
 omega
theorem Tn (v:Int) (h:v=0):0=v:=by
 omega
theorem To (v:Int) (h:v=0):0=v:=by
 omega
theorem Tp (v:Int) (h:v=0):0=v:=by
 omega
theorem Tq (v:Int) (h:0<=v/\v < 15):0+aa v 3 1*2 ^ 3+aa v 0 3*2 ^ 0=v:=by
 unfold aa; (repeat' split)<;>omega
theorem Ts (v:Int) (h:v=0):0=v:=by
 omega
theorem Tt (v:Int) (h:0<=v/\v < 15):0+aa v 0 4*2 ^ 0=v:=by
 unfold aa; (repeat' split)<;>omega
theorem Tu (v:Int) (h:v=0):0=v:=by
 omega
theorem Tv (v:Int) (h:v=0):0=v:=by
 omega
theorem Tw (v:Int) (h:v=0):0=v:=by
 omega
theorem Tx (v:Int) (h:v=0):0=v:=by
 omega
theorem Ty (v:Int) (h:v=0):0=v:=by
 omega
theorem Tz (v:Int) (h:v=0):0=v:=by
 omega
theorem TA (v:Int) (h:v=0):0=v:=by
 omega
theorem TB (v:Int) (h:v=0):0=v:=by
 omega
theorem TC (v:Int) (h:v=0):0=v:=by
 omega
theorem TD (v:Int) (h:0<=v/\v < 15):0+aa v 0 4*2 ^ 0=v:=by
 unfold aa; (repeat' split)<;>omega
theorem TE (v:Int) (h:v=0):0=v:=by
 omega
theorem TF (v:Int) (h:v=0):0=v:=by
 omega
theorem TG (v:Int) (h:v=0):0=v:=by
 omega
theorem TH (v:Int) (h:v=0):0=v:=by
 omega
theorem TJ (v:Int) (h:v=0):0=v:=by
 omega
theorem TK (v:Int) (h:v=0):0=v:=by
 omega
theorem TL (v:Int) (h:v=0):0=v:=by
 omega
theorem TN (v:Int) (h:0<=v/\v < 8):0+aa v 0 3*2 ^ 0=v:=by
 unfold aa; (repeat' split)<;>omega
theorem TO (v:Int) (h:v=0):0=v:=by
 omega
theorem TP (v:Int) (h:v=0):0=v:=by
 omega
theorem TQ (v:Int) (h:v=0):0=v:=by
 omega
theorem TR (v:Int) (h:0<=v/\v<=1020/\v % 4=0):0+aa v 2 8*2 ^ 2=v:=by
 unfold aa; (repeat' split)<;>omega
theorem TS (v:Int) (h:v=0):0=v:=by
 omega
theorem TT (v:Int) (h:v=0):0=v:=by
 omega
theorem TU (v:Int) (h:v=0):0=v:=by
 omega
theorem TV (v:Int) (h:v=0):0=v:=by
 omega
theorem TW (v:Int) (h:v=0):0=v:=by
 omega
theorem TX (v:Int) (h:0<=v/\v < 8):0+aa v 0 3*2 ^ 0=v:=by
 unfold aa; (repeat' split)<;>omega
theorem TY (v:Int) (h:0<=v/\v < 8):0+aa v 0 3*2 ^ 0=v:=by
 unfold aa; (repeat' split)<;>omega
theorem TZ (v:Int) (h:v=0):0=v:=by
 omega
theorem T0 (v:Int) (h:v=0):0=v:=by
 omega
theorem T1 (v:Int) (h:0<=v/\v<=124/\v % 4=0):0+aa v 2 5*2 ^ 2=v:=by
 unfold aa; (repeat' split)<;>omega
theorem T2 (v:Int) (h:v=0):0=v:=by
 omega
theorem T3 (v:Int) (h:v=0):0=v:=by
 omega
theorem T4 (v:Int) (h:v=0):0=v:=by
 omega
theorem T5 (v:Int) (h:v=0):0=v:=by
 omega
theorem T6 (v:Int) (h:v=0):0=v:=by
 omega
theorem Lz (v:Int) (h:v=0):0=v:=by
 omega
theorem LA (v:Int) (h:v=0):0=v:=by
 omega
theorem LB (v:Int) (h:v=0):0=v:=by
 omega
theorem LC (v:Int) (h:v=0):0=v:=by
 omega
theorem LD (v:Int) (h:0<=v/\v<=508/\v % 4=0):0+aa v 2 7*2 ^ 2=v:=by
 unfold aa; (repeat' split)<;>omega
theorem LF (v:Int) (h:v=0):0=v:=by
 omega
theorem LG (v:Int) (h:v=0):0=v:=by
 omega
theorem LH (v:Int) (h:v=0):0=v:=by
 omega
theorem LI (v:Int) (h:v=0):0=v:=by
 omega
theorem LJ (v:Int) (h:v=0):0=v:=by
 omega
theorem LK (v:Int) (h:v=0):0=v:=by
 omega
theorem LL (v:Int) (h:v=0):0=v:=by
 omega
theorem LM (v:Int) (h:v=0):0=v:=by
 omega
theorem LO (v:Int) (h:v=0):0=v:=by
 omega
theorem LP (v:Int) (h:v=0):0=v:=by
 omega
theorem LQ (v:Int) (h:v=0):0=v:=by
 omega
theorem LR (v:Int) (h:v=0):0=v:=by
 omega
theorem LS (v:Int) (h:v=0):0=v:=by
 omega
theorem LU (v:Int) (h:v=0):0=v:=by
 omega
theorem LV (v:Int) (h:0 < v/\v / 16384 % 2*16384+v % 256=v):0+aa v 14 1*2 ^ 14+aa v 0 8*2 ^ 0=v:=by
 unfold aa; (repeat' split)<;>omega
theorem LW (v:Int) (h:v=0):0=v:=by
 omega
theorem LX (v:Int) (h:v=0):0=v:=by
 omega
theorem LY (v:Int) (h:v=0):0=v:=by
 omega
theorem LZ (v:Int) (h:v=0):0=v:=by
 omega
theorem L0 (v:Int) (h:v=0):0=v:=by
 omega
theorem L1 (v:Int) (h:v=0):0=v:=by
 omega
theorem L2 (v:Int) (h:v=0):0=v:=by
 omega
theorem L3 (v:Int) (h:v=0):0=v:=by
 omega
theorem L4 (v:Int) (h:v=0):0=v:=by
 omega
theorem L5 (v:Int) (h:0 < v/\v / 32768 % 2*32768+v % 256=v):0+aa v 15 1*2 ^ 15+aa v 0 8*2 ^ 0=v:=by
 unfold aa; (repeat' split)<;>omega
theorem L6 (v:Int) (h:v=0):0=v:=by
 omega
theorem L7 (v:Int) (h:v=0):0=v:=by
 omega
theorem L8 (v:Int) (h:v=0):0=v:=by
 omega
theorem L9 (v:Int) (h:v=0):0=v:=by
 omega
theorem L' (v:Int) (h:v=0):0=v:=by
 omega
theorem L_ (v:Int) (h:v=0):0=v:=by
 omega
theorem Ma (v:Int) (h:v=0):0=v:=by
 omega
theorem Mb (v:Int) (h:v=0):0=v:=by
 omega
theorem Mc (v:Int) (h:v=0):0=v:=by
 omega
theorem Me (v:Int) (h:v=0):0=v:=by
 omega
theorem Mf (v:Int) (h:v=0):0=v:=by
 omega
theorem Mg (v:Int) (h:v=0):0=v:=by
 omega
theorem Mh (v:Int) (h:v=0):0=v:=by
 omega
theorem Mi (v:Int) (h:v=0):0=v:=by
 omega
theorem Mj (v:Int) (h:0<=v/\v<=255/\v % 1=0):0+aa v 0 8*2 ^ 0=v:=by
 unfold aa; (repeat' split)<;>omega
theorem Ml (v:Int) (h:v=0):0=v:=by
 omega
theorem Mm (v:Int) (h:v=0):0=v:=by
 omega
theorem Mn (v:Int) (h:v=0):0=v:=by
 omega
theorem Mo (v:Int) (h:v=0):0=v:=by
 omega
theorem Mp (v:Int) (h:v=0):0=v:=by
 omega
theorem Mq (v:Int) (h:v=0):0=v:=by
 omega
theorem Mr (v:Int) (h:v=0):0=v:=by
 omega
theorem Ms (v:Int) (h:v=0):0=v:=by
 omega
theorem Mt (v:Int) (h:v=0):0=v:=by
 omega
theorem Mu (v:Int) (h:-256<=v/\v<=254/\v % 2=0):cg (0+aa v 1 8*2 ^ 1) 9=v:=by
 unfold cg aa; (repeat' split)<;>omega
theorem Mv (v:Int) (h:v=0):0=v:=by
 omega
theorem Mw (v:Int) (h:v=0):0=v:=by
 omega
theorem Mx (v:Int) (h:v=0):0=v:=by
 omega
theorem My (v:Int) (h:0<=v/\v<=13):0+aa v 0 4*2 ^ 0=v:=by
 unfold aa; (repeat' split)<;>omega
theorem Mz (v:Int) (h:v=0):0=v:=by
 omega
theorem MA (v:Int) (h:v=0):0=v:=by
 omega
theorem MB (v:Int) (h:v=0):0=v:=by
 omega
theorem MC (v:Int) (h:v=0):0=v:=by
 omega
theorem MD (v:Int) (h:v=0):0=v:=by
 omega
theorem ME (v:Int) (h:-2048<=v/\v<=2046/\v % 2=0):cg (0+aa v 1 11*2 ^ 1) 12=v:=by
 unfold cg aa; (repeat' split)<;>omega
theorem MF (v:Int) (h:v=0):0=v:=by
 omega
theorem MG (v:Int) (h:v=0):0=v:=by
 omega
theorem MH (v:Int) (h:v=0):0=v:=by
 omega
theorem MI (v:Int) (h:v=0):0=v:=by
 omega
theorem MJ (v:Int) (h:v=0):0=v:=by
 omega
theorem MK (v:Int) (h:0<=v/\v < 15):0+aa v 0 4*2 ^ 0=v:=by
 unfold aa; (repeat' split)<;>omega
theorem ML (v:Int) (h:v=0):0=v:=by
 omega
theorem MM (v:Int) (h:v=0):0=v:=by
 omega
theorem MN (v:Int) (h:v=0):0=v:=by
 omega
theorem MO (v:Int) (h:0<=v/\v<=65535/\v % 1=0):0+aa v 11 1*2 ^ 11+aa v 12 4*2 ^ 12+aa v 8 3*2 ^ 8+aa v 0 8*2 ^ 0=v:=by
 unfold aa; (repeat' split)<;>omega
theorem MP (v:Int) (h:v=0):0=v:=by
 omega
theorem MQ (v:Int) (h:v=0):0=v:=by
 omega
theorem MR (v:Int) (h:v=0):0=v:=by
 omega
theorem MS (v:Int) (h:v=0):0=v:=by
 omega
theorem MU (v:Int) (h:v=0):0=v:=by
 omega
theorem MV (v:Int) (h:0<=v/\v < 15):0+aa v 0 4*2 ^ 0=v:=by
 unfold aa; (repeat' split)<;>omega
theorem MW (v:Int) (h:0<=v/\v < 15):0+aa v 0 4*2 ^ 0=v:=by
 unfold aa; (repeat' split)<;>omega
theorem MX (v:Int) (h:v=0):0=v:=by
 omega
theorem MY (v:Int) (h:v=0):0=v:=by
 omega
theorem MZ (v:Int) (h:0<=v/\v<=4095/\v % 1=0):0+aa v 11 1*2 ^ 11+aa v 8 3*2 ^ 8+aa v 0 8*2 ^ 0=v:=by
 unfold aa; (repeat' split)<;>omega
theorem M0 (v:Int) (h:v=0):0=v:=by
 omega
theorem M1 (v:Int) (h:v=0):0=v:=by
 omega
theorem M3 (v:Int) (h:v=0\/v=1):0+aa v 0 1*2 ^ 0=v:=by
 unfold aa; (repeat' split)<;>omega
theorem M4 (v:Int) (h:v=0):0=v:=by
 omega
theorem M5 (v:Int) (h:v=0):0=v:=by
 omega
theorem M6 (v:Int) (h:0<=v/\v < 15):0+aa v 0 4*2 ^ 0=v:=by
 unfold aa; (repeat' split)<;>omega
theorem M7 (v:Int) (h:v=0):0=v:=by
 omega
theorem M8 (v:Int) (h:v=0):0=v:=by
 omega
theorem M9 (v:Int) (h:v=0):0=v:=by
 omega
theorem M' (v:Int) (h:0<=v/\v<=4095/\v % 1=0):0+aa v 11 1*2 ^ 11+aa v 8 3*2 ^ 8+aa v 0 8*2 ^ 0=v:=by
 unfold aa; (repeat' split)<;>omega
theorem M_ (v:Int) (h:v=0):0=v:=by
 omega
theorem Na (v:Int) (h:v=0):0=v:=by
 omega
theorem Nb (v:Int) (h:v=0\/v=1):0+aa v 0 1*2 ^ 0=v:=by
 unfold aa; (repeat' split)<;>omega
theorem Nc (v:Int) (h:v=0):0=v:=by
 omega
theorem Nd (v:Int) (h:v=0):0=v:=by
 omega
theorem Nf (v:Int) (h:v=0):0=v:=by
 omega
theorem Ng (v:Int) (h:0<=v/\v < 15):0+aa v 0 4*2 ^ 0=v:=by
 unfold aa; (repeat' split)<;>omega
theorem Nh (v:Int) (h:v=0):0=v:=by
 omega
theorem Ni (v:Int) (h:v=0):0=v:=by
 omega
theorem Nj (v:Int) (h:0<=v/\v<=4095/\v % 1=0):0+aa v 11 1*2 ^ 11+aa v 8 3*2 ^ 8+aa v 0 8*2 ^ 0=v:=by
 unfold aa; (repeat' split)<;>omega
theorem Nk (v:Int) (h:v=0):0=v:=by
 omega
theorem Nl (v:Int) (h:v=0):0=v:=by
 omega
theorem Nm (v:Int) (h:v=0):0=v:=by
 omega
theorem Nn (v:Int) (h:v=0):0=v:=by
 omega
theorem No (v:Int) (h:v=0):0=v:=by
 omega
theorem Np (v:Int) (h:0<=v/\v < 15):0+aa v 0 4*2 ^ 0=v:=by
 unfold aa; (repeat' split)<;>omega
theorem Nq (v:Int) (h:0<=v/\v < 15):0+aa v 0 4*2 ^ 0=v:=by
 unfold aa; (repeat' split)<;>omega
theorem Nr (v:Int) (h:0<=v/\v < 15):0+aa v 0 4*2 ^ 0=v:=by
 unfold aa; (repeat' split)<;>omega
theorem Ns (v:Int) (h:v=0):0=v:=by
 omega
theorem Nt (v:Int) (h:v=0):0=v:=by
 omega
theorem Ef (v:Int) (h:0<=v/\v < 4):0+aa v 0 2*2 ^ 0=v:=by
 unfold aa; (repeat' split)<;>omega
theorem Nu (v:Int) (h:v=0\/v=1):0+aa v 0 1*2 ^ 0=v:=by
 unfold aa; (repeat' split)<;>omega
theorem Nv (v:Int) (h:v=0):0=v:=by
 omega
theorem Nw (v:Int) (h:v=0):0=v:=by
 omega
theorem Nx (v:Int) (h:0<=v/\v < 15):0+aa v 0 4*2 ^ 0=v:=by
 unfold aa; (repeat' split)<;>omega
theorem Ny (v:Int) (h:v=0):0=v:=by
 omega
theorem Nz (v:Int) (h:0<=v/\v < 15):0+aa v 0 4*2 ^ 0=v:=by
 unfold aa; (repeat' split)<;>omega
theorem NA (v:Int) (h:v=0):0=v:=by
 omega
theorem NB (v:Int) (h:v=0):0=v:=by
 omega
theorem Eg (v:Int) (h:0<=v/\v < 4):0+aa v 0 2*2 ^ 0=v:=by
 unfold aa; (repeat' split)<;>omega
theorem NC (v:Int) (h:v=0\/v=1):0+aa v 0 1*2 ^ 0=v:=by
 unfold aa; (repeat' split)<;>omega
theorem ND (v:Int) (h:v=0):0=v:=by
 omega
theorem NF (v:Int) (h:v=0):0=v:=by
 omega
theorem NG (v:Int) (h:v=0):0=v:=by
 omega
theorem NH (v:Int) (h:0<=v/\v < 15):0+aa v 0 4*2 ^ 0=v:=by
 unfold aa; (repeat' split)<;>omega
theorem NI (v:Int) (h:0<=v/\v < 15):0+aa v 0 4*2 ^ 0=v:=by
 unfold aa; (repeat' split)<;>omega
theorem NJ (v:Int) (h:v=0):0=v:=by
 omega
theorem NK (v:Int) (h:v=0):0=v:=by
 omega
theorem Eh (v:Int) (h:0<=v/\v < 4):0+aa v 0 2*2 ^ 0=v:=by
 unfold aa; (repeat' split)<;>omega
theorem NL (v:Int) (h:v=0):0=v:=by
 omega
theorem NM (v:Int) (h:v=0):0=v:=by
 omega
theorem NN (v:Int) (h:v=0):0=v:=by
 omega
theorem NO (v:Int) (h:0<=v/\v < 15):0+aa v 0 4*2 ^ 0=v:=by
 unfold aa; (repeat' split)<;>omega
theorem NP (v:Int) (h:0<=v/\v < 15):0+aa v 0 4*2 ^ 0=v:=by
 unfold aa; (repeat' split)<;>omega
theorem NQ (v:Int) (h:v=0):0=v:=by
 omega
theorem NR (v:Int) (h:v=0):0=v:=by
 omega
theorem NS (v:Int) (h:0<=v/\v<=4095/\v % 1=0):0+aa v 11 1*2 ^ 11+aa v 8 3*2 ^ 8+aa v 0 8*2 ^ 0=v:=by
 unfold aa; (repeat' split)<;>omega
theorem NT (v:Int) (h:v=0):0=v:=by
 omega
theorem NU (v:Int) (h:v=0):0=v:=by
 omega
theorem NV (v:Int) (h:v=0):0=v:=by
 omega
theorem NW (v:Int) (h:v=0):0=v:=by
 omega
theorem NX (v:Int) (h:v=0):0=v:=by
 omega
theorem NY (v:Int) (h:0<=v/\v < 15):0+aa v 0 4*2 ^ 0=v:=by
 unfold aa; (repeat' split)<;>omega
theorem NZ (v:Int) (h:0<=v/\v < 15):0+aa v 0 4*2 ^ 0=v:=by
 unfold aa; (repeat' split)<;>omega
theorem N0 (v:Int) (h:v=0):0=v:=by
 omega
theorem N1 (v:Int) (h:v=0):0=v:=by
 omega
theorem N2 (v:Int) (h:0<=v/\v<=4095/\v % 1=0):0+aa v 0 12*2 ^ 0=v:=by
 unfold aa; (repeat' split)<;>omega
theorem N3 (v:Int) (h:v=0):0=v:=by
 omega
theorem N4 (v:Int) (h:v=0):0=v:=by
 omega
theorem N5 (v:Int) (h:v=0):0=v:=by
 omega
theorem N6 (v:Int) (h:v=0):0=v:=by
 omega
theorem N7 (v:Int) (h:v=0):0=v:=by
 omega
theorem N8 (v:Int) (h:0<=v/\v < 15):0+aa v 0 4*2 ^ 0=v:=by
 unfold aa; (repeat' split)<;>omega
theorem N9 (v:Int) (h:0<=v/\v < 15):0+aa v 0 4*2 ^ 0=v:=by
 unfold aa; (repeat' split)<;>omega
theorem N' (v:Int) (h:0<=v/\v < 15):0+aa v 0 4*2 ^ 0=v:=by
 unfold aa; (repeat' split)<;>omega
theorem N_ (v:Int) (h:v=0):0=v:=by
 omega
theorem Oa (v:Int) (h:v=0):0=v:=by
 omega
theorem Ob (v:Int) (h:v=0):0=v:=by
 omega
theorem Oc (v:Int) (h:0<=v/\v<=3/\v % 1=0):0+aa v 0 2*2 ^ 0=v:=by
 unfold aa; (repeat' split)<;>omega
theorem Od (v:Int) (h:v=0):0=v:=by
 omega
theorem Oe (v:Int) (h:v=0):0=v:=by
 omega
theorem Of (v:Int) (h:v=0):0=v:=by
 omega
theorem Og (v:Int) (h:0<=v/\v < 15):0+aa v 0 4*2 ^ 0=v:=by
 unfold aa; (repeat' split)<;>omega
theorem Oh (v:Int) (h:0<=v/\v < 15):0+aa v 0 4*2 ^ 0=v:=by
 unfold aa; (repeat' split)<;>omega
theorem Oi (v:Int) (h:0<=v/\v < 15):0+aa v 0 4*2 ^ 0=v:=by
 unfold aa; (repeat' split)<;>omega
theorem Oj (v:Int) (h:v=0):0=v:=by
 omega
theorem Ol (v:Int) (h:v=0):0=v:=by
 omega
theorem Om (v:Int) (h:v=0):0=v:=by
 omega
theorem On (v:Int) (h:v=0):0=v:=by
 omega
theorem Oo (v:Int) (h:v=0\/v=1):0+aa v 0 1*2 ^ 0=v:=by
 unfold aa; (repeat' split)<;>omega
theorem Oq (v:Int) (h:v=0):0=v:=by
 omega
theorem Ot (v:Int) (h:v=0):0=v:=by
 omega
theorem Ou (v:Int) (h:0<=v/\v < 15):0+aa v 0 4*2 ^ 0=v:=by
 unfold aa; (repeat' split)<;>omega
theorem Ov (v:Int) (h:0<=v/\v < 15):0+aa v 0 4*2 ^ 0=v:=by
 unfold aa; (repeat' split)<;>omega
theorem Ow (v:Int) (h:0<=v/\v < 15):0+aa v 0 4*2 ^ 0=v:=by
 unfold aa; (repeat' split)<;>omega
theorem Ox (v:Int) (h:v=0):0=v:=by
 omega
theorem Oy (v:Int) (h:v=0):0=v:=by
 omega
theorem Oz (v:Int) (h:v=0):0=v:=by
 omega
theorem OA (v:Int) (h:v=0):0=v:=by
 omega
theorem OB (v:Int) (h:v=0):0=v:=by
 omega
theorem OC (v:Int) (h:v=0):0=v:=by
 omega
theorem OD (v:Int) (h:v=0):0=v:=by
 omega
theorem OE (v:Int) (h:0<=v/\v < 15):0+aa v 0 4*2 ^ 0=v:=by
 unfold aa; (repeat' split)<;>omega
theorem OF (v:Int) (h:0<=v/\v < 15):0+aa v 0 4*2 ^ 0=v:=by
 unfold aa; (repeat' split)<;>omega
theorem OG (v:Int) (h:0<=v/\v < 15):0+aa v 0 4*2 ^ 0=v:=by
 unfold aa; (repeat' split)<;>omega
theorem OH (v:Int) (h:0<=v/\v < 15):0+aa v 0 4*2 ^ 0=v:=by
 unfold aa; (repeat' split)<;>omega
theorem OI (v:Int) (h:v=0):0=v:=by
 omega
theorem OJ (v:Int) (h:v=0):0=v:=by
 omega
theorem OK (v:Int) (h:v=0):0=v:=by
 omega
theorem OL (v:Int) (h:v=0):0=v:=by
 omega
theorem OM (v:Int) (h:v=0):0=v:=by
 omega
theorem ON (v:Int) (h:v=0):0=v:=by
 omega
theorem OO (v:Int) (h:0<=v/\v < 15):0+aa v 0 4*2 ^ 0=v:=by
 unfold aa; (repeat' split)<;>omega
theorem OP (v:Int) (h:0<=v/\v < 15):0+aa v 0 4*2 ^ 0=v:=by
 unfold aa; (repeat' split)<;>omega
theorem OQ (v:Int) (h:0<=v/\v < 15):0+aa v 0 4*2 ^ 0=v:=by
 unfold aa; (repeat' split)<;>omega
theorem OR (v:Int) (h:0<=v/\v < 15):0+aa v 0 4*2 ^ 0=v:=by
 unfold aa; (repeat' split)<;>omega
theorem OS (v:Int) (h:v=0):0=v:=by
 omega
theorem OT (v:Int) (h:v=0):0=v:=by
 omega
theorem OU (v:Int) (h:v=0):0=v:=by
 omega
theorem OV (v:Int) (h:v=0):0=v:=by
 omega
theorem OW (v:Int) (h:v=0):0=v:=by
 omega
theorem OX (v:Int) (h:v=0):0=v:=by
 omega
theorem OY (v:Int) (h:0<=v/\v < 15):0+aa v 0 4*2 ^ 0=v:=by
 unfold aa; (repeat' split)<;>omega
theorem OZ (v:Int) (h:0<=v/\v < 15):0+aa v 0 4*2 ^ 0=v:=by
 unfold aa; (repeat' split)<;>omega
theorem O0 (v:Int) (h:0<=v/\v < 15):0+aa v 0 4*2 ^ 0=v:=by
 unfold aa; (repeat' split)<;>omega
theorem O1 (v:Int) (h:0<=v/\v < 15):0+aa v 0 4*2 ^ 0=v:=by
 unfold aa; (repeat' split)<;>omega
theorem O2 (v:Int) (h:v=0):0=v:=by
 omega
theorem O3 (v:Int) (h:v=0):0=v:=by
 omega
theorem O4 (v:Int) (h:v=0):0=v:=by
 omega
theorem O5 (v:Int) (h:v=0):0=v:=by
 omega
theorem O6 (v:Int) (h:v=0):0=v:=by
 omega
theorem O7 (v:Int) (h:v=0):0=v:=by
 omega
theorem O8 (v:Int) (h:0<=v/\v < 15):0+aa v 0 4*2 ^ 0=v:=by
 unfold aa; (repeat' split)<;>omega
theorem O9 (v:Int) (h:v=0):0=v:=by
 omega
theorem O' (v:Int) (h:0<=v/\v < 15):aa v 0 4=v:=by
 unfold aa; split<;>omega
theorem O_ (v:Int) (h:v=0):0=v:=by
 omega
theorem Pa (v:Int) (h:v=0):0=v:=by
 omega
theorem Pb (v:Int) (h:v=0):0=v:=by
 omega
theorem Pc (v:Int) (h:v=0):0=v:=by
 omega
theorem Pd (v:Int) (h:v=0):0=v:=by
 omega
theorem Pe (v:Int) (h:v=0):0=v:=by
 omega
theorem Pf (v:Int) (h:v=0):0=v:=by
 omega
theorem Pg (v:Int) (h:v=0):0=v:=by
 omega
theorem Ph (v:Int) (h:v=0):0=v:=by
 omega
theorem Pj (v:Int) (h:v=0):0=v:=by
 omega
theorem Pk (v:Int) (h:v=0):0=v:=by
 omega
theorem Pm (v:Int) (h:-1048576<=v/\v<=1048574/\v % 2=0):cg (0+aa v 20 1*2 ^ 20+aa v 12 6*2 ^ 12+aa v 18 1*2 ^ 18+aa v 19 1*2 ^ 19+aa v 1 11*2 ^ 1) 21=v:=by
 unfold cg aa; (repeat' split)<;>omega
theorem Pn (v:Int) (h:v=0):0=v:=by
 omega
theorem Po (v:Int) (h:v=0):0=v:=by
 omega
theorem Pp (v:Int) (h:v=0):0=v:=by
 omega
theorem Pq (v:Int) (h:0<=v/\v<=13):0+aa v 0 4*2 ^ 0=v:=by
 unfold aa; (repeat' split)<;>omega
theorem Pr (v:Int) (h:v=0):0=v:=by
 omega
theorem Ps (v:Int) (h:v=0):0=v:=by
 omega
theorem Pt (v:Int) (h:v=0):0=v:=by
 omega
theorem Pu (v:Int) (h:v=0):0=v:=by
 omega
theorem Pv (v:Int) (h:v=0):0=v:=by
 omega
theorem Px (v:Int) (h:v=0):0=v:=by
 omega
theorem Py (v:Int) (h:v=0):0=v:=by
 omega
theorem Pz (v:Int) (h:v=0):0=v:=by
 omega
theorem PD (v:Int) (h:v=0):0=v:=by
 omega
theorem PE (v:Int) (h:v=0):0=v:=by
 omega
theorem au {r:Int} (h:jl 0 r):r=0:=by unfold jl at h; omega
theorem c9 {r:Int} (h:jl 1 r):0<=r/\r < 8:=by unfold jl at h; omega
theorem kQ {r:Int} (h:jl 2 r):0<=r/\r < 15:=by unfold jl at h; omega
theorem aW {r:Int} (h:jl 3 r):0<=r/\r < 15:=by unfold jl at h; omega
theorem bh {a b n:Int} (h:hZ a b 0 n):n=0:=(vI h).elim (fun e=>e.2) fun e=>absurd rfl e.1
theorem du {a b s n:Int} (hs:s≠0) (h:hZ a b s n):a<=n/\n<=b/\n % s=0:=(vI h).elim (fun e=>absurd e.1 hs) fun e=>e.2
theorem aT {K f x:Int} (h:K≠1/\K≠15/\K≠16/\K≠33/\K≠34):oI K f x=x:=by
 unfold oI; rw[if_neg h.2.1,if_neg h.2.2.1,if_neg h.2.2.2.1,if_neg h.2.2.2.2,if_neg (fun e=>h.1 e.1)]
theorem J9 {f x:Int}:oI 1 f x=if 1 < f/\x=0 then 32 else x:=by
 unfold oI; rw[if_neg (by decide),if_neg (by decide),if_neg (by decide),if_neg (by decide)]
 by_cases h:1 < f/\x=0
 ·rw[if_pos ⟨rfl,h⟩,if_pos h]
 ·rw[if_neg (fun e=>h e.2),if_neg h]
theorem bj {K k x:Int} (h:¬ (21<=K/\K<=23)):J8 K k x=x:=if_neg fun e=>h ⟨e.1,e.2.1⟩
theorem sd {K k x:Int} (h:21<=K/\K<=23):J8 K k x=if x=0/\(k=1\/k=2) then 32 else x:=by
 unfold J8
 by_cases g:x=0/\(k=1\/k=2)
 ·rw[if_pos ⟨h.1,h.2,g⟩,if_pos g]
 ·rw[if_neg (fun e=>g e.2.2),if_neg g]
theorem cq {i:IN} {r:RU} (hr:r.an=0) (h:fW i r):i.an=0:=h.elim (fun e=>e.2) fun e=>absurd hr e.1
theorem zu {i:IN} {r:RU} (k:Nat) (hk:8<=k) (kO:k<=15) (hr:r.an=2 ^ k+255) (h:fW i r) (hg:i.an<=9223372036854775807):0 < i.an/\i.an / 2 ^ k % 2*2 ^ k+i.an % 256=i.an:=by
 have hp:(0:Int) < 2 ^ k:=by have:=bM k; have:=Nat.two_pow_pos k; omega
 rcases h with h|h
 ·have:=hr.symm.trans h.1; omega
 ·exact⟨h.2.1,tJ k hk kO i.an r.an hr h.2.1 hg h.2.2⟩
theorem aP {i:IN} {r:RU} (hr:r.kind=false) (h:lq i r):i.kind=0/\hZ r.b0 r.b1 r.b2 i.bm:=h.elim (fun e=>by rw[hr] at e; exact absurd e.1 Bool.false_ne_true) fun e=>e.2
theorem A2 {i:IN} {r:RU} (hr:r.kind=true) (h:lq i r):bU i.kind i.bm:=h.elim (fun e=>e.2) fun e=>absurd hr e.1
theorem PF (i:IN) (hs:af i.form=1) (hr:aH i (cW 1)) (hg:i.an<=9223372036854775807):bT 1 i=i:=by
 obtain⟨hf,h1,h2,h3,h4,h5,h6,h7,h8,h9,bY⟩:=hr
 have g0:=c9 (r:=i.rd) h1
 have g1:=au (r:=i.rn) h2
 have g2:=c9 (r:=i.rm) h3
 have g3:=au (r:=i.ra) h4
 have g4:0<=i.aw/\i.aw<=32/\i.aw % 1=0:=du (s:=1) (by decide) h7
 have g5:i.kind=0:=(aP rfl h9).1
 have g6:i.bm=0:=bh (aP rfl h9).2
 have g7:i.set=0:=h8.elim id fun e=>absurd (show false=true from e.2) Bool.false_ne_true
 have g8:i.cond=0:=h6.elim id fun e=>absurd (show false=true from e.1) Bool.false_ne_true
 have g9:i.an=0:=cq rfl h5
 exact aK rfl (Sq i.rd g0) (Sr i.rn g1) (Su i.rm g2) (Sv i.ra g3) (J9.trans (SB i.form i.aw ⟨g4.1,g4.2.1⟩ bY.1 bY.2.1 (sc hf hs))) (Sw i.kind g5) ((bj (K:=1) (k:=xR 1 i 5) (by decide)).trans (Sx i.bm g6)) (Sy i.set g7) (Sz i.cond g8) (SA i.an g9)
theorem PG (i:IN) (hs:af i.form=2) (hr:aH i (cW 2)) (hg:i.an<=9223372036854775807):bT 2 i=i:=by
 obtain⟨hf,h1,h2,h3,h4,h5,h6,h7,h8,h9,bY⟩:=hr
 have g0:=c9 (r:=i.rd) h1
 have g1:=c9 (r:=i.rn) h2
 have g2:=c9 (r:=i.rm) h3
 have g3:=au (r:=i.ra) h4
 have g4:i.aw=0:=bh h7
 have g5:i.kind=0:=(aP rfl h9).1
 have g6:i.bm=0:=bh (aP rfl h9).2
 have g7:i.set=0:=h8.elim id fun e=>absurd (show false=true from e.2) Bool.false_ne_true
 have g8:i.cond=0:=h6.elim id fun e=>absurd (show false=true from e.1) Bool.false_ne_true
 have g9:i.an=0:=cq rfl h5
 exact aK rfl (SE i.rd g0) (SF i.rn g1) (SI i.rm g2) (SJ i.ra g3) ((aT (K:=2) (f:=i.form) (by decide)).trans (SK i.aw g4)) (SL i.kind g5) ((bj (K:=2) (k:=xR 2 i 5) (by decide)).trans (SM i.bm g6)) (SN i.set g7) (SO i.cond g8) (SQ i.an g9)
theorem PH (i:IN) (hs:af i.form=3) (hr:aH i (cW 3)) (hg:i.an<=9223372036854775807):bT 3 i=i:=by
 obtain⟨hf,h1,h2,h3,h4,h5,h6,h7,h8,h9,bY⟩:=hr
 have g0:=c9 (r:=i.rd) h1
 have g1:=c9 (r:=i.rn) h2
 have g2:=au (r:=i.rm) h3
 have g3:=au (r:=i.ra) h4
 have g4:0<=i.aw/\i.aw<=7/\i.aw % 1=0:=du (s:=1) (by decide) h7
 have g5:i.kind=0:=(aP rfl h9).1
 have g6:i.bm=0:=bh (aP rfl h9).2
 have g7:i.set=0:=h8.elim id fun e=>absurd (show false=true from e.2) Bool.false_ne_true
 have g8:i.cond=0:=h6.elim id fun e=>absurd (show false=true from e.1) Bool.false_ne_true
 have g9:i.an=0:=cq rfl h5
 exact aK rfl (SR i.rd g0) (SU i.rn g1) (SV i.rm g2) (SX i.ra g3) ((aT (K:=3) (f:=i.form) (by decide)).trans (SY i.aw g4)) (SZ i.kind g5) ((bj (K:=3) (k:=xR 3 i 5) (by decide)).trans (S3 i.bm g6)) (S4 i.set g7) (S5 i.cond g8) (S6 i.an g9)
theorem PI (i:IN) (hs:af i.form=4) (hr:aH i (cW 4)) (hg:i.an<=9223372036854775807):bT 4 i=i:=by
 obtain⟨hf,h1,h2,h3,h4,h5,h6,h7,h8,h9,bY⟩:=hr
 have g0:=c9 (r:=i.rd) h1
 have g1:=au (r:=i.rn) h2
 have g2:=au (r:=i.rm) h3
 have g3:=au (r:=i.ra) h4
 have g4:0<=i.aw/\i.aw<=255/\i.aw % 1=0:=du (s:=1) (by decide) h7
 have g5:i.kind=0:=(aP rfl h9).1
 have g6:i.bm=0:=bh (aP rfl h9).2
 have g7:i.set=0:=h8.elim id fun e=>absurd (show false=true from e.2) Bool.false_ne_true
 have g8:i.cond=0:=h6.elim id fun e=>absurd (show false=true from e.1) Bool.false_ne_true
 have g9:i.an=0:=cq rfl h5
 exact aK rfl (S7 i.rd g0) (S8 i.rn g1) (S9 i.rm g2) (S_ i.ra g3) ((aT (K:=4) (f:=i.form) (by decide)).trans (Ta i.aw g4)) (Tb i.kind g5) ((bj (K:=4) (k:=xR 4 i 5) (by decide)).trans (Tc i.bm g6)) (Td i.set g7) (Te i.cond g8) (Tf i.an g9)
theorem PJ (i:IN) (hs:af i.form=5) (hr:aH i (cW 5)) (hg:i.an<=9223372036854775807):bT 5 i=i:=by
 obtain⟨hf,h1,h2,h3,h4,h5,h6,h7,h8,h9,bY⟩:=hr
 have g0:=c9 (r:=i.rd) h1
 have g1:=au (r:=i.rn) h2
 have g2:=c9 (r:=i.rm) h3
 have g3:=au (r:=i.ra) h4
 have g4:i.aw=0:=bh h7
 have g5:i.kind=0:=(aP rfl h9).1
 have g6:i.bm=0:=bh (aP rfl h9).2
 have g7:i.set=0:=h8.elim id fun e=>absurd (show false=true from e.2) Bool.false_ne_true
 have g8:i.cond=0:=h6.elim id fun e=>absurd (show false=true from e.1) Bool.false_ne_true
 have g9:i.an=0:=cq rfl h5
 exact aK rfl (Tg i.rd g0) (Th i.rn g1) (Ti i.rm g2) (Tj i.ra g3) ((aT (K:=5) (f:=i.form) (by decide)).trans (Tk i.aw g4)) (Tl i.kind g5) ((bj (K:=5) (k:=xR 5 i 5) (by decide)).trans (Tm i.bm g6)) (Tn i.set g7) (To i.cond g8) (Tp i.an g9)
theorem PK (i:IN) (hs:af i.form=6) (hr:aH i (cW 6)) (hg:i.an<=9223372036854775807):bT 6 i=i:=by
 obtain⟨hf,h1,h2,h3,h4,h5,h6,h7,h8,h9,bY⟩:=hr
 have g0:=kQ (r:=i.rd) h1
 have g1:=au (r:=i.rn) h2
 have g2:=kQ (r:=i.rm) h3
 have g3:=au (r:=i.ra) h4
 have g4:i.aw=0:=bh h7
 have g5:i.kind=0:=(aP rfl h9).1
 have g6:i.bm=0:=bh (aP rfl h9).2
 have g7:i.set=0:=h8.elim id fun e=>absurd (show false=true from e.2) Bool.false_ne_true
 have g8:i.cond=0:=h6.elim id fun e=>absurd (show false=true from e.1) Bool.false_ne_true
 have g9:i.an=0:=cq rfl h5
 exact aK rfl (Tq i.rd g0) (Ts i.rn g1) (Tt i.rm g2) (Tu i.ra g3) ((aT (K:=6) (f:=i.form) (by decide)).trans (Tv i.aw g4)) (Tw i.kind g5) ((bj (K:=6) (k:=xR 6 i 5) (by decide)).trans (Tx i.bm g6)) (Ty i.set g7) (Tz i.cond g8) (TA i.an g9)
theorem PL (i:IN) (hs:af i.form=7) (hr:aH i (cW 7)) (hg:i.an<=9223372036854775807):bT 7 i=i:=by
 obtain⟨hf,h1,h2,h3,h4,h5,h6,h7,h8,h9,bY⟩:=hr
 have g0:=au (r:=i.rd) h1
 have g1:=au (r:=i.rn) h2
 have g2:=kQ (r:=i.rm) h3
 have g3:=au (r:=i.ra) h4
 have g4:i.aw=0:=bh h7
 have g5:i.kind=0:=(aP rfl h9).1
 have g6:i.bm=0:=bh (aP rfl h9).2
 have g7:i.set=0:=h8.elim id fun e=>absurd (show false=true from e.2) Bool.false_ne_true
 have g8:i.cond=0:=h6.elim id fun e=>absurd (show false=true from e.1) Bool.false_ne_true
 have g9:i.an=0:=cq rfl h5
 exact aK rfl (TB i.rd g0) (TC i.rn g1) (TD i.rm g2) (TE i.ra g3) ((aT (K:=7) (f:=i.form) (by decide)).trans (TF i.aw g4)) (TG i.kind g5) ((bj (K:=7) (k:=xR 7 i 5) (by decide)).trans (TH i.bm g6)) (TJ i.set g7) (TK i.cond g8) (TL i.an g9)
theorem PM (i:IN) (hs:af i.form=8) (hr:aH i (cW 8)) (hg:i.an<=9223372036854775807):bT 8 i=i:=by
 obtain⟨hf,h1,h2,h3,h4,h5,h6,h7,h8,h9,bY⟩:=hr
 have g0:=c9 (r:=i.rd) h1
 have g1:=au (r:=i.rn) h2
 have g2:=au (r:=i.rm) h3
 have g3:=au (r:=i.ra) h4
 have g4:0<=i.aw/\i.aw<=1020/\i.aw % 4=0:=du (s:=4) (by decide) h7
 have g5:i.kind=0:=(aP rfl h9).1
 have g6:i.bm=0:=bh (aP rfl h9).2
 have g7:i.set=0:=h8.elim id fun e=>absurd (show false=true from e.2) Bool.false_ne_true
 have g8:i.cond=0:=h6.elim id fun e=>absurd (show false=true from e.1) Bool.false_ne_true
 have g9:i.an=0:=cq rfl h5
 exact aK rfl (TN i.rd g0) (TO i.rn g1) (TP i.rm g2) (TQ i.ra g3) ((aT (K:=8) (f:=i.form) (by decide)).trans (TR i.aw g4)) (TS i.kind g5) ((bj (K:=8) (k:=xR 8 i 5) (by decide)).trans (TT i.bm g6)) (TU i.set g7) (TV i.cond g8) (TW i.an g9)
theorem PN (i:IN) (hs:af i.form=9) (hr:aH i (cW 9)) (hg:i.an<=9223372036854775807):bT 9 i=i:=by
 obtain⟨hf,h1,h2,h3,h4,h5,h6,h7,h8,h9,bY⟩:=hr
 have g0:=c9 (r:=i.rd) h1
 have g1:=c9 (r:=i.rn) h2
 have g2:=au (r:=i.rm) h3
 have g3:=au (r:=i.ra) h4
 have g4:0<=i.aw/\i.aw<=124/\i.aw % 4=0:=du (s:=4) (by decide) h7
 have g5:i.kind=0:=(aP rfl h9).1
 have g6:i.bm=0:=bh (aP rfl h9).2
 have g7:i.set=0:=h8.elim id fun e=>absurd (show false=true from e.2) Bool.false_ne_true
 have g8:i.cond=0:=h6.elim id fun e=>absurd (show false=true from e.1) Bool.false_ne_true
 have g9:i.an=0:=cq rfl h5
 exact aK rfl (TX i.rd g0) (TY i.rn g1) (TZ i.rm g2) (T0 i.ra g3) ((aT (K:=9) (f:=i.form) (by decide)).trans (T1 i.aw g4)) (T2 i.kind g5) ((bj (K:=9) (k:=xR 9 i 5) (by decide)).trans (T3 i.bm g6)) (T4 i.set g7) (T5 i.cond g8) (T6 i.an g9)
theorem HK (i:IN) (hs:af i.form=10) (hr:aH i (cW 10)) (hg:i.an<=9223372036854775807):bT 10 i=i:=by
 obtain⟨hf,h1,h2,h3,h4,h5,h6,h7,h8,h9,bY⟩:=hr
 have g0:=au (r:=i.rd) h1
 have g1:=au (r:=i.rn) h2
 have g2:=au (r:=i.rm) h3
 have g3:=au (r:=i.ra) h4
 have g4:0<=i.aw/\i.aw<=508/\i.aw % 4=0:=du (s:=4) (by decide) h7
 have g5:i.kind=0:=(aP rfl h9).1
 have g6:i.bm=0:=bh (aP rfl h9).2
 have g7:i.set=0:=h8.elim id fun e=>absurd (show false=true from e.2) Bool.false_ne_true
 have g8:i.cond=0:=h6.elim id fun e=>absurd (show false=true from e.1) Bool.false_ne_true
 have g9:i.an=0:=cq rfl h5
 exact aK rfl (Lz i.rd g0) (LA i.rn g1) (LB i.rm g2) (LC i.ra g3) ((aT (K:=10) (f:=i.form) (by decide)).trans (LD i.aw g4)) (LF i.kind g5) ((bj (K:=10) (k:=xR 10 i 5) (by decide)).trans (LG i.bm g6)) (LH i.set g7) (LI i.cond g8) (LJ i.an g9)
theorem HL (i:IN) (hs:af i.form=11) (hr:aH i (cW 11)) (hg:i.an<=9223372036854775807):bT 11 i=i:=by
 obtain⟨hf,h1,h2,h3,h4,h5,h6,h7,h8,h9,bY⟩:=hr
 have g0:=au (r:=i.rd) h1
 have g1:=au (r:=i.rn) h2
 have g2:=au (r:=i.rm) h3
 have g3:=au (r:=i.ra) h4
 have g4:i.aw=0:=bh h7
 have g5:i.kind=0:=(aP rfl h9).1
 have g6:i.bm=0:=bh (aP rfl h9).2
 have g7:i.set=0:=h8.elim id fun e=>absurd (show false=true from e.2) Bool.false_ne_true
 have g8:i.cond=0:=h6.elim id fun e=>absurd (show false=true from e.1) Bool.false_ne_true
 have g9:0 < i.an/\i.an / 16384 % 2*16384+i.an % 256=i.an:=zu 14 (by decide) (by decide) rfl h5 hg
 exact aK rfl (LK i.rd g0) (LL i.rn g1) (LM i.rm g2) (LO i.ra g3) ((aT (K:=11) (f:=i.form) (by decide)).trans (LP i.aw g4)) (LQ i.kind g5) ((bj (K:=11) (k:=xR 11 i 5) (by decide)).trans (LR i.bm g6)) (LS i.set g7) (LU i.cond g8) (LV i.an g9)
theorem HM (i:IN) (hs:af i.form=12) (hr:aH i (cW 12)) (hg:i.an<=9223372036854775807):bT 12 i=i:=by
 obtain⟨hf,h1,h2,h3,h4,h5,h6,h7,h8,h9,bY⟩:=hr
 have g0:=au (r:=i.rd) h1
 have g1:=au (r:=i.rn) h2
 have g2:=au (r:=i.rm) h3
 have g3:=au (r:=i.ra) h4
 have g4:i.aw=0:=bh h7
 have g5:i.kind=0:=(aP rfl h9).1
 have g6:i.bm=0:=bh (aP rfl h9).2
 have g7:i.set=0:=h8.elim id fun e=>absurd (show false=true from e.2) Bool.false_ne_true
 have g8:i.cond=0:=h6.elim id fun e=>absurd (show false=true from e.1) Bool.false_ne_true
 have g9:0 < i.an/\i.an / 32768 % 2*32768+i.an % 256=i.an:=zu 15 (by decide) (by decide) rfl h5 hg
 exact aK rfl (LW i.rd g0) (LX i.rn g1) (LY i.rm g2) (LZ i.ra g3) ((aT (K:=12) (f:=i.form) (by decide)).trans (L0 i.aw g4)) (L1 i.kind g5) ((bj (K:=12) (k:=xR 12 i 5) (by decide)).trans (L2 i.bm g6)) (L3 i.set g7) (L4 i.cond g8) (L5 i.an g9)
theorem HN (i:IN) (hs:af i.form=13) (hr:aH i (cW 13)) (hg:i.an<=9223372036854775807):bT 13 i=i:=by
 obtain⟨hf,h1,h2,h3,h4,h5,h6,h7,h8,h9,bY⟩:=hr
 have g0:=au (r:=i.rd) h1
 have g1:=au (r:=i.rn) h2
 have g2:=au (r:=i.rm) h3
 have g3:=au (r:=i.ra) h4
 have g4:i.aw=0:=bh h7
 have g5:i.kind=0:=(aP rfl h9).1
 have g6:i.bm=0:=bh (aP rfl h9).2
 have g7:i.set=0:=h8.elim id fun e=>absurd (show false=true from e.2) Bool.false_ne_true
 have g8:i.cond=0:=h6.elim id fun e=>absurd (show false=true from e.1) Bool.false_ne_true
 have g9:i.an=0:=cq rfl h5
 exact aK rfl (L6 i.rd g0) (L7 i.rn g1) (L8 i.rm g2) (L9 i.ra g3) ((aT (K:=13) (f:=i.form) (by decide)).trans (L' i.aw g4)) (L_ i.kind g5) ((bj (K:=13) (k:=xR 13 i 5) (by decide)).trans (Ma i.bm g6)) (Mb i.set g7) (Mc i.cond g8) (Me i.an g9)
theorem HO (i:IN) (hs:af i.form=14) (hr:aH i (cW 14)) (hg:i.an<=9223372036854775807):bT 14 i=i:=by
 obtain⟨hf,h1,h2,h3,h4,h5,h6,h7,h8,h9,bY⟩:=hr
 have g0:=au (r:=i.rd) h1
 have g1:=au (r:=i.rn) h2
 have g2:=au (r:=i.rm) h3
 have g3:=au (r:=i.ra) h4
 have g4:0<=i.aw/\i.aw<=255/\i.aw % 1=0:=du (s:=1) (by decide) h7
 have g5:i.kind=0:=(aP rfl h9).1
 have g6:i.bm=0:=bh (aP rfl h9).2
 have g7:i.set=0:=h8.elim id fun e=>absurd (show false=true from e.2) Bool.false_ne_true
 have g8:i.cond=0:=h6.elim id fun e=>absurd (show false=true from e.1) Bool.false_ne_true
 have g9:i.an=0:=cq rfl h5
 exact aK rfl (Mf i.rd g0) (Mg i.rn g1) (Mh i.rm g2) (Mi i.ra g3) ((aT (K:=14) (f:=i.form) (by decide)).trans (Mj i.aw g4)) (Ml i.kind g5) ((bj (K:=14) (k:=xR 14 i 5) (by decide)).trans (Mm i.bm g6)) (Mn i.set g7) (Mo i.cond g8) (Mp i.an g9)
theorem HP (i:IN) (hs:af i.form=15) (hr:aH i (cW 15)) (hg:i.an<=9223372036854775807):bT 15 i=i:=by
 obtain⟨hf,h1,h2,h3,h4,h5,h6,h7,h8,h9,bY⟩:=hr
 have g0:=au (r:=i.rd) h1
 have g1:=au (r:=i.rn) h2
 have g2:=au (r:=i.rm) h3
 have g3:=au (r:=i.ra) h4
 have g4:-256<=i.aw/\i.aw<=254/\i.aw % 2=0:=du (s:=2) (by decide) h7
 have g5:i.kind=0:=(aP rfl h9).1
 have g6:i.bm=0:=bh (aP rfl h9).2
 have g7:i.set=0:=h8.elim id fun e=>absurd (show false=true from e.2) Bool.false_ne_true
 have g8:0<=i.cond/\i.cond<=13:=by rcases h6 with h6|h6<;>omega
 have g9:i.an=0:=cq rfl h5
 exact aK rfl (Mq i.rd g0) (Mr i.rn g1) (Ms i.rm g2) (Mt i.ra g3) (Mu i.aw g4) (Mv i.kind g5) ((bj (K:=15) (k:=xR 15 i 5) (by decide)).trans (Mw i.bm g6)) (Mx i.set g7) (My i.cond g8) (Mz i.an g9)
theorem HQ (i:IN) (hs:af i.form=16) (hr:aH i (cW 16)) (hg:i.an<=9223372036854775807):bT 16 i=i:=by
 obtain⟨hf,h1,h2,h3,h4,h5,h6,h7,h8,h9,bY⟩:=hr
 have g0:=au (r:=i.rd) h1
 have g1:=au (r:=i.rn) h2
 have g2:=au (r:=i.rm) h3
 have g3:=au (r:=i.ra) h4
 have g4:-2048<=i.aw/\i.aw<=2046/\i.aw % 2=0:=du (s:=2) (by decide) h7
 have g5:i.kind=0:=(aP rfl h9).1
 have g6:i.bm=0:=bh (aP rfl h9).2
 have g7:i.set=0:=h8.elim id fun e=>absurd (show false=true from e.2) Bool.false_ne_true
 have g8:i.cond=0:=h6.elim id fun e=>absurd (show false=true from e.1) Bool.false_ne_true
 have g9:i.an=0:=cq rfl h5
 exact aK rfl (MA i.rd g0) (MB i.rn g1) (MC i.rm g2) (MD i.ra g3) (ME i.aw g4) (MF i.kind g5) ((bj (K:=16) (k:=xR 16 i 5) (by decide)).trans (MG i.bm g6)) (MH i.set g7) (MI i.cond g8) (MJ i.an g9)
theorem HR (i:IN) (hs:af i.form=17) (hr:aH i (cW 17)) (hg:i.an<=9223372036854775807):bT 17 i=i:=by
 obtain⟨hf,h1,h2,h3,h4,h5,h6,h7,h8,h9,bY⟩:=hr
 have g0:=aW (r:=i.rd) h1
 have g1:=au (r:=i.rn) h2
 have g2:=au (r:=i.rm) h3
 have g3:=au (r:=i.ra) h4
 have g4:0<=i.aw/\i.aw<=65535/\i.aw % 1=0:=du (s:=1) (by decide) h7
 have g5:i.kind=0:=(aP rfl h9).1
 have g6:i.bm=0:=bh (aP rfl h9).2
 have g7:i.set=0:=h8.elim id fun e=>absurd (show false=true from e.2) Bool.false_ne_true
 have g8:i.cond=0:=h6.elim id fun e=>absurd (show false=true from e.1) Bool.false_ne_true
 have g9:i.an=0:=cq rfl h5
 exact aK rfl (MK i.rd g0) (ML i.rn g1) (MM i.rm g2) (MN i.ra g3) ((aT (K:=17) (f:=i.form) (by decide)).trans (MO i.aw g4)) (MP i.kind g5) ((bj (K:=17) (k:=xR 17 i 5) (by decide)).trans (MQ i.bm g6)) (MR i.set g7) (MS i.cond g8) (MU i.an g9)
theorem HS (i:IN) (hs:af i.form=18) (hr:aH i (cW 18)) (hg:i.an<=9223372036854775807):bT 18 i=i:=by
 obtain⟨hf,h1,h2,h3,h4,h5,h6,h7,h8,h9,bY⟩:=hr
 have g0:=aW (r:=i.rd) h1
 have g1:=aW (r:=i.rn) h2
 have g2:=au (r:=i.rm) h3
 have g3:=au (r:=i.ra) h4
 have g4:0<=i.aw/\i.aw<=4095/\i.aw % 1=0:=du (s:=1) (by decide) h7
 have g5:i.kind=0:=(aP rfl h9).1
 have g6:i.bm=0:=bh (aP rfl h9).2
 have g7:i.set=0\/i.set=1:=h8.imp id fun e=>e.1
 have g8:i.cond=0:=h6.elim id fun e=>absurd (show false=true from e.1) Bool.false_ne_true
 have g9:i.an=0:=cq rfl h5
 exact aK rfl (MV i.rd g0) (MW i.rn g1) (MX i.rm g2) (MY i.ra g3) ((aT (K:=18) (f:=i.form) (by decide)).trans (MZ i.aw g4)) (M0 i.kind g5) ((bj (K:=18) (k:=xR 18 i 5) (by decide)).trans (M1 i.bm g6)) (M3 i.set g7) (M4 i.cond g8) (M5 i.an g9)
theorem HT (i:IN) (hs:af i.form=19) (hr:aH i (cW 19)) (hg:i.an<=9223372036854775807):bT 19 i=i:=by
 obtain⟨hf,h1,h2,h3,h4,h5,h6,h7,h8,h9,bY⟩:=hr
 have g0:=aW (r:=i.rd) h1
 have g1:=au (r:=i.rn) h2
 have g2:=au (r:=i.rm) h3
 have g3:=au (r:=i.ra) h4
 have g4:0<=i.aw/\i.aw<=4095/\i.aw % 1=0:=du (s:=1) (by decide) h7
 have g5:i.kind=0:=(aP rfl h9).1
 have g6:i.bm=0:=bh (aP rfl h9).2
 have g7:i.set=0\/i.set=1:=h8.imp id fun e=>e.1
 have g8:i.cond=0:=h6.elim id fun e=>absurd (show false=true from e.1) Bool.false_ne_true
 have g9:i.an=0:=cq rfl h5
 exact aK rfl (M6 i.rd g0) (M7 i.rn g1) (M8 i.rm g2) (M9 i.ra g3) ((aT (K:=19) (f:=i.form) (by decide)).trans (M' i.aw g4)) (M_ i.kind g5) ((bj (K:=19) (k:=xR 19 i 5) (by decide)).trans (Na i.bm g6)) (Nb i.set g7) (Nc i.cond g8) (Nd i.an g9)
theorem HU (i:IN) (hs:af i.form=20) (hr:aH i (cW 20)) (hg:i.an<=9223372036854775807):bT 20 i=i:=by
 obtain⟨hf,h1,h2,h3,h4,h5,h6,h7,h8,h9,bY⟩:=hr
 have g0:=au (r:=i.rd) h1
 have g1:=aW (r:=i.rn) h2
 have g2:=au (r:=i.rm) h3
 have g3:=au (r:=i.ra) h4
 have g4:0<=i.aw/\i.aw<=4095/\i.aw % 1=0:=du (s:=1) (by decide) h7
 have g5:i.kind=0:=(aP rfl h9).1
 have g6:i.bm=0:=bh (aP rfl h9).2
 have g7:i.set=0:=h8.elim id fun e=>absurd (show false=true from e.2) Bool.false_ne_true
 have g8:i.cond=0:=h6.elim id fun e=>absurd (show false=true from e.1) Bool.false_ne_true
 have g9:i.an=0:=cq rfl h5
 exact aK rfl (Nf i.rd g0) (Ng i.rn g1) (Nh i.rm g2) (Ni i.ra g3) ((aT (K:=20) (f:=i.form) (by decide)).trans (Nj i.aw g4)) (Nk i.kind g5) ((bj (K:=20) (k:=xR 20 i 5) (by decide)).trans (Nl i.bm g6)) (Nm i.set g7) (Nn i.cond g8) (No i.an g9)
theorem HV (i:IN) (hs:af i.form=21) (hr:aH i (cW 21)) (hg:i.an<=9223372036854775807):bT 21 i=i:=by
 obtain⟨hf,h1,h2,h3,h4,h5,h6,h7,h8,h9,bY⟩:=hr
 have g0:=aW (r:=i.rd) h1
 have g1:=aW (r:=i.rn) h2
 have g2:=aW (r:=i.rm) h3
 have g3:=au (r:=i.ra) h4
 have g4:i.aw=0:=bh h7
 have g6:bU i.kind i.bm:=A2 rfl h9
 have g5:=kv g6
 have g7:i.set=0\/i.set=1:=h8.imp id fun e=>e.1
 have g8:i.cond=0:=h6.elim id fun e=>absurd (show false=true from e.1) Bool.false_ne_true
 have g9:i.an=0:=cq rfl h5
 exact aK rfl (Np i.rd g0) (Nq i.rn g1) (Nr i.rm g2) (Ns i.ra g3) ((aT (K:=21) (f:=i.form) (by decide)).trans (Nt i.aw g4)) (Ef i.kind g5) ((sd (K:=21) (k:=xR 21 i 5) (by decide)).trans ((congrArg (fun k=>if xR 21 i 6=0/\(k=1\/k=2) then 32 else xR 21 i 6) (Ef i.kind g5)).trans (Ly i.kind i.bm g6))) (Nu i.set g7) (Nv i.cond g8) (Nw i.an g9)
theorem HW (i:IN) (hs:af i.form=22) (hr:aH i (cW 22)) (hg:i.an<=9223372036854775807):bT 22 i=i:=by
 obtain⟨hf,h1,h2,h3,h4,h5,h6,h7,h8,h9,bY⟩:=hr
 have g0:=aW (r:=i.rd) h1
 have g1:=au (r:=i.rn) h2
 have g2:=aW (r:=i.rm) h3
 have g3:=au (r:=i.ra) h4
 have g4:i.aw=0:=bh h7
 have g6:bU i.kind i.bm:=A2 rfl h9
 have g5:=kv g6
 have g7:i.set=0\/i.set=1:=h8.imp id fun e=>e.1
 have g8:i.cond=0:=h6.elim id fun e=>absurd (show false=true from e.1) Bool.false_ne_true
 have g9:i.an=0:=cq rfl h5
 exact aK rfl (Nx i.rd g0) (Ny i.rn g1) (Nz i.rm g2) (NA i.ra g3) ((aT (K:=22) (f:=i.form) (by decide)).trans (NB i.aw g4)) (Eg i.kind g5) ((sd (K:=22) (k:=xR 22 i 5) (by decide)).trans ((congrArg (fun k=>if xR 22 i 6=0/\(k=1\/k=2) then 32 else xR 22 i 6) (Eg i.kind g5)).trans (Ly i.kind i.bm g6))) (NC i.set g7) (ND i.cond g8) (NF i.an g9)
theorem HX (i:IN) (hs:af i.form=23) (hr:aH i (cW 23)) (hg:i.an<=9223372036854775807):bT 23 i=i:=by
 obtain⟨hf,h1,h2,h3,h4,h5,h6,h7,h8,h9,bY⟩:=hr
 have g0:=au (r:=i.rd) h1
 have g1:=aW (r:=i.rn) h2
 have g2:=aW (r:=i.rm) h3
 have g3:=au (r:=i.ra) h4
 have g4:i.aw=0:=bh h7
 have g6:bU i.kind i.bm:=A2 rfl h9
 have g5:=kv g6
 have g7:i.set=0:=h8.elim id fun e=>absurd (show false=true from e.2) Bool.false_ne_true
 have g8:i.cond=0:=h6.elim id fun e=>absurd (show false=true from e.1) Bool.false_ne_true
 have g9:i.an=0:=cq rfl h5
 exact aK rfl (NG i.rd g0) (NH i.rn g1) (NI i.rm g2) (NJ i.ra g3) ((aT (K:=23) (f:=i.form) (by decide)).trans (NK i.aw g4)) (Eh i.kind g5) ((sd (K:=23) (k:=xR 23 i 5) (by decide)).trans ((congrArg (fun k=>if xR 23 i 6=0/\(k=1\/k=2) then 32 else xR 23 i 6) (Eh i.kind g5)).trans (Ly i.kind i.bm g6))) (NL i.set g7) (NM i.cond g8) (NN i.an g9)
theorem HY (i:IN) (hs:af i.form=24) (hr:aH i (cW 24)) (hg:i.an<=9223372036854775807):bT 24 i=i:=by
 obtain⟨hf,h1,h2,h3,h4,h5,h6,h7,h8,h9,bY⟩:=hr
 have g0:=aW (r:=i.rd) h1
 have g1:=aW (r:=i.rn) h2
 have g2:=au (r:=i.rm) h3
 have g3:=au (r:=i.ra) h4
 have g4:0<=i.aw/\i.aw<=4095/\i.aw % 1=0:=du (s:=1) (by decide) h7
 have g5:i.kind=0:=(aP rfl h9).1
 have g6:i.bm=0:=bh (aP rfl h9).2
 have g7:i.set=0:=h8.elim id fun e=>absurd (show false=true from e.2) Bool.false_ne_true
 have g8:i.cond=0:=h6.elim id fun e=>absurd (show false=true from e.1) Bool.false_ne_true
 have g9:i.an=0:=cq rfl h5
 exact aK rfl (NO i.rd g0) (NP i.rn g1) (NQ i.rm g2) (NR i.ra g3) ((aT (K:=24) (f:=i.form) (by decide)).trans (NS i.aw g4)) (NT i.kind g5) ((bj (K:=24) (k:=xR 24 i 5) (by decide)).trans (NU i.bm g6)) (NV i.set g7) (NW i.cond g8) (NX i.an g9)
theorem HZ (i:IN) (hs:af i.form=25) (hr:aH i (cW 25)) (hg:i.an<=9223372036854775807):bT 25 i=i:=by
 obtain⟨hf,h1,h2,h3,h4,h5,h6,h7,h8,h9,bY⟩:=hr
 have g0:=aW (r:=i.rd) h1
 have g1:=kQ (r:=i.rn) h2
 have g2:=au (r:=i.rm) h3
 have g3:=au (r:=i.ra) h4
 have g4:0<=i.aw/\i.aw<=4095/\i.aw % 1=0:=du (s:=1) (by decide) h7
 have g5:i.kind=0:=(aP rfl h9).1
 have g6:i.bm=0:=bh (aP rfl h9).2
 have g7:i.set=0:=h8.elim id fun e=>absurd (show false=true from e.2) Bool.false_ne_true
 have g8:i.cond=0:=h6.elim id fun e=>absurd (show false=true from e.1) Bool.false_ne_true
 have g9:i.an=0:=cq rfl h5
 exact aK rfl (NY i.rd g0) (NZ i.rn g1) (N0 i.rm g2) (N1 i.ra g3) ((aT (K:=25) (f:=i.form) (by decide)).trans (N2 i.aw g4)) (N3 i.kind g5) ((bj (K:=25) (k:=xR 25 i 5) (by decide)).trans (N4 i.bm g6)) (N5 i.set g7) (N6 i.cond g8) (N7 i.an g9)
theorem H' (i:IN) (hs:af i.form=26) (hr:aH i (cW 26)) (hg:i.an<=9223372036854775807):bT 26 i=i:=by
 obtain⟨hf,h1,h2,h3,h4,h5,h6,h7,h8,h9,bY⟩:=hr
 have g0:=aW (r:=i.rd) h1
 have g1:=kQ (r:=i.rn) h2
 have g2:=aW (r:=i.rm) h3
 have g3:=au (r:=i.ra) h4
 have g4:i.aw=0:=bh h7
 have g5:i.kind=0:=(aP rfl h9).1
 have g6:0<=i.bm/\i.bm<=3/\i.bm % 1=0:=du (s:=1) (by decide) (aP rfl h9).2
 have g7:i.set=0:=h8.elim id fun e=>absurd (show false=true from e.2) Bool.false_ne_true
 have g8:i.cond=0:=h6.elim id fun e=>absurd (show false=true from e.1) Bool.false_ne_true
 have g9:i.an=0:=cq rfl h5
 exact aK rfl (N8 i.rd g0) (N9 i.rn g1) (N' i.rm g2) (N_ i.ra g3) ((aT (K:=26) (f:=i.form) (by decide)).trans (Oa i.aw g4)) (Ob i.kind g5) ((bj (K:=26) (k:=xR 26 i 5) (by decide)).trans (Oc i.bm g6)) (Od i.set g7) (Oe i.cond g8) (Of i.an g9)
theorem H_ (i:IN) (hs:af i.form=27) (hr:aH i (cW 27)) (hg:i.an<=9223372036854775807):bT 27 i=i:=by
 obtain⟨hf,h1,h2,h3,h4,h5,h6,h7,h8,h9,bY⟩:=hr
 have g0:=aW (r:=i.rd) h1
 have g1:=aW (r:=i.rn) h2
 have g2:=aW (r:=i.rm) h3
 have g3:=au (r:=i.ra) h4
 have g4:i.aw=0:=bh h7
 have g5:i.kind=0:=(aP rfl h9).1
 have g6:i.bm=0:=bh (aP rfl h9).2
 have g7:i.set=0\/i.set=1:=h8.imp id fun e=>e.1
 have g8:i.cond=0:=h6.elim id fun e=>absurd (show false=true from e.1) Bool.false_ne_true
 have g9:i.an=0:=cq rfl h5
 exact aK rfl (Og i.rd g0) (Oh i.rn g1) (Oi i.rm g2) (Oj i.ra g3) ((aT (K:=27) (f:=i.form) (by decide)).trans (Ol i.aw g4)) (Om i.kind g5) ((bj (K:=27) (k:=xR 27 i 5) (by decide)).trans (On i.bm g6)) (Oo i.set g7) (Oq i.cond g8) (Ot i.an g9)
theorem Ia (i:IN) (hs:af i.form=28) (hr:aH i (cW 28)) (hg:i.an<=9223372036854775807):bT 28 i=i:=by
 obtain⟨hf,h1,h2,h3,h4,h5,h6,h7,h8,h9,bY⟩:=hr
 have g0:=aW (r:=i.rd) h1
 have g1:=aW (r:=i.rn) h2
 have g2:=aW (r:=i.rm) h3
 have g3:=au (r:=i.ra) h4
 have g4:i.aw=0:=bh h7
 have g5:i.kind=0:=(aP rfl h9).1
 have g6:i.bm=0:=bh (aP rfl h9).2
 have g7:i.set=0:=h8.elim id fun e=>absurd (show false=true from e.2) Bool.false_ne_true
 have g8:i.cond=0:=h6.elim id fun e=>absurd (show false=true from e.1) Bool.false_ne_true
 have g9:i.an=0:=cq rfl h5
 exact aK rfl (Ou i.rd g0) (Ov i.rn g1) (Ow i.rm g2) (Ox i.ra g3) ((aT (K:=28) (f:=i.form) (by decide)).trans (Oy i.aw g4)) (Oz i.kind g5) ((bj (K:=28) (k:=xR 28 i 5) (by decide)).trans (OA i.bm g6)) (OB i.set g7) (OC i.cond g8) (OD i.an g9)
theorem Ib (i:IN) (hs:af i.form=29) (hr:aH i (cW 29)) (hg:i.an<=9223372036854775807):bT 29 i=i:=by
 obtain⟨hf,h1,h2,h3,h4,h5,h6,h7,h8,h9,bY⟩:=hr
 have g0:=aW (r:=i.rd) h1
 have g1:=aW (r:=i.rn) h2
 have g2:=aW (r:=i.rm) h3
 have g3:=aW (r:=i.ra) h4
 have g4:i.aw=0:=bh h7
 have g5:i.kind=0:=(aP rfl h9).1
 have g6:i.bm=0:=bh (aP rfl h9).2
 have g7:i.set=0:=h8.elim id fun e=>absurd (show false=true from e.2) Bool.false_ne_true
 have g8:i.cond=0:=h6.elim id fun e=>absurd (show false=true from e.1) Bool.false_ne_true
 have g9:i.an=0:=cq rfl h5
 exact aK rfl (OE i.rd g0) (OF i.rn g1) (OG i.rm g2) (OH i.ra g3) ((aT (K:=29) (f:=i.form) (by decide)).trans (OI i.aw g4)) (OJ i.kind g5) ((bj (K:=29) (k:=xR 29 i 5) (by decide)).trans (OK i.bm g6)) (OL i.set g7) (OM i.cond g8) (ON i.an g9)
theorem Ic (i:IN) (hs:af i.form=30) (hr:aH i (cW 30)) (hg:i.an<=9223372036854775807):bT 30 i=i:=by
 obtain⟨hf,h1,h2,h3,h4,h5,h6,h7,h8,h9,bY⟩:=hr
 have g0:=aW (r:=i.rd) h1
 have g1:=aW (r:=i.rn) h2
 have g2:=aW (r:=i.rm) h3
 have g3:=aW (r:=i.ra) h4
 have g4:i.aw=0:=bh h7
 have g5:i.kind=0:=(aP rfl h9).1
 have g6:i.bm=0:=bh (aP rfl h9).2
 have g7:i.set=0:=h8.elim id fun e=>absurd (show false=true from e.2) Bool.false_ne_true
 have g8:i.cond=0:=h6.elim id fun e=>absurd (show false=true from e.1) Bool.false_ne_true
 have g9:i.an=0:=cq rfl h5
 exact aK rfl (OO i.rd g0) (OP i.rn g1) (OQ i.rm g2) (OR i.ra g3) ((aT (K:=30) (f:=i.form) (by decide)).trans (OS i.aw g4)) (OT i.kind g5) ((bj (K:=30) (k:=xR 30 i 5) (by decide)).trans (OU i.bm g6)) (OV i.set g7) (OW i.cond g8) (OX i.an g9)
theorem Ie (i:IN) (hs:af i.form=31) (hr:aH i (cW 31)) (hg:i.an<=9223372036854775807):bT 31 i=i:=by
 obtain⟨hf,h1,h2,h3,h4,h5,h6,h7,h8,h9,bY⟩:=hr
 have g0:=aW (r:=i.rd) h1
 have g1:=aW (r:=i.rn) h2
 have g2:=aW (r:=i.rm) h3
 have g3:=aW (r:=i.ra) h4
 have g4:i.aw=0:=bh h7
 have g5:i.kind=0:=(aP rfl h9).1
 have g6:i.bm=0:=bh (aP rfl h9).2
 have g7:i.set=0:=h8.elim id fun e=>absurd (show false=true from e.2) Bool.false_ne_true
 have g8:i.cond=0:=h6.elim id fun e=>absurd (show false=true from e.1) Bool.false_ne_true
 have g9:i.an=0:=cq rfl h5
 exact aK rfl (OY i.rd g0) (OZ i.rn g1) (O0 i.rm g2) (O1 i.ra g3) ((aT (K:=31) (f:=i.form) (by decide)).trans (O2 i.aw g4)) (O3 i.kind g5) ((bj (K:=31) (k:=xR 31 i 5) (by decide)).trans (O4 i.bm g6)) (O5 i.set g7) (O6 i.cond g8) (O7 i.an g9)
theorem Ig (i:IN) (hs:af i.form=32) (hr:aH i (cW 32)) (hg:i.an<=9223372036854775807):bT 32 i=i:=by
 obtain⟨hf,h1,h2,h3,h4,h5,h6,h7,h8,h9,bY⟩:=hr
 have g0:=aW (r:=i.rd) h1
 have g1:=au (r:=i.rn) h2
 have g2:=aW (r:=i.rm) h3
 have g3:=au (r:=i.ra) h4
 have g4:i.aw=0:=bh h7
 have g5:i.kind=0:=(aP rfl h9).1
 have g6:i.bm=0:=bh (aP rfl h9).2
 have g7:i.set=0:=h8.elim id fun e=>absurd (show false=true from e.2) Bool.false_ne_true
 have g8:i.cond=0:=h6.elim id fun e=>absurd (show false=true from e.1) Bool.false_ne_true
 have g9:i.an=0:=cq rfl h5
 exact aK rfl (O8 i.rd g0) (O9 i.rn g1) (O' i.rm g2) (O_ i.ra g3) ((aT (K:=32) (f:=i.form) (by decide)).trans (Pa i.aw g4)) (Pb i.kind g5) ((bj (K:=32) (k:=xR 32 i 5) (by decide)).trans (Pc i.bm g6)) (Pd i.set g7) (Pe i.cond g8) (Pf i.an g9)
theorem Ih (i:IN) (hs:af i.form=33) (hr:aH i (cW 33)) (hg:i.an<=9223372036854775807):bT 33 i=i:=by
 obtain⟨hf,h1,h2,h3,h4,h5,h6,h7,h8,h9,bY⟩:=hr
 have g0:=au (r:=i.rd) h1
 have g1:=au (r:=i.rn) h2
 have g2:=au (r:=i.rm) h3
 have g3:=au (r:=i.ra) h4
 have g4:-1048576<=i.aw/\i.aw<=1048574/\i.aw % 2=0:=du (s:=2) (by decide) h7
 have g5:i.kind=0:=(aP rfl h9).1
 have g6:i.bm=0:=bh (aP rfl h9).2
 have g7:i.set=0:=h8.elim id fun e=>absurd (show false=true from e.2) Bool.false_ne_true
 have g8:0<=i.cond/\i.cond<=13:=by rcases h6 with h6|h6<;>omega
 have g9:i.an=0:=cq rfl h5
 exact aK rfl (Pg i.rd g0) (Ph i.rn g1) (Pj i.rm g2) (Pk i.ra g3) (Pm i.aw g4) (Pn i.kind g5) ((bj (K:=33) (k:=xR 33 i 5) (by decide)).trans (Po i.bm g6)) (Pp i.set g7) (Pq i.cond g8) (Pr i.an g9)
end Go.Proofs.YtnbhdacpogplgaaGreatDoor.Pw

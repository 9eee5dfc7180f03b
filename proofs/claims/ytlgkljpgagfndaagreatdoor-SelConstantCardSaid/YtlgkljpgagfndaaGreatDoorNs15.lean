/- What this claim is proved with: no condition. -/
import Derived.Test.YtlgkljpgagfndaaGreatDoorNs14
set_option maxRecDepth 100000
set_option linter.unusedVariables false
set_option linter.unusedSimpArgs false
namespace Go.Proofs.YtlgkljpgagfndaaGreatDoor.Pw
open Go Go.RowKit
theorem Ld (k v:Int) (h:ct k v):(if 0+ab v 2 3*2 ^ 2+ab v 0 2*2 ^ 0=0/\(k=1\/k=2) then 32 else 0+ab v 2 3*2 ^ 2+ab v 0 2*2 ^ 0)=v:=by
 unfold ct at h; unfold ab; (repeat' split)<;>omega
theorem ke {k v:Int} (h:ct k v):0<=k/\k < 4:=by unfold ct at h; omega
theorem R0 (v:Int) (h:0<=v/\v < 8):0+ab v 0 3*2 ^ 0=v:=by
 unfold ab; (repeat' split)<;>omega
theorem R1 (v:Int) (h:v=0):0=v:=by
 omega
theorem R2 (v:Int) (h:0<=v/\v < 8):0+ab v 0 3*2 ^ 0=v:=by
 unfold ab; (repeat' split)<;>omega
theorem R3 (v:Int) (h:v=0):0=v:=by
 omega
theorem R4 (v:Int) (h:v=0):0=v:=by
 omega
theorem R5 (v:Int) (h:v=0):0=v:=by
 omega
theorem R6 (v:Int) (h:v=0):0=v:=by
 omega
theorem R7 (v:Int) (h:v=0):0=v:=by
 omega
theorem R8 (v:Int) (h:v=0):0=v:=by
 omega
theorem R9 (f v:Int) (h:0<=v/\v<=32) (h1:f=1->v < 32) (h2:f=2\/f=3->0 < v) (h3:f=1\/f=2\/f=3):(if 1 < f/\0+ab v 0 5*2 ^ 0=0 then 32 else 0+ab v 0 5*2 ^ 0)=v:=by
 unfold ab; (repeat' split)<;>omega
theorem R' (v:Int) (h:0<=v/\v < 8):0+ab v 0 3*2 ^ 0=v:=by
 unfold ab; (repeat' split)<;>omega
theorem R_ (v:Int) (h:0<=v/\v < 8):0+ab v 0 3*2 ^ 0=v:=by
 unfold ab; (repeat' split)<;>omega
theorem Sa (v:Int) (h:0<=v/\v < 8):0+ab v 0 3*2 ^ 0=v:=by
 unfold ab; (repeat' split)<;>omega
theorem Sb (v:Int) (h:v=0):0=v:=by
 omega
theorem Sc (v:Int) (h:v=0):0=v:=by
 omega
theorem Sd (v:Int) (h:v=0):0=v:=by
 omega
theorem Se (v:Int) (h:v=0):0=v:=by
 omega
theorem Sf (v:Int) (h:v=0):0=v:=by
 omega
theorem Sg (v:Int) (h:v=0):0=v:=by
 omega
theorem Sh (v:Int) (h:v=0):0=v:=by
 omega
theorem Si (v:Int) (h:0<=v/\v < 8):0+ab v 0 3*2 ^ 0=v:=by
 unfold ab; (repeat' split)<;>omega
theorem Sj (v:Int) (h:0<=v/\v < 8):0+ab v 0 3*2 ^ 0=v:=by
 unfold ab; (repeat' split)<;>omega
theorem Sk (v:Int) (h:v=0):0=v:=by
 omega
theorem Sl (v:Int) (h:v=0):0=v:=by
 omega
theorem Sm (v:Int) (h:0<=v/\v<=7/\v % 1=0):0+ab v 0 3*2 ^ 0=v:=by
 unfold ab; (repeat' split)<;>omega
theorem Sn (v:Int) (h:v=0):0=v:=by
 omega
theorem So (v:Int) (h:v=0):0=v:=by
 omega
theorem Sp (v:Int) (h:v=0):0=v:=by
 omega
theorem Sq (v:Int) (h:v=0):0=v:=by
 omega
theorem Sr (v:Int) (h:v=0):0=v:=by
 omega
theorem Su (v:Int) (h:0<=v/\v < 8):0+ab v 0 3*2 ^ 0=v:=by
 unfold ab; (repeat' split)<;>omega
theorem Sv (v:Int) (h:v=0):0=v:=by
 omega
theorem Sw (v:Int) (h:v=0):0=v:=by
 omega
theorem Sx (v:Int) (h:v=0):0=v:=by
 omega
theorem Sy (v:Int) (h:0<=v/\v<=255/\v % 1=0):0+ab v 0 8*2 ^ 0=v:=by
 unfold ab; (repeat' split)<;>omega
theorem Sz (v:Int) (h:v=0):0=v:=by
 omega
theorem SA (v:Int) (h:v=0):0=v:=by
 omega
theorem SB (v:Int) (h:v=0):0=v:=by
 omega
theorem SC (v:Int) (h:v=0):0=v:=by
 omega
theorem SD (v:Int) (h:v=0):0=v:=by
 omega
theorem SE (v:Int) (h:0<=v/\v < 8):0+ab v 0 3*2 ^ 0=v:=by
 unfold ab; (repeat' split)<;>omega
theorem SF (v:Int) (h:v=0):0=v:=by
 omega
theorem SG (v:Int) (h:0<=v/\v < 8):0+ab v 0 3*2 ^ 0=v:=by
 unfold ab; (repeat' split)<;>omega
theorem SH (v:Int) (h:v=0):0=v:=by
 omega
theorem SI (v:Int) (h:v=0):0=v:=by
 omega
theorem SJ (v:Int) (h:v=0):0=v:=by
 omega
theorem SK (v:Int) (h:v=0):0=v:=by
 omega
theorem SL (v:Int) (h:v=0):0=v:=by
 omega
theorem SM (v:Int) (h:v=0):0=v:=by
 omega
theorem SN (v:Int) (h:v=0):0=v:=by
 omega
theorem SO (v:Int) (h:0<=v/\v < 15):0+ab v 3 1*2 ^ 3+ab v 0 3*2 ^ 0=v:=by
 unfold ab; (repeat' split)<;>omega
theorem SP (v:Int) (h:v=0):0=v:=by
 omega
theorem SQ (v:Int) (h:0<=v/\v < 15):0+ab v 0 4*2 ^ 0=v:=by
 unfold ab; (repeat' split)<;>omega
theorem SR (v:Int) (h:v=0):0=v:=by
 omega
theorem SS (v:Int) (h:v=0):0=v:=by
 omega
theorem SU (v:Int) (h:v=0):0=v:=by
 omega
theorem SV (v:Int) (h:v=0):0=v:=by
 omega
theorem SX (v:Int) (h:v=0):0=v:=by
 omega
theorem SY (v:Int) (h:v=0):0=v:=by
 omega
theorem SZ (v:Int) (h:v=0):0=v:=by
 omega
theorem S3 (v:Int) (h:v=0):0=v:=by
 omega
theorem S4 (v:Int) (h:v=0):0=v:=by
 omega
theorem S5 (v:Int) (h:0<=v/\v < 15):0+ab v 0 4*2 ^ 0=v:=by
 unfold ab; (repeat' split)<;>omega
theorem S6 (v:Int) (h:v=0):0=v:=by
 omega
theorem S7 (v:Int) (h:v=0):0=v:=by
 omega
theorem S8 (v:Int) (h:v=0):0=v:=by
 omega
theorem S9 (v:Int) (h:v=0):0=v:=by
 omega
theorem S_ (v:Int) (h:v=0):0=v:=by
 omega
theorem Ta (v:Int) (h:v=0):0=v:=by
 omega
theorem Tb (v:Int) (h:v=0):0=v:=by
 omega
theorem Tc (v:Int) (h:0<=v/\v < 8):0+ab v 0 3*2 ^ 0=v:=by
 unfold ab; (repeat' split)<;>omega
theorem Td (v:Int) (h:v=0):0=v:=by
 omega
theorem Te (v:Int) (h:v=0):0=v:=by
 omega
theorem Tf (v:Int) (h:v=0):0=v:=by
 omega
theorem Tg (v:Int) (h:0<=v/\v<=1020/\v % 4=0):0+ab v 2 8*2 ^ 2=v:=by
 unfold ab; (repeat' split)<;>omega
theorem Th (v:Int) (h:v=0):0=v:=by
 omega
theorem Ti (v:Int) (h:v=0):0=v:=by
 omega
theorem Tj (v:Int) (h:v=0):0=v:=by
 omega
theorem Tk (v:Int) (h:v=0):0=v:=by
 omega
theorem Tl (v:Int) (h:v=0):0=v:=by
 omega
theorem Tm (v:Int) (h:0<=v/\v < 8):0+ab v 0 3*2 ^ 0=v:=by
 unfold ab; (repeat' split)<;>omega
theorem Tn (v:Int) (h:0<=v/\v < 8):0+ab v 0 3*2 ^ 0=v:=by
 unfold ab; (repeat' split)<;>omega
theorem To (v:Int) (h:v=0):0=v:=by
 omega
theorem Tp (v:Int) (h:v=0):0=v:=by
 omega
theorem Tq (v:Int) (h:0<=v/\v<=124/\v % 4=0):0+ab v 2 5*2 ^ 2=v:=by
 unfold ab; (repeat' split)<;>omega
theorem Ts (v:Int) (h:v=0):0=v:=by
 omega
theorem Tt (v:Int) (h:v=0):0=v:=by
 omega
theorem Tu (v:Int) (h:v=0):0=v:=by
 omega
theorem Tv (v:Int) (h:v=0):0=v:=by
 omega
theorem Tw (v:Int) (h:v=0):0=v:=by
 omega
theorem Le (v:Int) (h:v=0):0=v:=by
 omega
theorem Lf (v:Int) (h:v=0):0=v:=by
 omega
theorem Lg (v:Int) (h:v=0):0=v:=by
 omega
theorem Lh (v:Int) (h:v=0):0=v:=by
 omega
theorem Li (v:Int) (h:0<=v/\v<=508/\v % 4=0):0+ab v 2 7*2 ^ 2=v:=by
 unfold ab; (repeat' split)<;>omega
theorem Lj (v:Int) (h:v=0):0=v:=by
 omega
theorem Lk (v:Int) (h:v=0):0=v:=by
 omega
theorem Ll (v:Int) (h:v=0):0=v:=by
 omega
theorem Lm (v:Int) (h:v=0):0=v:=by
 omega
theorem Ln (v:Int) (h:v=0):0=v:=by
 omega
theorem Lo (v:Int) (h:v=0):0=v:=by
 omega
theorem Lp (v:Int) (h:v=0):0=v:=by
 omega
theorem Lq (v:Int) (h:v=0):0=v:=by
 omega
theorem Lr (v:Int) (h:v=0):0=v:=by
 omega
theorem Ls (v:Int) (h:v=0):0=v:=by
 omega
theorem Lt (v:Int) (h:v=0):0=v:=by
 omega
theorem Lu (v:Int) (h:v=0):0=v:=by
 omega
theorem Lv (v:Int) (h:v=0):0=v:=by
 omega
theorem Lw (v:Int) (h:v=0):0=v:=by
 omega
theorem Lx (v:Int) (h:0 < v/\v / 16384 % 2*16384+v % 256=v):0+ab v 14 1*2 ^ 14+ab v 0 8*2 ^ 0=v:=by
 unfold ab; (repeat' split)<;>omega
theorem Ly (v:Int) (h:v=0):0=v:=by
 omega
theorem Lz (v:Int) (h:v=0):0=v:=by
 omega
theorem LA (v:Int) (h:v=0):0=v:=by
 omega
theorem LB (v:Int) (h:v=0):0=v:=by
 omega
theorem LC (v:Int) (h:v=0):0=v:=by
 omega
theorem LD (v:Int) (h:v=0):0=v:=by
 omega
theorem LF (v:Int) (h:v=0):0=v:=by
 omega
theorem LG (v:Int) (h:v=0):0=v:=by
 omega
theorem LH (v:Int) (h:v=0):0=v:=by
 omega
theorem LI (v:Int) (h:0 < v/\v / 32768 % 2*32768+v % 256=v):0+ab v 15 1*2 ^ 15+ab v 0 8*2 ^ 0=v:=by
 unfold ab; (repeat' split)<;>omega
theorem LJ (v:Int) (h:v=0):0=v:=by
 omega
theorem LK (v:Int) (h:v=0):0=v:=by
 omega
theorem LL (v:Int) (h:v=0):0=v:=by
 omega
theorem LM (v:Int) (h:v=0):0=v:=by
 omega
theorem LN (v:Int) (h:v=0):0=v:=by
 omega
theorem LO (v:Int) (h:v=0):0=v:=by
 omega
theorem LP (v:Int) (h:v=0):0=v:=by
 omega
theorem LQ (v:Int) (h:v=0):0=v:=by
 omega
theorem LR (v:Int) (h:v=0):0=v:=by
 omega
theorem LS (v:Int) (h:v=0):0=v:=by
 omega
theorem LU (v:Int) (h:v=0):0=v:=by
 omega
theorem LV (v:Int) (h:v=0):0=v:=by
 omega
theorem LW (v:Int) (h:v=0):0=v:=by
 omega
theorem LX (v:Int) (h:v=0):0=v:=by
 omega
theorem LY (v:Int) (h:0<=v/\v<=255/\v % 1=0):0+ab v 0 8*2 ^ 0=v:=by
 unfold ab; (repeat' split)<;>omega
theorem LZ (v:Int) (h:v=0):0=v:=by
 omega
theorem L0 (v:Int) (h:v=0):0=v:=by
 omega
theorem L1 (v:Int) (h:v=0):0=v:=by
 omega
theorem L2 (v:Int) (h:v=0):0=v:=by
 omega
theorem L3 (v:Int) (h:v=0):0=v:=by
 omega
theorem L4 (v:Int) (h:v=0):0=v:=by
 omega
theorem L5 (v:Int) (h:v=0):0=v:=by
 omega
theorem L6 (v:Int) (h:v=0):0=v:=by
 omega
theorem L7 (v:Int) (h:v=0):0=v:=by
 omega
theorem L8 (v:Int) (h:-256<=v/\v<=254/\v % 2=0):cO (0+ab v 1 8*2 ^ 1) 9=v:=by
 unfold cO ab; (repeat' split)<;>omega
theorem L9 (v:Int) (h:v=0):0=v:=by
 omega
theorem L' (v:Int) (h:v=0):0=v:=by
 omega
theorem L_ (v:Int) (h:v=0):0=v:=by
 omega
theorem Ma (v:Int) (h:0<=v/\v<=13):0+ab v 0 4*2 ^ 0=v:=by
 unfold ab; (repeat' split)<;>omega
theorem Mb (v:Int) (h:v=0):0=v:=by
 omega
theorem Mc (v:Int) (h:v=0):0=v:=by
 omega
theorem Me (v:Int) (h:v=0):0=v:=by
 omega
theorem Mf (v:Int) (h:v=0):0=v:=by
 omega
theorem Mg (v:Int) (h:v=0):0=v:=by
 omega
theorem Mh (v:Int) (h:-2048<=v/\v<=2046/\v % 2=0):cO (0+ab v 1 11*2 ^ 1) 12=v:=by
 unfold cO ab; (repeat' split)<;>omega
theorem Mi (v:Int) (h:v=0):0=v:=by
 omega
theorem Mj (v:Int) (h:v=0):0=v:=by
 omega
theorem Mk (v:Int) (h:v=0):0=v:=by
 omega
theorem Ml (v:Int) (h:v=0):0=v:=by
 omega
theorem Mm (v:Int) (h:v=0):0=v:=by
 omega
theorem Mn (v:Int) (h:0<=v/\v < 15):0+ab v 0 4*2 ^ 0=v:=by
 unfold ab; (repeat' split)<;>omega
theorem Mo (v:Int) (h:v=0):0=v:=by
 omega
theorem Mp (v:Int) (h:v=0):0=v:=by
 omega
theorem Mq (v:Int) (h:v=0):0=v:=by
 omega
theorem Mr (v:Int) (h:0<=v/\v<=65535/\v % 1=0):0+ab v 11 1*2 ^ 11+ab v 12 4*2 ^ 12+ab v 8 3*2 ^ 8+ab v 0 8*2 ^ 0=v:=by
 unfold ab; (repeat' split)<;>omega
theorem Ms (v:Int) (h:v=0):0=v:=by
 omega
theorem Mt (v:Int) (h:v=0):0=v:=by
 omega
theorem Mu (v:Int) (h:v=0):0=v:=by
 omega
theorem Mv (v:Int) (h:v=0):0=v:=by
 omega
theorem Mw (v:Int) (h:v=0):0=v:=by
 omega
theorem Mx (v:Int) (h:0<=v/\v < 15):0+ab v 0 4*2 ^ 0=v:=by
 unfold ab; (repeat' split)<;>omega
theorem My (v:Int) (h:0<=v/\v < 15):0+ab v 0 4*2 ^ 0=v:=by
 unfold ab; (repeat' split)<;>omega
theorem Mz (v:Int) (h:v=0):0=v:=by
 omega
theorem MA (v:Int) (h:v=0):0=v:=by
 omega
theorem MB (v:Int) (h:0<=v/\v<=4095/\v % 1=0):0+ab v 11 1*2 ^ 11+ab v 8 3*2 ^ 8+ab v 0 8*2 ^ 0=v:=by
 unfold ab; (repeat' split)<;>omega
theorem MC (v:Int) (h:v=0):0=v:=by
 omega
theorem MD (v:Int) (h:v=0):0=v:=by
 omega
theorem ME (v:Int) (h:v=0\/v=1):0+ab v 0 1*2 ^ 0=v:=by
 unfold ab; (repeat' split)<;>omega
theorem MF (v:Int) (h:v=0):0=v:=by
 omega
theorem MG (v:Int) (h:v=0):0=v:=by
 omega
theorem MH (v:Int) (h:0<=v/\v < 15):0+ab v 0 4*2 ^ 0=v:=by
 unfold ab; (repeat' split)<;>omega
theorem MI (v:Int) (h:v=0):0=v:=by
 omega
theorem MJ (v:Int) (h:v=0):0=v:=by
 omega
theorem MK (v:Int) (h:v=0):0=v:=by
 omega
theorem ML (v:Int) (h:0<=v/\v<=4095/\v % 1=0):0+ab v 11 1*2 ^ 11+ab v 8 3*2 ^ 8+ab v 0 8*2 ^ 0=v:=by
 unfold ab; (repeat' split)<;>omega
theorem MM (v:Int) (h:v=0):0=v:=by
 omega
theorem MN (v:Int) (h:v=0):0=v:=by
 omega
theorem MO (v:Int) (h:v=0\/v=1):0+ab v 0 1*2 ^ 0=v:=by
 unfold ab; (repeat' split)<;>omega
theorem MP (v:Int) (h:v=0):0=v:=by
 omega
theorem MQ (v:Int) (h:v=0):0=v:=by
 omega
theorem MR (v:Int) (h:v=0):0=v:=by
 omega
theorem MT (v:Int) (h:0<=v/\v < 15):0+ab v 0 4*2 ^ 0=v:=by
 unfold ab; (repeat' split)<;>omega
theorem MU (v:Int) (h:v=0):0=v:=by
 omega
theorem MV (v:Int) (h:v=0):0=v:=by
 omega
theorem MW (v:Int) (h:0<=v/\v<=4095/\v % 1=0):0+ab v 11 1*2 ^ 11+ab v 8 3*2 ^ 8+ab v 0 8*2 ^ 0=v:=by
 unfold ab; (repeat' split)<;>omega
theorem MX (v:Int) (h:v=0):0=v:=by
 omega
theorem MY (v:Int) (h:v=0):0=v:=by
 omega
theorem MZ (v:Int) (h:v=0):0=v:=by
 omega
theorem M0 (v:Int) (h:v=0):0=v:=by
 omega
theorem M1 (v:Int) (h:v=0):0=v:=by
 omega
theorem M3 (v:Int) (h:0<=v/\v < 15):0+ab v 0 4*2 ^ 0=v:=by
 unfold ab; (repeat' split)<;>omega
theorem M4 (v:Int) (h:0<=v/\v < 15):0+ab v 0 4*2 ^ 0=v:=by
 unfold ab; (repeat' split)<;>omega
theorem M5 (v:Int) (h:0<=v/\v < 15):0+ab v 0 4*2 ^ 0=v:=by
 unfold ab; (repeat' split)<;>omega
theorem M6 (v:Int) (h:v=0):0=v:=by
 omega
theorem M7 (v:Int) (h:v=0):0=v:=by
 omega
theorem CM (v:Int) (h:0<=v/\v < 4):0+ab v 0 2*2 ^ 0=v:=by
 unfold ab; (repeat' split)<;>omega
theorem M8 (v:Int) (h:v=0\/v=1):0+ab v 0 1*2 ^ 0=v:=by
 unfold ab; (repeat' split)<;>omega
theorem M9 (v:Int) (h:v=0):0=v:=by
 omega
theorem M' (v:Int) (h:v=0):0=v:=by
 omega
theorem M_ (v:Int) (h:0<=v/\v < 15):0+ab v 0 4*2 ^ 0=v:=by
 unfold ab; (repeat' split)<;>omega
theorem Na (v:Int) (h:v=0):0=v:=by
 omega
theorem Nb (v:Int) (h:0<=v/\v < 15):0+ab v 0 4*2 ^ 0=v:=by
 unfold ab; (repeat' split)<;>omega
theorem Nc (v:Int) (h:v=0):0=v:=by
 omega
theorem Nd (v:Int) (h:v=0):0=v:=by
 omega
theorem CN (v:Int) (h:0<=v/\v < 4):0+ab v 0 2*2 ^ 0=v:=by
 unfold ab; (repeat' split)<;>omega
theorem Nf (v:Int) (h:v=0\/v=1):0+ab v 0 1*2 ^ 0=v:=by
 unfold ab; (repeat' split)<;>omega
theorem Ng (v:Int) (h:v=0):0=v:=by
 omega
theorem Nh (v:Int) (h:v=0):0=v:=by
 omega
theorem Ni (v:Int) (h:v=0):0=v:=by
 omega
theorem Nj (v:Int) (h:0<=v/\v < 15):0+ab v 0 4*2 ^ 0=v:=by
 unfold ab; (repeat' split)<;>omega
theorem Nk (v:Int) (h:0<=v/\v < 15):0+ab v 0 4*2 ^ 0=v:=by
 unfold ab; (repeat' split)<;>omega
theorem Nl (v:Int) (h:v=0):0=v:=by
 omega
theorem Nm (v:Int) (h:v=0):0=v:=by
 omega
theorem CO (v:Int) (h:0<=v/\v < 4):0+ab v 0 2*2 ^ 0=v:=by
 unfold ab; (repeat' split)<;>omega
theorem Nn (v:Int) (h:v=0):0=v:=by
 omega
theorem No (v:Int) (h:v=0):0=v:=by
 omega
theorem Np (v:Int) (h:v=0):0=v:=by
 omega
theorem Nq (v:Int) (h:0<=v/\v < 15):0+ab v 0 4*2 ^ 0=v:=by
 unfold ab; (repeat' split)<;>omega
theorem Nr (v:Int) (h:0<=v/\v < 15):0+ab v 0 4*2 ^ 0=v:=by
 unfold ab; (repeat' split)<;>omega
theorem Ns (v:Int) (h:v=0):0=v:=by
 omega
theorem Nt (v:Int) (h:v=0):0=v:=by
 omega
theorem Nu (v:Int) (h:0<=v/\v<=4095/\v % 1=0):0+ab v 11 1*2 ^ 11+ab v 8 3*2 ^ 8+ab v 0 8*2 ^ 0=v:=by
 unfold ab; (repeat' split)<;>omega
theorem Nv (v:Int) (h:v=0):0=v:=by
 omega
theorem Nw (v:Int) (h:v=0):0=v:=by
 omega
theorem Nx (v:Int) (h:v=0):0=v:=by
 omega
theorem Ny (v:Int) (h:v=0):0=v:=by
 omega
theorem Nz (v:Int) (h:v=0):0=v:=by
 omega
theorem NA (v:Int) (h:0<=v/\v < 15):0+ab v 0 4*2 ^ 0=v:=by
 unfold ab; (repeat' split)<;>omega
theorem NB (v:Int) (h:0<=v/\v < 15):0+ab v 0 4*2 ^ 0=v:=by
 unfold ab; (repeat' split)<;>omega
theorem NC (v:Int) (h:v=0):0=v:=by
 omega
theorem ND (v:Int) (h:v=0):0=v:=by
 omega
theorem NF (v:Int) (h:0<=v/\v<=4095/\v % 1=0):0+ab v 0 12*2 ^ 0=v:=by
 unfold ab; (repeat' split)<;>omega
theorem NG (v:Int) (h:v=0):0=v:=by
 omega
theorem NH (v:Int) (h:v=0):0=v:=by
 omega
theorem NI (v:Int) (h:v=0):0=v:=by
 omega
theorem NJ (v:Int) (h:v=0):0=v:=by
 omega
theorem NK (v:Int) (h:v=0):0=v:=by
 omega
theorem NL (v:Int) (h:0<=v/\v < 15):0+ab v 0 4*2 ^ 0=v:=by
 unfold ab; (repeat' split)<;>omega
theorem NM (v:Int) (h:0<=v/\v < 15):0+ab v 0 4*2 ^ 0=v:=by
 unfold ab; (repeat' split)<;>omega
theorem NN (v:Int) (h:0<=v/\v < 15):0+ab v 0 4*2 ^ 0=v:=by
 unfold ab; (repeat' split)<;>omega
theorem NO (v:Int) (h:v=0):0=v:=by
 omega
theorem NP (v:Int) (h:v=0):0=v:=by
 omega
theorem NQ (v:Int) (h:v=0):0=v:=by
 omega
theorem NR (v:Int) (h:0<=v/\v<=3/\v % 1=0):0+ab v 0 2*2 ^ 0=v:=by
 unfold ab; (repeat' split)<;>omega
theorem NS (v:Int) (h:v=0):0=v:=by
 omega
theorem NT (v:Int) (h:v=0):0=v:=by
 omega
theorem NU (v:Int) (h:v=0):0=v:=by
 omega
theorem NV (v:Int) (h:0<=v/\v < 15):0+ab v 0 4*2 ^ 0=v:=by
 unfold ab; (repeat' split)<;>omega
theorem NW (v:Int) (h:0<=v/\v < 15):0+ab v 0 4*2 ^ 0=v:=by
 unfold ab; (repeat' split)<;>omega
theorem NX (v:Int) (h:0<=v/\v < 15):0+ab v 0 4*2 ^ 0=v:=by
 unfold ab; (repeat' split)<;>omega
theorem NY (v:Int) (h:v=0):0=v:=by
 omega
theorem NZ (v:Int) (h:v=0):0=v:=by
 omega
theorem N0 (v:Int) (h:v=0):0=v:=by
 omega
theorem N1 (v:Int) (h:v=0):0=v:=by
 omega
theorem N2 (v:Int) (h:v=0\/v=1):0+ab v 0 1*2 ^ 0=v:=by
 unfold ab; (repeat' split)<;>omega
theorem N3 (v:Int) (h:v=0):0=v:=by
 omega
theorem N4 (v:Int) (h:v=0):0=v:=by
 omega
theorem N5 (v:Int) (h:0<=v/\v < 15):0+ab v 0 4*2 ^ 0=v:=by
 unfold ab; (repeat' split)<;>omega
theorem N6 (v:Int) (h:0<=v/\v < 15):0+ab v 0 4*2 ^ 0=v:=by
 unfold ab; (repeat' split)<;>omega
theorem N7 (v:Int) (h:0<=v/\v < 15):0+ab v 0 4*2 ^ 0=v:=by
 unfold ab; (repeat' split)<;>omega
theorem N8 (v:Int) (h:v=0):0=v:=by
 omega
theorem N9 (v:Int) (h:v=0):0=v:=by
 omega
theorem N' (v:Int) (h:v=0):0=v:=by
 omega
theorem N_ (v:Int) (h:v=0):0=v:=by
 omega
theorem Oa (v:Int) (h:v=0):0=v:=by
 omega
theorem Ob (v:Int) (h:v=0):0=v:=by
 omega
theorem Oc (v:Int) (h:v=0):0=v:=by
 omega
theorem Od (v:Int) (h:0<=v/\v < 15):0+ab v 0 4*2 ^ 0=v:=by
 unfold ab; (repeat' split)<;>omega
theorem Oe (v:Int) (h:0<=v/\v < 15):0+ab v 0 4*2 ^ 0=v:=by
 unfold ab; (repeat' split)<;>omega
theorem Of (v:Int) (h:0<=v/\v < 15):0+ab v 0 4*2 ^ 0=v:=by
 unfold ab; (repeat' split)<;>omega
theorem Og (v:Int) (h:0<=v/\v < 15):0+ab v 0 4*2 ^ 0=v:=by
 unfold ab; (repeat' split)<;>omega
theorem Oh (v:Int) (h:v=0):0=v:=by
 omega
theorem Oi (v:Int) (h:v=0):0=v:=by
 omega
theorem Oj (v:Int) (h:v=0):0=v:=by
 omega
theorem Ol (v:Int) (h:v=0):0=v:=by
 omega
theorem Om (v:Int) (h:v=0):0=v:=by
 omega
theorem On (v:Int) (h:v=0):0=v:=by
 omega
theorem Oo (v:Int) (h:0<=v/\v < 15):0+ab v 0 4*2 ^ 0=v:=by
 unfold ab; (repeat' split)<;>omega
theorem Oq (v:Int) (h:0<=v/\v < 15):0+ab v 0 4*2 ^ 0=v:=by
 unfold ab; (repeat' split)<;>omega
theorem Ot (v:Int) (h:0<=v/\v < 15):0+ab v 0 4*2 ^ 0=v:=by
 unfold ab; (repeat' split)<;>omega
theorem Ou (v:Int) (h:0<=v/\v < 15):0+ab v 0 4*2 ^ 0=v:=by
 unfold ab; (repeat' split)<;>omega
theorem Ov (v:Int) (h:v=0):0=v:=by
 omega
theorem Ow (v:Int) (h:v=0):0=v:=by
 omega
theorem Ox (v:Int) (h:v=0):0=v:=by
 omega
theorem Oy (v:Int) (h:v=0):0=v:=by
 omega
theorem Oz (v:Int) (h:v=0):0=v:=by
 omega
theorem OA (v:Int) (h:v=0):0=v:=by
 omega
theorem OB (v:Int) (h:0<=v/\v < 15):0+ab v 0 4*2 ^ 0=v:=by
 unfold ab; (repeat' split)<;>omega
theorem OC (v:Int) (h:0<=v/\v < 15):0+ab v 0 4*2 ^ 0=v:=by
 unfold ab; (repeat' split)<;>omega
theorem OD (v:Int) (h:0<=v/\v < 15):0+ab v 0 4*2 ^ 0=v:=by
 unfold ab; (repeat' split)<;>omega
theorem OE (v:Int) (h:0<=v/\v < 15):0+ab v 0 4*2 ^ 0=v:=by
 unfold ab; (repeat' split)<;>omega
theorem OF (v:Int) (h:v=0):0=v:=by
 omega
theorem OG (v:Int) (h:v=0):0=v:=by
 omega
theorem OH (v:Int) (h:v=0):0=v:=by
 omega
theorem OI (v:Int) (h:v=0):0=v:=by
 omega
theorem OJ (v:Int) (h:v=0):0=v:=by
 omega
theorem OK (v:Int) (h:v=0):0=v:=by
 omega
theorem OL (v:Int) (h:0<=v/\v < 15):0+ab v 0 4*2 ^ 0=v:=by
 unfold ab; (repeat' split)<;>omega
theorem OM (v:Int) (h:v=0):0=v:=by
 omega
theorem ON (v:Int) (h:0<=v/\v < 15):ab v 0 4=v:=by
 unfold ab; split<;>omega
theorem OO (v:Int) (h:v=0):0=v:=by
 omega
theorem OP (v:Int) (h:v=0):0=v:=by
 omega
theorem OQ (v:Int) (h:v=0):0=v:=by
 omega
theorem OR (v:Int) (h:v=0):0=v:=by
 omega
theorem OS (v:Int) (h:v=0):0=v:=by
 omega
theorem OT (v:Int) (h:v=0):0=v:=by
 omega
theorem OU (v:Int) (h:v=0):0=v:=by
 omega
theorem OV (v:Int) (h:v=0):0=v:=by
 omega
theorem OW (v:Int) (h:v=0):0=v:=by
 omega
theorem OX (v:Int) (h:v=0):0=v:=by
 omega
theorem OY (v:Int) (h:v=0):0=v:=by
 omega
theorem OZ (v:Int) (h:-1048576<=v/\v<=1048574/\v % 2=0):cO (0+ab v 20 1*2 ^ 20+ab v 12 6*2 ^ 12+ab v 18 1*2 ^ 18+ab v 19 1*2 ^ 19+ab v 1 11*2 ^ 1) 21=v:=by
 unfold cO ab; (repeat' split)<;>omega
theorem O0 (v:Int) (h:v=0):0=v:=by
 omega
theorem O1 (v:Int) (h:v=0):0=v:=by
 omega
theorem O2 (v:Int) (h:v=0):0=v:=by
 omega
theorem O3 (v:Int) (h:0<=v/\v<=13):0+ab v 0 4*2 ^ 0=v:=by
 unfold ab; (repeat' split)<;>omega
theorem O4 (v:Int) (h:v=0):0=v:=by
 omega
theorem O5 (v:Int) (h:v=0):0=v:=by
 omega
theorem O6 (v:Int) (h:v=0):0=v:=by
 omega
theorem O7 (v:Int) (h:v=0):0=v:=by
 omega
theorem O8 (v:Int) (h:v=0):0=v:=by
 omega
theorem O9 (v:Int) (h:v=0):0=v:=by
 omega
theorem O' (v:Int) (h:v=0):0=v:=by
 omega
theorem O_ (v:Int) (h:v=0):0=v:=by
 omega
theorem Pa (v:Int) (h:v=0):0=v:=by
 omega
theorem Pb (v:Int) (h:v=0):0=v:=by
 omega
theorem aA {r:Int} (h:aE 0 r):r=0:=by unfold aE at h; omega
theorem dJ {r:Int} (h:aE 1 r):0<=r/\r < 8:=by unfold aE at h; omega
theorem kz {r:Int} (h:aE 2 r):0<=r/\r < 15:=by unfold aE at h; omega
theorem bu {r:Int} (h:aE 3 r):0<=r/\r < 15:=by unfold aE at h; omega
theorem bK {a b n:Int} (h:dd a b 0 n):n=0:=(ug h).elim (fun e=>e.2) fun e=>absurd rfl e.1
theorem dZ {a b s n:Int} (hs:s≠0) (h:dd a b s n):a<=n/\n<=b/\n % s=0:=(ug h).elim (fun e=>absurd e.1 hs) fun e=>e.2
theorem bj {K f x:Int} (h:K≠1/\K≠15/\K≠16/\K≠33/\K≠34):nK K f x=x:=by
 unfold nK; rw[if_neg h.2.1,if_neg h.2.2.1,if_neg h.2.2.2.1,if_neg h.2.2.2.2,if_neg (fun e=>h.1 e.1)]
theorem JO {f x:Int}:nK 1 f x=if 1 < f/\x=0 then 32 else x:=by
 unfold nK; rw[if_neg (by decide),if_neg (by decide),if_neg (by decide),if_neg (by decide)]
 by_cases h:1 < f/\x=0
 ·rw[if_pos ⟨rfl,h⟩,if_pos h]
 ·rw[if_neg (fun e=>h e.2),if_neg h]
theorem bM {K k x:Int} (h:¬ (21<=K/\K<=23)):JN K k x=x:=if_neg fun e=>h ⟨e.1,e.2.1⟩
theorem qz {K k x:Int} (h:21<=K/\K<=23):JN K k x=if x=0/\(k=1\/k=2) then 32 else x:=by
 unfold JN
 by_cases g:x=0/\(k=1\/k=2)
 ·rw[if_pos ⟨h.1,h.2,g⟩,if_pos g]
 ·rw[if_neg (fun e=>g e.2.2),if_neg g]
theorem cT {i:IN} {r:RU} (hr:r.ao=0) (h:iS i r):i.ao=0:=h.elim (fun e=>e.2) fun e=>absurd hr e.1
theorem xW {i:IN} {r:RU} (k:Nat) (hk:8<=k) (vh:k<=15) (hr:r.ao=2 ^ k+255) (h:iS i r) (hg:i.ao<=9223372036854775807):0 < i.ao/\i.ao / 2 ^ k % 2*2 ^ k+i.ao % 256=i.ao:=by
 have hp:(0:Int) < 2 ^ k:=by have:=cn k; have:=Nat.two_pow_pos k; omega
 rcases h with h|h
 ·have:=hr.symm.trans h.1; omega
 ·exact⟨h.2.1,sg k hk vh i.ao r.ao hr h.2.1 hg h.2.2⟩
theorem bd {i:IN} {r:RU} (hr:r.kind=false) (h:kT i r):i.kind=0/\dd r.b0 r.b1 r.b2 i.bC:=h.elim (fun e=>by rw[hr] at e; exact absurd e.1 Bool.false_ne_true) fun e=>e.2
theorem zj {i:IN} {r:RU} (hr:r.kind=true) (h:kT i r):ct i.kind i.bC:=h.elim (fun e=>e.2) fun e=>absurd hr e.1
theorem Pc (i:IN) (hs:aa i.form=1) (hr:aF i (bX 1)) (hg:i.ao<=9223372036854775807):cH 1 i=i:=by
 obtain⟨hf,h1,h2,h3,h4,h5,h6,h7,h8,h9,cC⟩:=hr
 have g0:=dJ (r:=i.rd) h1
 have g1:=aA (r:=i.rn) h2
 have g2:=dJ (r:=i.rm) h3
 have g3:=aA (r:=i.ra) h4
 have g4:0<=i.az/\i.az<=32/\i.az % 1=0:=dZ (s:=1) (by decide) h7
 have g5:i.kind=0:=(bd rfl h9).1
 have g6:i.bC=0:=bK (bd rfl h9).2
 have g7:i.set=0:=h8.elim id fun e=>absurd (show false=true from e.2) Bool.false_ne_true
 have g8:i.cond=0:=h6.elim id fun e=>absurd (show false=true from e.1) Bool.false_ne_true
 have g9:i.ao=0:=cT rfl h5
 exact aX rfl (R0 i.rd g0) (R1 i.rn g1) (R2 i.rm g2) (R3 i.ra g3) (JO.trans (R9 i.form i.az ⟨g4.1,g4.2.1⟩ cC.1 cC.2.1 (qy hf hs))) (R4 i.kind g5) ((bM (K:=1) (k:=xR 1 i 5) (by decide)).trans (R5 i.bC g6)) (R6 i.set g7) (R7 i.cond g8) (R8 i.ao g9)
theorem Pd (i:IN) (hs:aa i.form=2) (hr:aF i (bX 2)) (hg:i.ao<=9223372036854775807):cH 2 i=i:=by
 obtain⟨hf,h1,h2,h3,h4,h5,h6,h7,h8,h9,cC⟩:=hr
 have g0:=dJ (r:=i.rd) h1
 have g1:=dJ (r:=i.rn) h2
 have g2:=dJ (r:=i.rm) h3
 have g3:=aA (r:=i.ra) h4
 have g4:i.az=0:=bK h7
 have g5:i.kind=0:=(bd rfl h9).1
 have g6:i.bC=0:=bK (bd rfl h9).2
 have g7:i.set=0:=h8.elim id fun e=>absurd (show false=true from e.2) Bool.false_ne_true
 have g8:i.cond=0:=h6.elim id fun e=>absurd (show false=true from e.1) Bool.false_ne_true
 have g9:i.ao=0:=cT rfl h5
 exact aX rfl (R' i.rd g0) (R_ i.rn g1) (Sa i.rm g2) (Sb i.ra g3) ((bj (K:=2) (f:=i.form) (by decide)).trans (Sc i.az g4)) (Sd i.kind g5) ((bM (K:=2) (k:=xR 2 i 5) (by decide)).trans (Se i.bC g6)) (Sf i.set g7) (Sg i.cond g8) (Sh i.ao g9)
theorem Pe (i:IN) (hs:aa i.form=3) (hr:aF i (bX 3)) (hg:i.ao<=9223372036854775807):cH 3 i=i:=by
 obtain⟨hf,h1,h2,h3,h4,h5,h6,h7,h8,h9,cC⟩:=hr
 have g0:=dJ (r:=i.rd) h1
 have g1:=dJ (r:=i.rn) h2
 have g2:=aA (r:=i.rm) h3
 have g3:=aA (r:=i.ra) h4
 have g4:0<=i.az/\i.az<=7/\i.az % 1=0:=dZ (s:=1) (by decide) h7
 have g5:i.kind=0:=(bd rfl h9).1
 have g6:i.bC=0:=bK (bd rfl h9).2
 have g7:i.set=0:=h8.elim id fun e=>absurd (show false=true from e.2) Bool.false_ne_true
 have g8:i.cond=0:=h6.elim id fun e=>absurd (show false=true from e.1) Bool.false_ne_true
 have g9:i.ao=0:=cT rfl h5
 exact aX rfl (Si i.rd g0) (Sj i.rn g1) (Sk i.rm g2) (Sl i.ra g3) ((bj (K:=3) (f:=i.form) (by decide)).trans (Sm i.az g4)) (Sn i.kind g5) ((bM (K:=3) (k:=xR 3 i 5) (by decide)).trans (So i.bC g6)) (Sp i.set g7) (Sq i.cond g8) (Sr i.ao g9)
theorem Pf (i:IN) (hs:aa i.form=4) (hr:aF i (bX 4)) (hg:i.ao<=9223372036854775807):cH 4 i=i:=by
 obtain⟨hf,h1,h2,h3,h4,h5,h6,h7,h8,h9,cC⟩:=hr
 have g0:=dJ (r:=i.rd) h1
 have g1:=aA (r:=i.rn) h2
 have g2:=aA (r:=i.rm) h3
 have g3:=aA (r:=i.ra) h4
 have g4:0<=i.az/\i.az<=255/\i.az % 1=0:=dZ (s:=1) (by decide) h7
 have g5:i.kind=0:=(bd rfl h9).1
 have g6:i.bC=0:=bK (bd rfl h9).2
 have g7:i.set=0:=h8.elim id fun e=>absurd (show false=true from e.2) Bool.false_ne_true
 have g8:i.cond=0:=h6.elim id fun e=>absurd (show false=true from e.1) Bool.false_ne_true
 have g9:i.ao=0:=cT rfl h5
 exact aX rfl (Su i.rd g0) (Sv i.rn g1) (Sw i.rm g2) (Sx i.ra g3) ((bj (K:=4) (f:=i.form) (by decide)).trans (Sy i.az g4)) (Sz i.kind g5) ((bM (K:=4) (k:=xR 4 i 5) (by decide)).trans (SA i.bC g6)) (SB i.set g7) (SC i.cond g8) (SD i.ao g9)
theorem Pg (i:IN) (hs:aa i.form=5) (hr:aF i (bX 5)) (hg:i.ao<=9223372036854775807):cH 5 i=i:=by
 obtain⟨hf,h1,h2,h3,h4,h5,h6,h7,h8,h9,cC⟩:=hr
 have g0:=dJ (r:=i.rd) h1
 have g1:=aA (r:=i.rn) h2
 have g2:=dJ (r:=i.rm) h3
 have g3:=aA (r:=i.ra) h4
 have g4:i.az=0:=bK h7
 have g5:i.kind=0:=(bd rfl h9).1
 have g6:i.bC=0:=bK (bd rfl h9).2
 have g7:i.set=0:=h8.elim id fun e=>absurd (show false=true from e.2) Bool.false_ne_true
 have g8:i.cond=0:=h6.elim id fun e=>absurd (show false=true from e.1) Bool.false_ne_true
 have g9:i.ao=0:=cT rfl h5
 exact aX rfl (SE i.rd g0) (SF i.rn g1) (SG i.rm g2) (SH i.ra g3) ((bj (K:=5) (f:=i.form) (by decide)).trans (SI i.az g4)) (SJ i.kind g5) ((bM (K:=5) (k:=xR 5 i 5) (by decide)).trans (SK i.bC g6)) (SL i.set g7) (SM i.cond g8) (SN i.ao g9)
theorem Ph (i:IN) (hs:aa i.form=6) (hr:aF i (bX 6)) (hg:i.ao<=9223372036854775807):cH 6 i=i:=by
 obtain⟨hf,h1,h2,h3,h4,h5,h6,h7,h8,h9,cC⟩:=hr
 have g0:=kz (r:=i.rd) h1
 have g1:=aA (r:=i.rn) h2
 have g2:=kz (r:=i.rm) h3
 have g3:=aA (r:=i.ra) h4
 have g4:i.az=0:=bK h7
 have g5:i.kind=0:=(bd rfl h9).1
 have g6:i.bC=0:=bK (bd rfl h9).2
 have g7:i.set=0:=h8.elim id fun e=>absurd (show false=true from e.2) Bool.false_ne_true
 have g8:i.cond=0:=h6.elim id fun e=>absurd (show false=true from e.1) Bool.false_ne_true
 have g9:i.ao=0:=cT rfl h5
 exact aX rfl (SO i.rd g0) (SP i.rn g1) (SQ i.rm g2) (SR i.ra g3) ((bj (K:=6) (f:=i.form) (by decide)).trans (SS i.az g4)) (SU i.kind g5) ((bM (K:=6) (k:=xR 6 i 5) (by decide)).trans (SV i.bC g6)) (SX i.set g7) (SY i.cond g8) (SZ i.ao g9)
theorem Pj (i:IN) (hs:aa i.form=7) (hr:aF i (bX 7)) (hg:i.ao<=9223372036854775807):cH 7 i=i:=by
 obtain⟨hf,h1,h2,h3,h4,h5,h6,h7,h8,h9,cC⟩:=hr
 have g0:=aA (r:=i.rd) h1
 have g1:=aA (r:=i.rn) h2
 have g2:=kz (r:=i.rm) h3
 have g3:=aA (r:=i.ra) h4
 have g4:i.az=0:=bK h7
 have g5:i.kind=0:=(bd rfl h9).1
 have g6:i.bC=0:=bK (bd rfl h9).2
 have g7:i.set=0:=h8.elim id fun e=>absurd (show false=true from e.2) Bool.false_ne_true
 have g8:i.cond=0:=h6.elim id fun e=>absurd (show false=true from e.1) Bool.false_ne_true
 have g9:i.ao=0:=cT rfl h5
 exact aX rfl (S3 i.rd g0) (S4 i.rn g1) (S5 i.rm g2) (S6 i.ra g3) ((bj (K:=7) (f:=i.form) (by decide)).trans (S7 i.az g4)) (S8 i.kind g5) ((bM (K:=7) (k:=xR 7 i 5) (by decide)).trans (S9 i.bC g6)) (S_ i.set g7) (Ta i.cond g8) (Tb i.ao g9)
theorem Pk (i:IN) (hs:aa i.form=8) (hr:aF i (bX 8)) (hg:i.ao<=9223372036854775807):cH 8 i=i:=by
 obtain⟨hf,h1,h2,h3,h4,h5,h6,h7,h8,h9,cC⟩:=hr
 have g0:=dJ (r:=i.rd) h1
 have g1:=aA (r:=i.rn) h2
 have g2:=aA (r:=i.rm) h3
 have g3:=aA (r:=i.ra) h4
 have g4:0<=i.az/\i.az<=1020/\i.az % 4=0:=dZ (s:=4) (by decide) h7
 have g5:i.kind=0:=(bd rfl h9).1
 have g6:i.bC=0:=bK (bd rfl h9).2
 have g7:i.set=0:=h8.elim id fun e=>absurd (show false=true from e.2) Bool.false_ne_true
 have g8:i.cond=0:=h6.elim id fun e=>absurd (show false=true from e.1) Bool.false_ne_true
 have g9:i.ao=0:=cT rfl h5
 exact aX rfl (Tc i.rd g0) (Td i.rn g1) (Te i.rm g2) (Tf i.ra g3) ((bj (K:=8) (f:=i.form) (by decide)).trans (Tg i.az g4)) (Th i.kind g5) ((bM (K:=8) (k:=xR 8 i 5) (by decide)).trans (Ti i.bC g6)) (Tj i.set g7) (Tk i.cond g8) (Tl i.ao g9)
theorem Pm (i:IN) (hs:aa i.form=9) (hr:aF i (bX 9)) (hg:i.ao<=9223372036854775807):cH 9 i=i:=by
 obtain⟨hf,h1,h2,h3,h4,h5,h6,h7,h8,h9,cC⟩:=hr
 have g0:=dJ (r:=i.rd) h1
 have g1:=dJ (r:=i.rn) h2
 have g2:=aA (r:=i.rm) h3
 have g3:=aA (r:=i.ra) h4
 have g4:0<=i.az/\i.az<=124/\i.az % 4=0:=dZ (s:=4) (by decide) h7
 have g5:i.kind=0:=(bd rfl h9).1
 have g6:i.bC=0:=bK (bd rfl h9).2
 have g7:i.set=0:=h8.elim id fun e=>absurd (show false=true from e.2) Bool.false_ne_true
 have g8:i.cond=0:=h6.elim id fun e=>absurd (show false=true from e.1) Bool.false_ne_true
 have g9:i.ao=0:=cT rfl h5
 exact aX rfl (Tm i.rd g0) (Tn i.rn g1) (To i.rm g2) (Tp i.ra g3) ((bj (K:=9) (f:=i.form) (by decide)).trans (Tq i.az g4)) (Ts i.kind g5) ((bM (K:=9) (k:=xR 9 i 5) (by decide)).trans (Tt i.bC g6)) (Tu i.set g7) (Tv i.cond g8) (Tw i.ao g9)
theorem Gw (i:IN) (hs:aa i.form=10) (hr:aF i (bX 10)) (hg:i.ao<=9223372036854775807):cH 10 i=i:=by
 obtain⟨hf,h1,h2,h3,h4,h5,h6,h7,h8,h9,cC⟩:=hr
 have g0:=aA (r:=i.rd) h1
 have g1:=aA (r:=i.rn) h2
 have g2:=aA (r:=i.rm) h3
 have g3:=aA (r:=i.ra) h4
 have g4:0<=i.az/\i.az<=508/\i.az % 4=0:=dZ (s:=4) (by decide) h7
 have g5:i.kind=0:=(bd rfl h9).1
 have g6:i.bC=0:=bK (bd rfl h9).2
 have g7:i.set=0:=h8.elim id fun e=>absurd (show false=true from e.2) Bool.false_ne_true
 have g8:i.cond=0:=h6.elim id fun e=>absurd (show false=true from e.1) Bool.false_ne_true
 have g9:i.ao=0:=cT rfl h5
 exact aX rfl (Le i.rd g0) (Lf i.rn g1) (Lg i.rm g2) (Lh i.ra g3) ((bj (K:=10) (f:=i.form) (by decide)).trans (Li i.az g4)) (Lj i.kind g5) ((bM (K:=10) (k:=xR 10 i 5) (by decide)).trans (Lk i.bC g6)) (Ll i.set g7) (Lm i.cond g8) (Ln i.ao g9)
theorem Gy (i:IN) (hs:aa i.form=11) (hr:aF i (bX 11)) (hg:i.ao<=9223372036854775807):cH 11 i=i:=by
 obtain⟨hf,h1,h2,h3,h4,h5,h6,h7,h8,h9,cC⟩:=hr
 have g0:=aA (r:=i.rd) h1
 have g1:=aA (r:=i.rn) h2
 have g2:=aA (r:=i.rm) h3
 have g3:=aA (r:=i.ra) h4
 have g4:i.az=0:=bK h7
 have g5:i.kind=0:=(bd rfl h9).1
 have g6:i.bC=0:=bK (bd rfl h9).2
 have g7:i.set=0:=h8.elim id fun e=>absurd (show false=true from e.2) Bool.false_ne_true
 have g8:i.cond=0:=h6.elim id fun e=>absurd (show false=true from e.1) Bool.false_ne_true
 have g9:0 < i.ao/\i.ao / 16384 % 2*16384+i.ao % 256=i.ao:=xW 14 (by decide) (by decide) rfl h5 hg
 exact aX rfl (Lo i.rd g0) (Lp i.rn g1) (Lq i.rm g2) (Lr i.ra g3) ((bj (K:=11) (f:=i.form) (by decide)).trans (Ls i.az g4)) (Lt i.kind g5) ((bM (K:=11) (k:=xR 11 i 5) (by decide)).trans (Lu i.bC g6)) (Lv i.set g7) (Lw i.cond g8) (Lx i.ao g9)
theorem Gz (i:IN) (hs:aa i.form=12) (hr:aF i (bX 12)) (hg:i.ao<=9223372036854775807):cH 12 i=i:=by
 obtain⟨hf,h1,h2,h3,h4,h5,h6,h7,h8,h9,cC⟩:=hr
 have g0:=aA (r:=i.rd) h1
 have g1:=aA (r:=i.rn) h2
 have g2:=aA (r:=i.rm) h3
 have g3:=aA (r:=i.ra) h4
 have g4:i.az=0:=bK h7
 have g5:i.kind=0:=(bd rfl h9).1
 have g6:i.bC=0:=bK (bd rfl h9).2
 have g7:i.set=0:=h8.elim id fun e=>absurd (show false=true from e.2) Bool.false_ne_true
 have g8:i.cond=0:=h6.elim id fun e=>absurd (show false=true from e.1) Bool.false_ne_true
 have g9:0 < i.ao/\i.ao / 32768 % 2*32768+i.ao % 256=i.ao:=xW 15 (by decide) (by decide) rfl h5 hg
 exact aX rfl (Ly i.rd g0) (Lz i.rn g1) (LA i.rm g2) (LB i.ra g3) ((bj (K:=12) (f:=i.form) (by decide)).trans (LC i.az g4)) (LD i.kind g5) ((bM (K:=12) (k:=xR 12 i 5) (by decide)).trans (LF i.bC g6)) (LG i.set g7) (LH i.cond g8) (LI i.ao g9)
theorem GA (i:IN) (hs:aa i.form=13) (hr:aF i (bX 13)) (hg:i.ao<=9223372036854775807):cH 13 i=i:=by
 obtain⟨hf,h1,h2,h3,h4,h5,h6,h7,h8,h9,cC⟩:=hr
 have g0:=aA (r:=i.rd) h1
 have g1:=aA (r:=i.rn) h2
 have g2:=aA (r:=i.rm) h3
 have g3:=aA (r:=i.ra) h4
 have g4:i.az=0:=bK h7
 have g5:i.kind=0:=(bd rfl h9).1
 have g6:i.bC=0:=bK (bd rfl h9).2
 have g7:i.set=0:=h8.elim id fun e=>absurd (show false=true from e.2) Bool.false_ne_true
 have g8:i.cond=0:=h6.elim id fun e=>absurd (show false=true from e.1) Bool.false_ne_true
 have g9:i.ao=0:=cT rfl h5
 exact aX rfl (LJ i.rd g0) (LK i.rn g1) (LL i.rm g2) (LM i.ra g3) ((bj (K:=13) (f:=i.form) (by decide)).trans (LN i.az g4)) (LO i.kind g5) ((bM (K:=13) (k:=xR 13 i 5) (by decide)).trans (LP i.bC g6)) (LQ i.set g7) (LR i.cond g8) (LS i.ao g9)
theorem GB (i:IN) (hs:aa i.form=14) (hr:aF i (bX 14)) (hg:i.ao<=9223372036854775807):cH 14 i=i:=by
 obtain⟨hf,h1,h2,h3,h4,h5,h6,h7,h8,h9,cC⟩:=hr
 have g0:=aA (r:=i.rd) h1
 have g1:=aA (r:=i.rn) h2
 have g2:=aA (r:=i.rm) h3
 have g3:=aA (r:=i.ra) h4
 have g4:0<=i.az/\i.az<=255/\i.az % 1=0:=dZ (s:=1) (by decide) h7
 have g5:i.kind=0:=(bd rfl h9).1
 have g6:i.bC=0:=bK (bd rfl h9).2
 have g7:i.set=0:=h8.elim id fun e=>absurd (show false=true from e.2) Bool.false_ne_true
 have g8:i.cond=0:=h6.elim id fun e=>absurd (show false=true from e.1) Bool.false_ne_true
 have g9:i.ao=0:=cT rfl h5
 exact aX rfl (LU i.rd g0) (LV i.rn g1) (LW i.rm g2) (LX i.ra g3) ((bj (K:=14) (f:=i.form) (by decide)).trans (LY i.az g4)) (LZ i.kind g5) ((bM (K:=14) (k:=xR 14 i 5) (by decide)).trans (L0 i.bC g6)) (L1 i.set g7) (L2 i.cond g8) (L3 i.ao g9)
theorem GC (i:IN) (hs:aa i.form=15) (hr:aF i (bX 15)) (hg:i.ao<=9223372036854775807):cH 15 i=i:=by
 obtain⟨hf,h1,h2,h3,h4,h5,h6,h7,h8,h9,cC⟩:=hr
 have g0:=aA (r:=i.rd) h1
 have g1:=aA (r:=i.rn) h2
 have g2:=aA (r:=i.rm) h3
 have g3:=aA (r:=i.ra) h4
 have g4:-256<=i.az/\i.az<=254/\i.az % 2=0:=dZ (s:=2) (by decide) h7
 have g5:i.kind=0:=(bd rfl h9).1
 have g6:i.bC=0:=bK (bd rfl h9).2
 have g7:i.set=0:=h8.elim id fun e=>absurd (show false=true from e.2) Bool.false_ne_true
 have g8:0<=i.cond/\i.cond<=13:=by rcases h6 with h6|h6<;>omega
 have g9:i.ao=0:=cT rfl h5
 exact aX rfl (L4 i.rd g0) (L5 i.rn g1) (L6 i.rm g2) (L7 i.ra g3) (L8 i.az g4) (L9 i.kind g5) ((bM (K:=15) (k:=xR 15 i 5) (by decide)).trans (L' i.bC g6)) (L_ i.set g7) (Ma i.cond g8) (Mb i.ao g9)
theorem GD (i:IN) (hs:aa i.form=16) (hr:aF i (bX 16)) (hg:i.ao<=9223372036854775807):cH 16 i=i:=by
 obtain⟨hf,h1,h2,h3,h4,h5,h6,h7,h8,h9,cC⟩:=hr
 have g0:=aA (r:=i.rd) h1
 have g1:=aA (r:=i.rn) h2
 have g2:=aA (r:=i.rm) h3
 have g3:=aA (r:=i.ra) h4
 have g4:-2048<=i.az/\i.az<=2046/\i.az % 2=0:=dZ (s:=2) (by decide) h7
 have g5:i.kind=0:=(bd rfl h9).1
 have g6:i.bC=0:=bK (bd rfl h9).2
 have g7:i.set=0:=h8.elim id fun e=>absurd (show false=true from e.2) Bool.false_ne_true
 have g8:i.cond=0:=h6.elim id fun e=>absurd (show false=true from e.1) Bool.false_ne_true
 have g9:i.ao=0:=cT rfl h5
 exact aX rfl (Mc i.rd g0) (Me i.rn g1) (Mf i.rm g2) (Mg i.ra g3) (Mh i.az g4) (Mi i.kind g5) ((bM (K:=16) (k:=xR 16 i 5) (by decide)).trans (Mj i.bC g6)) (Mk i.set g7) (Ml i.cond g8) (Mm i.ao g9)
theorem GF (i:IN) (hs:aa i.form=17) (hr:aF i (bX 17)) (hg:i.ao<=9223372036854775807):cH 17 i=i:=by
 obtain⟨hf,h1,h2,h3,h4,h5,h6,h7,h8,h9,cC⟩:=hr
 have g0:=bu (r:=i.rd) h1
 have g1:=aA (r:=i.rn) h2
 have g2:=aA (r:=i.rm) h3
 have g3:=aA (r:=i.ra) h4
 have g4:0<=i.az/\i.az<=65535/\i.az % 1=0:=dZ (s:=1) (by decide) h7
 have g5:i.kind=0:=(bd rfl h9).1
 have g6:i.bC=0:=bK (bd rfl h9).2
 have g7:i.set=0:=h8.elim id fun e=>absurd (show false=true from e.2) Bool.false_ne_true
 have g8:i.cond=0:=h6.elim id fun e=>absurd (show false=true from e.1) Bool.false_ne_true
 have g9:i.ao=0:=cT rfl h5
 exact aX rfl (Mn i.rd g0) (Mo i.rn g1) (Mp i.rm g2) (Mq i.ra g3) ((bj (K:=17) (f:=i.form) (by decide)).trans (Mr i.az g4)) (Ms i.kind g5) ((bM (K:=17) (k:=xR 17 i 5) (by decide)).trans (Mt i.bC g6)) (Mu i.set g7) (Mv i.cond g8) (Mw i.ao g9)
theorem GG (i:IN) (hs:aa i.form=18) (hr:aF i (bX 18)) (hg:i.ao<=9223372036854775807):cH 18 i=i:=by
 obtain⟨hf,h1,h2,h3,h4,h5,h6,h7,h8,h9,cC⟩:=hr
 have g0:=bu (r:=i.rd) h1
 have g1:=bu (r:=i.rn) h2
 have g2:=aA (r:=i.rm) h3
 have g3:=aA (r:=i.ra) h4
 have g4:0<=i.az/\i.az<=4095/\i.az % 1=0:=dZ (s:=1) (by decide) h7
 have g5:i.kind=0:=(bd rfl h9).1
 have g6:i.bC=0:=bK (bd rfl h9).2
 have g7:i.set=0\/i.set=1:=h8.imp id fun e=>e.1
 have g8:i.cond=0:=h6.elim id fun e=>absurd (show false=true from e.1) Bool.false_ne_true
 have g9:i.ao=0:=cT rfl h5
 exact aX rfl (Mx i.rd g0) (My i.rn g1) (Mz i.rm g2) (MA i.ra g3) ((bj (K:=18) (f:=i.form) (by decide)).trans (MB i.az g4)) (MC i.kind g5) ((bM (K:=18) (k:=xR 18 i 5) (by decide)).trans (MD i.bC g6)) (ME i.set g7) (MF i.cond g8) (MG i.ao g9)
theorem GH (i:IN) (hs:aa i.form=19) (hr:aF i (bX 19)) (hg:i.ao<=9223372036854775807):cH 19 i=i:=by
 obtain⟨hf,h1,h2,h3,h4,h5,h6,h7,h8,h9,cC⟩:=hr
 have g0:=bu (r:=i.rd) h1
 have g1:=aA (r:=i.rn) h2
 have g2:=aA (r:=i.rm) h3
 have g3:=aA (r:=i.ra) h4
 have g4:0<=i.az/\i.az<=4095/\i.az % 1=0:=dZ (s:=1) (by decide) h7
 have g5:i.kind=0:=(bd rfl h9).1
 have g6:i.bC=0:=bK (bd rfl h9).2
 have g7:i.set=0\/i.set=1:=h8.imp id fun e=>e.1
 have g8:i.cond=0:=h6.elim id fun e=>absurd (show false=true from e.1) Bool.false_ne_true
 have g9:i.ao=0:=cT rfl h5
 exact aX rfl (MH i.rd g0) (MI i.rn g1) (MJ i.rm g2) (MK i.ra g3) ((bj (K:=19) (f:=i.form) (by decide)).trans (ML i.az g4)) (MM i.kind g5) ((bM (K:=19) (k:=xR 19 i 5) (by decide)).trans (MN i.bC g6)) (MO i.set g7) (MP i.cond g8) (MQ i.ao g9)
theorem GI (i:IN) (hs:aa i.form=20) (hr:aF i (bX 20)) (hg:i.ao<=9223372036854775807):cH 20 i=i:=by
 obtain⟨hf,h1,h2,h3,h4,h5,h6,h7,h8,h9,cC⟩:=hr
 have g0:=aA (r:=i.rd) h1
 have g1:=bu (r:=i.rn) h2
 have g2:=aA (r:=i.rm) h3
 have g3:=aA (r:=i.ra) h4
 have g4:0<=i.az/\i.az<=4095/\i.az % 1=0:=dZ (s:=1) (by decide) h7
 have g5:i.kind=0:=(bd rfl h9).1
 have g6:i.bC=0:=bK (bd rfl h9).2
 have g7:i.set=0:=h8.elim id fun e=>absurd (show false=true from e.2) Bool.false_ne_true
 have g8:i.cond=0:=h6.elim id fun e=>absurd (show false=true from e.1) Bool.false_ne_true
 have g9:i.ao=0:=cT rfl h5
 exact aX rfl (MR i.rd g0) (MT i.rn g1) (MU i.rm g2) (MV i.ra g3) ((bj (K:=20) (f:=i.form) (by decide)).trans (MW i.az g4)) (MX i.kind g5) ((bM (K:=20) (k:=xR 20 i 5) (by decide)).trans (MY i.bC g6)) (MZ i.set g7) (M0 i.cond g8) (M1 i.ao g9)
theorem GJ (i:IN) (hs:aa i.form=21) (hr:aF i (bX 21)) (hg:i.ao<=9223372036854775807):cH 21 i=i:=by
 obtain⟨hf,h1,h2,h3,h4,h5,h6,h7,h8,h9,cC⟩:=hr
 have g0:=bu (r:=i.rd) h1
 have g1:=bu (r:=i.rn) h2
 have g2:=bu (r:=i.rm) h3
 have g3:=aA (r:=i.ra) h4
 have g4:i.az=0:=bK h7
 have g6:ct i.kind i.bC:=zj rfl h9
 have g5:=ke g6
 have g7:i.set=0\/i.set=1:=h8.imp id fun e=>e.1
 have g8:i.cond=0:=h6.elim id fun e=>absurd (show false=true from e.1) Bool.false_ne_true
 have g9:i.ao=0:=cT rfl h5
 exact aX rfl (M3 i.rd g0) (M4 i.rn g1) (M5 i.rm g2) (M6 i.ra g3) ((bj (K:=21) (f:=i.form) (by decide)).trans (M7 i.az g4)) (CM i.kind g5) ((qz (K:=21) (k:=xR 21 i 5) (by decide)).trans ((congrArg (fun k=>if xR 21 i 6=0/\(k=1\/k=2) then 32 else xR 21 i 6) (CM i.kind g5)).trans (Ld i.kind i.bC g6))) (M8 i.set g7) (M9 i.cond g8) (M' i.ao g9)
theorem GK (i:IN) (hs:aa i.form=22) (hr:aF i (bX 22)) (hg:i.ao<=9223372036854775807):cH 22 i=i:=by
 obtain⟨hf,h1,h2,h3,h4,h5,h6,h7,h8,h9,cC⟩:=hr
 have g0:=bu (r:=i.rd) h1
 have g1:=aA (r:=i.rn) h2
 have g2:=bu (r:=i.rm) h3
 have g3:=aA (r:=i.ra) h4
 have g4:i.az=0:=bK h7
 have g6:ct i.kind i.bC:=zj rfl h9
 have g5:=ke g6
 have g7:i.set=0\/i.set=1:=h8.imp id fun e=>e.1
 have g8:i.cond=0:=h6.elim id fun e=>absurd (show false=true from e.1) Bool.false_ne_true
 have g9:i.ao=0:=cT rfl h5
 exact aX rfl (M_ i.rd g0) (Na i.rn g1) (Nb i.rm g2) (Nc i.ra g3) ((bj (K:=22) (f:=i.form) (by decide)).trans (Nd i.az g4)) (CN i.kind g5) ((qz (K:=22) (k:=xR 22 i 5) (by decide)).trans ((congrArg (fun k=>if xR 22 i 6=0/\(k=1\/k=2) then 32 else xR 22 i 6) (CN i.kind g5)).trans (Ld i.kind i.bC g6))) (Nf i.set g7) (Ng i.cond g8) (Nh i.ao g9)
theorem GL (i:IN) (hs:aa i.form=23) (hr:aF i (bX 23)) (hg:i.ao<=9223372036854775807):cH 23 i=i:=by
 obtain⟨hf,h1,h2,h3,h4,h5,h6,h7,h8,h9,cC⟩:=hr
 have g0:=aA (r:=i.rd) h1
 have g1:=bu (r:=i.rn) h2
 have g2:=bu (r:=i.rm) h3
 have g3:=aA (r:=i.ra) h4
 have g4:i.az=0:=bK h7
 have g6:ct i.kind i.bC:=zj rfl h9
 have g5:=ke g6
 have g7:i.set=0:=h8.elim id fun e=>absurd (show false=true from e.2) Bool.false_ne_true
 have g8:i.cond=0:=h6.elim id fun e=>absurd (show false=true from e.1) Bool.false_ne_true
 have g9:i.ao=0:=cT rfl h5
 exact aX rfl (Ni i.rd g0) (Nj i.rn g1) (Nk i.rm g2) (Nl i.ra g3) ((bj (K:=23) (f:=i.form) (by decide)).trans (Nm i.az g4)) (CO i.kind g5) ((qz (K:=23) (k:=xR 23 i 5) (by decide)).trans ((congrArg (fun k=>if xR 23 i 6=0/\(k=1\/k=2) then 32 else xR 23 i 6) (CO i.kind g5)).trans (Ld i.kind i.bC g6))) (Nn i.set g7) (No i.cond g8) (Np i.ao g9)
theorem GM (i:IN) (hs:aa i.form=24) (hr:aF i (bX 24)) (hg:i.ao<=9223372036854775807):cH 24 i=i:=by
 obtain⟨hf,h1,h2,h3,h4,h5,h6,h7,h8,h9,cC⟩:=hr
 have g0:=bu (r:=i.rd) h1
 have g1:=bu (r:=i.rn) h2
 have g2:=aA (r:=i.rm) h3
 have g3:=aA (r:=i.ra) h4
 have g4:0<=i.az/\i.az<=4095/\i.az % 1=0:=dZ (s:=1) (by decide) h7
 have g5:i.kind=0:=(bd rfl h9).1
 have g6:i.bC=0:=bK (bd rfl h9).2
 have g7:i.set=0:=h8.elim id fun e=>absurd (show false=true from e.2) Bool.false_ne_true
 have g8:i.cond=0:=h6.elim id fun e=>absurd (show false=true from e.1) Bool.false_ne_true
 have g9:i.ao=0:=cT rfl h5
 exact aX rfl (Nq i.rd g0) (Nr i.rn g1) (Ns i.rm g2) (Nt i.ra g3) ((bj (K:=24) (f:=i.form) (by decide)).trans (Nu i.az g4)) (Nv i.kind g5) ((bM (K:=24) (k:=xR 24 i 5) (by decide)).trans (Nw i.bC g6)) (Nx i.set g7) (Ny i.cond g8) (Nz i.ao g9)
theorem GN (i:IN) (hs:aa i.form=25) (hr:aF i (bX 25)) (hg:i.ao<=9223372036854775807):cH 25 i=i:=by
 obtain⟨hf,h1,h2,h3,h4,h5,h6,h7,h8,h9,cC⟩:=hr
 have g0:=bu (r:=i.rd) h1
 have g1:=kz (r:=i.rn) h2
 have g2:=aA (r:=i.rm) h3
 have g3:=aA (r:=i.ra) h4
 have g4:0<=i.az/\i.az<=4095/\i.az % 1=0:=dZ (s:=1) (by decide) h7
 have g5:i.kind=0:=(bd rfl h9).1
 have g6:i.bC=0:=bK (bd rfl h9).2
 have g7:i.set=0:=h8.elim id fun e=>absurd (show false=true from e.2) Bool.false_ne_true
 have g8:i.cond=0:=h6.elim id fun e=>absurd (show false=true from e.1) Bool.false_ne_true
 have g9:i.ao=0:=cT rfl h5
 exact aX rfl (NA i.rd g0) (NB i.rn g1) (NC i.rm g2) (ND i.ra g3) ((bj (K:=25) (f:=i.form) (by decide)).trans (NF i.az g4)) (NG i.kind g5) ((bM (K:=25) (k:=xR 25 i 5) (by decide)).trans (NH i.bC g6)) (NI i.set g7) (NJ i.cond g8) (NK i.ao g9)
theorem GO (i:IN) (hs:aa i.form=26) (hr:aF i (bX 26)) (hg:i.ao<=9223372036854775807):cH 26 i=i:=by
 obtain⟨hf,h1,h2,h3,h4,h5,h6,h7,h8,h9,cC⟩:=hr
 have g0:=bu (r:=i.rd) h1
 have g1:=kz (r:=i.rn) h2
 have g2:=bu (r:=i.rm) h3
 have g3:=aA (r:=i.ra) h4
 have g4:i.az=0:=bK h7
 have g5:i.kind=0:=(bd rfl h9).1
 have g6:0<=i.bC/\i.bC<=3/\i.bC % 1=0:=dZ (s:=1) (by decide) (bd rfl h9).2
 have g7:i.set=0:=h8.elim id fun e=>absurd (show false=true from e.2) Bool.false_ne_true
 have g8:i.cond=0:=h6.elim id fun e=>absurd (show false=true from e.1) Bool.false_ne_true
 have g9:i.ao=0:=cT rfl h5
 exact aX rfl (NL i.rd g0) (NM i.rn g1) (NN i.rm g2) (NO i.ra g3) ((bj (K:=26) (f:=i.form) (by decide)).trans (NP i.az g4)) (NQ i.kind g5) ((bM (K:=26) (k:=xR 26 i 5) (by decide)).trans (NR i.bC g6)) (NS i.set g7) (NT i.cond g8) (NU i.ao g9)
theorem GP (i:IN) (hs:aa i.form=27) (hr:aF i (bX 27)) (hg:i.ao<=9223372036854775807):cH 27 i=i:=by
 obtain⟨hf,h1,h2,h3,h4,h5,h6,h7,h8,h9,cC⟩:=hr
 have g0:=bu (r:=i.rd) h1
 have g1:=bu (r:=i.rn) h2
 have g2:=bu (r:=i.rm) h3
 have g3:=aA (r:=i.ra) h4
 have g4:i.az=0:=bK h7
 have g5:i.kind=0:=(bd rfl h9).1
 have g6:i.bC=0:=bK (bd rfl h9).2
 have g7:i.set=0\/i.set=1:=h8.imp id fun e=>e.1
 have g8:i.cond=0:=h6.elim id fun e=>absurd (show false=true from e.1) Bool.false_ne_true
 have g9:i.ao=0:=cT rfl h5
 exact aX rfl (NV i.rd g0) (NW i.rn g1) (NX i.rm g2) (NY i.ra g3) ((bj (K:=27) (f:=i.form) (by decide)).trans (NZ i.az g4)) (N0 i.kind g5) ((bM (K:=27) (k:=xR 27 i 5) (by decide)).trans (N1 i.bC g6)) (N2 i.set g7) (N3 i.cond g8) (N4 i.ao g9)
theorem GQ (i:IN) (hs:aa i.form=28) (hr:aF i (bX 28)) (hg:i.ao<=9223372036854775807):cH 28 i=i:=by
 obtain⟨hf,h1,h2,h3,h4,h5,h6,h7,h8,h9,cC⟩:=hr
 have g0:=bu (r:=i.rd) h1
 have g1:=bu (r:=i.rn) h2
 have g2:=bu (r:=i.rm) h3
 have g3:=aA (r:=i.ra) h4
 have g4:i.az=0:=bK h7
 have g5:i.kind=0:=(bd rfl h9).1
 have g6:i.bC=0:=bK (bd rfl h9).2
 have g7:i.set=0:=h8.elim id fun e=>absurd (show false=true from e.2) Bool.false_ne_true
 have g8:i.cond=0:=h6.elim id fun e=>absurd (show false=true from e.1) Bool.false_ne_true
 have g9:i.ao=0:=cT rfl h5
 exact aX rfl (N5 i.rd g0) (N6 i.rn g1) (N7 i.rm g2) (N8 i.ra g3) ((bj (K:=28) (f:=i.form) (by decide)).trans (N9 i.az g4)) (N' i.kind g5) ((bM (K:=28) (k:=xR 28 i 5) (by decide)).trans (N_ i.bC g6)) (Oa i.set g7) (Ob i.cond g8) (Oc i.ao g9)
theorem GR (i:IN) (hs:aa i.form=29) (hr:aF i (bX 29)) (hg:i.ao<=9223372036854775807):cH 29 i=i:=by
 obtain⟨hf,h1,h2,h3,h4,h5,h6,h7,h8,h9,cC⟩:=hr
 have g0:=bu (r:=i.rd) h1
 have g1:=bu (r:=i.rn) h2
 have g2:=bu (r:=i.rm) h3
 have g3:=bu (r:=i.ra) h4
 have g4:i.az=0:=bK h7
 have g5:i.kind=0:=(bd rfl h9).1
 have g6:i.bC=0:=bK (bd rfl h9).2
 have g7:i.set=0:=h8.elim id fun e=>absurd (show false=true from e.2) Bool.false_ne_true
 have g8:i.cond=0:=h6.elim id fun e=>absurd (show false=true from e.1) Bool.false_ne_true
 have g9:i.ao=0:=cT rfl h5
 exact aX rfl (Od i.rd g0) (Oe i.rn g1) (Of i.rm g2) (Og i.ra g3) ((bj (K:=29) (f:=i.form) (by decide)).trans (Oh i.az g4)) (Oi i.kind g5) ((bM (K:=29) (k:=xR 29 i 5) (by decide)).trans (Oj i.bC g6)) (Ol i.set g7) (Om i.cond g8) (On i.ao g9)
theorem GS (i:IN) (hs:aa i.form=30) (hr:aF i (bX 30)) (hg:i.ao<=9223372036854775807):cH 30 i=i:=by
 obtain⟨hf,h1,h2,h3,h4,h5,h6,h7,h8,h9,cC⟩:=hr
 have g0:=bu (r:=i.rd) h1
 have g1:=bu (r:=i.rn) h2
 have g2:=bu (r:=i.rm) h3
 have g3:=bu (r:=i.ra) h4
 have g4:i.az=0:=bK h7
 have g5:i.kind=0:=(bd rfl h9).1
 have g6:i.bC=0:=bK (bd rfl h9).2
 have g7:i.set=0:=h8.elim id fun e=>absurd (show false=true from e.2) Bool.false_ne_true
 have g8:i.cond=0:=h6.elim id fun e=>absurd (show false=true from e.1) Bool.false_ne_true
 have g9:i.ao=0:=cT rfl h5
 exact aX rfl (Oo i.rd g0) (Oq i.rn g1) (Ot i.rm g2) (Ou i.ra g3) ((bj (K:=30) (f:=i.form) (by decide)).trans (Ov i.az g4)) (Ow i.kind g5) ((bM (K:=30) (k:=xR 30 i 5) (by decide)).trans (Ox i.bC g6)) (Oy i.set g7) (Oz i.cond g8) (OA i.ao g9)
theorem GU (i:IN) (hs:aa i.form=31) (hr:aF i (bX 31)) (hg:i.ao<=9223372036854775807):cH 31 i=i:=by
 obtain⟨hf,h1,h2,h3,h4,h5,h6,h7,h8,h9,cC⟩:=hr
 have g0:=bu (r:=i.rd) h1
 have g1:=bu (r:=i.rn) h2
 have g2:=bu (r:=i.rm) h3
 have g3:=bu (r:=i.ra) h4
 have g4:i.az=0:=bK h7
 have g5:i.kind=0:=(bd rfl h9).1
 have g6:i.bC=0:=bK (bd rfl h9).2
 have g7:i.set=0:=h8.elim id fun e=>absurd (show false=true from e.2) Bool.false_ne_true
 have g8:i.cond=0:=h6.elim id fun e=>absurd (show false=true from e.1) Bool.false_ne_true
 have g9:i.ao=0:=cT rfl h5
 exact aX rfl (OB i.rd g0) (OC i.rn g1) (OD i.rm g2) (OE i.ra g3) ((bj (K:=31) (f:=i.form) (by decide)).trans (OF i.az g4)) (OG i.kind g5) ((bM (K:=31) (k:=xR 31 i 5) (by decide)).trans (OH i.bC g6)) (OI i.set g7) (OJ i.cond g8) (OK i.ao g9)
theorem GV (i:IN) (hs:aa i.form=32) (hr:aF i (bX 32)) (hg:i.ao<=9223372036854775807):cH 32 i=i:=by
 obtain⟨hf,h1,h2,h3,h4,h5,h6,h7,h8,h9,cC⟩:=hr
 have g0:=bu (r:=i.rd) h1
 have g1:=aA (r:=i.rn) h2
 have g2:=bu (r:=i.rm) h3
 have g3:=aA (r:=i.ra) h4
 have g4:i.az=0:=bK h7
 have g5:i.kind=0:=(bd rfl h9).1
 have g6:i.bC=0:=bK (bd rfl h9).2
 have g7:i.set=0:=h8.elim id fun e=>absurd (show false=true from e.2) Bool.false_ne_true
 have g8:i.cond=0:=h6.elim id fun e=>absurd (show false=true from e.1) Bool.false_ne_true
 have g9:i.ao=0:=cT rfl h5
 exact aX rfl (OL i.rd g0) (OM i.rn g1) (ON i.rm g2) (OO i.ra g3) ((bj (K:=32) (f:=i.form) (by decide)).trans (OP i.az g4)) (OQ i.kind g5) ((bM (K:=32) (k:=xR 32 i 5) (by decide)).trans (OR i.bC g6)) (OS i.set g7) (OT i.cond g8) (OU i.ao g9)
theorem GW (i:IN) (hs:aa i.form=33) (hr:aF i (bX 33)) (hg:i.ao<=9223372036854775807):cH 33 i=i:=by
 obtain⟨hf,h1,h2,h3,h4,h5,h6,h7,h8,h9,cC⟩:=hr
 have g0:=aA (r:=i.rd) h1
 have g1:=aA (r:=i.rn) h2
 have g2:=aA (r:=i.rm) h3
 have g3:=aA (r:=i.ra) h4
 have g4:-1048576<=i.az/\i.az<=1048574/\i.az % 2=0:=dZ (s:=2) (by decide) h7
 have g5:i.kind=0:=(bd rfl h9).1
 have g6:i.bC=0:=bK (bd rfl h9).2
 have g7:i.set=0:=h8.elim id fun e=>absurd (show false=true from e.2) Bool.false_ne_true
 have g8:0<=i.cond/\i.cond<=13:=by rcases h6 with h6|h6<;>omega
 have g9:i.ao=0:=cT rfl h5
 exact aX rfl (OV i.rd g0) (OW i.rn g1) (OX i.rm g2) (OY i.ra g3) (OZ i.az g4) (O0 i.kind g5) ((bM (K:=33) (k:=xR 33 i 5) (by decide)).trans (O1 i.bC g6)) (O2 i.set g7) (O3 i.cond g8) (O4 i.ao g9)
end Go.Proofs.YtlgkljpgagfndaaGreatDoor.Pw

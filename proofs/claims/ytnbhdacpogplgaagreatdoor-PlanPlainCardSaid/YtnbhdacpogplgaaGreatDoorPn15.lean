/- What this claim is proved with: no condition. -/
import Derived.Test.YtnbhdacpogplgaaGreatDoorPn14
set_option maxRecDepth 100000
set_option linter.unusedVariables false
set_option linter.unusedSimpArgs false
namespace Go.Proofs.YtnbhdacpogplgaaGreatDoor.Pw
open Go Go.RowKit
theorem Gi (k v:Int) (h:bE k v):(if 0+aa v 2 3*2 ^ 2+aa v 0 2*2 ^ 0=0/\(k=1\/k=2) then 32 else 0+aa v 2 3*2 ^ 2+aa v 0 2*2 ^ 0)=v:=by
 unfold bE at h; unfold aa; (repeat' split)<;>omega
theorem iI {k v:Int} (h:bE k v):0<=k/\k < 4:=by unfold bE at h; omega
theorem MM (v:Int) (h:0<=v/\v < 8):0+aa v 0 3*2 ^ 0=v:=by
 unfold aa; (repeat' split)<;>omega
theorem MN (v:Int) (h:v=0):0=v:=by
 omega
theorem MO (v:Int) (h:0<=v/\v < 8):0+aa v 0 3*2 ^ 0=v:=by
 unfold aa; (repeat' split)<;>omega
theorem MP (v:Int) (h:v=0):0=v:=by
 omega
theorem MQ (v:Int) (h:v=0):0=v:=by
 omega
theorem MR (v:Int) (h:v=0):0=v:=by
 omega
theorem MS (v:Int) (h:v=0):0=v:=by
 omega
theorem MU (v:Int) (h:v=0):0=v:=by
 omega
theorem MV (v:Int) (h:v=0):0=v:=by
 omega
theorem MW (f v:Int) (h:0<=v/\v<=32) (h1:f=1->v < 32) (h2:f=2\/f=3->0 < v) (h3:f=1\/f=2\/f=3):(if 1 < f/\0+aa v 0 5*2 ^ 0=0 then 32 else 0+aa v 0 5*2 ^ 0)=v:=by
 unfold aa; (repeat' split)<;>omega
theorem MX (v:Int) (h:0<=v/\v < 8):0+aa v 0 3*2 ^ 0=v:=by
 unfold aa; (repeat' split)<;>omega
theorem MY (v:Int) (h:0<=v/\v < 8):0+aa v 0 3*2 ^ 0=v:=by
 unfold aa; (repeat' split)<;>omega
theorem MZ (v:Int) (h:0<=v/\v < 8):0+aa v 0 3*2 ^ 0=v:=by
 unfold aa; (repeat' split)<;>omega
theorem M0 (v:Int) (h:v=0):0=v:=by
 omega
theorem M1 (v:Int) (h:v=0):0=v:=by
 omega
theorem M3 (v:Int) (h:v=0):0=v:=by
 omega
theorem M4 (v:Int) (h:v=0):0=v:=by
 omega
theorem M5 (v:Int) (h:v=0):0=v:=by
 omega
theorem M6 (v:Int) (h:v=0):0=v:=by
 omega
theorem M7 (v:Int) (h:v=0):0=v:=by
 omega
theorem M8 (v:Int) (h:0<=v/\v < 8):0+aa v 0 3*2 ^ 0=v:=by
 unfold aa; (repeat' split)<;>omega
theorem M9 (v:Int) (h:0<=v/\v < 8):0+aa v 0 3*2 ^ 0=v:=by
 unfold aa; (repeat' split)<;>omega
theorem M' (v:Int) (h:v=0):0=v:=by
 omega
theorem M_ (v:Int) (h:v=0):0=v:=by
 omega
theorem Na (v:Int) (h:0<=v/\v<=7/\v % 1=0):0+aa v 0 3*2 ^ 0=v:=by
 unfold aa; (repeat' split)<;>omega
theorem Nb (v:Int) (h:v=0):0=v:=by
 omega
theorem Nc (v:Int) (h:v=0):0=v:=by
 omega
theorem Nd (v:Int) (h:v=0):0=v:=by
 omega
theorem Nf (v:Int) (h:v=0):0=v:=by
 omega
theorem Ng (v:Int) (h:v=0):0=v:=by
 omega
theorem Nh (v:Int) (h:0<=v/\v < 8):0+aa v 0 3*2 ^ 0=v:=by
 unfold aa; (repeat' split)<;>omega
theorem Ni (v:Int) (h:v=0):0=v:=by
 omega
theorem Nj (v:Int) (h:v=0):0=v:=by
 omega
theorem Nk (v:Int) (h:v=0):0=v:=by
 omega
theorem Nl (v:Int) (h:0<=v/\v<=255/\v % 1=0):0+aa v 0 8*2 ^ 0=v:=by
 unfold aa; (repeat' split)<;>omega
theorem Nm (v:Int) (h:v=0):0=v:=by
 omega
theorem Nn (v:Int) (h:v=0):0=v:=by
 omega
theorem No (v:Int) (h:v=0):0=v:=by
 omega
theorem Np (v:Int) (h:v=0):0=v:=by
 omega
theorem Nq (v:Int) (h:v=0):0=v:=by
 omega
theorem Nr (v:Int) (h:0<=v/\v < 8):0+aa v 0 3*2 ^ 0=v:=by
 unfold aa; (repeat' split)<;>omega
theorem Ns (v:Int) (h:v=0):0=v:=by
 omega
theorem Nt (v:Int) (h:0<=v/\v < 8):0+aa v 0 3*2 ^ 0=v:=by
 unfold aa; (repeat' split)<;>omega
theorem Nu (v:Int) (h:v=0):0=v:=by
 omega
theorem Nv (v:Int) (h:v=0):0=v:=by
 omega
theorem Nw (v:Int) (h:v=0):0=v:=by
 omega
theorem Nx (v:Int) (h:v=0):0=v:=by
 omega
theorem Ny (v:Int) (h:v=0):0=v:=by
 omega
theorem Nz (v:Int) (h:v=0):0=v:=by
 omega
theorem NA (v:Int) (h:v=0):0=v:=by
 omega
theorem NB (v:Int) (h:0<=v/\v < 15):0+aa v 3 1*2 ^ 3+aa v 0 3*2 ^ 0=v:=by
 unfold aa; (repeat' split)<;>omega
theorem NC (v:Int) (h:v=0):0=v:=by
 omega
theorem ND (v:Int) (h:0<=v/\v < 15):0+aa v 0 4*2 ^ 0=v:=by
 unfold aa; (repeat' split)<;>omega
theorem NF (v:Int) (h:v=0):0=v:=by
 omega
theorem NG (v:Int) (h:v=0):0=v:=by
 omega
theorem NH (v:Int) (h:v=0):0=v:=by
 omega
theorem NI (v:Int) (h:v=0):0=v:=by
 omega
theorem NJ (v:Int) (h:v=0):0=v:=by
 omega
theorem NK (v:Int) (h:v=0):0=v:=by
 omega
theorem NL (v:Int) (h:v=0):0=v:=by
 omega
theorem NM (v:Int) (h:v=0):0=v:=by
 omega
theorem NN (v:Int) (h:v=0):0=v:=by
 omega
theorem NO (v:Int) (h:0<=v/\v < 15):0+aa v 0 4*2 ^ 0=v:=by
 unfold aa; (repeat' split)<;>omega
theorem NP (v:Int) (h:v=0):0=v:=by
 omega
theorem NQ (v:Int) (h:v=0):0=v:=by
 omega
theorem NR (v:Int) (h:v=0):0=v:=by
 omega
theorem NS (v:Int) (h:v=0):0=v:=by
 omega
theorem NT (v:Int) (h:v=0):0=v:=by
 omega
theorem NU (v:Int) (h:v=0):0=v:=by
 omega
theorem NV (v:Int) (h:v=0):0=v:=by
 omega
theorem NW (v:Int) (h:0<=v/\v < 8):0+aa v 0 3*2 ^ 0=v:=by
 unfold aa; (repeat' split)<;>omega
theorem NX (v:Int) (h:v=0):0=v:=by
 omega
theorem NY (v:Int) (h:v=0):0=v:=by
 omega
theorem NZ (v:Int) (h:v=0):0=v:=by
 omega
theorem N0 (v:Int) (h:0<=v/\v<=1020/\v % 4=0):0+aa v 2 8*2 ^ 2=v:=by
 unfold aa; (repeat' split)<;>omega
theorem N1 (v:Int) (h:v=0):0=v:=by
 omega
theorem N2 (v:Int) (h:v=0):0=v:=by
 omega
theorem N3 (v:Int) (h:v=0):0=v:=by
 omega
theorem N4 (v:Int) (h:v=0):0=v:=by
 omega
theorem N5 (v:Int) (h:v=0):0=v:=by
 omega
theorem N6 (v:Int) (h:0<=v/\v < 8):0+aa v 0 3*2 ^ 0=v:=by
 unfold aa; (repeat' split)<;>omega
theorem N7 (v:Int) (h:0<=v/\v < 8):0+aa v 0 3*2 ^ 0=v:=by
 unfold aa; (repeat' split)<;>omega
theorem N8 (v:Int) (h:v=0):0=v:=by
 omega
theorem N9 (v:Int) (h:v=0):0=v:=by
 omega
theorem N' (v:Int) (h:0<=v/\v<=124/\v % 4=0):0+aa v 2 5*2 ^ 2=v:=by
 unfold aa; (repeat' split)<;>omega
theorem N_ (v:Int) (h:v=0):0=v:=by
 omega
theorem Oa (v:Int) (h:v=0):0=v:=by
 omega
theorem Ob (v:Int) (h:v=0):0=v:=by
 omega
theorem Oc (v:Int) (h:v=0):0=v:=by
 omega
theorem Od (v:Int) (h:v=0):0=v:=by
 omega
theorem Gj (v:Int) (h:v=0):0=v:=by
 omega
theorem Gk (v:Int) (h:v=0):0=v:=by
 omega
theorem Gl (v:Int) (h:v=0):0=v:=by
 omega
theorem Gm (v:Int) (h:v=0):0=v:=by
 omega
theorem Gn (v:Int) (h:0<=v/\v<=508/\v % 4=0):0+aa v 2 7*2 ^ 2=v:=by
 unfold aa; (repeat' split)<;>omega
theorem Gp (v:Int) (h:v=0):0=v:=by
 omega
theorem Gq (v:Int) (h:v=0):0=v:=by
 omega
theorem Gr (v:Int) (h:v=0):0=v:=by
 omega
theorem Gs (v:Int) (h:v=0):0=v:=by
 omega
theorem Gt (v:Int) (h:v=0):0=v:=by
 omega
theorem Gu (v:Int) (h:v=0):0=v:=by
 omega
theorem Gv (v:Int) (h:v=0):0=v:=by
 omega
theorem Gw (v:Int) (h:v=0):0=v:=by
 omega
theorem Gy (v:Int) (h:v=0):0=v:=by
 omega
theorem Gz (v:Int) (h:v=0):0=v:=by
 omega
theorem GA (v:Int) (h:v=0):0=v:=by
 omega
theorem GB (v:Int) (h:v=0):0=v:=by
 omega
theorem GC (v:Int) (h:v=0):0=v:=by
 omega
theorem GD (v:Int) (h:v=0):0=v:=by
 omega
theorem GF (v:Int) (h:0 < v/\v / 16384 % 2*16384+v % 256=v):0+aa v 14 1*2 ^ 14+aa v 0 8*2 ^ 0=v:=by
 unfold aa; (repeat' split)<;>omega
theorem GG (v:Int) (h:v=0):0=v:=by
 omega
theorem GH (v:Int) (h:v=0):0=v:=by
 omega
theorem GI (v:Int) (h:v=0):0=v:=by
 omega
theorem GJ (v:Int) (h:v=0):0=v:=by
 omega
theorem GK (v:Int) (h:v=0):0=v:=by
 omega
theorem GL (v:Int) (h:v=0):0=v:=by
 omega
theorem GM (v:Int) (h:v=0):0=v:=by
 omega
theorem GN (v:Int) (h:v=0):0=v:=by
 omega
theorem GO (v:Int) (h:v=0):0=v:=by
 omega
theorem GP (v:Int) (h:0 < v/\v / 32768 % 2*32768+v % 256=v):0+aa v 15 1*2 ^ 15+aa v 0 8*2 ^ 0=v:=by
 unfold aa; (repeat' split)<;>omega
theorem GQ (v:Int) (h:v=0):0=v:=by
 omega
theorem GR (v:Int) (h:v=0):0=v:=by
 omega
theorem GS (v:Int) (h:v=0):0=v:=by
 omega
theorem GU (v:Int) (h:v=0):0=v:=by
 omega
theorem GV (v:Int) (h:v=0):0=v:=by
 omega
theorem GW (v:Int) (h:v=0):0=v:=by
 omega
theorem GX (v:Int) (h:v=0):0=v:=by
 omega
theorem GY (v:Int) (h:v=0):0=v:=by
 omega
theorem GZ (v:Int) (h:v=0):0=v:=by
 omega
theorem G0 (v:Int) (h:v=0):0=v:=by
 omega
theorem G1 (v:Int) (h:v=0):0=v:=by
 omega
theorem G2 (v:Int) (h:v=0):0=v:=by
 omega
theorem G3 (v:Int) (h:v=0):0=v:=by
 omega
theorem G4 (v:Int) (h:v=0):0=v:=by
 omega
theorem G5 (v:Int) (h:0<=v/\v<=255/\v % 1=0):0+aa v 0 8*2 ^ 0=v:=by
 unfold aa; (repeat' split)<;>omega
theorem G6 (v:Int) (h:v=0):0=v:=by
 omega
theorem G7 (v:Int) (h:v=0):0=v:=by
 omega
theorem G8 (v:Int) (h:v=0):0=v:=by
 omega
theorem G9 (v:Int) (h:v=0):0=v:=by
 omega
theorem G' (v:Int) (h:v=0):0=v:=by
 omega
theorem G_ (v:Int) (h:v=0):0=v:=by
 omega
theorem Ha (v:Int) (h:v=0):0=v:=by
 omega
theorem Hb (v:Int) (h:v=0):0=v:=by
 omega
theorem Hc (v:Int) (h:v=0):0=v:=by
 omega
theorem Hd (v:Int) (h:-256<=v/\v<=254/\v % 2=0):bO (0+aa v 1 8*2 ^ 1) 9=v:=by
 unfold bO aa; (repeat' split)<;>omega
theorem He (v:Int) (h:v=0):0=v:=by
 omega
theorem Hf (v:Int) (h:v=0):0=v:=by
 omega
theorem Hg (v:Int) (h:v=0):0=v:=by
 omega
theorem Hh (v:Int) (h:0<=v/\v<=13):0+aa v 0 4*2 ^ 0=v:=by
 unfold aa; (repeat' split)<;>omega
theorem Hi (v:Int) (h:v=0):0=v:=by
 omega
theorem Hj (v:Int) (h:v=0):0=v:=by
 omega
theorem Hk (v:Int) (h:v=0):0=v:=by
 omega
theorem Hl (v:Int) (h:v=0):0=v:=by
 omega
theorem Hm (v:Int) (h:v=0):0=v:=by
 omega
theorem Hn (v:Int) (h:-2048<=v/\v<=2046/\v % 2=0):bO (0+aa v 1 11*2 ^ 1) 12=v:=by
 unfold bO aa; (repeat' split)<;>omega
theorem Ho (v:Int) (h:v=0):0=v:=by
 omega
theorem Hp (v:Int) (h:v=0):0=v:=by
 omega
theorem Hq (v:Int) (h:v=0):0=v:=by
 omega
theorem Hr (v:Int) (h:v=0):0=v:=by
 omega
theorem Hs (v:Int) (h:v=0):0=v:=by
 omega
theorem Ht (v:Int) (h:0<=v/\v < 15):0+aa v 0 4*2 ^ 0=v:=by
 unfold aa; (repeat' split)<;>omega
theorem Hu (v:Int) (h:v=0):0=v:=by
 omega
theorem Hv (v:Int) (h:v=0):0=v:=by
 omega
theorem Hw (v:Int) (h:v=0):0=v:=by
 omega
theorem Hx (v:Int) (h:0<=v/\v<=65535/\v % 1=0):0+aa v 11 1*2 ^ 11+aa v 12 4*2 ^ 12+aa v 8 3*2 ^ 8+aa v 0 8*2 ^ 0=v:=by
 unfold aa; (repeat' split)<;>omega
theorem Hy (v:Int) (h:v=0):0=v:=by
 omega
theorem Hz (v:Int) (h:v=0):0=v:=by
 omega
theorem HA (v:Int) (h:v=0):0=v:=by
 omega
theorem HB (v:Int) (h:v=0):0=v:=by
 omega
theorem HC (v:Int) (h:v=0):0=v:=by
 omega
theorem HD (v:Int) (h:0<=v/\v < 15):0+aa v 0 4*2 ^ 0=v:=by
 unfold aa; (repeat' split)<;>omega
theorem HE (v:Int) (h:0<=v/\v < 15):0+aa v 0 4*2 ^ 0=v:=by
 unfold aa; (repeat' split)<;>omega
theorem HF (v:Int) (h:v=0):0=v:=by
 omega
theorem HG (v:Int) (h:v=0):0=v:=by
 omega
theorem HH (v:Int) (h:0<=v/\v<=4095/\v % 1=0):0+aa v 11 1*2 ^ 11+aa v 8 3*2 ^ 8+aa v 0 8*2 ^ 0=v:=by
 unfold aa; (repeat' split)<;>omega
theorem HI (v:Int) (h:v=0):0=v:=by
 omega
theorem HJ (v:Int) (h:v=0):0=v:=by
 omega
theorem HK (v:Int) (h:v=0\/v=1):0+aa v 0 1*2 ^ 0=v:=by
 unfold aa; (repeat' split)<;>omega
theorem HL (v:Int) (h:v=0):0=v:=by
 omega
theorem HM (v:Int) (h:v=0):0=v:=by
 omega
theorem HN (v:Int) (h:0<=v/\v < 15):0+aa v 0 4*2 ^ 0=v:=by
 unfold aa; (repeat' split)<;>omega
theorem HO (v:Int) (h:v=0):0=v:=by
 omega
theorem HP (v:Int) (h:v=0):0=v:=by
 omega
theorem HQ (v:Int) (h:v=0):0=v:=by
 omega
theorem HR (v:Int) (h:0<=v/\v<=4095/\v % 1=0):0+aa v 11 1*2 ^ 11+aa v 8 3*2 ^ 8+aa v 0 8*2 ^ 0=v:=by
 unfold aa; (repeat' split)<;>omega
theorem HS (v:Int) (h:v=0):0=v:=by
 omega
theorem HT (v:Int) (h:v=0):0=v:=by
 omega
theorem HU (v:Int) (h:v=0\/v=1):0+aa v 0 1*2 ^ 0=v:=by
 unfold aa; (repeat' split)<;>omega
theorem HV (v:Int) (h:v=0):0=v:=by
 omega
theorem HW (v:Int) (h:v=0):0=v:=by
 omega
theorem HX (v:Int) (h:v=0):0=v:=by
 omega
theorem HY (v:Int) (h:0<=v/\v < 15):0+aa v 0 4*2 ^ 0=v:=by
 unfold aa; (repeat' split)<;>omega
theorem HZ (v:Int) (h:v=0):0=v:=by
 omega
theorem H' (v:Int) (h:v=0):0=v:=by
 omega
theorem H_ (v:Int) (h:0<=v/\v<=4095/\v % 1=0):0+aa v 11 1*2 ^ 11+aa v 8 3*2 ^ 8+aa v 0 8*2 ^ 0=v:=by
 unfold aa; (repeat' split)<;>omega
theorem Ia (v:Int) (h:v=0):0=v:=by
 omega
theorem Ib (v:Int) (h:v=0):0=v:=by
 omega
theorem Ic (v:Int) (h:v=0):0=v:=by
 omega
theorem Ie (v:Int) (h:v=0):0=v:=by
 omega
theorem Ig (v:Int) (h:v=0):0=v:=by
 omega
theorem Ih (v:Int) (h:0<=v/\v < 15):0+aa v 0 4*2 ^ 0=v:=by
 unfold aa; (repeat' split)<;>omega
theorem Ii (v:Int) (h:0<=v/\v < 15):0+aa v 0 4*2 ^ 0=v:=by
 unfold aa; (repeat' split)<;>omega
theorem Ij (v:Int) (h:0<=v/\v < 15):0+aa v 0 4*2 ^ 0=v:=by
 unfold aa; (repeat' split)<;>omega
theorem Ik (v:Int) (h:v=0):0=v:=by
 omega
theorem Il (v:Int) (h:v=0):0=v:=by
 omega
theorem zX (v:Int) (h:0<=v/\v < 4):0+aa v 0 2*2 ^ 0=v:=by
 unfold aa; (repeat' split)<;>omega
theorem Im (v:Int) (h:v=0\/v=1):0+aa v 0 1*2 ^ 0=v:=by
 unfold aa; (repeat' split)<;>omega
theorem Io (v:Int) (h:v=0):0=v:=by
 omega
theorem Ip (v:Int) (h:v=0):0=v:=by
 omega
theorem Iq (v:Int) (h:0<=v/\v < 15):0+aa v 0 4*2 ^ 0=v:=by
 unfold aa; (repeat' split)<;>omega
theorem Ir (v:Int) (h:v=0):0=v:=by
 omega
theorem It (v:Int) (h:0<=v/\v < 15):0+aa v 0 4*2 ^ 0=v:=by
 unfold aa; (repeat' split)<;>omega
theorem Iu (v:Int) (h:v=0):0=v:=by
 omega
theorem Iv (v:Int) (h:v=0):0=v:=by
 omega
theorem zY (v:Int) (h:0<=v/\v < 4):0+aa v 0 2*2 ^ 0=v:=by
 unfold aa; (repeat' split)<;>omega
theorem Iw (v:Int) (h:v=0\/v=1):0+aa v 0 1*2 ^ 0=v:=by
 unfold aa; (repeat' split)<;>omega
theorem Ix (v:Int) (h:v=0):0=v:=by
 omega
theorem Iy (v:Int) (h:v=0):0=v:=by
 omega
theorem Iz (v:Int) (h:v=0):0=v:=by
 omega
theorem IA (v:Int) (h:0<=v/\v < 15):0+aa v 0 4*2 ^ 0=v:=by
 unfold aa; (repeat' split)<;>omega
theorem IB (v:Int) (h:0<=v/\v < 15):0+aa v 0 4*2 ^ 0=v:=by
 unfold aa; (repeat' split)<;>omega
theorem IC (v:Int) (h:v=0):0=v:=by
 omega
theorem ID (v:Int) (h:v=0):0=v:=by
 omega
theorem zZ (v:Int) (h:0<=v/\v < 4):0+aa v 0 2*2 ^ 0=v:=by
 unfold aa; (repeat' split)<;>omega
theorem IE (v:Int) (h:v=0):0=v:=by
 omega
theorem IF (v:Int) (h:v=0):0=v:=by
 omega
theorem IG (v:Int) (h:v=0):0=v:=by
 omega
theorem IH (v:Int) (h:0<=v/\v < 15):0+aa v 0 4*2 ^ 0=v:=by
 unfold aa; (repeat' split)<;>omega
theorem II (v:Int) (h:0<=v/\v < 15):0+aa v 0 4*2 ^ 0=v:=by
 unfold aa; (repeat' split)<;>omega
theorem IJ (v:Int) (h:v=0):0=v:=by
 omega
theorem IK (v:Int) (h:v=0):0=v:=by
 omega
theorem IL (v:Int) (h:0<=v/\v<=4095/\v % 1=0):0+aa v 11 1*2 ^ 11+aa v 8 3*2 ^ 8+aa v 0 8*2 ^ 0=v:=by
 unfold aa; (repeat' split)<;>omega
theorem IM (v:Int) (h:v=0):0=v:=by
 omega
theorem IP (v:Int) (h:v=0):0=v:=by
 omega
theorem IQ (v:Int) (h:v=0):0=v:=by
 omega
theorem IS (v:Int) (h:v=0):0=v:=by
 omega
theorem IT (v:Int) (h:v=0):0=v:=by
 omega
theorem IU (v:Int) (h:0<=v/\v < 15):0+aa v 0 4*2 ^ 0=v:=by
 unfold aa; (repeat' split)<;>omega
theorem IV (v:Int) (h:0<=v/\v < 15):0+aa v 0 4*2 ^ 0=v:=by
 unfold aa; (repeat' split)<;>omega
theorem IW (v:Int) (h:v=0):0=v:=by
 omega
theorem IX (v:Int) (h:v=0):0=v:=by
 omega
theorem IY (v:Int) (h:0<=v/\v<=4095/\v % 1=0):0+aa v 0 12*2 ^ 0=v:=by
 unfold aa; (repeat' split)<;>omega
theorem IZ (v:Int) (h:v=0):0=v:=by
 omega
theorem I1 (v:Int) (h:v=0):0=v:=by
 omega
theorem I4 (v:Int) (h:v=0):0=v:=by
 omega
theorem I5 (v:Int) (h:v=0):0=v:=by
 omega
theorem I6 (v:Int) (h:v=0):0=v:=by
 omega
theorem I7 (v:Int) (h:0<=v/\v < 15):0+aa v 0 4*2 ^ 0=v:=by
 unfold aa; (repeat' split)<;>omega
theorem I8 (v:Int) (h:0<=v/\v < 15):0+aa v 0 4*2 ^ 0=v:=by
 unfold aa; (repeat' split)<;>omega
theorem I9 (v:Int) (h:0<=v/\v < 15):0+aa v 0 4*2 ^ 0=v:=by
 unfold aa; (repeat' split)<;>omega
theorem I_ (v:Int) (h:v=0):0=v:=by
 omega
theorem Ja (v:Int) (h:v=0):0=v:=by
 omega
theorem Jb (v:Int) (h:v=0):0=v:=by
 omega
theorem Jc (v:Int) (h:0<=v/\v<=3/\v % 1=0):0+aa v 0 2*2 ^ 0=v:=by
 unfold aa; (repeat' split)<;>omega
theorem Jd (v:Int) (h:v=0):0=v:=by
 omega
theorem Je (v:Int) (h:v=0):0=v:=by
 omega
theorem Jf (v:Int) (h:v=0):0=v:=by
 omega
theorem Jg (v:Int) (h:0<=v/\v < 15):0+aa v 0 4*2 ^ 0=v:=by
 unfold aa; (repeat' split)<;>omega
theorem Jh (v:Int) (h:0<=v/\v < 15):0+aa v 0 4*2 ^ 0=v:=by
 unfold aa; (repeat' split)<;>omega
theorem Ji (v:Int) (h:0<=v/\v < 15):0+aa v 0 4*2 ^ 0=v:=by
 unfold aa; (repeat' split)<;>omega
theorem Jj (v:Int) (h:v=0):0=v:=by
 omega
theorem Jk (v:Int) (h:v=0):0=v:=by
 omega
theorem Jl (v:Int) (h:v=0):0=v:=by
 omega
theorem Jm (v:Int) (h:v=0):0=v:=by
 omega
theorem Jn (v:Int) (h:v=0\/v=1):0+aa v 0 1*2 ^ 0=v:=by
 unfold aa; (repeat' split)<;>omega
theorem Jo (v:Int) (h:v=0):0=v:=by
 omega
theorem Jp (v:Int) (h:v=0):0=v:=by
 omega
theorem Jq (v:Int) (h:0<=v/\v < 15):0+aa v 0 4*2 ^ 0=v:=by
 unfold aa; (repeat' split)<;>omega
theorem Jr (v:Int) (h:0<=v/\v < 15):0+aa v 0 4*2 ^ 0=v:=by
 unfold aa; (repeat' split)<;>omega
theorem Js (v:Int) (h:0<=v/\v < 15):0+aa v 0 4*2 ^ 0=v:=by
 unfold aa; (repeat' split)<;>omega
theorem Jt (v:Int) (h:v=0):0=v:=by
 omega
theorem Ju (v:Int) (h:v=0):0=v:=by
 omega
theorem Jv (v:Int) (h:v=0):0=v:=by
 omega
theorem Jw (v:Int) (h:v=0):0=v:=by
 omega
theorem Jx (v:Int) (h:v=0):0=v:=by
 omega
theorem Jy (v:Int) (h:v=0):0=v:=by
 omega
theorem Jz (v:Int) (h:v=0):0=v:=by
 omega
theorem JA (v:Int) (h:0<=v/\v < 15):0+aa v 0 4*2 ^ 0=v:=by
 unfold aa; (repeat' split)<;>omega
theorem JB (v:Int) (h:0<=v/\v < 15):0+aa v 0 4*2 ^ 0=v:=by
 unfold aa; (repeat' split)<;>omega
theorem JC (v:Int) (h:0<=v/\v < 15):0+aa v 0 4*2 ^ 0=v:=by
 unfold aa; (repeat' split)<;>omega
theorem JD (v:Int) (h:0<=v/\v < 15):0+aa v 0 4*2 ^ 0=v:=by
 unfold aa; (repeat' split)<;>omega
theorem JE (v:Int) (h:v=0):0=v:=by
 omega
theorem JF (v:Int) (h:v=0):0=v:=by
 omega
theorem JG (v:Int) (h:v=0):0=v:=by
 omega
theorem JH (v:Int) (h:v=0):0=v:=by
 omega
theorem JI (v:Int) (h:v=0):0=v:=by
 omega
theorem JJ (v:Int) (h:v=0):0=v:=by
 omega
theorem JK (v:Int) (h:0<=v/\v < 15):0+aa v 0 4*2 ^ 0=v:=by
 unfold aa; (repeat' split)<;>omega
theorem JL (v:Int) (h:0<=v/\v < 15):0+aa v 0 4*2 ^ 0=v:=by
 unfold aa; (repeat' split)<;>omega
theorem JM (v:Int) (h:0<=v/\v < 15):0+aa v 0 4*2 ^ 0=v:=by
 unfold aa; (repeat' split)<;>omega
theorem JN (v:Int) (h:0<=v/\v < 15):0+aa v 0 4*2 ^ 0=v:=by
 unfold aa; (repeat' split)<;>omega
theorem JO (v:Int) (h:v=0):0=v:=by
 omega
theorem JP (v:Int) (h:v=0):0=v:=by
 omega
theorem JQ (v:Int) (h:v=0):0=v:=by
 omega
theorem JR (v:Int) (h:v=0):0=v:=by
 omega
theorem JS (v:Int) (h:v=0):0=v:=by
 omega
theorem JT (v:Int) (h:v=0):0=v:=by
 omega
theorem JU (v:Int) (h:0<=v/\v < 15):0+aa v 0 4*2 ^ 0=v:=by
 unfold aa; (repeat' split)<;>omega
theorem JV (v:Int) (h:0<=v/\v < 15):0+aa v 0 4*2 ^ 0=v:=by
 unfold aa; (repeat' split)<;>omega
theorem JW (v:Int) (h:0<=v/\v < 15):0+aa v 0 4*2 ^ 0=v:=by
 unfold aa; (repeat' split)<;>omega
theorem JX (v:Int) (h:0<=v/\v < 15):0+aa v 0 4*2 ^ 0=v:=by
 unfold aa; (repeat' split)<;>omega
theorem JY (v:Int) (h:v=0):0=v:=by
 omega
theorem JZ (v:Int) (h:v=0):0=v:=by
 omega
theorem J0 (v:Int) (h:v=0):0=v:=by
 omega
theorem J1 (v:Int) (h:v=0):0=v:=by
 omega
theorem J2 (v:Int) (h:v=0):0=v:=by
 omega
theorem J3 (v:Int) (h:v=0):0=v:=by
 omega
theorem J4 (v:Int) (h:0<=v/\v < 15):0+aa v 0 4*2 ^ 0=v:=by
 unfold aa; (repeat' split)<;>omega
theorem J5 (v:Int) (h:v=0):0=v:=by
 omega
theorem J6 (v:Int) (h:0<=v/\v < 15):aa v 0 4=v:=by
 unfold aa; split<;>omega
theorem J7 (v:Int) (h:v=0):0=v:=by
 omega
theorem J8 (v:Int) (h:v=0):0=v:=by
 omega
theorem J9 (v:Int) (h:v=0):0=v:=by
 omega
theorem J' (v:Int) (h:v=0):0=v:=by
 omega
theorem J_ (v:Int) (h:v=0):0=v:=by
 omega
theorem Ka (v:Int) (h:v=0):0=v:=by
 omega
theorem Kb (v:Int) (h:v=0):0=v:=by
 omega
theorem Kc (v:Int) (h:v=0):0=v:=by
 omega
theorem Kd (v:Int) (h:v=0):0=v:=by
 omega
theorem Ke (v:Int) (h:v=0):0=v:=by
 omega
theorem Kf (v:Int) (h:v=0):0=v:=by
 omega
theorem Kg (v:Int) (h:-1048576<=v/\v<=1048574/\v % 2=0):bO (0+aa v 20 1*2 ^ 20+aa v 12 6*2 ^ 12+aa v 18 1*2 ^ 18+aa v 19 1*2 ^ 19+aa v 1 11*2 ^ 1) 21=v:=by
 unfold bO aa; (repeat' split)<;>omega
theorem Kh (v:Int) (h:v=0):0=v:=by
 omega
theorem Ki (v:Int) (h:v=0):0=v:=by
 omega
theorem Kj (v:Int) (h:v=0):0=v:=by
 omega
theorem Kk (v:Int) (h:0<=v/\v<=13):0+aa v 0 4*2 ^ 0=v:=by
 unfold aa; (repeat' split)<;>omega
theorem Kl (v:Int) (h:v=0):0=v:=by
 omega
theorem Km (v:Int) (h:v=0):0=v:=by
 omega
theorem Kn (v:Int) (h:v=0):0=v:=by
 omega
theorem Ko (v:Int) (h:v=0):0=v:=by
 omega
theorem Kp (v:Int) (h:v=0):0=v:=by
 omega
theorem Kq (v:Int) (h:v=0):0=v:=by
 omega
theorem Kr (v:Int) (h:v=0):0=v:=by
 omega
theorem Ks (v:Int) (h:v=0):0=v:=by
 omega
theorem Kt (v:Int) (h:v=0):0=v:=by
 omega
theorem Ku (v:Int) (h:v=0):0=v:=by
 omega
theorem ar {r:Int} (h:gu 0 r):r=0:=by unfold gu at h; omega
theorem cu {r:Int} (h:gu 1 r):0<=r/\r < 8:=by unfold gu at h; omega
theorem iX {r:Int} (h:gu 2 r):0<=r/\r < 15:=by unfold gu at h; omega
theorem aQ {r:Int} (h:gu 3 r):0<=r/\r < 15:=by unfold gu at h; omega
theorem aW {a b n:Int} (h:fV a b 0 n):n=0:=(se h).elim (fun e=>e.2) fun e=>absurd rfl e.1
theorem cJ {a b s n:Int} (hs:s≠0) (h:fV a b s n):a<=n/\n<=b/\n % s=0:=(se h).elim (fun e=>absurd e.1 hs) fun e=>e.2
theorem aM {K f x:Int} (h:K≠1/\K≠15/\K≠16/\K≠33/\K≠34):lP K f x=x:=by
 unfold lP; rw[if_neg h.2.1,if_neg h.2.2.1,if_neg h.2.2.2.1,if_neg h.2.2.2.2,if_neg (fun e=>h.1 e.1)]
theorem EW {f x:Int}:lP 1 f x=if 1 < f/\x=0 then 32 else x:=by
 unfold lP; rw[if_neg (by decide),if_neg (by decide),if_neg (by decide),if_neg (by decide)]
 by_cases h:1 < f/\x=0
 ·rw[if_pos ⟨rfl,h⟩,if_pos h]
 ·rw[if_neg (fun e=>h e.2),if_neg h]
theorem aX {K k x:Int} (h:¬ (21<=K/\K<=23)):EV K k x=x:=if_neg fun e=>h ⟨e.1,e.2.1⟩
theorem oQ {K k x:Int} (h:21<=K/\K<=23):EV K k x=if x=0/\(k=1\/k=2) then 32 else x:=by
 unfold EV
 by_cases g:x=0/\(k=1\/k=2)
 ·rw[if_pos ⟨h.1,h.2,g⟩,if_pos g]
 ·rw[if_neg (fun e=>g e.2.2),if_neg g]
theorem bS {i:IN} {r:RU} (hr:r.aq=0) (h:ey i r):i.aq=0:=h.elim (fun e=>e.2) fun e=>absurd hr e.1
theorem vp {i:IN} {r:RU} (k:Nat) (hk:8<=k) (l4:k<=15) (hr:r.aq=2 ^ k+255) (h:ey i r) (hg:i.aq<=9223372036854775807):0 < i.aq/\i.aq / 2 ^ k % 2*2 ^ k+i.aq % 256=i.aq:=by
 have hp:(0:Int) < 2 ^ k:=by have:=bx k; have:=Nat.two_pow_pos k; omega
 rcases h with h|h
 ·have:=hr.symm.trans h.1; omega
 ·exact⟨h.2.1,p_ k hk l4 i.aq r.aq hr h.2.1 hg h.2.2⟩
theorem aJ {i:IN} {r:RU} (hr:r.kind=false) (h:js i r):i.kind=0/\fV r.b0 r.b1 r.b2 i.ba:=h.elim (fun e=>by rw[hr] at e; exact absurd e.1 Bool.false_ne_true) fun e=>e.2
theorem wU {i:IN} {r:RU} (hr:r.kind=true) (h:js i r):bE i.kind i.ba:=h.elim (fun e=>e.2) fun e=>absurd hr e.1
theorem Kv (i:IN) (hs:af i.form=1) (hr:aD i (cw 1)) (hg:i.aq<=9223372036854775807):bD 1 i=i:=by
 obtain⟨hf,h1,h2,h3,h4,h5,h6,h7,h8,h9,bI⟩:=hr
 have g0:=cu (r:=i.rd) h1
 have g1:=ar (r:=i.rn) h2
 have g2:=cu (r:=i.rm) h3
 have g3:=ar (r:=i.ra) h4
 have g4:0<=i.av/\i.av<=32/\i.av % 1=0:=cJ (s:=1) (by decide) h7
 have g5:i.kind=0:=(aJ rfl h9).1
 have g6:i.ba=0:=aW (aJ rfl h9).2
 have g7:i.set=0:=h8.elim id fun e=>absurd (show false=true from e.2) Bool.false_ne_true
 have g8:i.cond=0:=h6.elim id fun e=>absurd (show false=true from e.1) Bool.false_ne_true
 have g9:i.aq=0:=bS rfl h5
 exact aH rfl (MM i.rd g0) (MN i.rn g1) (MO i.rm g2) (MP i.ra g3) (EW.trans (MW i.form i.av ⟨g4.1,g4.2.1⟩ bI.1 bI.2.1 (oP hf hs))) (MQ i.kind g5) ((aX (K:=1) (k:=xR 1 i 5) (by decide)).trans (MR i.ba g6)) (MS i.set g7) (MU i.cond g8) (MV i.aq g9)
theorem Kw (i:IN) (hs:af i.form=2) (hr:aD i (cw 2)) (hg:i.aq<=9223372036854775807):bD 2 i=i:=by
 obtain⟨hf,h1,h2,h3,h4,h5,h6,h7,h8,h9,bI⟩:=hr
 have g0:=cu (r:=i.rd) h1
 have g1:=cu (r:=i.rn) h2
 have g2:=cu (r:=i.rm) h3
 have g3:=ar (r:=i.ra) h4
 have g4:i.av=0:=aW h7
 have g5:i.kind=0:=(aJ rfl h9).1
 have g6:i.ba=0:=aW (aJ rfl h9).2
 have g7:i.set=0:=h8.elim id fun e=>absurd (show false=true from e.2) Bool.false_ne_true
 have g8:i.cond=0:=h6.elim id fun e=>absurd (show false=true from e.1) Bool.false_ne_true
 have g9:i.aq=0:=bS rfl h5
 exact aH rfl (MX i.rd g0) (MY i.rn g1) (MZ i.rm g2) (M0 i.ra g3) ((aM (K:=2) (f:=i.form) (by decide)).trans (M1 i.av g4)) (M3 i.kind g5) ((aX (K:=2) (k:=xR 2 i 5) (by decide)).trans (M4 i.ba g6)) (M5 i.set g7) (M6 i.cond g8) (M7 i.aq g9)
theorem Kx (i:IN) (hs:af i.form=3) (hr:aD i (cw 3)) (hg:i.aq<=9223372036854775807):bD 3 i=i:=by
 obtain⟨hf,h1,h2,h3,h4,h5,h6,h7,h8,h9,bI⟩:=hr
 have g0:=cu (r:=i.rd) h1
 have g1:=cu (r:=i.rn) h2
 have g2:=ar (r:=i.rm) h3
 have g3:=ar (r:=i.ra) h4
 have g4:0<=i.av/\i.av<=7/\i.av % 1=0:=cJ (s:=1) (by decide) h7
 have g5:i.kind=0:=(aJ rfl h9).1
 have g6:i.ba=0:=aW (aJ rfl h9).2
 have g7:i.set=0:=h8.elim id fun e=>absurd (show false=true from e.2) Bool.false_ne_true
 have g8:i.cond=0:=h6.elim id fun e=>absurd (show false=true from e.1) Bool.false_ne_true
 have g9:i.aq=0:=bS rfl h5
 exact aH rfl (M8 i.rd g0) (M9 i.rn g1) (M' i.rm g2) (M_ i.ra g3) ((aM (K:=3) (f:=i.form) (by decide)).trans (Na i.av g4)) (Nb i.kind g5) ((aX (K:=3) (k:=xR 3 i 5) (by decide)).trans (Nc i.ba g6)) (Nd i.set g7) (Nf i.cond g8) (Ng i.aq g9)
theorem Ky (i:IN) (hs:af i.form=4) (hr:aD i (cw 4)) (hg:i.aq<=9223372036854775807):bD 4 i=i:=by
 obtain⟨hf,h1,h2,h3,h4,h5,h6,h7,h8,h9,bI⟩:=hr
 have g0:=cu (r:=i.rd) h1
 have g1:=ar (r:=i.rn) h2
 have g2:=ar (r:=i.rm) h3
 have g3:=ar (r:=i.ra) h4
 have g4:0<=i.av/\i.av<=255/\i.av % 1=0:=cJ (s:=1) (by decide) h7
 have g5:i.kind=0:=(aJ rfl h9).1
 have g6:i.ba=0:=aW (aJ rfl h9).2
 have g7:i.set=0:=h8.elim id fun e=>absurd (show false=true from e.2) Bool.false_ne_true
 have g8:i.cond=0:=h6.elim id fun e=>absurd (show false=true from e.1) Bool.false_ne_true
 have g9:i.aq=0:=bS rfl h5
 exact aH rfl (Nh i.rd g0) (Ni i.rn g1) (Nj i.rm g2) (Nk i.ra g3) ((aM (K:=4) (f:=i.form) (by decide)).trans (Nl i.av g4)) (Nm i.kind g5) ((aX (K:=4) (k:=xR 4 i 5) (by decide)).trans (Nn i.ba g6)) (No i.set g7) (Np i.cond g8) (Nq i.aq g9)
theorem Kz (i:IN) (hs:af i.form=5) (hr:aD i (cw 5)) (hg:i.aq<=9223372036854775807):bD 5 i=i:=by
 obtain⟨hf,h1,h2,h3,h4,h5,h6,h7,h8,h9,bI⟩:=hr
 have g0:=cu (r:=i.rd) h1
 have g1:=ar (r:=i.rn) h2
 have g2:=cu (r:=i.rm) h3
 have g3:=ar (r:=i.ra) h4
 have g4:i.av=0:=aW h7
 have g5:i.kind=0:=(aJ rfl h9).1
 have g6:i.ba=0:=aW (aJ rfl h9).2
 have g7:i.set=0:=h8.elim id fun e=>absurd (show false=true from e.2) Bool.false_ne_true
 have g8:i.cond=0:=h6.elim id fun e=>absurd (show false=true from e.1) Bool.false_ne_true
 have g9:i.aq=0:=bS rfl h5
 exact aH rfl (Nr i.rd g0) (Ns i.rn g1) (Nt i.rm g2) (Nu i.ra g3) ((aM (K:=5) (f:=i.form) (by decide)).trans (Nv i.av g4)) (Nw i.kind g5) ((aX (K:=5) (k:=xR 5 i 5) (by decide)).trans (Nx i.ba g6)) (Ny i.set g7) (Nz i.cond g8) (NA i.aq g9)
theorem KA (i:IN) (hs:af i.form=6) (hr:aD i (cw 6)) (hg:i.aq<=9223372036854775807):bD 6 i=i:=by
 obtain⟨hf,h1,h2,h3,h4,h5,h6,h7,h8,h9,bI⟩:=hr
 have g0:=iX (r:=i.rd) h1
 have g1:=ar (r:=i.rn) h2
 have g2:=iX (r:=i.rm) h3
 have g3:=ar (r:=i.ra) h4
 have g4:i.av=0:=aW h7
 have g5:i.kind=0:=(aJ rfl h9).1
 have g6:i.ba=0:=aW (aJ rfl h9).2
 have g7:i.set=0:=h8.elim id fun e=>absurd (show false=true from e.2) Bool.false_ne_true
 have g8:i.cond=0:=h6.elim id fun e=>absurd (show false=true from e.1) Bool.false_ne_true
 have g9:i.aq=0:=bS rfl h5
 exact aH rfl (NB i.rd g0) (NC i.rn g1) (ND i.rm g2) (NF i.ra g3) ((aM (K:=6) (f:=i.form) (by decide)).trans (NG i.av g4)) (NH i.kind g5) ((aX (K:=6) (k:=xR 6 i 5) (by decide)).trans (NI i.ba g6)) (NJ i.set g7) (NK i.cond g8) (NL i.aq g9)
theorem KB (i:IN) (hs:af i.form=7) (hr:aD i (cw 7)) (hg:i.aq<=9223372036854775807):bD 7 i=i:=by
 obtain⟨hf,h1,h2,h3,h4,h5,h6,h7,h8,h9,bI⟩:=hr
 have g0:=ar (r:=i.rd) h1
 have g1:=ar (r:=i.rn) h2
 have g2:=iX (r:=i.rm) h3
 have g3:=ar (r:=i.ra) h4
 have g4:i.av=0:=aW h7
 have g5:i.kind=0:=(aJ rfl h9).1
 have g6:i.ba=0:=aW (aJ rfl h9).2
 have g7:i.set=0:=h8.elim id fun e=>absurd (show false=true from e.2) Bool.false_ne_true
 have g8:i.cond=0:=h6.elim id fun e=>absurd (show false=true from e.1) Bool.false_ne_true
 have g9:i.aq=0:=bS rfl h5
 exact aH rfl (NM i.rd g0) (NN i.rn g1) (NO i.rm g2) (NP i.ra g3) ((aM (K:=7) (f:=i.form) (by decide)).trans (NQ i.av g4)) (NR i.kind g5) ((aX (K:=7) (k:=xR 7 i 5) (by decide)).trans (NS i.ba g6)) (NT i.set g7) (NU i.cond g8) (NV i.aq g9)
theorem KC (i:IN) (hs:af i.form=8) (hr:aD i (cw 8)) (hg:i.aq<=9223372036854775807):bD 8 i=i:=by
 obtain⟨hf,h1,h2,h3,h4,h5,h6,h7,h8,h9,bI⟩:=hr
 have g0:=cu (r:=i.rd) h1
 have g1:=ar (r:=i.rn) h2
 have g2:=ar (r:=i.rm) h3
 have g3:=ar (r:=i.ra) h4
 have g4:0<=i.av/\i.av<=1020/\i.av % 4=0:=cJ (s:=4) (by decide) h7
 have g5:i.kind=0:=(aJ rfl h9).1
 have g6:i.ba=0:=aW (aJ rfl h9).2
 have g7:i.set=0:=h8.elim id fun e=>absurd (show false=true from e.2) Bool.false_ne_true
 have g8:i.cond=0:=h6.elim id fun e=>absurd (show false=true from e.1) Bool.false_ne_true
 have g9:i.aq=0:=bS rfl h5
 exact aH rfl (NW i.rd g0) (NX i.rn g1) (NY i.rm g2) (NZ i.ra g3) ((aM (K:=8) (f:=i.form) (by decide)).trans (N0 i.av g4)) (N1 i.kind g5) ((aX (K:=8) (k:=xR 8 i 5) (by decide)).trans (N2 i.ba g6)) (N3 i.set g7) (N4 i.cond g8) (N5 i.aq g9)
theorem KD (i:IN) (hs:af i.form=9) (hr:aD i (cw 9)) (hg:i.aq<=9223372036854775807):bD 9 i=i:=by
 obtain⟨hf,h1,h2,h3,h4,h5,h6,h7,h8,h9,bI⟩:=hr
 have g0:=cu (r:=i.rd) h1
 have g1:=cu (r:=i.rn) h2
 have g2:=ar (r:=i.rm) h3
 have g3:=ar (r:=i.ra) h4
 have g4:0<=i.av/\i.av<=124/\i.av % 4=0:=cJ (s:=4) (by decide) h7
 have g5:i.kind=0:=(aJ rfl h9).1
 have g6:i.ba=0:=aW (aJ rfl h9).2
 have g7:i.set=0:=h8.elim id fun e=>absurd (show false=true from e.2) Bool.false_ne_true
 have g8:i.cond=0:=h6.elim id fun e=>absurd (show false=true from e.1) Bool.false_ne_true
 have g9:i.aq=0:=bS rfl h5
 exact aH rfl (N6 i.rd g0) (N7 i.rn g1) (N8 i.rm g2) (N9 i.ra g3) ((aM (K:=9) (f:=i.form) (by decide)).trans (N' i.av g4)) (N_ i.kind g5) ((aX (K:=9) (k:=xR 9 i 5) (by decide)).trans (Oa i.ba g6)) (Ob i.set g7) (Oc i.cond g8) (Od i.aq g9)
theorem CR (i:IN) (hs:af i.form=10) (hr:aD i (cw 10)) (hg:i.aq<=9223372036854775807):bD 10 i=i:=by
 obtain⟨hf,h1,h2,h3,h4,h5,h6,h7,h8,h9,bI⟩:=hr
 have g0:=ar (r:=i.rd) h1
 have g1:=ar (r:=i.rn) h2
 have g2:=ar (r:=i.rm) h3
 have g3:=ar (r:=i.ra) h4
 have g4:0<=i.av/\i.av<=508/\i.av % 4=0:=cJ (s:=4) (by decide) h7
 have g5:i.kind=0:=(aJ rfl h9).1
 have g6:i.ba=0:=aW (aJ rfl h9).2
 have g7:i.set=0:=h8.elim id fun e=>absurd (show false=true from e.2) Bool.false_ne_true
 have g8:i.cond=0:=h6.elim id fun e=>absurd (show false=true from e.1) Bool.false_ne_true
 have g9:i.aq=0:=bS rfl h5
 exact aH rfl (Gj i.rd g0) (Gk i.rn g1) (Gl i.rm g2) (Gm i.ra g3) ((aM (K:=10) (f:=i.form) (by decide)).trans (Gn i.av g4)) (Gp i.kind g5) ((aX (K:=10) (k:=xR 10 i 5) (by decide)).trans (Gq i.ba g6)) (Gr i.set g7) (Gs i.cond g8) (Gt i.aq g9)
theorem CS (i:IN) (hs:af i.form=11) (hr:aD i (cw 11)) (hg:i.aq<=9223372036854775807):bD 11 i=i:=by
 obtain⟨hf,h1,h2,h3,h4,h5,h6,h7,h8,h9,bI⟩:=hr
 have g0:=ar (r:=i.rd) h1
 have g1:=ar (r:=i.rn) h2
 have g2:=ar (r:=i.rm) h3
 have g3:=ar (r:=i.ra) h4
 have g4:i.av=0:=aW h7
 have g5:i.kind=0:=(aJ rfl h9).1
 have g6:i.ba=0:=aW (aJ rfl h9).2
 have g7:i.set=0:=h8.elim id fun e=>absurd (show false=true from e.2) Bool.false_ne_true
 have g8:i.cond=0:=h6.elim id fun e=>absurd (show false=true from e.1) Bool.false_ne_true
 have g9:0 < i.aq/\i.aq / 16384 % 2*16384+i.aq % 256=i.aq:=vp 14 (by decide) (by decide) rfl h5 hg
 exact aH rfl (Gu i.rd g0) (Gv i.rn g1) (Gw i.rm g2) (Gy i.ra g3) ((aM (K:=11) (f:=i.form) (by decide)).trans (Gz i.av g4)) (GA i.kind g5) ((aX (K:=11) (k:=xR 11 i 5) (by decide)).trans (GB i.ba g6)) (GC i.set g7) (GD i.cond g8) (GF i.aq g9)
theorem CT (i:IN) (hs:af i.form=12) (hr:aD i (cw 12)) (hg:i.aq<=9223372036854775807):bD 12 i=i:=by
 obtain⟨hf,h1,h2,h3,h4,h5,h6,h7,h8,h9,bI⟩:=hr
 have g0:=ar (r:=i.rd) h1
 have g1:=ar (r:=i.rn) h2
 have g2:=ar (r:=i.rm) h3
 have g3:=ar (r:=i.ra) h4
 have g4:i.av=0:=aW h7
 have g5:i.kind=0:=(aJ rfl h9).1
 have g6:i.ba=0:=aW (aJ rfl h9).2
 have g7:i.set=0:=h8.elim id fun e=>absurd (show false=true from e.2) Bool.false_ne_true
 have g8:i.cond=0:=h6.elim id fun e=>absurd (show false=true from e.1) Bool.false_ne_true
 have g9:0 < i.aq/\i.aq / 32768 % 2*32768+i.aq % 256=i.aq:=vp 15 (by decide) (by decide) rfl h5 hg
 exact aH rfl (GG i.rd g0) (GH i.rn g1) (GI i.rm g2) (GJ i.ra g3) ((aM (K:=12) (f:=i.form) (by decide)).trans (GK i.av g4)) (GL i.kind g5) ((aX (K:=12) (k:=xR 12 i 5) (by decide)).trans (GM i.ba g6)) (GN i.set g7) (GO i.cond g8) (GP i.aq g9)
theorem CU (i:IN) (hs:af i.form=13) (hr:aD i (cw 13)) (hg:i.aq<=9223372036854775807):bD 13 i=i:=by
 obtain⟨hf,h1,h2,h3,h4,h5,h6,h7,h8,h9,bI⟩:=hr
 have g0:=ar (r:=i.rd) h1
 have g1:=ar (r:=i.rn) h2
 have g2:=ar (r:=i.rm) h3
 have g3:=ar (r:=i.ra) h4
 have g4:i.av=0:=aW h7
 have g5:i.kind=0:=(aJ rfl h9).1
 have g6:i.ba=0:=aW (aJ rfl h9).2
 have g7:i.set=0:=h8.elim id fun e=>absurd (show false=true from e.2) Bool.false_ne_true
 have g8:i.cond=0:=h6.elim id fun e=>absurd (show false=true from e.1) Bool.false_ne_true
 have g9:i.aq=0:=bS rfl h5
 exact aH rfl (GQ i.rd g0) (GR i.rn g1) (GS i.rm g2) (GU i.ra g3) ((aM (K:=13) (f:=i.form) (by decide)).trans (GV i.av g4)) (GW i.kind g5) ((aX (K:=13) (k:=xR 13 i 5) (by decide)).trans (GX i.ba g6)) (GY i.set g7) (GZ i.cond g8) (G0 i.aq g9)
theorem CV (i:IN) (hs:af i.form=14) (hr:aD i (cw 14)) (hg:i.aq<=9223372036854775807):bD 14 i=i:=by
 obtain⟨hf,h1,h2,h3,h4,h5,h6,h7,h8,h9,bI⟩:=hr
 have g0:=ar (r:=i.rd) h1
 have g1:=ar (r:=i.rn) h2
 have g2:=ar (r:=i.rm) h3
 have g3:=ar (r:=i.ra) h4
 have g4:0<=i.av/\i.av<=255/\i.av % 1=0:=cJ (s:=1) (by decide) h7
 have g5:i.kind=0:=(aJ rfl h9).1
 have g6:i.ba=0:=aW (aJ rfl h9).2
 have g7:i.set=0:=h8.elim id fun e=>absurd (show false=true from e.2) Bool.false_ne_true
 have g8:i.cond=0:=h6.elim id fun e=>absurd (show false=true from e.1) Bool.false_ne_true
 have g9:i.aq=0:=bS rfl h5
 exact aH rfl (G1 i.rd g0) (G2 i.rn g1) (G3 i.rm g2) (G4 i.ra g3) ((aM (K:=14) (f:=i.form) (by decide)).trans (G5 i.av g4)) (G6 i.kind g5) ((aX (K:=14) (k:=xR 14 i 5) (by decide)).trans (G7 i.ba g6)) (G8 i.set g7) (G9 i.cond g8) (G' i.aq g9)
theorem CW (i:IN) (hs:af i.form=15) (hr:aD i (cw 15)) (hg:i.aq<=9223372036854775807):bD 15 i=i:=by
 obtain⟨hf,h1,h2,h3,h4,h5,h6,h7,h8,h9,bI⟩:=hr
 have g0:=ar (r:=i.rd) h1
 have g1:=ar (r:=i.rn) h2
 have g2:=ar (r:=i.rm) h3
 have g3:=ar (r:=i.ra) h4
 have g4:-256<=i.av/\i.av<=254/\i.av % 2=0:=cJ (s:=2) (by decide) h7
 have g5:i.kind=0:=(aJ rfl h9).1
 have g6:i.ba=0:=aW (aJ rfl h9).2
 have g7:i.set=0:=h8.elim id fun e=>absurd (show false=true from e.2) Bool.false_ne_true
 have g8:0<=i.cond/\i.cond<=13:=by rcases h6 with h6|h6<;>omega
 have g9:i.aq=0:=bS rfl h5
 exact aH rfl (G_ i.rd g0) (Ha i.rn g1) (Hb i.rm g2) (Hc i.ra g3) (Hd i.av g4) (He i.kind g5) ((aX (K:=15) (k:=xR 15 i 5) (by decide)).trans (Hf i.ba g6)) (Hg i.set g7) (Hh i.cond g8) (Hi i.aq g9)
theorem CX (i:IN) (hs:af i.form=16) (hr:aD i (cw 16)) (hg:i.aq<=9223372036854775807):bD 16 i=i:=by
 obtain⟨hf,h1,h2,h3,h4,h5,h6,h7,h8,h9,bI⟩:=hr
 have g0:=ar (r:=i.rd) h1
 have g1:=ar (r:=i.rn) h2
 have g2:=ar (r:=i.rm) h3
 have g3:=ar (r:=i.ra) h4
 have g4:-2048<=i.av/\i.av<=2046/\i.av % 2=0:=cJ (s:=2) (by decide) h7
 have g5:i.kind=0:=(aJ rfl h9).1
 have g6:i.ba=0:=aW (aJ rfl h9).2
 have g7:i.set=0:=h8.elim id fun e=>absurd (show false=true from e.2) Bool.false_ne_true
 have g8:i.cond=0:=h6.elim id fun e=>absurd (show false=true from e.1) Bool.false_ne_true
 have g9:i.aq=0:=bS rfl h5
 exact aH rfl (Hj i.rd g0) (Hk i.rn g1) (Hl i.rm g2) (Hm i.ra g3) (Hn i.av g4) (Ho i.kind g5) ((aX (K:=16) (k:=xR 16 i 5) (by decide)).trans (Hp i.ba g6)) (Hq i.set g7) (Hr i.cond g8) (Hs i.aq g9)
theorem CY (i:IN) (hs:af i.form=17) (hr:aD i (cw 17)) (hg:i.aq<=9223372036854775807):bD 17 i=i:=by
 obtain⟨hf,h1,h2,h3,h4,h5,h6,h7,h8,h9,bI⟩:=hr
 have g0:=aQ (r:=i.rd) h1
 have g1:=ar (r:=i.rn) h2
 have g2:=ar (r:=i.rm) h3
 have g3:=ar (r:=i.ra) h4
 have g4:0<=i.av/\i.av<=65535/\i.av % 1=0:=cJ (s:=1) (by decide) h7
 have g5:i.kind=0:=(aJ rfl h9).1
 have g6:i.ba=0:=aW (aJ rfl h9).2
 have g7:i.set=0:=h8.elim id fun e=>absurd (show false=true from e.2) Bool.false_ne_true
 have g8:i.cond=0:=h6.elim id fun e=>absurd (show false=true from e.1) Bool.false_ne_true
 have g9:i.aq=0:=bS rfl h5
 exact aH rfl (Ht i.rd g0) (Hu i.rn g1) (Hv i.rm g2) (Hw i.ra g3) ((aM (K:=17) (f:=i.form) (by decide)).trans (Hx i.av g4)) (Hy i.kind g5) ((aX (K:=17) (k:=xR 17 i 5) (by decide)).trans (Hz i.ba g6)) (HA i.set g7) (HB i.cond g8) (HC i.aq g9)
theorem CZ (i:IN) (hs:af i.form=18) (hr:aD i (cw 18)) (hg:i.aq<=9223372036854775807):bD 18 i=i:=by
 obtain⟨hf,h1,h2,h3,h4,h5,h6,h7,h8,h9,bI⟩:=hr
 have g0:=aQ (r:=i.rd) h1
 have g1:=aQ (r:=i.rn) h2
 have g2:=ar (r:=i.rm) h3
 have g3:=ar (r:=i.ra) h4
 have g4:0<=i.av/\i.av<=4095/\i.av % 1=0:=cJ (s:=1) (by decide) h7
 have g5:i.kind=0:=(aJ rfl h9).1
 have g6:i.ba=0:=aW (aJ rfl h9).2
 have g7:i.set=0\/i.set=1:=h8.imp id fun e=>e.1
 have g8:i.cond=0:=h6.elim id fun e=>absurd (show false=true from e.1) Bool.false_ne_true
 have g9:i.aq=0:=bS rfl h5
 exact aH rfl (HD i.rd g0) (HE i.rn g1) (HF i.rm g2) (HG i.ra g3) ((aM (K:=18) (f:=i.form) (by decide)).trans (HH i.av g4)) (HI i.kind g5) ((aX (K:=18) (k:=xR 18 i 5) (by decide)).trans (HJ i.ba g6)) (HK i.set g7) (HL i.cond g8) (HM i.aq g9)
theorem C0 (i:IN) (hs:af i.form=19) (hr:aD i (cw 19)) (hg:i.aq<=9223372036854775807):bD 19 i=i:=by
 obtain⟨hf,h1,h2,h3,h4,h5,h6,h7,h8,h9,bI⟩:=hr
 have g0:=aQ (r:=i.rd) h1
 have g1:=ar (r:=i.rn) h2
 have g2:=ar (r:=i.rm) h3
 have g3:=ar (r:=i.ra) h4
 have g4:0<=i.av/\i.av<=4095/\i.av % 1=0:=cJ (s:=1) (by decide) h7
 have g5:i.kind=0:=(aJ rfl h9).1
 have g6:i.ba=0:=aW (aJ rfl h9).2
 have g7:i.set=0\/i.set=1:=h8.imp id fun e=>e.1
 have g8:i.cond=0:=h6.elim id fun e=>absurd (show false=true from e.1) Bool.false_ne_true
 have g9:i.aq=0:=bS rfl h5
 exact aH rfl (HN i.rd g0) (HO i.rn g1) (HP i.rm g2) (HQ i.ra g3) ((aM (K:=19) (f:=i.form) (by decide)).trans (HR i.av g4)) (HS i.kind g5) ((aX (K:=19) (k:=xR 19 i 5) (by decide)).trans (HT i.ba g6)) (HU i.set g7) (HV i.cond g8) (HW i.aq g9)
theorem C1 (i:IN) (hs:af i.form=20) (hr:aD i (cw 20)) (hg:i.aq<=9223372036854775807):bD 20 i=i:=by
 obtain⟨hf,h1,h2,h3,h4,h5,h6,h7,h8,h9,bI⟩:=hr
 have g0:=ar (r:=i.rd) h1
 have g1:=aQ (r:=i.rn) h2
 have g2:=ar (r:=i.rm) h3
 have g3:=ar (r:=i.ra) h4
 have g4:0<=i.av/\i.av<=4095/\i.av % 1=0:=cJ (s:=1) (by decide) h7
 have g5:i.kind=0:=(aJ rfl h9).1
 have g6:i.ba=0:=aW (aJ rfl h9).2
 have g7:i.set=0:=h8.elim id fun e=>absurd (show false=true from e.2) Bool.false_ne_true
 have g8:i.cond=0:=h6.elim id fun e=>absurd (show false=true from e.1) Bool.false_ne_true
 have g9:i.aq=0:=bS rfl h5
 exact aH rfl (HX i.rd g0) (HY i.rn g1) (HZ i.rm g2) (H' i.ra g3) ((aM (K:=20) (f:=i.form) (by decide)).trans (H_ i.av g4)) (Ia i.kind g5) ((aX (K:=20) (k:=xR 20 i 5) (by decide)).trans (Ib i.ba g6)) (Ic i.set g7) (Ie i.cond g8) (Ig i.aq g9)
theorem C2 (i:IN) (hs:af i.form=21) (hr:aD i (cw 21)) (hg:i.aq<=9223372036854775807):bD 21 i=i:=by
 obtain⟨hf,h1,h2,h3,h4,h5,h6,h7,h8,h9,bI⟩:=hr
 have g0:=aQ (r:=i.rd) h1
 have g1:=aQ (r:=i.rn) h2
 have g2:=aQ (r:=i.rm) h3
 have g3:=ar (r:=i.ra) h4
 have g4:i.av=0:=aW h7
 have g6:bE i.kind i.ba:=wU rfl h9
 have g5:=iI g6
 have g7:i.set=0\/i.set=1:=h8.imp id fun e=>e.1
 have g8:i.cond=0:=h6.elim id fun e=>absurd (show false=true from e.1) Bool.false_ne_true
 have g9:i.aq=0:=bS rfl h5
 exact aH rfl (Ih i.rd g0) (Ii i.rn g1) (Ij i.rm g2) (Ik i.ra g3) ((aM (K:=21) (f:=i.form) (by decide)).trans (Il i.av g4)) (zX i.kind g5) ((oQ (K:=21) (k:=xR 21 i 5) (by decide)).trans ((congrArg (fun k=>if xR 21 i 6=0/\(k=1\/k=2) then 32 else xR 21 i 6) (zX i.kind g5)).trans (Gi i.kind i.ba g6))) (Im i.set g7) (Io i.cond g8) (Ip i.aq g9)
theorem C3 (i:IN) (hs:af i.form=22) (hr:aD i (cw 22)) (hg:i.aq<=9223372036854775807):bD 22 i=i:=by
 obtain⟨hf,h1,h2,h3,h4,h5,h6,h7,h8,h9,bI⟩:=hr
 have g0:=aQ (r:=i.rd) h1
 have g1:=ar (r:=i.rn) h2
 have g2:=aQ (r:=i.rm) h3
 have g3:=ar (r:=i.ra) h4
 have g4:i.av=0:=aW h7
 have g6:bE i.kind i.ba:=wU rfl h9
 have g5:=iI g6
 have g7:i.set=0\/i.set=1:=h8.imp id fun e=>e.1
 have g8:i.cond=0:=h6.elim id fun e=>absurd (show false=true from e.1) Bool.false_ne_true
 have g9:i.aq=0:=bS rfl h5
 exact aH rfl (Iq i.rd g0) (Ir i.rn g1) (It i.rm g2) (Iu i.ra g3) ((aM (K:=22) (f:=i.form) (by decide)).trans (Iv i.av g4)) (zY i.kind g5) ((oQ (K:=22) (k:=xR 22 i 5) (by decide)).trans ((congrArg (fun k=>if xR 22 i 6=0/\(k=1\/k=2) then 32 else xR 22 i 6) (zY i.kind g5)).trans (Gi i.kind i.ba g6))) (Iw i.set g7) (Ix i.cond g8) (Iy i.aq g9)
theorem C4 (i:IN) (hs:af i.form=23) (hr:aD i (cw 23)) (hg:i.aq<=9223372036854775807):bD 23 i=i:=by
 obtain⟨hf,h1,h2,h3,h4,h5,h6,h7,h8,h9,bI⟩:=hr
 have g0:=ar (r:=i.rd) h1
 have g1:=aQ (r:=i.rn) h2
 have g2:=aQ (r:=i.rm) h3
 have g3:=ar (r:=i.ra) h4
 have g4:i.av=0:=aW h7
 have g6:bE i.kind i.ba:=wU rfl h9
 have g5:=iI g6
 have g7:i.set=0:=h8.elim id fun e=>absurd (show false=true from e.2) Bool.false_ne_true
 have g8:i.cond=0:=h6.elim id fun e=>absurd (show false=true from e.1) Bool.false_ne_true
 have g9:i.aq=0:=bS rfl h5
 exact aH rfl (Iz i.rd g0) (IA i.rn g1) (IB i.rm g2) (IC i.ra g3) ((aM (K:=23) (f:=i.form) (by decide)).trans (ID i.av g4)) (zZ i.kind g5) ((oQ (K:=23) (k:=xR 23 i 5) (by decide)).trans ((congrArg (fun k=>if xR 23 i 6=0/\(k=1\/k=2) then 32 else xR 23 i 6) (zZ i.kind g5)).trans (Gi i.kind i.ba g6))) (IE i.set g7) (IF i.cond g8) (IG i.aq g9)
theorem C5 (i:IN) (hs:af i.form=24) (hr:aD i (cw 24)) (hg:i.aq<=9223372036854775807):bD 24 i=i:=by
 obtain⟨hf,h1,h2,h3,h4,h5,h6,h7,h8,h9,bI⟩:=hr
 have g0:=aQ (r:=i.rd) h1
 have g1:=aQ (r:=i.rn) h2
 have g2:=ar (r:=i.rm) h3
 have g3:=ar (r:=i.ra) h4
 have g4:0<=i.av/\i.av<=4095/\i.av % 1=0:=cJ (s:=1) (by decide) h7
 have g5:i.kind=0:=(aJ rfl h9).1
 have g6:i.ba=0:=aW (aJ rfl h9).2
 have g7:i.set=0:=h8.elim id fun e=>absurd (show false=true from e.2) Bool.false_ne_true
 have g8:i.cond=0:=h6.elim id fun e=>absurd (show false=true from e.1) Bool.false_ne_true
 have g9:i.aq=0:=bS rfl h5
 exact aH rfl (IH i.rd g0) (II i.rn g1) (IJ i.rm g2) (IK i.ra g3) ((aM (K:=24) (f:=i.form) (by decide)).trans (IL i.av g4)) (IM i.kind g5) ((aX (K:=24) (k:=xR 24 i 5) (by decide)).trans (IP i.ba g6)) (IQ i.set g7) (IS i.cond g8) (IT i.aq g9)
theorem C6 (i:IN) (hs:af i.form=25) (hr:aD i (cw 25)) (hg:i.aq<=9223372036854775807):bD 25 i=i:=by
 obtain⟨hf,h1,h2,h3,h4,h5,h6,h7,h8,h9,bI⟩:=hr
 have g0:=aQ (r:=i.rd) h1
 have g1:=iX (r:=i.rn) h2
 have g2:=ar (r:=i.rm) h3
 have g3:=ar (r:=i.ra) h4
 have g4:0<=i.av/\i.av<=4095/\i.av % 1=0:=cJ (s:=1) (by decide) h7
 have g5:i.kind=0:=(aJ rfl h9).1
 have g6:i.ba=0:=aW (aJ rfl h9).2
 have g7:i.set=0:=h8.elim id fun e=>absurd (show false=true from e.2) Bool.false_ne_true
 have g8:i.cond=0:=h6.elim id fun e=>absurd (show false=true from e.1) Bool.false_ne_true
 have g9:i.aq=0:=bS rfl h5
 exact aH rfl (IU i.rd g0) (IV i.rn g1) (IW i.rm g2) (IX i.ra g3) ((aM (K:=25) (f:=i.form) (by decide)).trans (IY i.av g4)) (IZ i.kind g5) ((aX (K:=25) (k:=xR 25 i 5) (by decide)).trans (I1 i.ba g6)) (I4 i.set g7) (I5 i.cond g8) (I6 i.aq g9)
theorem C7 (i:IN) (hs:af i.form=26) (hr:aD i (cw 26)) (hg:i.aq<=9223372036854775807):bD 26 i=i:=by
 obtain⟨hf,h1,h2,h3,h4,h5,h6,h7,h8,h9,bI⟩:=hr
 have g0:=aQ (r:=i.rd) h1
 have g1:=iX (r:=i.rn) h2
 have g2:=aQ (r:=i.rm) h3
 have g3:=ar (r:=i.ra) h4
 have g4:i.av=0:=aW h7
 have g5:i.kind=0:=(aJ rfl h9).1
 have g6:0<=i.ba/\i.ba<=3/\i.ba % 1=0:=cJ (s:=1) (by decide) (aJ rfl h9).2
 have g7:i.set=0:=h8.elim id fun e=>absurd (show false=true from e.2) Bool.false_ne_true
 have g8:i.cond=0:=h6.elim id fun e=>absurd (show false=true from e.1) Bool.false_ne_true
 have g9:i.aq=0:=bS rfl h5
 exact aH rfl (I7 i.rd g0) (I8 i.rn g1) (I9 i.rm g2) (I_ i.ra g3) ((aM (K:=26) (f:=i.form) (by decide)).trans (Ja i.av g4)) (Jb i.kind g5) ((aX (K:=26) (k:=xR 26 i 5) (by decide)).trans (Jc i.ba g6)) (Jd i.set g7) (Je i.cond g8) (Jf i.aq g9)
theorem C8 (i:IN) (hs:af i.form=27) (hr:aD i (cw 27)) (hg:i.aq<=9223372036854775807):bD 27 i=i:=by
 obtain⟨hf,h1,h2,h3,h4,h5,h6,h7,h8,h9,bI⟩:=hr
 have g0:=aQ (r:=i.rd) h1
 have g1:=aQ (r:=i.rn) h2
 have g2:=aQ (r:=i.rm) h3
 have g3:=ar (r:=i.ra) h4
 have g4:i.av=0:=aW h7
 have g5:i.kind=0:=(aJ rfl h9).1
 have g6:i.ba=0:=aW (aJ rfl h9).2
 have g7:i.set=0\/i.set=1:=h8.imp id fun e=>e.1
 have g8:i.cond=0:=h6.elim id fun e=>absurd (show false=true from e.1) Bool.false_ne_true
 have g9:i.aq=0:=bS rfl h5
 exact aH rfl (Jg i.rd g0) (Jh i.rn g1) (Ji i.rm g2) (Jj i.ra g3) ((aM (K:=27) (f:=i.form) (by decide)).trans (Jk i.av g4)) (Jl i.kind g5) ((aX (K:=27) (k:=xR 27 i 5) (by decide)).trans (Jm i.ba g6)) (Jn i.set g7) (Jo i.cond g8) (Jp i.aq g9)
theorem C9 (i:IN) (hs:af i.form=28) (hr:aD i (cw 28)) (hg:i.aq<=9223372036854775807):bD 28 i=i:=by
 obtain⟨hf,h1,h2,h3,h4,h5,h6,h7,h8,h9,bI⟩:=hr
 have g0:=aQ (r:=i.rd) h1
 have g1:=aQ (r:=i.rn) h2
 have g2:=aQ (r:=i.rm) h3
 have g3:=ar (r:=i.ra) h4
 have g4:i.av=0:=aW h7
 have g5:i.kind=0:=(aJ rfl h9).1
 have g6:i.ba=0:=aW (aJ rfl h9).2
 have g7:i.set=0:=h8.elim id fun e=>absurd (show false=true from e.2) Bool.false_ne_true
 have g8:i.cond=0:=h6.elim id fun e=>absurd (show false=true from e.1) Bool.false_ne_true
 have g9:i.aq=0:=bS rfl h5
 exact aH rfl (Jq i.rd g0) (Jr i.rn g1) (Js i.rm g2) (Jt i.ra g3) ((aM (K:=28) (f:=i.form) (by decide)).trans (Ju i.av g4)) (Jv i.kind g5) ((aX (K:=28) (k:=xR 28 i 5) (by decide)).trans (Jw i.ba g6)) (Jx i.set g7) (Jy i.cond g8) (Jz i.aq g9)
theorem C' (i:IN) (hs:af i.form=29) (hr:aD i (cw 29)) (hg:i.aq<=9223372036854775807):bD 29 i=i:=by
 obtain⟨hf,h1,h2,h3,h4,h5,h6,h7,h8,h9,bI⟩:=hr
 have g0:=aQ (r:=i.rd) h1
 have g1:=aQ (r:=i.rn) h2
 have g2:=aQ (r:=i.rm) h3
 have g3:=aQ (r:=i.ra) h4
 have g4:i.av=0:=aW h7
 have g5:i.kind=0:=(aJ rfl h9).1
 have g6:i.ba=0:=aW (aJ rfl h9).2
 have g7:i.set=0:=h8.elim id fun e=>absurd (show false=true from e.2) Bool.false_ne_true
 have g8:i.cond=0:=h6.elim id fun e=>absurd (show false=true from e.1) Bool.false_ne_true
 have g9:i.aq=0:=bS rfl h5
 exact aH rfl (JA i.rd g0) (JB i.rn g1) (JC i.rm g2) (JD i.ra g3) ((aM (K:=29) (f:=i.form) (by decide)).trans (JE i.av g4)) (JF i.kind g5) ((aX (K:=29) (k:=xR 29 i 5) (by decide)).trans (JG i.ba g6)) (JH i.set g7) (JI i.cond g8) (JJ i.aq g9)
theorem C_ (i:IN) (hs:af i.form=30) (hr:aD i (cw 30)) (hg:i.aq<=9223372036854775807):bD 30 i=i:=by
 obtain⟨hf,h1,h2,h3,h4,h5,h6,h7,h8,h9,bI⟩:=hr
 have g0:=aQ (r:=i.rd) h1
 have g1:=aQ (r:=i.rn) h2
 have g2:=aQ (r:=i.rm) h3
 have g3:=aQ (r:=i.ra) h4
 have g4:i.av=0:=aW h7
 have g5:i.kind=0:=(aJ rfl h9).1
 have g6:i.ba=0:=aW (aJ rfl h9).2
 have g7:i.set=0:=h8.elim id fun e=>absurd (show false=true from e.2) Bool.false_ne_true
 have g8:i.cond=0:=h6.elim id fun e=>absurd (show false=true from e.1) Bool.false_ne_true
 have g9:i.aq=0:=bS rfl h5
 exact aH rfl (JK i.rd g0) (JL i.rn g1) (JM i.rm g2) (JN i.ra g3) ((aM (K:=30) (f:=i.form) (by decide)).trans (JO i.av g4)) (JP i.kind g5) ((aX (K:=30) (k:=xR 30 i 5) (by decide)).trans (JQ i.ba g6)) (JR i.set g7) (JS i.cond g8) (JT i.aq g9)
theorem Da (i:IN) (hs:af i.form=31) (hr:aD i (cw 31)) (hg:i.aq<=9223372036854775807):bD 31 i=i:=by
 obtain⟨hf,h1,h2,h3,h4,h5,h6,h7,h8,h9,bI⟩:=hr
 have g0:=aQ (r:=i.rd) h1
 have g1:=aQ (r:=i.rn) h2
 have g2:=aQ (r:=i.rm) h3
 have g3:=aQ (r:=i.ra) h4
 have g4:i.av=0:=aW h7
 have g5:i.kind=0:=(aJ rfl h9).1
 have g6:i.ba=0:=aW (aJ rfl h9).2
 have g7:i.set=0:=h8.elim id fun e=>absurd (show false=true from e.2) Bool.false_ne_true
 have g8:i.cond=0:=h6.elim id fun e=>absurd (show false=true from e.1) Bool.false_ne_true
 have g9:i.aq=0:=bS rfl h5
 exact aH rfl (JU i.rd g0) (JV i.rn g1) (JW i.rm g2) (JX i.ra g3) ((aM (K:=31) (f:=i.form) (by decide)).trans (JY i.av g4)) (JZ i.kind g5) ((aX (K:=31) (k:=xR 31 i 5) (by decide)).trans (J0 i.ba g6)) (J1 i.set g7) (J2 i.cond g8) (J3 i.aq g9)
theorem Db (i:IN) (hs:af i.form=32) (hr:aD i (cw 32)) (hg:i.aq<=9223372036854775807):bD 32 i=i:=by
 obtain⟨hf,h1,h2,h3,h4,h5,h6,h7,h8,h9,bI⟩:=hr
 have g0:=aQ (r:=i.rd) h1
 have g1:=ar (r:=i.rn) h2
 have g2:=aQ (r:=i.rm) h3
 have g3:=ar (r:=i.ra) h4
 have g4:i.av=0:=aW h7
 have g5:i.kind=0:=(aJ rfl h9).1
 have g6:i.ba=0:=aW (aJ rfl h9).2
 have g7:i.set=0:=h8.elim id fun e=>absurd (show false=true from e.2) Bool.false_ne_true
 have g8:i.cond=0:=h6.elim id fun e=>absurd (show false=true from e.1) Bool.false_ne_true
 have g9:i.aq=0:=bS rfl h5
 exact aH rfl (J4 i.rd g0) (J5 i.rn g1) (J6 i.rm g2) (J7 i.ra g3) ((aM (K:=32) (f:=i.form) (by decide)).trans (J8 i.av g4)) (J9 i.kind g5) ((aX (K:=32) (k:=xR 32 i 5) (by decide)).trans (J' i.ba g6)) (J_ i.set g7) (Ka i.cond g8) (Kb i.aq g9)
theorem Dc (i:IN) (hs:af i.form=33) (hr:aD i (cw 33)) (hg:i.aq<=9223372036854775807):bD 33 i=i:=by
 obtain⟨hf,h1,h2,h3,h4,h5,h6,h7,h8,h9,bI⟩:=hr
 have g0:=ar (r:=i.rd) h1
 have g1:=ar (r:=i.rn) h2
 have g2:=ar (r:=i.rm) h3
 have g3:=ar (r:=i.ra) h4
 have g4:-1048576<=i.av/\i.av<=1048574/\i.av % 2=0:=cJ (s:=2) (by decide) h7
 have g5:i.kind=0:=(aJ rfl h9).1
 have g6:i.ba=0:=aW (aJ rfl h9).2
 have g7:i.set=0:=h8.elim id fun e=>absurd (show false=true from e.2) Bool.false_ne_true
 have g8:0<=i.cond/\i.cond<=13:=by rcases h6 with h6|h6<;>omega
 have g9:i.aq=0:=bS rfl h5
 exact aH rfl (Kc i.rd g0) (Kd i.rn g1) (Ke i.rm g2) (Kf i.ra g3) (Kg i.av g4) (Kh i.kind g5) ((aX (K:=33) (k:=xR 33 i 5) (by decide)).trans (Ki i.ba g6)) (Kj i.set g7) (Kk i.cond g8) (Kl i.aq g9)
end Go.Proofs.YtnbhdacpogplgaaGreatDoor.Pw

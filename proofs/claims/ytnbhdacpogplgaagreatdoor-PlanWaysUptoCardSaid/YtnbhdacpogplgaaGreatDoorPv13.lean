/- What this claim is proved with: no condition. -/
import Derived.Test.YtnbhdacpogplgaaGreatDoorPv12
set_option maxRecDepth 100000
set_option maxHeartbeats 4000000
set_option linter.unusedVariables false
set_option linter.unusedSimpArgs false
namespace Go.Proofs.YtnbhdacpogplgaaGreatDoor.Pw
open Go Go.RowKit
theorem aB {r:Int} (h:mJ 0 r):r=0:=by unfold mJ at h; omega
theorem eV {r:Int} (h:mJ 1 r):0<=r/\r < 8:=by unfold mJ at h; omega
theorem pI {r:Int} (h:mJ 2 r):0<=r/\r < 15:=by unfold mJ at h; omega
theorem bn {r:Int} (h:mJ 3 r):0<=r/\r < 15:=by unfold mJ at h; omega
theorem bz {a b n:Int} (h:lU a b 0 n):n=0:=(Cj h).elim (fun e=>e.2) fun e=>absurd rfl e.1
theorem fA {a b s n:Int} (hs:s≠0) (h:lU a b s n):a<=n/\n<=b/\n % s=0:=(Cj h).elim (fun e=>absurd e.1 hs) fun e=>e.2
theorem bj {K f x:Int} (h:K≠1/\K≠15/\K≠16/\K≠33/\K≠34):uA K f x=x:=by
 unfold uA; rw[if_neg h.2.1,if_neg h.2.2.1,if_neg h.2.2.2.1,if_neg h.2.2.2.2,if_neg (fun e=>h.1 e.1)]
theorem SX {f x:Int}:uA 1 f x=if 1 < f/\x=0 then 32 else x:=by
 unfold uA; rw[if_neg (by decide),if_neg (by decide),if_neg (by decide),if_neg (by decide)]
 by_cases h:1 < f/\x=0
 ·rw[if_pos ⟨rfl,h⟩,if_pos h]
 ·rw[if_neg (fun e=>h e.2),if_neg h]
theorem bB {K k x:Int} (h:¬ (21<=K/\K<=23)):SV K k x=x:=if_neg fun e=>h ⟨e.1,e.2.1⟩
theorem yO {K k x:Int} (h:21<=K/\K<=23):SV K k x=if x=0/\(k=1\/k=2) then 32 else x:=by
 unfold SV
 by_cases g:x=0/\(k=1\/k=2)
 ·rw[if_pos ⟨h.1,h.2,g⟩,if_pos g]
 ·rw[if_neg (fun e=>g e.2.2),if_neg g]
theorem dy {i:IN} {r:RU} (hr:r.aA=0) (h:jV i r):i.aA=0:=h.elim (fun e=>e.2) fun e=>absurd hr e.1
theorem Gy {i:IN} {r:RU} (k:Nat) (hk:8<=k) (nq:k<=15) (hr:r.aA=2 ^ k+255) (h:jV i r) (hg:i.aA<=9223372036854775807):0 < i.aA/\i.aA / 2 ^ k % 2*2 ^ k+i.aA % 256=i.aA:=by
 have hp:(0:Int) < 2 ^ k:=by have:=cF k; have:=Nat.two_pow_pos k; omega
 rcases h with h|h
 ·have:=hr.symm.trans h.1; omega
 ·exact⟨h.2.1,Ah k hk nq i.aA r.aA hr h.2.1 hg h.2.2⟩
theorem bc {i:IN} {r:RU} (hr:r.kind=false) (h:qb i r):i.kind=0/\lU r.b0 r.b1 r.b2 i.bD:=h.elim (fun e=>by rw[hr] at e; exact absurd e.1 Bool.false_ne_true) fun e=>e.2
theorem IA {i:IN} {r:RU} (hr:r.kind=true) (h:qb i r):cV i.kind i.bD:=h.elim (fun e=>e.2) fun e=>absurd hr e.1
theorem YE (i:IN) (hs:af i.form=1) (hr:aS i (fg 1)) (hg:i.aA<=9223372036854775807):cT 1 i=i:=by
 obtain⟨hf,h1,h2,h3,h4,h5,h6,h7,h8,h9,cS⟩:=hr
 have g0:=eV (r:=i.rd) h1
 have g1:=aB (r:=i.rn) h2
 have g2:=eV (r:=i.rm) h3
 have g3:=aB (r:=i.ra) h4
 have g4:0<=i.aC/\i.aC<=32/\i.aC % 1=0:=fA (s:=1) (by decide) h7
 have g5:i.kind=0:=(bc rfl h9).1
 have g6:i.bD=0:=bz (bc rfl h9).2
 have g7:i.set=0:=h8.elim id fun e=>absurd (show false=true from e.2) Bool.false_ne_true
 have g8:i.cond=0:=h6.elim id fun e=>absurd (show false=true from e.1) Bool.false_ne_true
 have g9:i.aA=0:=dy rfl h5
 exact aW rfl (s_1_0 i.rd g0) (s_1_1 i.rn g1) (s_1_2 i.rm g2) (s_1_3 i.ra g3) (SX.trans (s_1_4 i.form i.aC ⟨g4.1,g4.2.1⟩ cS.1 cS.2.1 (yN hf hs))) (s_1_5 i.kind g5) ((bB (K:=1) (k:=xR 1 i 5) (by decide)).trans (s_1_6 i.bD g6)) (s_1_7 i.set g7) (s_1_8 i.cond g8) (s_1_9 i.aA g9)
theorem YF (i:IN) (hs:af i.form=2) (hr:aS i (fg 2)) (hg:i.aA<=9223372036854775807):cT 2 i=i:=by
 obtain⟨hf,h1,h2,h3,h4,h5,h6,h7,h8,h9,cS⟩:=hr
 have g0:=eV (r:=i.rd) h1
 have g1:=eV (r:=i.rn) h2
 have g2:=eV (r:=i.rm) h3
 have g3:=aB (r:=i.ra) h4
 have g4:i.aC=0:=bz h7
 have g5:i.kind=0:=(bc rfl h9).1
 have g6:i.bD=0:=bz (bc rfl h9).2
 have g7:i.set=0:=h8.elim id fun e=>absurd (show false=true from e.2) Bool.false_ne_true
 have g8:i.cond=0:=h6.elim id fun e=>absurd (show false=true from e.1) Bool.false_ne_true
 have g9:i.aA=0:=dy rfl h5
 exact aW rfl (s_2_0 i.rd g0) (s_2_1 i.rn g1) (s_2_2 i.rm g2) (s_2_3 i.ra g3) ((bj (K:=2) (f:=i.form) (by decide)).trans (s_2_4 i.aC g4)) (s_2_5 i.kind g5) ((bB (K:=2) (k:=xR 2 i 5) (by decide)).trans (s_2_6 i.bD g6)) (s_2_7 i.set g7) (s_2_8 i.cond g8) (s_2_9 i.aA g9)
theorem YG (i:IN) (hs:af i.form=3) (hr:aS i (fg 3)) (hg:i.aA<=9223372036854775807):cT 3 i=i:=by
 obtain⟨hf,h1,h2,h3,h4,h5,h6,h7,h8,h9,cS⟩:=hr
 have g0:=eV (r:=i.rd) h1
 have g1:=eV (r:=i.rn) h2
 have g2:=aB (r:=i.rm) h3
 have g3:=aB (r:=i.ra) h4
 have g4:0<=i.aC/\i.aC<=7/\i.aC % 1=0:=fA (s:=1) (by decide) h7
 have g5:i.kind=0:=(bc rfl h9).1
 have g6:i.bD=0:=bz (bc rfl h9).2
 have g7:i.set=0:=h8.elim id fun e=>absurd (show false=true from e.2) Bool.false_ne_true
 have g8:i.cond=0:=h6.elim id fun e=>absurd (show false=true from e.1) Bool.false_ne_true
 have g9:i.aA=0:=dy rfl h5
 exact aW rfl (s_3_0 i.rd g0) (s_3_1 i.rn g1) (s_3_2 i.rm g2) (s_3_3 i.ra g3) ((bj (K:=3) (f:=i.form) (by decide)).trans (s_3_4 i.aC g4)) (s_3_5 i.kind g5) ((bB (K:=3) (k:=xR 3 i 5) (by decide)).trans (s_3_6 i.bD g6)) (s_3_7 i.set g7) (s_3_8 i.cond g8) (s_3_9 i.aA g9)
theorem YH (i:IN) (hs:af i.form=4) (hr:aS i (fg 4)) (hg:i.aA<=9223372036854775807):cT 4 i=i:=by
 obtain⟨hf,h1,h2,h3,h4,h5,h6,h7,h8,h9,cS⟩:=hr
 have g0:=eV (r:=i.rd) h1
 have g1:=aB (r:=i.rn) h2
 have g2:=aB (r:=i.rm) h3
 have g3:=aB (r:=i.ra) h4
 have g4:0<=i.aC/\i.aC<=255/\i.aC % 1=0:=fA (s:=1) (by decide) h7
 have g5:i.kind=0:=(bc rfl h9).1
 have g6:i.bD=0:=bz (bc rfl h9).2
 have g7:i.set=0:=h8.elim id fun e=>absurd (show false=true from e.2) Bool.false_ne_true
 have g8:i.cond=0:=h6.elim id fun e=>absurd (show false=true from e.1) Bool.false_ne_true
 have g9:i.aA=0:=dy rfl h5
 exact aW rfl (s_4_0 i.rd g0) (s_4_1 i.rn g1) (s_4_2 i.rm g2) (s_4_3 i.ra g3) ((bj (K:=4) (f:=i.form) (by decide)).trans (s_4_4 i.aC g4)) (s_4_5 i.kind g5) ((bB (K:=4) (k:=xR 4 i 5) (by decide)).trans (s_4_6 i.bD g6)) (s_4_7 i.set g7) (s_4_8 i.cond g8) (s_4_9 i.aA g9)
theorem YJ (i:IN) (hs:af i.form=5) (hr:aS i (fg 5)) (hg:i.aA<=9223372036854775807):cT 5 i=i:=by
 obtain⟨hf,h1,h2,h3,h4,h5,h6,h7,h8,h9,cS⟩:=hr
 have g0:=eV (r:=i.rd) h1
 have g1:=aB (r:=i.rn) h2
 have g2:=eV (r:=i.rm) h3
 have g3:=aB (r:=i.ra) h4
 have g4:i.aC=0:=bz h7
 have g5:i.kind=0:=(bc rfl h9).1
 have g6:i.bD=0:=bz (bc rfl h9).2
 have g7:i.set=0:=h8.elim id fun e=>absurd (show false=true from e.2) Bool.false_ne_true
 have g8:i.cond=0:=h6.elim id fun e=>absurd (show false=true from e.1) Bool.false_ne_true
 have g9:i.aA=0:=dy rfl h5
 exact aW rfl (s_5_0 i.rd g0) (s_5_1 i.rn g1) (s_5_2 i.rm g2) (s_5_3 i.ra g3) ((bj (K:=5) (f:=i.form) (by decide)).trans (s_5_4 i.aC g4)) (s_5_5 i.kind g5) ((bB (K:=5) (k:=xR 5 i 5) (by decide)).trans (s_5_6 i.bD g6)) (s_5_7 i.set g7) (s_5_8 i.cond g8) (s_5_9 i.aA g9)
theorem YK (i:IN) (hs:af i.form=6) (hr:aS i (fg 6)) (hg:i.aA<=9223372036854775807):cT 6 i=i:=by
 obtain⟨hf,h1,h2,h3,h4,h5,h6,h7,h8,h9,cS⟩:=hr
 have g0:=pI (r:=i.rd) h1
 have g1:=aB (r:=i.rn) h2
 have g2:=pI (r:=i.rm) h3
 have g3:=aB (r:=i.ra) h4
 have g4:i.aC=0:=bz h7
 have g5:i.kind=0:=(bc rfl h9).1
 have g6:i.bD=0:=bz (bc rfl h9).2
 have g7:i.set=0:=h8.elim id fun e=>absurd (show false=true from e.2) Bool.false_ne_true
 have g8:i.cond=0:=h6.elim id fun e=>absurd (show false=true from e.1) Bool.false_ne_true
 have g9:i.aA=0:=dy rfl h5
 exact aW rfl (s_6_0 i.rd g0) (s_6_1 i.rn g1) (s_6_2 i.rm g2) (s_6_3 i.ra g3) ((bj (K:=6) (f:=i.form) (by decide)).trans (s_6_4 i.aC g4)) (s_6_5 i.kind g5) ((bB (K:=6) (k:=xR 6 i 5) (by decide)).trans (s_6_6 i.bD g6)) (s_6_7 i.set g7) (s_6_8 i.cond g8) (s_6_9 i.aA g9)
theorem YL (i:IN) (hs:af i.form=7) (hr:aS i (fg 7)) (hg:i.aA<=9223372036854775807):cT 7 i=i:=by
 obtain⟨hf,h1,h2,h3,h4,h5,h6,h7,h8,h9,cS⟩:=hr
 have g0:=aB (r:=i.rd) h1
 have g1:=aB (r:=i.rn) h2
 have g2:=pI (r:=i.rm) h3
 have g3:=aB (r:=i.ra) h4
 have g4:i.aC=0:=bz h7
 have g5:i.kind=0:=(bc rfl h9).1
 have g6:i.bD=0:=bz (bc rfl h9).2
 have g7:i.set=0:=h8.elim id fun e=>absurd (show false=true from e.2) Bool.false_ne_true
 have g8:i.cond=0:=h6.elim id fun e=>absurd (show false=true from e.1) Bool.false_ne_true
 have g9:i.aA=0:=dy rfl h5
 exact aW rfl (s_7_0 i.rd g0) (s_7_1 i.rn g1) (s_7_2 i.rm g2) (s_7_3 i.ra g3) ((bj (K:=7) (f:=i.form) (by decide)).trans (s_7_4 i.aC g4)) (s_7_5 i.kind g5) ((bB (K:=7) (k:=xR 7 i 5) (by decide)).trans (s_7_6 i.bD g6)) (s_7_7 i.set g7) (s_7_8 i.cond g8) (s_7_9 i.aA g9)
theorem YM (i:IN) (hs:af i.form=8) (hr:aS i (fg 8)) (hg:i.aA<=9223372036854775807):cT 8 i=i:=by
 obtain⟨hf,h1,h2,h3,h4,h5,h6,h7,h8,h9,cS⟩:=hr
 have g0:=eV (r:=i.rd) h1
 have g1:=aB (r:=i.rn) h2
 have g2:=aB (r:=i.rm) h3
 have g3:=aB (r:=i.ra) h4
 have g4:0<=i.aC/\i.aC<=1020/\i.aC % 4=0:=fA (s:=4) (by decide) h7
 have g5:i.kind=0:=(bc rfl h9).1
 have g6:i.bD=0:=bz (bc rfl h9).2
 have g7:i.set=0:=h8.elim id fun e=>absurd (show false=true from e.2) Bool.false_ne_true
 have g8:i.cond=0:=h6.elim id fun e=>absurd (show false=true from e.1) Bool.false_ne_true
 have g9:i.aA=0:=dy rfl h5
 exact aW rfl (s_8_0 i.rd g0) (s_8_1 i.rn g1) (s_8_2 i.rm g2) (s_8_3 i.ra g3) ((bj (K:=8) (f:=i.form) (by decide)).trans (s_8_4 i.aC g4)) (s_8_5 i.kind g5) ((bB (K:=8) (k:=xR 8 i 5) (by decide)).trans (s_8_6 i.bD g6)) (s_8_7 i.set g7) (s_8_8 i.cond g8) (s_8_9 i.aA g9)
theorem YO (i:IN) (hs:af i.form=9) (hr:aS i (fg 9)) (hg:i.aA<=9223372036854775807):cT 9 i=i:=by
 obtain⟨hf,h1,h2,h3,h4,h5,h6,h7,h8,h9,cS⟩:=hr
 have g0:=eV (r:=i.rd) h1
 have g1:=eV (r:=i.rn) h2
 have g2:=aB (r:=i.rm) h3
 have g3:=aB (r:=i.ra) h4
 have g4:0<=i.aC/\i.aC<=124/\i.aC % 4=0:=fA (s:=4) (by decide) h7
 have g5:i.kind=0:=(bc rfl h9).1
 have g6:i.bD=0:=bz (bc rfl h9).2
 have g7:i.set=0:=h8.elim id fun e=>absurd (show false=true from e.2) Bool.false_ne_true
 have g8:i.cond=0:=h6.elim id fun e=>absurd (show false=true from e.1) Bool.false_ne_true
 have g9:i.aA=0:=dy rfl h5
 exact aW rfl (s_9_0 i.rd g0) (s_9_1 i.rn g1) (s_9_2 i.rm g2) (s_9_3 i.ra g3) ((bj (K:=9) (f:=i.form) (by decide)).trans (s_9_4 i.aC g4)) (s_9_5 i.kind g5) ((bB (K:=9) (k:=xR 9 i 5) (by decide)).trans (s_9_6 i.bD g6)) (s_9_7 i.set g7) (s_9_8 i.cond g8) (s_9_9 i.aA g9)
theorem Qj (i:IN) (hs:af i.form=10) (hr:aS i (fg 10)) (hg:i.aA<=9223372036854775807):cT 10 i=i:=by
 obtain⟨hf,h1,h2,h3,h4,h5,h6,h7,h8,h9,cS⟩:=hr
 have g0:=aB (r:=i.rd) h1
 have g1:=aB (r:=i.rn) h2
 have g2:=aB (r:=i.rm) h3
 have g3:=aB (r:=i.ra) h4
 have g4:0<=i.aC/\i.aC<=508/\i.aC % 4=0:=fA (s:=4) (by decide) h7
 have g5:i.kind=0:=(bc rfl h9).1
 have g6:i.bD=0:=bz (bc rfl h9).2
 have g7:i.set=0:=h8.elim id fun e=>absurd (show false=true from e.2) Bool.false_ne_true
 have g8:i.cond=0:=h6.elim id fun e=>absurd (show false=true from e.1) Bool.false_ne_true
 have g9:i.aA=0:=dy rfl h5
 exact aW rfl (UE i.rd g0) (UF i.rn g1) (UG i.rm g2) (UH i.ra g3) ((bj (K:=10) (f:=i.form) (by decide)).trans (UI i.aC g4)) (UJ i.kind g5) ((bB (K:=10) (k:=xR 10 i 5) (by decide)).trans (UK i.bD g6)) (UL i.set g7) (UM i.cond g8) (UN i.aA g9)
theorem Qk (i:IN) (hs:af i.form=11) (hr:aS i (fg 11)) (hg:i.aA<=9223372036854775807):cT 11 i=i:=by
 obtain⟨hf,h1,h2,h3,h4,h5,h6,h7,h8,h9,cS⟩:=hr
 have g0:=aB (r:=i.rd) h1
 have g1:=aB (r:=i.rn) h2
 have g2:=aB (r:=i.rm) h3
 have g3:=aB (r:=i.ra) h4
 have g4:i.aC=0:=bz h7
 have g5:i.kind=0:=(bc rfl h9).1
 have g6:i.bD=0:=bz (bc rfl h9).2
 have g7:i.set=0:=h8.elim id fun e=>absurd (show false=true from e.2) Bool.false_ne_true
 have g8:i.cond=0:=h6.elim id fun e=>absurd (show false=true from e.1) Bool.false_ne_true
 have g9:0 < i.aA/\i.aA / 16384 % 2*16384+i.aA % 256=i.aA:=Gy 14 (by decide) (by decide) rfl h5 hg
 exact aW rfl (UO i.rd g0) (UP i.rn g1) (UQ i.rm g2) (UR i.ra g3) ((bj (K:=11) (f:=i.form) (by decide)).trans (US i.aC g4)) (UT i.kind g5) ((bB (K:=11) (k:=xR 11 i 5) (by decide)).trans (UU i.bD g6)) (UW i.set g7) (UX i.cond g8) (UY i.aA g9)
theorem Ql (i:IN) (hs:af i.form=12) (hr:aS i (fg 12)) (hg:i.aA<=9223372036854775807):cT 12 i=i:=by
 obtain⟨hf,h1,h2,h3,h4,h5,h6,h7,h8,h9,cS⟩:=hr
 have g0:=aB (r:=i.rd) h1
 have g1:=aB (r:=i.rn) h2
 have g2:=aB (r:=i.rm) h3
 have g3:=aB (r:=i.ra) h4
 have g4:i.aC=0:=bz h7
 have g5:i.kind=0:=(bc rfl h9).1
 have g6:i.bD=0:=bz (bc rfl h9).2
 have g7:i.set=0:=h8.elim id fun e=>absurd (show false=true from e.2) Bool.false_ne_true
 have g8:i.cond=0:=h6.elim id fun e=>absurd (show false=true from e.1) Bool.false_ne_true
 have g9:0 < i.aA/\i.aA / 32768 % 2*32768+i.aA % 256=i.aA:=Gy 15 (by decide) (by decide) rfl h5 hg
 exact aW rfl (UZ i.rd g0) (U0 i.rn g1) (U1 i.rm g2) (U2 i.ra g3) ((bj (K:=12) (f:=i.form) (by decide)).trans (U3 i.aC g4)) (U4 i.kind g5) ((bB (K:=12) (k:=xR 12 i 5) (by decide)).trans (U5 i.bD g6)) (U6 i.set g7) (U7 i.cond g8) (U8 i.aA g9)
theorem Qm (i:IN) (hs:af i.form=13) (hr:aS i (fg 13)) (hg:i.aA<=9223372036854775807):cT 13 i=i:=by
 obtain⟨hf,h1,h2,h3,h4,h5,h6,h7,h8,h9,cS⟩:=hr
 have g0:=aB (r:=i.rd) h1
 have g1:=aB (r:=i.rn) h2
 have g2:=aB (r:=i.rm) h3
 have g3:=aB (r:=i.ra) h4
 have g4:i.aC=0:=bz h7
 have g5:i.kind=0:=(bc rfl h9).1
 have g6:i.bD=0:=bz (bc rfl h9).2
 have g7:i.set=0:=h8.elim id fun e=>absurd (show false=true from e.2) Bool.false_ne_true
 have g8:i.cond=0:=h6.elim id fun e=>absurd (show false=true from e.1) Bool.false_ne_true
 have g9:i.aA=0:=dy rfl h5
 exact aW rfl (U9 i.rd g0) (U' i.rn g1) (U_ i.rm g2) (Va i.ra g3) ((bj (K:=13) (f:=i.form) (by decide)).trans (Vb i.aC g4)) (Vc i.kind g5) ((bB (K:=13) (k:=xR 13 i 5) (by decide)).trans (Vd i.bD g6)) (Ve i.set g7) (Vf i.cond g8) (Vg i.aA g9)
theorem Qn (i:IN) (hs:af i.form=14) (hr:aS i (fg 14)) (hg:i.aA<=9223372036854775807):cT 14 i=i:=by
 obtain⟨hf,h1,h2,h3,h4,h5,h6,h7,h8,h9,cS⟩:=hr
 have g0:=aB (r:=i.rd) h1
 have g1:=aB (r:=i.rn) h2
 have g2:=aB (r:=i.rm) h3
 have g3:=aB (r:=i.ra) h4
 have g4:0<=i.aC/\i.aC<=255/\i.aC % 1=0:=fA (s:=1) (by decide) h7
 have g5:i.kind=0:=(bc rfl h9).1
 have g6:i.bD=0:=bz (bc rfl h9).2
 have g7:i.set=0:=h8.elim id fun e=>absurd (show false=true from e.2) Bool.false_ne_true
 have g8:i.cond=0:=h6.elim id fun e=>absurd (show false=true from e.1) Bool.false_ne_true
 have g9:i.aA=0:=dy rfl h5
 exact aW rfl (Vh i.rd g0) (Vi i.rn g1) (Vj i.rm g2) (Vk i.ra g3) ((bj (K:=14) (f:=i.form) (by decide)).trans (Vl i.aC g4)) (Vm i.kind g5) ((bB (K:=14) (k:=xR 14 i 5) (by decide)).trans (Vn i.bD g6)) (Vo i.set g7) (Vp i.cond g8) (Vq i.aA g9)
theorem Qo (i:IN) (hs:af i.form=15) (hr:aS i (fg 15)) (hg:i.aA<=9223372036854775807):cT 15 i=i:=by
 obtain⟨hf,h1,h2,h3,h4,h5,h6,h7,h8,h9,cS⟩:=hr
 have g0:=aB (r:=i.rd) h1
 have g1:=aB (r:=i.rn) h2
 have g2:=aB (r:=i.rm) h3
 have g3:=aB (r:=i.ra) h4
 have g4:-256<=i.aC/\i.aC<=254/\i.aC % 2=0:=fA (s:=2) (by decide) h7
 have g5:i.kind=0:=(bc rfl h9).1
 have g6:i.bD=0:=bz (bc rfl h9).2
 have g7:i.set=0:=h8.elim id fun e=>absurd (show false=true from e.2) Bool.false_ne_true
 have g8:0<=i.cond/\i.cond<=13:=by rcases h6 with h6|h6<;>omega
 have g9:i.aA=0:=dy rfl h5
 exact aW rfl (Vr i.rd g0) (Vs i.rn g1) (Vt i.rm g2) (Vu i.ra g3) (Vv i.aC g4) (Vw i.kind g5) ((bB (K:=15) (k:=xR 15 i 5) (by decide)).trans (Vx i.bD g6)) (Vy i.set g7) (Vz i.cond g8) (VA i.aA g9)
theorem Qp (i:IN) (hs:af i.form=16) (hr:aS i (fg 16)) (hg:i.aA<=9223372036854775807):cT 16 i=i:=by
 obtain⟨hf,h1,h2,h3,h4,h5,h6,h7,h8,h9,cS⟩:=hr
 have g0:=aB (r:=i.rd) h1
 have g1:=aB (r:=i.rn) h2
 have g2:=aB (r:=i.rm) h3
 have g3:=aB (r:=i.ra) h4
 have g4:-2048<=i.aC/\i.aC<=2046/\i.aC % 2=0:=fA (s:=2) (by decide) h7
 have g5:i.kind=0:=(bc rfl h9).1
 have g6:i.bD=0:=bz (bc rfl h9).2
 have g7:i.set=0:=h8.elim id fun e=>absurd (show false=true from e.2) Bool.false_ne_true
 have g8:i.cond=0:=h6.elim id fun e=>absurd (show false=true from e.1) Bool.false_ne_true
 have g9:i.aA=0:=dy rfl h5
 exact aW rfl (VB i.rd g0) (VC i.rn g1) (VD i.rm g2) (VE i.ra g3) (VF i.aC g4) (VG i.kind g5) ((bB (K:=16) (k:=xR 16 i 5) (by decide)).trans (VH i.bD g6)) (VI i.set g7) (VJ i.cond g8) (VK i.aA g9)
theorem Qq (i:IN) (hs:af i.form=17) (hr:aS i (fg 17)) (hg:i.aA<=9223372036854775807):cT 17 i=i:=by
 obtain⟨hf,h1,h2,h3,h4,h5,h6,h7,h8,h9,cS⟩:=hr
 have g0:=bn (r:=i.rd) h1
 have g1:=aB (r:=i.rn) h2
 have g2:=aB (r:=i.rm) h3
 have g3:=aB (r:=i.ra) h4
 have g4:0<=i.aC/\i.aC<=65535/\i.aC % 1=0:=fA (s:=1) (by decide) h7
 have g5:i.kind=0:=(bc rfl h9).1
 have g6:i.bD=0:=bz (bc rfl h9).2
 have g7:i.set=0:=h8.elim id fun e=>absurd (show false=true from e.2) Bool.false_ne_true
 have g8:i.cond=0:=h6.elim id fun e=>absurd (show false=true from e.1) Bool.false_ne_true
 have g9:i.aA=0:=dy rfl h5
 exact aW rfl (VL i.rd g0) (VM i.rn g1) (VN i.rm g2) (VO i.ra g3) ((bj (K:=17) (f:=i.form) (by decide)).trans (VP i.aC g4)) (VQ i.kind g5) ((bB (K:=17) (k:=xR 17 i 5) (by decide)).trans (VR i.bD g6)) (VT i.set g7) (VU i.cond g8) (VV i.aA g9)
theorem Qr (i:IN) (hs:af i.form=18) (hr:aS i (fg 18)) (hg:i.aA<=9223372036854775807):cT 18 i=i:=by
 obtain⟨hf,h1,h2,h3,h4,h5,h6,h7,h8,h9,cS⟩:=hr
 have g0:=bn (r:=i.rd) h1
 have g1:=bn (r:=i.rn) h2
 have g2:=aB (r:=i.rm) h3
 have g3:=aB (r:=i.ra) h4
 have g4:0<=i.aC/\i.aC<=4095/\i.aC % 1=0:=fA (s:=1) (by decide) h7
 have g5:i.kind=0:=(bc rfl h9).1
 have g6:i.bD=0:=bz (bc rfl h9).2
 have g7:i.set=0\/i.set=1:=h8.imp id fun e=>e.1
 have g8:i.cond=0:=h6.elim id fun e=>absurd (show false=true from e.1) Bool.false_ne_true
 have g9:i.aA=0:=dy rfl h5
 exact aW rfl (VW i.rd g0) (VX i.rn g1) (VY i.rm g2) (VZ i.ra g3) ((bj (K:=18) (f:=i.form) (by decide)).trans (V0 i.aC g4)) (V1 i.kind g5) ((bB (K:=18) (k:=xR 18 i 5) (by decide)).trans (V2 i.bD g6)) (V3 i.set g7) (V4 i.cond g8) (V5 i.aA g9)
theorem Qs (i:IN) (hs:af i.form=19) (hr:aS i (fg 19)) (hg:i.aA<=9223372036854775807):cT 19 i=i:=by
 obtain⟨hf,h1,h2,h3,h4,h5,h6,h7,h8,h9,cS⟩:=hr
 have g0:=bn (r:=i.rd) h1
 have g1:=aB (r:=i.rn) h2
 have g2:=aB (r:=i.rm) h3
 have g3:=aB (r:=i.ra) h4
 have g4:0<=i.aC/\i.aC<=4095/\i.aC % 1=0:=fA (s:=1) (by decide) h7
 have g5:i.kind=0:=(bc rfl h9).1
 have g6:i.bD=0:=bz (bc rfl h9).2
 have g7:i.set=0\/i.set=1:=h8.imp id fun e=>e.1
 have g8:i.cond=0:=h6.elim id fun e=>absurd (show false=true from e.1) Bool.false_ne_true
 have g9:i.aA=0:=dy rfl h5
 exact aW rfl (V6 i.rd g0) (V7 i.rn g1) (V8 i.rm g2) (V9 i.ra g3) ((bj (K:=19) (f:=i.form) (by decide)).trans (V' i.aC g4)) (V_ i.kind g5) ((bB (K:=19) (k:=xR 19 i 5) (by decide)).trans (Wa i.bD g6)) (Wb i.set g7) (Wc i.cond g8) (We i.aA g9)
theorem Qt (i:IN) (hs:af i.form=20) (hr:aS i (fg 20)) (hg:i.aA<=9223372036854775807):cT 20 i=i:=by
 obtain⟨hf,h1,h2,h3,h4,h5,h6,h7,h8,h9,cS⟩:=hr
 have g0:=aB (r:=i.rd) h1
 have g1:=bn (r:=i.rn) h2
 have g2:=aB (r:=i.rm) h3
 have g3:=aB (r:=i.ra) h4
 have g4:0<=i.aC/\i.aC<=4095/\i.aC % 1=0:=fA (s:=1) (by decide) h7
 have g5:i.kind=0:=(bc rfl h9).1
 have g6:i.bD=0:=bz (bc rfl h9).2
 have g7:i.set=0:=h8.elim id fun e=>absurd (show false=true from e.2) Bool.false_ne_true
 have g8:i.cond=0:=h6.elim id fun e=>absurd (show false=true from e.1) Bool.false_ne_true
 have g9:i.aA=0:=dy rfl h5
 exact aW rfl (Wg i.rd g0) (Wh i.rn g1) (Wi i.rm g2) (Wj i.ra g3) ((bj (K:=20) (f:=i.form) (by decide)).trans (Wk i.aC g4)) (Wl i.kind g5) ((bB (K:=20) (k:=xR 20 i 5) (by decide)).trans (Wm i.bD g6)) (Wn i.set g7) (Wo i.cond g8) (Wp i.aA g9)
theorem Qu (i:IN) (hs:af i.form=21) (hr:aS i (fg 21)) (hg:i.aA<=9223372036854775807):cT 21 i=i:=by
 obtain⟨hf,h1,h2,h3,h4,h5,h6,h7,h8,h9,cS⟩:=hr
 have g0:=bn (r:=i.rd) h1
 have g1:=bn (r:=i.rn) h2
 have g2:=bn (r:=i.rm) h3
 have g3:=aB (r:=i.ra) h4
 have g4:i.aC=0:=bz h7
 have g6:cV i.kind i.bD:=IA rfl h9
 have g5:=oO g6
 have g7:i.set=0\/i.set=1:=h8.imp id fun e=>e.1
 have g8:i.cond=0:=h6.elim id fun e=>absurd (show false=true from e.1) Bool.false_ne_true
 have g9:i.aA=0:=dy rfl h5
 exact aW rfl (Wq i.rd g0) (Ws i.rn g1) (Wt i.rm g2) (Wu i.ra g3) ((bj (K:=21) (f:=i.form) (by decide)).trans (Wv i.aC g4)) (Mg i.kind g5) ((yO (K:=21) (k:=xR 21 i 5) (by decide)).trans ((congrArg (fun k=>if xR 21 i 6=0/\(k=1\/k=2) then 32 else xR 21 i 6) (Mg i.kind g5)).trans (UD i.kind i.bD g6))) (Ww i.set g7) (Wx i.cond g8) (Wy i.aA g9)
theorem Qv (i:IN) (hs:af i.form=22) (hr:aS i (fg 22)) (hg:i.aA<=9223372036854775807):cT 22 i=i:=by
 obtain⟨hf,h1,h2,h3,h4,h5,h6,h7,h8,h9,cS⟩:=hr
 have g0:=bn (r:=i.rd) h1
 have g1:=aB (r:=i.rn) h2
 have g2:=bn (r:=i.rm) h3
 have g3:=aB (r:=i.ra) h4
 have g4:i.aC=0:=bz h7
 have g6:cV i.kind i.bD:=IA rfl h9
 have g5:=oO g6
 have g7:i.set=0\/i.set=1:=h8.imp id fun e=>e.1
 have g8:i.cond=0:=h6.elim id fun e=>absurd (show false=true from e.1) Bool.false_ne_true
 have g9:i.aA=0:=dy rfl h5
 exact aW rfl (Wz i.rd g0) (WA i.rn g1) (WB i.rm g2) (WC i.ra g3) ((bj (K:=22) (f:=i.form) (by decide)).trans (WD i.aC g4)) (Mh i.kind g5) ((yO (K:=22) (k:=xR 22 i 5) (by decide)).trans ((congrArg (fun k=>if xR 22 i 6=0/\(k=1\/k=2) then 32 else xR 22 i 6) (Mh i.kind g5)).trans (UD i.kind i.bD g6))) (WE i.set g7) (WG i.cond g8) (WH i.aA g9)
theorem Qw (i:IN) (hs:af i.form=23) (hr:aS i (fg 23)) (hg:i.aA<=9223372036854775807):cT 23 i=i:=by
 obtain⟨hf,h1,h2,h3,h4,h5,h6,h7,h8,h9,cS⟩:=hr
 have g0:=aB (r:=i.rd) h1
 have g1:=bn (r:=i.rn) h2
 have g2:=bn (r:=i.rm) h3
 have g3:=aB (r:=i.ra) h4
 have g4:i.aC=0:=bz h7
 have g6:cV i.kind i.bD:=IA rfl h9
 have g5:=oO g6
 have g7:i.set=0:=h8.elim id fun e=>absurd (show false=true from e.2) Bool.false_ne_true
 have g8:i.cond=0:=h6.elim id fun e=>absurd (show false=true from e.1) Bool.false_ne_true
 have g9:i.aA=0:=dy rfl h5
 exact aW rfl (WI i.rd g0) (WJ i.rn g1) (WL i.rm g2) (WM i.ra g3) ((bj (K:=23) (f:=i.form) (by decide)).trans (WN i.aC g4)) (Mi i.kind g5) ((yO (K:=23) (k:=xR 23 i 5) (by decide)).trans ((congrArg (fun k=>if xR 23 i 6=0/\(k=1\/k=2) then 32 else xR 23 i 6) (Mi i.kind g5)).trans (UD i.kind i.bD g6))) (WO i.set g7) (WQ i.cond g8) (WR i.aA g9)
theorem Qx (i:IN) (hs:af i.form=24) (hr:aS i (fg 24)) (hg:i.aA<=9223372036854775807):cT 24 i=i:=by
 obtain⟨hf,h1,h2,h3,h4,h5,h6,h7,h8,h9,cS⟩:=hr
 have g0:=bn (r:=i.rd) h1
 have g1:=bn (r:=i.rn) h2
 have g2:=aB (r:=i.rm) h3
 have g3:=aB (r:=i.ra) h4
 have g4:0<=i.aC/\i.aC<=4095/\i.aC % 1=0:=fA (s:=1) (by decide) h7
 have g5:i.kind=0:=(bc rfl h9).1
 have g6:i.bD=0:=bz (bc rfl h9).2
 have g7:i.set=0:=h8.elim id fun e=>absurd (show false=true from e.2) Bool.false_ne_true
 have g8:i.cond=0:=h6.elim id fun e=>absurd (show false=true from e.1) Bool.false_ne_true
 have g9:i.aA=0:=dy rfl h5
 exact aW rfl (WS i.rd g0) (WT i.rn g1) (WU i.rm g2) (WV i.ra g3) ((bj (K:=24) (f:=i.form) (by decide)).trans (WW i.aC g4)) (WX i.kind g5) ((bB (K:=24) (k:=xR 24 i 5) (by decide)).trans (WZ i.bD g6)) (W0 i.set g7) (W2 i.cond g8) (W3 i.aA g9)
theorem Qy (i:IN) (hs:af i.form=25) (hr:aS i (fg 25)) (hg:i.aA<=9223372036854775807):cT 25 i=i:=by
 obtain⟨hf,h1,h2,h3,h4,h5,h6,h7,h8,h9,cS⟩:=hr
 have g0:=bn (r:=i.rd) h1
 have g1:=pI (r:=i.rn) h2
 have g2:=aB (r:=i.rm) h3
 have g3:=aB (r:=i.ra) h4
 have g4:0<=i.aC/\i.aC<=4095/\i.aC % 1=0:=fA (s:=1) (by decide) h7
 have g5:i.kind=0:=(bc rfl h9).1
 have g6:i.bD=0:=bz (bc rfl h9).2
 have g7:i.set=0:=h8.elim id fun e=>absurd (show false=true from e.2) Bool.false_ne_true
 have g8:i.cond=0:=h6.elim id fun e=>absurd (show false=true from e.1) Bool.false_ne_true
 have g9:i.aA=0:=dy rfl h5
 exact aW rfl (W4 i.rd g0) (W5 i.rn g1) (W6 i.rm g2) (W7 i.ra g3) ((bj (K:=25) (f:=i.form) (by decide)).trans (W8 i.aC g4)) (W9 i.kind g5) ((bB (K:=25) (k:=xR 25 i 5) (by decide)).trans (W_ i.bD g6)) (Xa i.set g7) (Xb i.cond g8) (Xc i.aA g9)
theorem Qz (i:IN) (hs:af i.form=26) (hr:aS i (fg 26)) (hg:i.aA<=9223372036854775807):cT 26 i=i:=by
 obtain⟨hf,h1,h2,h3,h4,h5,h6,h7,h8,h9,cS⟩:=hr
 have g0:=bn (r:=i.rd) h1
 have g1:=pI (r:=i.rn) h2
 have g2:=bn (r:=i.rm) h3
 have g3:=aB (r:=i.ra) h4
 have g4:i.aC=0:=bz h7
 have g5:i.kind=0:=(bc rfl h9).1
 have g6:0<=i.bD/\i.bD<=3/\i.bD % 1=0:=fA (s:=1) (by decide) (bc rfl h9).2
 have g7:i.set=0:=h8.elim id fun e=>absurd (show false=true from e.2) Bool.false_ne_true
 have g8:i.cond=0:=h6.elim id fun e=>absurd (show false=true from e.1) Bool.false_ne_true
 have g9:i.aA=0:=dy rfl h5
 exact aW rfl (Xd i.rd g0) (Xe i.rn g1) (Xf i.rm g2) (Xg i.ra g3) ((bj (K:=26) (f:=i.form) (by decide)).trans (Xh i.aC g4)) (Xi i.kind g5) ((bB (K:=26) (k:=xR 26 i 5) (by decide)).trans (Xj i.bD g6)) (Xk i.set g7) (Xl i.cond g8) (Xm i.aA g9)
theorem QA (i:IN) (hs:af i.form=27) (hr:aS i (fg 27)) (hg:i.aA<=9223372036854775807):cT 27 i=i:=by
 obtain⟨hf,h1,h2,h3,h4,h5,h6,h7,h8,h9,cS⟩:=hr
 have g0:=bn (r:=i.rd) h1
 have g1:=bn (r:=i.rn) h2
 have g2:=bn (r:=i.rm) h3
 have g3:=aB (r:=i.ra) h4
 have g4:i.aC=0:=bz h7
 have g5:i.kind=0:=(bc rfl h9).1
 have g6:i.bD=0:=bz (bc rfl h9).2
 have g7:i.set=0\/i.set=1:=h8.imp id fun e=>e.1
 have g8:i.cond=0:=h6.elim id fun e=>absurd (show false=true from e.1) Bool.false_ne_true
 have g9:i.aA=0:=dy rfl h5
 exact aW rfl (Xn i.rd g0) (Xo i.rn g1) (Xp i.rm g2) (Xq i.ra g3) ((bj (K:=27) (f:=i.form) (by decide)).trans (Xr i.aC g4)) (Xs i.kind g5) ((bB (K:=27) (k:=xR 27 i 5) (by decide)).trans (Xt i.bD g6)) (Xu i.set g7) (Xv i.cond g8) (Xw i.aA g9)
theorem QB (i:IN) (hs:af i.form=28) (hr:aS i (fg 28)) (hg:i.aA<=9223372036854775807):cT 28 i=i:=by
 obtain⟨hf,h1,h2,h3,h4,h5,h6,h7,h8,h9,cS⟩:=hr
 have g0:=bn (r:=i.rd) h1
 have g1:=bn (r:=i.rn) h2
 have g2:=bn (r:=i.rm) h3
 have g3:=aB (r:=i.ra) h4
 have g4:i.aC=0:=bz h7
 have g5:i.kind=0:=(bc rfl h9).1
 have g6:i.bD=0:=bz (bc rfl h9).2
 have g7:i.set=0:=h8.elim id fun e=>absurd (show false=true from e.2) Bool.false_ne_true
 have g8:i.cond=0:=h6.elim id fun e=>absurd (show false=true from e.1) Bool.false_ne_true
 have g9:i.aA=0:=dy rfl h5
 exact aW rfl (Xx i.rd g0) (Xy i.rn g1) (Xz i.rm g2) (XA i.ra g3) ((bj (K:=28) (f:=i.form) (by decide)).trans (XB i.aC g4)) (XC i.kind g5) ((bB (K:=28) (k:=xR 28 i 5) (by decide)).trans (XD i.bD g6)) (XE i.set g7) (XF i.cond g8) (XG i.aA g9)
theorem QC (i:IN) (hs:af i.form=29) (hr:aS i (fg 29)) (hg:i.aA<=9223372036854775807):cT 29 i=i:=by
 obtain⟨hf,h1,h2,h3,h4,h5,h6,h7,h8,h9,cS⟩:=hr
 have g0:=bn (r:=i.rd) h1
 have g1:=bn (r:=i.rn) h2
 have g2:=bn (r:=i.rm) h3
 have g3:=bn (r:=i.ra) h4
 have g4:i.aC=0:=bz h7
 have g5:i.kind=0:=(bc rfl h9).1
 have g6:i.bD=0:=bz (bc rfl h9).2
 have g7:i.set=0:=h8.elim id fun e=>absurd (show false=true from e.2) Bool.false_ne_true
 have g8:i.cond=0:=h6.elim id fun e=>absurd (show false=true from e.1) Bool.false_ne_true
 have g9:i.aA=0:=dy rfl h5
 exact aW rfl (XH i.rd g0) (XI i.rn g1) (XJ i.rm g2) (XK i.ra g3) ((bj (K:=29) (f:=i.form) (by decide)).trans (XL i.aC g4)) (XM i.kind g5) ((bB (K:=29) (k:=xR 29 i 5) (by decide)).trans (XN i.bD g6)) (XO i.set g7) (XP i.cond g8) (XQ i.aA g9)
theorem QD (i:IN) (hs:af i.form=30) (hr:aS i (fg 30)) (hg:i.aA<=9223372036854775807):cT 30 i=i:=by
 obtain⟨hf,h1,h2,h3,h4,h5,h6,h7,h8,h9,cS⟩:=hr
 have g0:=bn (r:=i.rd) h1
 have g1:=bn (r:=i.rn) h2
 have g2:=bn (r:=i.rm) h3
 have g3:=bn (r:=i.ra) h4
 have g4:i.aC=0:=bz h7
 have g5:i.kind=0:=(bc rfl h9).1
 have g6:i.bD=0:=bz (bc rfl h9).2
 have g7:i.set=0:=h8.elim id fun e=>absurd (show false=true from e.2) Bool.false_ne_true
 have g8:i.cond=0:=h6.elim id fun e=>absurd (show false=true from e.1) Bool.false_ne_true
 have g9:i.aA=0:=dy rfl h5
 exact aW rfl (XR i.rd g0) (XS i.rn g1) (XT i.rm g2) (XU i.ra g3) ((bj (K:=30) (f:=i.form) (by decide)).trans (XV i.aC g4)) (XW i.kind g5) ((bB (K:=30) (k:=xR 30 i 5) (by decide)).trans (XX i.bD g6)) (XY i.set g7) (XZ i.cond g8) (X0 i.aA g9)
theorem QE (i:IN) (hs:af i.form=31) (hr:aS i (fg 31)) (hg:i.aA<=9223372036854775807):cT 31 i=i:=by
 obtain⟨hf,h1,h2,h3,h4,h5,h6,h7,h8,h9,cS⟩:=hr
 have g0:=bn (r:=i.rd) h1
 have g1:=bn (r:=i.rn) h2
 have g2:=bn (r:=i.rm) h3
 have g3:=bn (r:=i.ra) h4
 have g4:i.aC=0:=bz h7
 have g5:i.kind=0:=(bc rfl h9).1
 have g6:i.bD=0:=bz (bc rfl h9).2
 have g7:i.set=0:=h8.elim id fun e=>absurd (show false=true from e.2) Bool.false_ne_true
 have g8:i.cond=0:=h6.elim id fun e=>absurd (show false=true from e.1) Bool.false_ne_true
 have g9:i.aA=0:=dy rfl h5
 exact aW rfl (X1 i.rd g0) (X2 i.rn g1) (X3 i.rm g2) (X4 i.ra g3) ((bj (K:=31) (f:=i.form) (by decide)).trans (X5 i.aC g4)) (X6 i.kind g5) ((bB (K:=31) (k:=xR 31 i 5) (by decide)).trans (X7 i.bD g6)) (X8 i.set g7) (X9 i.cond g8) (X' i.aA g9)
theorem QF (i:IN) (hs:af i.form=32) (hr:aS i (fg 32)) (hg:i.aA<=9223372036854775807):cT 32 i=i:=by
 obtain⟨hf,h1,h2,h3,h4,h5,h6,h7,h8,h9,cS⟩:=hr
 have g0:=bn (r:=i.rd) h1
 have g1:=aB (r:=i.rn) h2
 have g2:=bn (r:=i.rm) h3
 have g3:=aB (r:=i.ra) h4
 have g4:i.aC=0:=bz h7
 have g5:i.kind=0:=(bc rfl h9).1
 have g6:i.bD=0:=bz (bc rfl h9).2
 have g7:i.set=0:=h8.elim id fun e=>absurd (show false=true from e.2) Bool.false_ne_true
 have g8:i.cond=0:=h6.elim id fun e=>absurd (show false=true from e.1) Bool.false_ne_true
 have g9:i.aA=0:=dy rfl h5
 exact aW rfl (X_ i.rd g0) (Ya i.rn g1) (Yb i.rm g2) (Yc i.ra g3) ((bj (K:=32) (f:=i.form) (by decide)).trans (Yd i.aC g4)) (Ye i.kind g5) ((bB (K:=32) (k:=xR 32 i 5) (by decide)).trans (Yf i.bD g6)) (Yg i.set g7) (Yh i.cond g8) (Yi i.aA g9)
theorem QG (i:IN) (hs:af i.form=33) (hr:aS i (fg 33)) (hg:i.aA<=9223372036854775807):cT 33 i=i:=by
 obtain⟨hf,h1,h2,h3,h4,h5,h6,h7,h8,h9,cS⟩:=hr
 have g0:=aB (r:=i.rd) h1
 have g1:=aB (r:=i.rn) h2
 have g2:=aB (r:=i.rm) h3
 have g3:=aB (r:=i.ra) h4
 have g4:-1048576<=i.aC/\i.aC<=1048574/\i.aC % 2=0:=fA (s:=2) (by decide) h7
 have g5:i.kind=0:=(bc rfl h9).1
 have g6:i.bD=0:=bz (bc rfl h9).2
 have g7:i.set=0:=h8.elim id fun e=>absurd (show false=true from e.2) Bool.false_ne_true
 have g8:0<=i.cond/\i.cond<=13:=by rcases h6 with h6|h6<;>omega
 have g9:i.aA=0:=dy rfl h5
 exact aW rfl (Yj i.rd g0) (Yk i.rn g1) (Yl i.rm g2) (Ym i.ra g3) (Yn i.aC g4) (Yo i.kind g5) ((bB (K:=33) (k:=xR 33 i 5) (by decide)).trans (Yp i.bD g6)) (Yq i.set g7) (Yr i.cond g8) (Ys i.aA g9)
theorem YP (t:Int) (h:0<=t/\t < 33554432) (h2:t % 2=0):0+aa t 24 1*2 ^ 24+aa t 12 10*2 ^ 12+aa t 23 1*2 ^ 23+aa t 22 1*2 ^ 22+aa t 1 11*2 ^ 1=t:=by
 unfold aa; rw[if_neg (by omega)]; omega
theorem IB (v:Int) (h:-16777216<=v/\v<=16777214/\v % 2=0):(0<=aa v 0 25/\aa v 0 25 < 33554432)/\aa v 0 25 % 2=0/\df (aa v 0 25) 25=v:=by
 have e:aa v 0 25=if v < 0 then v+33554432 else v:=by unfold aa; split<;>omega
 have e2:∀ m:Int,0<=m->aa m 24 1=m / 16777216 % 2:=fun m hm=>by unfold aa; rw[if_neg (by omega)]; rfl
 have hb:0<=aa v 0 25/\aa v 0 25 < 33554432:=by rw[e]; split<;>omega
 refine⟨hb,by rw[e]; split<;>omega,?_⟩
 unfold df
 rw[show (25 - 1:Nat)=24 from rfl,e2 _ hb.1,e]
 have p:(2:Int) ^ 25=33554432:=by decide
 rw[p]
 split<;>split<;>omega
theorem QH (i:IN) (hs:af i.form=34) (hr:aS i (fg 34)):{cT 34 (fx i) with form:=i.form}=i:=by
 obtain⟨hf,h1,h2,h3,h4,h5,h6,h7,h8,h9,cS⟩:=hr
 have g0:=aB (r:=i.rd) h1
 have g1:=aB (r:=i.rn) h2
 have g2:=aB (r:=i.rm) h3
 have g3:=aB (r:=i.ra) h4
 have g4:-16777216<=i.aC/\i.aC<=16777214/\i.aC % 2=0:=fA (s:=2) (by decide) h7
 have g5:i.kind=0:=(bc rfl h9).1
 have g6:i.bD=0:=bz (bc rfl h9).2
 have g7:i.set=0:=h8.elim id fun e=>absurd (show false=true from e.2) Bool.false_ne_true
 have g8:i.cond=0:=h6.elim id fun e=>absurd (show false=true from e.1) Bool.false_ne_true
 have g9:i.aA=0:=dy rfl h5
 obtain⟨hb,he,hl⟩:=IB i.aC g4
 rw[sh34 hs]
 have hn:=rq hb
 have xS:bw (aa i.aC 0 25) 2 % 2=0:=by have:=(oN hb).2.1; omega
 have e34:∀ x:Int,uA 34 i.form x=df (bw x 2) 25:=fun x=>by
  unfold uA; rw[if_neg (by decide),if_neg (by decide),if_neg (by decide),if_pos rfl]
 have hi:uA 34 i.form (0+aa (bw (aa i.aC 0 25) 2) 24 1*2 ^ 24+aa (bw (aa i.aC 0 25) 2) 12 10*2 ^ 12+aa (bw (aa i.aC 0 25) 2) 23 1*2 ^ 23+aa (bw (aa i.aC 0 25) 2) 22 1*2 ^ 22+aa (bw (aa i.aC 0 25) 2) 1 11*2 ^ 1)=i.aC:=by
  rw[e34,YP _ hn xS,Iy hb,hl]
 exact aW rfl (Yt i.rd g0) (Yu i.rn g1) (Yv i.rm g2) (Yw i.ra g3) hi (Yx i.kind g5) ((bB (K:=34) (k:=0) (by decide)).trans (Yy i.bD g6)) (Yz i.set g7) (YA i.cond g8) (YD i.aA g9)
theorem QI {s:Int} (h:1<=s/\s<=34):s=1\/s=2\/s=3\/s=4\/s=5\/s=6\/s=7\/s=8\/s=9\/s=10\/s=11\/s=12\/s=13\/s=14\/s=15\/s=16\/s=17\/s=18\/s=19\/s=20\/s=21\/s=22\/s=23\/s=24\/s=25\/s=26\/s=27\/s=28\/s=29\/s=30\/s=31\/s=32\/s=33\/s=34:=by omega
theorem Mj (i:IN) (h:af i.form=32) (hr:0<=i.rm/\i.rm < 15):aa (dn i) 0 4=aa (fx i).rm 0 4:=by
 have hx:((2,0,0,4):Nat × Nat × Nat × Nat)∈ay (af i.form):=by rw[h]; decide
 exact yM i hx
theorem back (i:IN) (h:cD i) (hg:i.aA<=9223372036854775807):aV i.form (dn i)=i:=by
 rw[Iz i fun h32=>Mj i h32 (vU h).2.2.1]
 have hr:=h
 unfold cD at hr
 rcases QI (nU h.1) with hs|hs|hs|hs|hs|hs|hs|hs|hs|hs|hs|hs|hs|hs|hs|hs|hs|hs|hs|hs|hs|hs|hs|hs|hs|hs|hs|hs|hs|hs|hs|hs|hs|hs
 ·rw[hs] at hr ⊢; rw[aH (by rw[hs]; decide)]; exact YE i hs hr hg
 ·rw[hs] at hr ⊢; rw[aH (by rw[hs]; decide)]; exact YF i hs hr hg
 ·rw[hs] at hr ⊢; rw[aH (by rw[hs]; decide)]; exact YG i hs hr hg
 ·rw[hs] at hr ⊢; rw[aH (by rw[hs]; decide)]; exact YH i hs hr hg
 ·rw[hs] at hr ⊢; rw[aH (by rw[hs]; decide)]; exact YJ i hs hr hg
 ·rw[hs] at hr ⊢; rw[aH (by rw[hs]; decide)]; exact YK i hs hr hg
 ·rw[hs] at hr ⊢; rw[aH (by rw[hs]; decide)]; exact YL i hs hr hg
 ·rw[hs] at hr ⊢; rw[aH (by rw[hs]; decide)]; exact YM i hs hr hg
 ·rw[hs] at hr ⊢; rw[aH (by rw[hs]; decide)]; exact YO i hs hr hg
 ·rw[hs] at hr ⊢; rw[aH (by rw[hs]; decide)]; exact Qj i hs hr hg
 ·rw[hs] at hr ⊢; rw[aH (by rw[hs]; decide)]; exact Qk i hs hr hg
 ·rw[hs] at hr ⊢; rw[aH (by rw[hs]; decide)]; exact Ql i hs hr hg
 ·rw[hs] at hr ⊢; rw[aH (by rw[hs]; decide)]; exact Qm i hs hr hg
 ·rw[hs] at hr ⊢; rw[aH (by rw[hs]; decide)]; exact Qn i hs hr hg
 ·rw[hs] at hr ⊢; rw[aH (by rw[hs]; decide)]; exact Qo i hs hr hg
 ·rw[hs] at hr ⊢; rw[aH (by rw[hs]; decide)]; exact Qp i hs hr hg
 ·rw[hs] at hr ⊢; rw[aH (by rw[hs]; decide)]; exact Qq i hs hr hg
 ·rw[hs] at hr ⊢; rw[aH (by rw[hs]; decide)]; exact Qr i hs hr hg
 ·rw[hs] at hr ⊢; rw[aH (by rw[hs]; decide)]; exact Qs i hs hr hg
 ·rw[hs] at hr ⊢; rw[aH (by rw[hs]; decide)]; exact Qt i hs hr hg
 ·rw[hs] at hr ⊢; rw[aH (by rw[hs]; decide)]; exact Qu i hs hr hg
 ·rw[hs] at hr ⊢; rw[aH (by rw[hs]; decide)]; exact Qv i hs hr hg
 ·rw[hs] at hr ⊢; rw[aH (by rw[hs]; decide)]; exact Qw i hs hr hg
 ·rw[hs] at hr ⊢; rw[aH (by rw[hs]; decide)]; exact Qx i hs hr hg
 ·rw[hs] at hr ⊢; rw[aH (by rw[hs]; decide)]; exact Qy i hs hr hg
 ·rw[hs] at hr ⊢; rw[aH (by rw[hs]; decide)]; exact Qz i hs hr hg
 ·rw[hs] at hr ⊢; rw[aH (by rw[hs]; decide)]; exact QA i hs hr hg
 ·rw[hs] at hr ⊢; rw[aH (by rw[hs]; decide)]; exact QB i hs hr hg
 ·rw[hs] at hr ⊢; rw[aH (by rw[hs]; decide)]; exact QC i hs hr hg
 ·rw[hs] at hr ⊢; rw[aH (by rw[hs]; decide)]; exact QD i hs hr hg
 ·rw[hs] at hr ⊢; rw[aH (by rw[hs]; decide)]; exact QE i hs hr hg
 ·rw[hs] at hr ⊢; rw[aH (by rw[hs]; decide)]; exact QF i hs hr hg
 ·rw[hs] at hr ⊢; rw[aH (by rw[hs]; decide)]; exact QG i hs hr hg
 ·rw[hs] at hr ⊢; exact QH i hs hr
def YQ (f w:Int):IN:=⟨f,0+aa w 0 3*2 ^ 0,0,0+aa w 3 3*2 ^ 0,0,if 1 < f/\0+aa w 6 5*2 ^ 0=0 then 32 else 0+aa w 6 5*2 ^ 0,0,0,0,0,0⟩
theorem rd_1 {f w:Int} (h:af f=1):aV f w=YQ f w:=by
 unfold aV; rw[h]
 exact aW rfl rfl rfl rfl rfl (SX) rfl (bB (K:=1) (k:=xV 1 w 5) (by decide)) rfl rfl rfl
def YS (f w:Int):IN:=⟨f,0+aa w 0 3*2 ^ 0,0+aa w 3 3*2 ^ 0,0+aa w 6 3*2 ^ 0,0,0,0,0,0,0,0⟩
theorem rd_2 {f w:Int} (h:af f=2):aV f w=YS f w:=by
 unfold aV; rw[h]
 exact aW rfl rfl rfl rfl rfl (bj (K:=2) (f:=f) (by decide)) rfl (bB (K:=2) (k:=xV 2 w 5) (by decide)) rfl rfl rfl
def YT (f w:Int):IN:=⟨f,0+aa w 0 3*2 ^ 0,0+aa w 3 3*2 ^ 0,0,0,0+aa w 6 3*2 ^ 0,0,0,0,0,0⟩
theorem rd_3 {f w:Int} (h:af f=3):aV f w=YT f w:=by
 unfold aV; rw[h]
 exact aW rfl rfl rfl rfl rfl (bj (K:=3) (f:=f) (by decide)) rfl (bB (K:=3) (k:=xV 3 w 5) (by decide)) rfl rfl rfl
def YU (f w:Int):IN:=⟨f,0+aa w 8 3*2 ^ 0,0,0,0,0+aa w 0 8*2 ^ 0,0,0,0,0,0⟩
theorem rd_4 {f w:Int} (h:af f=4):aV f w=YU f w:=by
 unfold aV; rw[h]
 exact aW rfl rfl rfl rfl rfl (bj (K:=4) (f:=f) (by decide)) rfl (bB (K:=4) (k:=xV 4 w 5) (by decide)) rfl rfl rfl
def YV (f w:Int):IN:=⟨f,0+aa w 0 3*2 ^ 0,0,0+aa w 3 3*2 ^ 0,0,0,0,0,0,0,0⟩
theorem rd_5 {f w:Int} (h:af f=5):aV f w=YV f w:=by
 unfold aV; rw[h]
 exact aW rfl rfl rfl rfl rfl (bj (K:=5) (f:=f) (by decide)) rfl (bB (K:=5) (k:=xV 5 w 5) (by decide)) rfl rfl rfl
def YW (f w:Int):IN:=⟨f,0+aa w 7 1*2 ^ 3+aa w 0 3*2 ^ 0,0,0+aa w 3 4*2 ^ 0,0,0,0,0,0,0,0⟩
theorem rd_6 {f w:Int} (h:af f=6):aV f w=YW f w:=by
 unfold aV; rw[h]
 exact aW rfl rfl rfl rfl rfl (bj (K:=6) (f:=f) (by decide)) rfl (bB (K:=6) (k:=xV 6 w 5) (by decide)) rfl rfl rfl
def YX (f w:Int):IN:=⟨f,0,0,0+aa w 3 4*2 ^ 0,0,0,0,0,0,0,0⟩
theorem rd_7 {f w:Int} (h:af f=7):aV f w=YX f w:=by
 unfold aV; rw[h]
 exact aW rfl rfl rfl rfl rfl (bj (K:=7) (f:=f) (by decide)) rfl (bB (K:=7) (k:=xV 7 w 5) (by decide)) rfl rfl rfl
def YY (f w:Int):IN:=⟨f,0+aa w 8 3*2 ^ 0,0,0,0,0+aa w 0 8*2 ^ 2,0,0,0,0,0⟩
theorem rd_8 {f w:Int} (h:af f=8):aV f w=YY f w:=by
 unfold aV; rw[h]
 exact aW rfl rfl rfl rfl rfl (bj (K:=8) (f:=f) (by decide)) rfl (bB (K:=8) (k:=xV 8 w 5) (by decide)) rfl rfl rfl
def YZ (f w:Int):IN:=⟨f,0+aa w 0 3*2 ^ 0,0+aa w 3 3*2 ^ 0,0,0,0+aa w 6 5*2 ^ 2,0,0,0,0,0⟩
theorem rd_9 {f w:Int} (h:af f=9):aV f w=YZ f w:=by
 unfold aV; rw[h]
 exact aW rfl rfl rfl rfl rfl (bj (K:=9) (f:=f) (by decide)) rfl (bB (K:=9) (k:=xV 9 w 5) (by decide)) rfl rfl rfl
def Ml (f w:Int):IN:=⟨f,0,0,0,0,0+aa w 0 7*2 ^ 2,0,0,0,0,0⟩
theorem rd_10 {f w:Int} (h:af f=10):aV f w=Ml f w:=by
 unfold aV; rw[h]
 exact aW rfl rfl rfl rfl rfl (bj (K:=10) (f:=f) (by decide)) rfl (bB (K:=10) (k:=xV 10 w 5) (by decide)) rfl rfl rfl
def Mm (f w:Int):IN:=⟨f,0,0,0,0,0,0,0,0,0,0+aa w 8 1*2 ^ 14+aa w 0 8*2 ^ 0⟩
theorem rd_11 {f w:Int} (h:af f=11):aV f w=Mm f w:=by
 unfold aV; rw[h]
 exact aW rfl rfl rfl rfl rfl (bj (K:=11) (f:=f) (by decide)) rfl (bB (K:=11) (k:=xV 11 w 5) (by decide)) rfl rfl rfl
def Mn (f w:Int):IN:=⟨f,0,0,0,0,0,0,0,0,0,0+aa w 8 1*2 ^ 15+aa w 0 8*2 ^ 0⟩
theorem rd_12 {f w:Int} (h:af f=12):aV f w=Mn f w:=by
 unfold aV; rw[h]
 exact aW rfl rfl rfl rfl rfl (bj (K:=12) (f:=f) (by decide)) rfl (bB (K:=12) (k:=xV 12 w 5) (by decide)) rfl rfl rfl
def Mo (f w:Int):IN:=⟨f,0,0,0,0,0,0,0,0,0,0⟩
theorem rd_13 {f w:Int} (h:af f=13):aV f w=Mo f w:=by
 unfold aV; rw[h]
 exact aW rfl rfl rfl rfl rfl (bj (K:=13) (f:=f) (by decide)) rfl (bB (K:=13) (k:=xV 13 w 5) (by decide)) rfl rfl rfl
def Mp (f w:Int):IN:=⟨f,0,0,0,0,0+aa w 0 8*2 ^ 0,0,0,0,0,0⟩
theorem rd_14 {f w:Int} (h:af f=14):aV f w=Mp f w:=by
 unfold aV; rw[h]
 exact aW rfl rfl rfl rfl rfl (bj (K:=14) (f:=f) (by decide)) rfl (bB (K:=14) (k:=xV 14 w 5) (by decide)) rfl rfl rfl
def Mq (f w:Int):IN:=⟨f,0,0,0,0,df (0+aa w 0 8*2 ^ 1) 9,0,0,0,0+aa w 8 4*2 ^ 0,0⟩
theorem rd_15 {f w:Int} (h:af f=15):aV f w=Mq f w:=by
 unfold aV; rw[h]
 exact aW rfl rfl rfl rfl rfl (rfl) rfl (bB (K:=15) (k:=xV 15 w 5) (by decide)) rfl rfl rfl
def Mr (f w:Int):IN:=⟨f,0,0,0,0,df (0+aa w 0 11*2 ^ 1) 12,0,0,0,0,0⟩
theorem rd_16 {f w:Int} (h:af f=16):aV f w=Mr f w:=by
 unfold aV; rw[h]
 exact aW rfl rfl rfl rfl rfl (rfl) rfl (bB (K:=16) (k:=xV 16 w 5) (by decide)) rfl rfl rfl
def Ms (f w:Int):IN:=⟨f,0+aa w 8 4*2 ^ 0,0,0,0,0+aa w 26 1*2 ^ 11+aa w 16 4*2 ^ 12+aa w 12 3*2 ^ 8+aa w 0 8*2 ^ 0,0,0,0,0,0⟩
theorem rd_17 {f w:Int} (h:af f=17):aV f w=Ms f w:=by
 unfold aV; rw[h]
 exact aW rfl rfl rfl rfl rfl (bj (K:=17) (f:=f) (by decide)) rfl (bB (K:=17) (k:=xV 17 w 5) (by decide)) rfl rfl rfl
def Gz (f w:Int):IN:=⟨f,0+aa w 8 4*2 ^ 0,0+aa w 16 4*2 ^ 0,0,0,0+aa w 26 1*2 ^ 11+aa w 12 3*2 ^ 8+aa w 0 8*2 ^ 0,0,0,0+aa w 20 1*2 ^ 0,0,0⟩
theorem rd_18 {f w:Int} (h:af f=18):aV f w=Gz f w:=by
 unfold aV; rw[h]
 exact aW rfl rfl rfl rfl rfl (bj (K:=18) (f:=f) (by decide)) rfl (bB (K:=18) (k:=xV 18 w 5) (by decide)) rfl rfl rfl
def GA (f w:Int):IN:=⟨f,0+aa w 8 4*2 ^ 0,0,0,0,0+aa w 26 1*2 ^ 11+aa w 12 3*2 ^ 8+aa w 0 8*2 ^ 0,0,0,0+aa w 20 1*2 ^ 0,0,0⟩
theorem rd_19 {f w:Int} (h:af f=19):aV f w=GA f w:=by
 unfold aV; rw[h]
 exact aW rfl rfl rfl rfl rfl (bj (K:=19) (f:=f) (by decide)) rfl (bB (K:=19) (k:=xV 19 w 5) (by decide)) rfl rfl rfl
def GB (f w:Int):IN:=⟨f,0,0+aa w 16 4*2 ^ 0,0,0,0+aa w 26 1*2 ^ 11+aa w 12 3*2 ^ 8+aa w 0 8*2 ^ 0,0,0,0,0,0⟩
theorem rd_20 {f w:Int} (h:af f=20):aV f w=GB f w:=by
 unfold aV; rw[h]
 exact aW rfl rfl rfl rfl rfl (bj (K:=20) (f:=f) (by decide)) rfl (bB (K:=20) (k:=xV 20 w 5) (by decide)) rfl rfl rfl
def GC (f w:Int):IN:=⟨f,0+aa w 8 4*2 ^ 0,0+aa w 16 4*2 ^ 0,0+aa w 0 4*2 ^ 0,0,0,0+aa w 4 2*2 ^ 0,if 0+aa w 12 3*2 ^ 2+aa w 6 2*2 ^ 0=0/\(0+aa w 4 2*2 ^ 0=1\/0+aa w 4 2*2 ^ 0=2) then 32 else 0+aa w 12 3*2 ^ 2+aa w 6 2*2 ^ 0,0+aa w 20 1*2 ^ 0,0,0⟩
theorem rd_21 {f w:Int} (h:af f=21):aV f w=GC f w:=by
 unfold aV; rw[h]
 exact aW rfl rfl rfl rfl rfl (bj (K:=21) (f:=f) (by decide)) rfl (yO (K:=21) (by decide)) rfl rfl rfl
def GD (f w:Int):IN:=⟨f,0+aa w 8 4*2 ^ 0,0,0+aa w 0 4*2 ^ 0,0,0,0+aa w 4 2*2 ^ 0,if 0+aa w 12 3*2 ^ 2+aa w 6 2*2 ^ 0=0/\(0+aa w 4 2*2 ^ 0=1\/0+aa w 4 2*2 ^ 0=2) then 32 else 0+aa w 12 3*2 ^ 2+aa w 6 2*2 ^ 0,0+aa w 20 1*2 ^ 0,0,0⟩
theorem rd_22 {f w:Int} (h:af f=22):aV f w=GD f w:=by
 unfold aV; rw[h]
 exact aW rfl rfl rfl rfl rfl (bj (K:=22) (f:=f) (by decide)) rfl (yO (K:=22) (by decide)) rfl rfl rfl
def GF (f w:Int):IN:=⟨f,0,0+aa w 16 4*2 ^ 0,0+aa w 0 4*2 ^ 0,0,0,0+aa w 4 2*2 ^ 0,if 0+aa w 12 3*2 ^ 2+aa w 6 2*2 ^ 0=0/\(0+aa w 4 2*2 ^ 0=1\/0+aa w 4 2*2 ^ 0=2) then 32 else 0+aa w 12 3*2 ^ 2+aa w 6 2*2 ^ 0,0,0,0⟩
theorem rd_23 {f w:Int} (h:af f=23):aV f w=GF f w:=by
 unfold aV; rw[h]
 exact aW rfl rfl rfl rfl rfl (bj (K:=23) (f:=f) (by decide)) rfl (yO (K:=23) (by decide)) rfl rfl rfl
def GG (f w:Int):IN:=⟨f,0+aa w 8 4*2 ^ 0,0+aa w 16 4*2 ^ 0,0,0,0+aa w 26 1*2 ^ 11+aa w 12 3*2 ^ 8+aa w 0 8*2 ^ 0,0,0,0,0,0⟩
theorem rd_24 {f w:Int} (h:af f=24):aV f w=GG f w:=by
 unfold aV; rw[h]
 exact aW rfl rfl rfl rfl rfl (bj (K:=24) (f:=f) (by decide)) rfl (bB (K:=24) (k:=xV 24 w 5) (by decide)) rfl rfl rfl
def Mt (f w:Int):IN:=⟨f,0+aa w 12 4*2 ^ 0,0+aa w 16 4*2 ^ 0,0,0,0+aa w 0 12*2 ^ 0,0,0,0,0,0⟩
theorem rd_25 {f w:Int} (h:af f=25):aV f w=Mt f w:=by
 unfold aV; rw[h]
 exact aW rfl rfl rfl rfl rfl (bj (K:=25) (f:=f) (by decide)) rfl (bB (K:=25) (k:=xV 25 w 5) (by decide)) rfl rfl rfl
def Mu (f w:Int):IN:=⟨f,0+aa w 12 4*2 ^ 0,0+aa w 16 4*2 ^ 0,0+aa w 0 4*2 ^ 0,0,0,0,0+aa w 4 2*2 ^ 0,0,0,0⟩
theorem rd_26 {f w:Int} (h:af f=26):aV f w=Mu f w:=by
 unfold aV; rw[h]
 exact aW rfl rfl rfl rfl rfl (bj (K:=26) (f:=f) (by decide)) rfl (bB (K:=26) (k:=xV 26 w 5) (by decide)) rfl rfl rfl
def Mv (f w:Int):IN:=⟨f,0+aa w 8 4*2 ^ 0,0+aa w 16 4*2 ^ 0,0+aa w 0 4*2 ^ 0,0,0,0,0,0+aa w 20 1*2 ^ 0,0,0⟩
theorem rd_27 {f w:Int} (h:af f=27):aV f w=Mv f w:=by
 unfold aV; rw[h]
 exact aW rfl rfl rfl rfl rfl (bj (K:=27) (f:=f) (by decide)) rfl (bB (K:=27) (k:=xV 27 w 5) (by decide)) rfl rfl rfl
def Mw (f w:Int):IN:=⟨f,0+aa w 8 4*2 ^ 0,0+aa w 16 4*2 ^ 0,0+aa w 0 4*2 ^ 0,0,0,0,0,0,0,0⟩
theorem rd_28 {f w:Int} (h:af f=28):aV f w=Mw f w:=by
 unfold aV; rw[h]
 exact aW rfl rfl rfl rfl rfl (bj (K:=28) (f:=f) (by decide)) rfl (bB (K:=28) (k:=xV 28 w 5) (by decide)) rfl rfl rfl
def Mx (f w:Int):IN:=⟨f,0+aa w 8 4*2 ^ 0,0+aa w 16 4*2 ^ 0,0+aa w 0 4*2 ^ 0,0+aa w 12 4*2 ^ 0,0,0,0,0,0,0⟩
theorem rd_29 {f w:Int} (h:af f=29):aV f w=Mx f w:=by
 unfold aV; rw[h]
 exact aW rfl rfl rfl rfl rfl (bj (K:=29) (f:=f) (by decide)) rfl (bB (K:=29) (k:=xV 29 w 5) (by decide)) rfl rfl rfl
def My (f w:Int):IN:=⟨f,0+aa w 8 4*2 ^ 0,0+aa w 16 4*2 ^ 0,0+aa w 0 4*2 ^ 0,0+aa w 12 4*2 ^ 0,0,0,0,0,0,0⟩
theorem rd_30 {f w:Int} (h:af f=30):aV f w=My f w:=by
 unfold aV; rw[h]
 exact aW rfl rfl rfl rfl rfl (bj (K:=30) (f:=f) (by decide)) rfl (bB (K:=30) (k:=xV 30 w 5) (by decide)) rfl rfl rfl
def Mz (f w:Int):IN:=⟨f,0+aa w 12 4*2 ^ 0,0+aa w 16 4*2 ^ 0,0+aa w 0 4*2 ^ 0,0+aa w 8 4*2 ^ 0,0,0,0,0,0,0⟩
theorem rd_31 {f w:Int} (h:af f=31):aV f w=Mz f w:=by
 unfold aV; rw[h]
 exact aW rfl rfl rfl rfl rfl (bj (K:=31) (f:=f) (by decide)) rfl (bB (K:=31) (k:=xV 31 w 5) (by decide)) rfl rfl rfl
def MA (f w:Int):IN:=⟨f,0+aa w 8 4*2 ^ 0,0,aa w 0 4,0,0,0,0,0,0,0⟩
theorem rd_32 {f w:Int} (h:af f=32):aV f w=MA f w:=by
 unfold aV; rw[h]
 exact aW rfl rfl rfl rfl rfl (bj (K:=32) (f:=f) (by decide)) rfl (bB (K:=32) (k:=xV 32 w 5) (by decide)) rfl rfl rfl
def MB (f w:Int):IN:=⟨f,0,0,0,0,df (0+aa w 26 1*2 ^ 20+aa w 16 6*2 ^ 12+aa w 13 1*2 ^ 18+aa w 11 1*2 ^ 19+aa w 0 11*2 ^ 1) 21,0,0,0,0+aa w 22 4*2 ^ 0,0⟩
theorem rd_33 {f w:Int} (h:af f=33):aV f w=MB f w:=by
 unfold aV; rw[h]
 exact aW rfl rfl rfl rfl rfl (rfl) rfl (bB (K:=33) (k:=xV 33 w 5) (by decide)) rfl rfl rfl
def MC (f w:Int):IN:=⟨f,0,0,0,0,df (bw (0+aa w 26 1*2 ^ 24+aa w 16 10*2 ^ 12+aa w 13 1*2 ^ 23+aa w 11 1*2 ^ 22+aa w 0 11*2 ^ 1) 2) 25,0,0,0,0,0⟩
theorem rd_34 {f w:Int} (h:af f=34):aV f w=MC f w:=by
 unfold aV; rw[h]
 exact aW rfl rfl rfl rfl rfl (rfl) rfl (bB (K:=34) (k:=xV 34 w 5) (by decide)) rfl rfl rfl
def dH (x:Int):Prop:=0<=x/\x<=4294967295
theorem lW {x:Int} (hx:0<=x) (l w:Nat):Cb x l w=aa x l w:=by unfold Cb aa; rw[if_neg (by omega)]
theorem Cl (n:Nat) (h:n<=64):Ev.aQ .i64 (n:Int)=2 ^ n:=by
 unfold Ev.aQ
 rw[Int.toNat_natCast,show min n (IntKind.bits .i64)=n from Nat.min_eq_left h]
 norm_cast
theorem q1:Ev.aQ .i64 1=2:=by decide
theorem q4:Ev.aQ .i64 4=16:=by decide
theorem q8:Ev.aQ .i64 8=256:=by decide
theorem q11:Ev.aQ .i64 11=2048:=by decide
theorem SY:Ev.aQ .i64 12=4096:=by decide
theorem q18:Ev.aQ .i64 18=262144:=by decide
theorem q19:Ev.aQ .i64 19=524288:=by decide
theorem q20:Ev.aQ .i64 20=1048576:=by decide
theorem q22:Ev.aQ .i64 22=4194304:=by decide
theorem q23:Ev.aQ .i64 23=8388608:=by decide
theorem q24:Ev.aQ .i64 24=16777216:=by decide
theorem q3:Ev.aQ .i64 3=8:=by decide
theorem r1:Ev.aQ .u32 1=2:=by decide
theorem r3:Ev.aQ .u32 3=8:=by decide
theorem r4:Ev.aQ .u32 4=16:=by decide
theorem r6:Ev.aQ .u32 6=64:=by decide
theorem r7:Ev.aQ .u32 7=128:=by decide
theorem r8:Ev.aQ .u32 8=256:=by decide
theorem r11:Ev.aQ .u32 11=2048:=by decide
theorem SZ:Ev.aQ .u32 12=4096:=by decide
theorem r13:Ev.aQ .u32 13=8192:=by decide
theorem S7:Ev.aQ .u32 16=65536:=by decide
theorem r20:Ev.aQ .u32 20=1048576:=by decide
theorem r22:Ev.aQ .u32 22=4194304:=by decide
theorem r26:Ev.aQ .u32 26=67108864:=by decide
theorem aI (x:Int) (l w:Nat) (hx:dH x) (hw:1<=w/\w<=31) (hl:l<=31):aj gT 93 [.int .u32 x,.int .i64 ((l:Int)+w - 1),.int .i64 l] (.int .i64 (aa x l w)):=by
 have b:=ae x l w
 have p:=vT w hw.2
 have c:=lW hx.1 l w
 refine Spec.enter ao P93 100 Tryz.func93 rfl (by kernel_rfl) ?_
 refine (lV x l w hx hw hl).u ?_
 rw[c]
 refine li ?_
 exact al rfl
theorem kY (n:Int) (b:Nat) (hb:b<=40) (hn:0<=n/\n < 2 ^ (b+1)):aj gT 96 [.int .i64 n,.int .i64 b] (.int .i64 (df n (b+1))):=by
 have p1:=Cl b (by omega)
 have p2:=Cl (b+1) (by omega)
 have e:(((b+1:Nat)):Int)=(b:Int)+1:=rfl
 rw[e] at p2
 have d1:=Ce b (by omega)
 have d2:=Ce (b+1) (by omega)
 have ep:(2:Int) ^ (b+1)=2 ^ b*2:=Int.pow_succ 2 b
 have d3:(2:Int) ^ (b+1)<=2199023255552:=by
  have h1:(2 ^ (b+1):Nat)<=2 ^ 41:=Nat.pow_le_pow_right (by omega) (by omega)
  have h3:=cF (b+1)
  omega
 obtain⟨q,hq⟩:∃ q,q=n / 2 ^ b:=⟨_,rfl⟩
 have q0:0<=q:=by rw[hq]; exact Int.ediv_nonneg hn.1 (by omega)
 have q1:q < 2:=by rw[hq]; exact Int.ediv_lt_of_lt_mul (by omega) (by omega)
 refine Spec.enter ao P96 100 Tryz.func96 rfl (by kernel_rfl) ?_
 refine⟨by omega,?_⟩
 refine li ?_ (show _<=(b:Int)+1/\(b:Int)+1<=_ by omega)
 have hm:n / 2 ^ b*2 ^ (b+1)=0\/n / 2 ^ b*2 ^ (b+1)=2 ^ (b+1):=by
  rw[← hq]
  have:q=0\/q=1:=by omega
  rcases this with h|h<;>rw[h]<;>omega
 refine⟨by omega,.inl ⟨aG (show _<=n / Ev.aQ .i64 (b:Int)*Ev.aQ .i64 ((b:Int)+1)/\n / Ev.aQ .i64 (b:Int)*Ev.aQ .i64 ((b:Int)+1)<=_ by rw[p1,p2]; omega),?_⟩⟩
 refine li ?_ (show _<=n - n / Ev.aQ .i64 (b:Int)*Ev.aQ .i64 ((b:Int)+1)/\n - n / Ev.aQ .i64 (b:Int)*Ev.aQ .i64 ((b:Int)+1)<=_ by rw[p1,p2]; omega)
 refine al ?_
 show n - n / Ev.aQ .i64 (b:Int)*Ev.aQ .i64 ((b:Int)+1)=df n (b+1)
 have eb:aa n b 1=q:=by
  unfold aa
  rw[if_neg (by omega),← hq,show (2:Int) ^ 1=2 from rfl]
  omega
 unfold df
 rw[p1,p2,Nat.add_sub_cancel,eb,← hq]
 have:q=0\/q=1:=by omega
 rcases this with h|h<;>rw[h]
 ·rw[if_neg (by decide)]; omega
 ·rw[if_pos rfl]; omega
theorem fG (k b:Int):aj gT 94 [.int .i64 k,.int .i64 b] (.int .i64 (if b=0/\(k=1\/k=2) then 32 else b)):=by
 refine Spec.enter ao P94 100 Tryz.func94 rfl (by kernel_rfl) ?_
 repeat' ((conv=>whnf); first|(refine (And.intro (fun _=>?_) (fun _=>?_):(_->_)/\(_->_))<;>(first|(exfalso; first|contradiction|omega)|skip))|refine Or.inl (And.intro (by first|exact aG (by omega)|exact ai (by omega)|exact cL (by omega)|exact gJ (by omega)) ?_)|(refine And.intro (show (_:Int)≠0 by omega) (Or.inl (And.intro (show (0:Int)<=_ by omega) (And.intro (show (0:Int) < _ by omega) ?_))))|(refine And.intro (show (_:Int)≠0 by omega) (Or.inl (And.intro (show (0:Int)<=_ by omega) (And.intro (by first|exact (show (_:Int)<=9223372036854775807 by omega)|exact (show (_:Int)<=4294967295 by omega)) (And.intro (show (0:Int) < _ by omega) ?_)))))|(refine al ?_; (show b=_); rw[if_neg (by omega)])|(refine al ?_; (show (32:Int)=_); rw[if_pos (by omega)])|(intro _))
def bL (i:IN) (w:Int):IN:={i with set:=aa w 20 1,rn:=aa w 16 4,rd:=aa w 8 4,rm:=aa w 0 4}
theorem bm (i:IN) (w:Int) (hw:dH w):aj gT 97 [cZ i,.int .u32 w] (cZ (bL i w)):=by
 refine Spec.enter ao P97 100 Tryz.func97 rfl (by kernel_rfl) ?_
 refine (aI w 20 1 hw (by decide) (by decide)).u ?_
 refine (aI w 16 4 hw (by decide) (by decide)).u ?_
 refine (aI w 8 4 hw (by decide) (by decide)).u ?_
 refine (aI w 0 4 hw (by decide) (by decide)).u ?_
 exact rA
def cn (i:IN) (w:Int):IN:={i with rd:=aa w 0 3,rn:=aa w 3 3}
theorem qg (i:IN) (w:Int) (hw:dH w):aj gT 95 [cZ i,.int .u32 w] (cZ (cn i w)):=by
 refine Spec.enter ao P95 100 Tryz.func95 rfl (by kernel_rfl) ?_
 refine (aI w 0 3 hw (by decide) (by decide)).u ?_
 refine (aI w 3 3 hw (by decide) (by decide)).u ?_
 exact rA
theorem oP (a b:Int) (ha:a=0\/a=1) (hb:b=0\/b=1):aj gT 129 [.int .u32 a,.int .u32 b] (.int .u32 (if a=b then 1 else 0)):=by
 refine Spec.enter ao P129 100 Tryz.func129 rfl (by kernel_rfl) ?_
 refine al ?_
 show bits .xor .u32 (bits .xor .u32 1 a) b=_
 rcases ha with rfl|rfl<;>rcases hb with rfl|rfl<;>decide
theorem IC (a b:Int) (ha:0<=a/\a<=4294967295) (hb:0<=b/\b<=4294967295):bits .or .i64 a b=bits .or .i64 b a:=by
 have ea:a=(a.toNat:Int):=by omega
 have eb:b=(b.toNat:Int):=by omega
 rw[ea,eb,Rm.uS _ _ (by omega) (by omega),Rm.uS _ _ (by omega) (by omega),Nat.or_comm]
def ft (w:Int):Int:=aa w 26 1*2048+aa w 12 3*256+aa w 0 8
theorem Y0 (w:Int):0<=ft w/\ft w < 4096:=by
 have b1:=ae w 26 1
 have b2:=ae w 12 3
 have b3:=ae w 0 8
 unfold ft; omega
theorem MD (w:Int):bits .or .i64 (bits .or .i64 (aa w 26 1*2048) (aa w 12 3*256)) (aa w 0 8)=ft w:=by
 have b1:=ae w 26 1
 have b2:=ae w 12 3
 have b3:=ae w 0 8
 rw[Rm.cY (aa w 26 1*2048) (aa w 12 3*256) 11 (by omega) (by omega) (by omega) (by omega) (by omega) (by omega)]
 rw[Rm.cY (aa w 26 1*2048+aa w 12 3*256) (aa w 0 8) 8 (by omega) (by omega) (by omega) (by omega) (by omega) (by omega)]
 rfl
theorem rr (w:Int) (hw:dH w):aj gT 98 [.int .u32 w,.ff] (.int .i64 (ft w)):=by
 have b1:=ae w 26 1
 have b2:=ae w 12 3
 have b3:=ae w 0 8
 refine Spec.enter ao P98 100 Tryz.func98 rfl (by kernel_rfl) ?_
 refine (aI w 26 1 hw (by decide) (by decide)).u ?_
 refine⟨by decide,.inl ⟨aG (by rw[q11]; omega),?_⟩⟩
 refine (aI w 12 3 hw (by decide) (by decide)).u ?_
 refine⟨by decide,.inl ⟨aG (by rw[q8]; omega),?_⟩⟩
 refine (aI w 0 8 hw (by decide) (by decide)).u ?_
 refine al ?_
 show bits .or .i64 (bits .or .i64 (aa w 26 1*Ev.aQ .i64 11) (aa w 12 3*Ev.aQ .i64 8)) (aa w 0 8)=ft w
 rw[q11,q8,MD]
theorem ME (w:Int) (hw:dH w):aj gT 98 [.int .u32 w,.tt] (.int .i64 (ft w+aa w 16 4*4096)):=by
 have b1:=ae w 26 1
 have b2:=ae w 12 3
 have b3:=ae w 0 8
 have b4:=ae w 16 4
 refine Spec.enter ao P98 100 Tryz.func98 rfl (by kernel_rfl) ?_
 refine (aI w 26 1 hw (by decide) (by decide)).u ?_
 refine⟨by decide,.inl ⟨aG (by rw[q11]; omega),?_⟩⟩
 refine (aI w 12 3 hw (by decide) (by decide)).u ?_
 refine⟨by decide,.inl ⟨aG (by rw[q8]; omega),?_⟩⟩
 refine (aI w 0 8 hw (by decide) (by decide)).u ?_
 refine (aI w 16 4 hw (by decide) (by decide)).u ?_
 refine⟨by decide,.inl ⟨aG (by rw[SY]; omega),?_⟩⟩
 refine al ?_
 show bits .or .i64 (bits .or .i64 (bits .or .i64 (aa w 26 1*Ev.aQ .i64 11) (aa w 12 3*Ev.aQ .i64 8)) (aa w 0 8)) (aa w 16 4*Ev.aQ .i64 12)=_
 have nb:=Y0 w
 rw[q11,q8,SY,MD,IC _ _ (by omega) (by omega),Rm.cY (aa w 16 4*4096) (ft w) 12 (by omega) (by omega) (by omega) (by omega) (by omega) (by omega)]
 omega
def vX (w:Int):Int:=0+aa w 26 1*2 ^ 20+aa w 16 6*2 ^ 12+aa w 13 1*2 ^ 18+aa w 11 1*2 ^ 19+aa w 0 11*2 ^ 1
theorem Cm (w:Int) (hw:dH w):aj gT 101 [.int .u32 w] (.int .i64 (df (vX w) 21)):=by
 have b1:=ae w 26 1
 have b2:=ae w 11 1
 have b3:=ae w 13 1
 have b4:=ae w 16 6
 have b5:=ae w 0 11
 refine Spec.enter ao P101 100 Tryz.func101 rfl (by kernel_rfl) ?_
 refine (aI w 26 1 hw (by decide) (by decide)).u ?_
 refine⟨by decide,.inl ⟨aG (by rw[q20]; omega),?_⟩⟩
 refine (aI w 11 1 hw (by decide) (by decide)).u ?_
 refine⟨by decide,.inl ⟨aG (by rw[q19]; omega),?_⟩⟩
 refine (aI w 13 1 hw (by decide) (by decide)).u ?_
 refine⟨by decide,.inl ⟨aG (by rw[q18]; omega),?_⟩⟩
 refine (aI w 16 6 hw (by decide) (by decide)).u ?_
 refine⟨by decide,.inl ⟨aG (by rw[SY]; omega),?_⟩⟩
 refine (aI w 0 11 hw (by decide) (by decide)).u ?_
 refine⟨by decide,.inl ⟨aG (by rw[q1]; omega),?_⟩⟩
 have e:bits .or .i64 (bits .or .i64 (bits .or .i64 (bits .or .i64 (aa w 26 1*Ev.aQ .i64 20) (aa w 11 1*Ev.aQ .i64 19)) (aa w 13 1*Ev.aQ .i64 18)) (aa w 16 6*Ev.aQ .i64 12)) (aa w 0 11*Ev.aQ .i64 1)=vX w:=by
  rw[q20,q19,q18,SY,q1]
  rw[Rm.cY (aa w 26 1*1048576) (aa w 11 1*524288) 20 (by omega) (by omega) (by omega) (by omega) (by omega) (by omega)]
  rw[Rm.cY (aa w 26 1*1048576+aa w 11 1*524288) (aa w 13 1*262144) 19 (by omega) (by omega) (by omega) (by omega) (by omega) (by omega)]
  rw[Rm.cY (aa w 26 1*1048576+aa w 11 1*524288+aa w 13 1*262144) (aa w 16 6*4096) 18 (by omega) (by omega) (by omega) (by omega) (by omega) (by omega)]
  rw[Rm.cY (aa w 26 1*1048576+aa w 11 1*524288+aa w 13 1*262144+aa w 16 6*4096) (aa w 0 11*2) 12 (by omega) (by omega) (by omega) (by omega) (by omega) (by omega)]
  unfold vX; omega
 have hb:0<=vX w/\vX w < 2 ^ (20+1):=by unfold vX; omega
 refine⟨[],az,(kY (vX w) 20 (by decide) hb).use (And.intro e (And.intro rfl trivial)) rfl rfl ?_⟩
 exact al rfl
def lX (w:Int):Int:=0+aa w 26 1*2 ^ 24+aa w 16 10*2 ^ 12+aa w 13 1*2 ^ 23+aa w 11 1*2 ^ 22+aa w 0 11*2 ^ 1
theorem qh (w:Int):0<=lX w/\lX w < 33554432/\lX w / 16777216=aa w 26 1/\lX w / 8388608 % 2=aa w 13 1/\lX w / 4194304 % 2=aa w 11 1/\lX w % 4194304=aa w 16 10*4096+aa w 0 11*2:=by
 have b1:=ae w 26 1
 have b2:=ae w 11 1
 have b3:=ae w 13 1
 have b4:=ae w 16 10
 have b5:=ae w 0 11
 unfold lX; omega
theorem ET (w:Int):bw (lX w) 2=aa w 26 1*16777216+(if aa w 13 1=aa w 26 1 then 1 else 0)*8388608+(if aa w 11 1=aa w 26 1 then 1 else 0)*4194304+aa w 16 10*4096+aa w 0 11*2:=by
 obtain⟨h0,h1,h2,h3,h4,h5⟩:=qh w
 have b:=oN ⟨h0,h1⟩
 have c:=rq ⟨h0,h1⟩
 have e:lX w / 16777216 % 2=aa w 26 1:=by omega
 rw[h2,h3,h4,h5,← h2,h2] at b
 have e2:aa w 26 1 % 2=aa w 26 1:=by omega
 rw[e2] at b
 obtain⟨t,ht⟩:∃ t,t=bw (lX w) 2:=⟨_,rfl⟩
 rw[← ht] at b c ⊢
 clear ht
 obtain⟨k1,k2,k3,k4⟩:=b
 rw[← k3,← k4]
 clear k3 k4
 omega
theorem Cn (w:Int) (hw:dH w):aj gT 102 [.int .u32 w] (.int .i64 (df (bw (lX w) 2) 25)):=by
 have b1:=ae w 26 1
 have b2:=ae w 11 1
 have b3:=ae w 13 1
 have b4:=ae w 16 10
 have b5:=ae w 0 11
 have c1:Cb w 26 1=aa w 26 1:=lW hw.1 26 1
 have c2:Cb w 13 1=aa w 13 1:=lW hw.1 13 1
 have c3:Cb w 11 1=aa w 11 1:=lW hw.1 11 1
 have s2:=oP (aa w 13 1) (aa w 26 1) (mK w 13) (mK w 26)
 have s3:=oP (aa w 11 1) (aa w 26 1) (mK w 11) (mK w 26)
 have k2:=lV w 26 1 hw (by decide) (by decide)
 have k3:=lV w 13 1 hw (by decide) (by decide)
 have k4:=lV w 11 1 hw (by decide) (by decide)
 rw[c1] at k2
 rw[c2] at k3
 rw[c3] at k4
 have jt:=ET w
 obtain⟨m2,Bk⟩:∃ m:Int,m=if aa w 13 1=aa w 26 1 then 1 else 0:=⟨_,rfl⟩
 obtain⟨m3,hm3⟩:∃ m:Int,m=if aa w 11 1=aa w 26 1 then 1 else 0:=⟨_,rfl⟩
 have d2:0<=m2/\m2<=1:=by rw[Bk]; split<;>omega
 have d3:0<=m3/\m3<=1:=by rw[hm3]; split<;>omega
 rw[← Bk] at s2 jt
 rw[← hm3] at s3 jt
 refine Spec.enter ao P102 100 Tryz.func102 rfl (by kernel_rfl) ?_
 refine k2.u ?_
 refine li ?_
 refine⟨by decide,.inl ⟨aG (by rw[q24]; omega),?_⟩⟩
 refine k3.u ?_
 refine s2.u ?_
 refine li ?_
 refine⟨by decide,.inl ⟨aG (by rw[q23]; omega),?_⟩⟩
 refine k4.u ?_
 refine s3.u ?_
 refine li ?_
 refine⟨by decide,.inl ⟨aG (by rw[q22]; omega),?_⟩⟩
 refine (aI w 16 10 hw (by decide) (by decide)).u ?_
 refine⟨by decide,.inl ⟨aG (by rw[SY]; omega),?_⟩⟩
 refine (aI w 0 11 hw (by decide) (by decide)).u ?_
 refine⟨by decide,.inl ⟨aG (by rw[q1]; omega),?_⟩⟩
 have e:bits .or .i64 (bits .or .i64 (bits .or .i64 (bits .or .i64 (aa w 26 1*Ev.aQ .i64 24) (m2*Ev.aQ .i64 23)) (m3*Ev.aQ .i64 22)) (aa w 16 10*Ev.aQ .i64 12)) (aa w 0 11*Ev.aQ .i64 1)=bw (lX w) 2:=by
  rw[q24,q23,q22,SY,q1]
  rw[Rm.cY (aa w 26 1*16777216) (m2*8388608) 24 (by omega) (by omega) (by omega) (by omega) (by omega) (by omega)]
  rw[Rm.cY (aa w 26 1*16777216+m2*8388608) (m3*4194304) 23 (by omega) (by omega) (by omega) (by omega) (by omega) (by omega)]
  rw[Rm.cY (aa w 26 1*16777216+m2*8388608+m3*4194304) (aa w 16 10*4096) 22 (by omega) (by omega) (by omega) (by omega) (by omega) (by omega)]
  rw[Rm.cY (aa w 26 1*16777216+m2*8388608+m3*4194304+aa w 16 10*4096) (aa w 0 11*2) 12 (by omega) (by omega) (by omega) (by omega) (by omega) (by omega)]
  rw[jt]
 have hb:=rq ⟨(qh w).1,(qh w).2.1⟩
 refine⟨[],az,(kY (bw (lX w) 2) 24 (by decide) ⟨hb.1,by omega⟩).use (And.intro e (And.intro rfl trivial)) rfl rfl ?_⟩
 exact al rfl
theorem aj.BQ {G:Gx} {f:FuncId} {args:List PV} {r r':PV} (h:aj G f args r) (hle:yA r r'):aj G f args r':=by
 refine Spec.intro h.run.1 fun I β w a_ hH hM hA=>?_
 refine (h.run.2 I β w a_ hH hM hA).mono fun e w' ⟨v,r1,S',I',aM,he,hr,hi,KX⟩=>?_
 subst hr
 exact⟨v,r',S',I',aM,he,rfl,hle _ _ _ _ hi,KX⟩
theorem av {f K:Int} (h:af f=K):aj gT 56 [.int .i64 f] (.lit .i64 K) :=
 (mI f).BQ (fZ (x:=.int .i64 (af f)) (y:=.lit .i64 K) h)
def B (v:Int) (l w a:Nat):Nat:=(aa v l w).toNat <<< a
theorem vY (v:Int) {l w a:Nat} (h:w+a<=32):B v l w a < 4294967296:=by
 have b:=ae v l w
 have e:=cF w
 have h1:(aa v l w).toNat < 2 ^ w:=by omega
 unfold B
 rw[Nat.shiftLeft_eq]
 calc (aa v l w).toNat*2 ^ a < 2 ^ w*2 ^ a:=Nat.mul_lt_mul_of_pos_right h1 (Nat.two_pow_pos a)
  _=2 ^ (w+a):=(Nat.pow_add ..).symm
  _<=2 ^ 32:=Nat.pow_le_pow_right (by omega) h
theorem B_eq (v:Int) (l w a:Nat) (p:Int) (hp:p=2 ^ a):aa v l w*p=((B v l w a:Nat):Int):=by
 have b:=ae v l w
 unfold B
 rw[Nat.shiftLeft_eq,hp,Int.natCast_mul,Int.toNat_of_nonneg b.1,cF]
def D5 (x:Int) (a:Nat):Prop:=x=(a:Int)/\a < 4294967296
theorem D5.or {x y:Int} {a b:Nat} (hx:D5 x a) (hy:D5 y b):D5 (bits .or .u32 x y) (a ||| b):=by
 obtain⟨rfl,ha⟩:=hx
 obtain⟨rfl,hb⟩:=hy
 refine⟨?_,Nat.or_lt_two_pow (n:=32) ha hb⟩
 rw[u32_or _ _ (by omega) (by omega) (by omega) (by omega),Int.toNat_natCast,Int.toNat_natCast]
theorem xA (v:Int) (l w a:Nat) {p:Int} (hp:p=2 ^ a) (h:w+a<=32):D5 (aa v l w*p) (B v l w a):=⟨B_eq v l w a p hp,vY v h⟩
theorem Aj (v:Int) (l w:Nat) (h:w<=32):D5 (aa v l w) (B v l w 0):=⟨by have:=B_eq v l w 0 1 rfl; rwa [Int.mul_one] at this,vY v h⟩
theorem GH {v:Int} {w:Nat} (h:0<=v/\v < 2 ^ w):aa v 0 w=v:=by
 unfold aa
 rw[if_neg (by omega),show (2:Int) ^ 0=1 from rfl,Int.ediv_one]
 exact Int.emod_eq_of_lt h.1 h.2
theorem sZ (v:Int) (w a:Nat) {p:Int} (hp:p=2 ^ a) (h:w+a<=32) (hv:0<=v/\v < 2 ^ w):D5 (v*p) (B v 0 w a):=by
 have:=xA v 0 w a hp h
 rwa [GH hv] at this
theorem vZ (v:Int) (w:Nat) (h:w<=32) (hv:0<=v/\v < 2 ^ w):D5 v (B v 0 w 0):=by
 have:=Aj v 0 w h
 rwa [GH hv] at this
theorem v7 {v:Int} {l w a:Nat} (h:aa v l w=0):B v l w a=0:=by unfold B; rw[h]; simp
theorem jb {v:Int} {l w a:Nat} (h:v=0):B v l w a=0:=by
 subst h
 apply v7
 unfold aa
 rw[if_neg (by omega),Int.zero_ediv,Int.zero_emod]
def fC (i:IN) (l:List (Nat × Nat × Nat × Nat)):Nat:=l.foldl (fun w x=>w ||| B (qe i x.1) x.2.1 x.2.2.2 x.2.2.1) 0
theorem GI (i:IN):∀ (l:List (Nat × Nat × Nat × Nat)) (W V:Nat),l.foldl (Cg i) (W ||| V)=W ||| l.foldl (fun w x=>w ||| B (qe i x.1) x.2.1 x.2.2.2 x.2.2.1) V
 | [],_,_=>rfl
 | x::l,W,V=>by
  rw[List.foldl_cons,List.foldl_cons]
  have e:Cg i (W ||| V) x=W ||| (V ||| B (qe i x.1) x.2.1 x.2.2.2 x.2.2.1):=by
   have h:(aa (qe i x.1) x.2.1 x.2.2.2).toNat < 2 ^ x.2.2.2:=SU i x
   unfold Cg plus B
   rw[Nat.mod_eq_of_lt h,Nat.or_assoc]
  rw[e,GI i l]
theorem Co (i:IN) (l:List (Nat × Nat × Nat × Nat)):yJ i l=(uT i.form).toNat ||| fC i l:=by
 unfold yJ fC
 rw[← GI i l,Nat.or_zero]
theorem GJ (i:IN):dn i=(((uT i.form).toNat ||| fC (fx i) (ay (af i.form)):Nat):Int):=by
 unfold dn
 rw[Co,ks]
theorem nV {a b:Nat} (ha:a < 4294967296) (hb:b < 4294967296):a ||| b < 4294967296:=Nat.or_lt_two_pow (n:=32) ha hb
theorem gC (i:IN):D5 ((B i.set 0 1 20 ||| B i.rn 0 4 16 ||| B i.ra 0 4 12 ||| B i.rd 0 4 8 ||| B i.rm 0 4 0:Nat):Int) (B i.set 0 1 20 ||| B i.rn 0 4 16 ||| B i.ra 0 4 12 ||| B i.rd 0 4 8 ||| B i.rm 0 4 0) :=
 ⟨rfl,nV (nV (nV (nV (vY _ (by decide)) (vY _ (by decide))) (vY _ (by decide))) (vY _ (by decide))) (vY _ (by decide))⟩
theorem nW (n:Int):D5 ((B n 11 1 26 ||| B n 12 4 16 ||| B n 8 3 12 ||| B n 0 8 0:Nat):Int) (B n 11 1 26 ||| B n 12 4 16 ||| B n 8 3 12 ||| B n 0 8 0) :=
 ⟨rfl,nV (nV (nV (vY _ (by decide)) (vY _ (by decide))) (vY _ (by decide))) (vY _ (by decide))⟩
theorem nX (x:Int) (l w:Nat) (hx:dH x) (hw:1<=w/\w<=31) (hl:l<=31):aj gT 128 [.int .u32 x,.int .i64 ((l:Int)+w - 1),.int .i64 l] (.int .u32 (aa x l w)):=by
 have h:=lV x l w hx hw hl
 rwa [lW hx.1 l w] at h
theorem ID (v:Int) (l w:Nat) (h:l+w<=32) (hv:-1099511627776<=v):Cb (IntKind.u32.wrap v) l w=aa v l w:=by
 rw[IntKind.wrap_u32',lW (by omega)]
 obtain⟨n,hn⟩:∃ n:Nat,(n:Int)=if v < 0 then v+1099511627776 else v:=⟨(if v < 0 then v+1099511627776 else v).toNat,Int.toNat_of_nonneg (by split<;>omega)⟩
 have e:v % 4294967296=((n % 4294967296:Nat):Int):=by
  rw[Int.natCast_emod,hn]
  split<;>omega
 rw[e,yK]
 unfold aa
 rw[← hn]
 have key:n % 4294967296 / 2 ^ l % 2 ^ w=n / 2 ^ l % 2 ^ w:=by
  apply Nat.eq_of_testBit_eq
  intro p
  rw[Nat.testBit_mod_two_pow,Nat.testBit_mod_two_pow,Nat.testBit_div_two_pow,Nat.testBit_div_two_pow,show (4294967296:Nat)=2 ^ 32 from rfl,Nat.testBit_mod_two_pow]
  by_cases hp:p < w
  ·rw[decide_eq_true hp,decide_eq_true (show p+l < 32 by omega)]; simp
  ·rw[decide_eq_false hp]; simp
 rw[key,← cF,← cF]
 norm_cast
theorem uB (v:Int) (l w:Nat) (hv:-1099511627776<=v) (hw:1<=w/\w<=31) (hl:l<=31) (h:l+w<=32):aj gT 128 [.int .u32 (IntKind.u32.wrap v),.int .i64 ((l:Int)+w - 1),.int .i64 l] (.int .u32 (aa v l w)):=by
 have hx:0<=IntKind.u32.wrap v/\IntKind.u32.wrap v<=4294967295:=by rw[IntKind.wrap_u32']; omega
 have k:=lV (IntKind.u32.wrap v) l w hx hw hl
 rwa [ID v l w h hv] at k
theorem MF {v:Int} (h:0<=v) (w:Nat):aa (v / 4) 0 w=aa v 2 w:=by
 unfold aa
 rw[if_neg (by omega),if_neg (by omega),show (2:Int) ^ 0=1 from rfl,show (2:Int) ^ 2=4 from rfl,Int.ediv_one]
theorem S8 {v:Int} {w a:Nat} (h:0<=v):B (v / 4) 0 w a=B v 2 w a:=by unfold B; rw[MF h]
theorem isD (v:Int) (w:Nat) (h:w<=32) (h0:0<=v) (hv:v / 4 < 2 ^ w):D5 (v / 4) (B v 2 w 0):=by
 have:=vZ (v / 4) w h ⟨by omega,hv⟩
 rwa [S8 h0] at this
theorem qi (i:IN) (v:Int) (w:Nat) (hv:0<=v/\v < 2 ^ w) (hd:0<=i.rd/\i.rd < 8) (hn:0<=i.rn/\i.rn < 8) (hw:w<=20):aj gT 134 [cZ i,.int .u32 v] (.int .u32 ((B v 0 w 6 ||| B i.rn 0 3 3 ||| B i.rd 0 3 0:Nat):Int)):=by
 have hp:=vT w (by omega)
 have jN:(2:Int) ^ w<=1048576:=by
  have h1:(2 ^ w:Nat)<=2 ^ 20:=Nat.pow_le_pow_right (by omega) hw
  have h3:=cF w
  omega
 refine Spec.enter ao P134 100 Tryz.func134 rfl (by kernel_rfl) ?_
 refine⟨by decide,.inl ⟨ai (by rw[r6]; omega),?_⟩⟩
 refine .inl ⟨ai (by omega),?_⟩
 refine⟨by decide,.inl ⟨ai (by rw[r3]; omega),?_⟩⟩
 refine .inl ⟨ai (by omega),?_⟩
 refine al ?_
 exact (show bits .or .u32 (bits .or .u32 (v*Ev.aQ .u32 6) (i.rn*Ev.aQ .u32 3)) i.rd=_ from (((sZ v w 6 (by decide) (by omega) hv).or (sZ i.rn 3 3 (by decide) (by decide) hn)).or (vZ i.rd 3 (by decide) hd)).1)
theorem dh (i:IN) (hs:0<=i.set/\i.set < 2) (hd:0<=i.rd/\i.rd < 16) (hn:0<=i.rn/\i.rn < 16) (hm:0<=i.rm/\i.rm < 16) (ha:0<=i.ra/\i.ra < 16):aj gT 130 [cZ i] (.int .u32 ((B i.set 0 1 20 ||| B i.rn 0 4 16 ||| B i.ra 0 4 12 ||| B i.rd 0 4 8 ||| B i.rm 0 4 0:Nat):Int)):=by
 refine Spec.enter ao P130 100 Tryz.func130 rfl (by kernel_rfl) ?_
 refine .inl ⟨ai (by omega),?_⟩
 refine⟨by decide,.inl ⟨ai (by rw[r20]; omega),?_⟩⟩
 refine .inl ⟨ai (by omega),?_⟩
 refine⟨by decide,.inl ⟨ai (by rw[S7]; omega),?_⟩⟩
 refine .inl ⟨ai (by omega),?_⟩
 refine⟨by decide,.inl ⟨ai (by rw[SZ]; omega),?_⟩⟩
 refine .inl ⟨ai (by omega),?_⟩
 refine⟨by decide,.inl ⟨ai (by rw[r8]; omega),?_⟩⟩
 refine .inl ⟨ai (by omega),?_⟩
 refine al ?_
 exact (show bits .or .u32 (bits .or .u32 (bits .or .u32 (bits .or .u32 (i.set*Ev.aQ .u32 20) (i.rn*Ev.aQ .u32 16)) (i.ra*Ev.aQ .u32 12)) (i.rd*Ev.aQ .u32 8)) i.rm=_ from (((((sZ i.set 1 20 (by decide) (by decide) hs).or (sZ i.rn 4 16 (by decide) (by decide) hn)).or (sZ i.ra 4 12 (by decide) (by decide) ha)).or (sZ i.rd 4 8 (by decide) (by decide) hd)).or (vZ i.rm 4 (by decide) hm)).1)
theorem jo (n:Int) (hn:dH n):aj gT 131 [.int .u32 n] (.int .u32 ((B n 11 1 26 ||| B n 12 4 16 ||| B n 8 3 12 ||| B n 0 8 0:Nat):Int)):=by
 have b0:=ae n 11 1
 have b1:=ae n 12 4
 have b2:=ae n 8 3
 have b3:=ae n 0 8
 refine Spec.enter ao P131 100 Tryz.func131 rfl (by kernel_rfl) ?_
 refine (nX n 11 1 hn (by decide) (by decide)).u ?_
 refine⟨by decide,.inl ⟨ai (by rw[r26]; omega),?_⟩⟩
 refine (nX n 12 4 hn (by decide) (by decide)).u ?_
 refine⟨by decide,.inl ⟨ai (by rw[S7]; omega),?_⟩⟩
 refine (nX n 8 3 hn (by decide) (by decide)).u ?_
 refine⟨by decide,.inl ⟨ai (by rw[SZ]; omega),?_⟩⟩
 refine (nX n 0 8 hn (by decide) (by decide)).u ?_
 refine al ?_
 exact (show bits .or .u32 (bits .or .u32 (bits .or .u32 (aa n 11 1*Ev.aQ .u32 26) (aa n 12 4*Ev.aQ .u32 16)) (aa n 8 3*Ev.aQ .u32 12)) (aa n 0 8)=_ from ((((xA n 11 1 26 (by decide) (by decide)).or (xA n 12 4 16 (by decide) (by decide))).or (xA n 8 3 12 (by decide) (by decide))).or (Aj n 0 8 (by decide))).1)
end Go.Proofs.YtnbhdacpogplgaaGreatDoor.Pw

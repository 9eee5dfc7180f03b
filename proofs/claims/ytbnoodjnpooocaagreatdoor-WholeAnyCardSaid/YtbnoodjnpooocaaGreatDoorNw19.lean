/- What this claim is proved with: no condition. -/
import Derived.Test.YtbnoodjnpooocaaGreatDoorNw18
set_option maxRecDepth 100000
set_option maxHeartbeats 4000000
set_option linter.unusedVariables false
set_option linter.unusedSimpArgs false
namespace Go.Proofs.YtbnoodjnpooocaaGreatDoor.Pw
open Go Go.RowKit
theorem aB {r:Int} (h:gQ 0 r):r=0:=by unfold gQ at h; omega
theorem eG {r:Int} (h:gQ 1 r):0<=r/\r < 8:=by unfold gQ at h; omega
theorem nF {r:Int} (h:gQ 2 r):0<=r/\r < 15:=by unfold gQ at h; omega
theorem bB {r:Int} (h:gQ 3 r):0<=r/\r < 15:=by unfold gQ at h; omega
theorem bO {a b n:Int} (h:dz a b 0 n):n=0:=(Ay h).elim (fun e=>e.2) fun e=>absurd rfl e.1
theorem e9 {a b s n:Int} (hs:s≠0) (h:dz a b s n):a<=n/\n<=b/\n % s=0:=(Ay h).elim (fun e=>absurd e.1 hs) fun e=>e.2
theorem bu {K f x:Int} (h:K≠1/\K≠15/\K≠16/\K≠33/\K≠34):rT K f x=x:=by
 unfold rT; rw[if_neg h.2.1,if_neg h.2.2.1,if_neg h.2.2.2.1,if_neg h.2.2.2.2,if_neg (fun e=>h.1 e.1)]
theorem Q8 {f x:Int}:rT 1 f x=if 1 < f/\x=0 then 32 else x:=by
 unfold rT; rw[if_neg (by decide),if_neg (by decide),if_neg (by decide),if_neg (by decide)]
 by_cases h:1 < f/\x=0
 ·rw[if_pos ⟨rfl,h⟩,if_pos h]
 ·rw[if_neg (fun e=>h e.2),if_neg h]
theorem bP {K k x:Int} (h:¬ (21<=K/\K<=23)):Q7 K k x=x:=if_neg fun e=>h ⟨e.1,e.2.1⟩
theorem wk {K k x:Int} (h:21<=K/\K<=23):Q7 K k x=if x=0/\(k=1\/k=2) then 32 else x:=by
 unfold Q7
 by_cases g:x=0/\(k=1\/k=2)
 ·rw[if_pos ⟨h.1,h.2,g⟩,if_pos g]
 ·rw[if_neg (fun e=>g e.2.2),if_neg g]
theorem dG {i:IN} {r:RU} (hr:r.aq=0) (h:dV i r):i.aq=0:=h.elim (fun e=>e.2) fun e=>absurd hr e.1
theorem D' {i:IN} {r:RU} (k:Nat) (hk:8<=k) (qn:k<=15) (hr:r.aq=2 ^ k+255) (h:dV i r) (hg:i.aq<=9223372036854775807):0 < i.aq/\i.aq / 2 ^ k % 2*2 ^ k+i.aq % 256=i.aq:=by
 have hp:(0:Int) < 2 ^ k:=by have:=cQ k; have:=Nat.two_pow_pos k; omega
 rcases h with h|h
 ·have:=hr.symm.trans h.1; omega
 ·exact⟨h.2.1,yk k hk qn i.aq r.aq hr h.2.1 hg h.2.2⟩
theorem bo {i:IN} {r:RU} (hr:r.kind=false) (h:fu i r):i.kind=0/\dz r.b0 r.b1 r.b2 i.bE:=h.elim (fun e=>by rw[hr] at e; exact absurd e.1 Bool.false_ne_true) fun e=>e.2
theorem FQ {i:IN} {r:RU} (hr:r.kind=true) (h:fu i r):b_ i.kind i.bE:=h.elim (fun e=>e.2) fun e=>absurd hr e.1
theorem Xj (i:IN) (hs:ab i.form=1) (hr:aW i (eF 1)) (hg:i.aq<=9223372036854775807):de 1 i=i:=by
 obtain⟨hf,h1,h2,h3,h4,h5,h6,h7,h8,h9,dd⟩:=hr
 have g0:=eG (r:=i.rd) h1
 have g1:=aB (r:=i.rn) h2
 have g2:=eG (r:=i.rm) h3
 have g3:=aB (r:=i.ra) h4
 have g4:0<=i.au/\i.au<=32/\i.au % 1=0:=e9 (s:=1) (by decide) h7
 have g5:i.kind=0:=(bo rfl h9).1
 have g6:i.bE=0:=bO (bo rfl h9).2
 have g7:i.set=0:=h8.elim id fun e=>absurd (show false=true from e.2) Bool.false_ne_true
 have g8:i.cond=0:=h6.elim id fun e=>absurd (show false=true from e.1) Bool.false_ne_true
 have g9:i.aq=0:=dG rfl h5
 exact aZ rfl (s_1_0 i.rd g0) (s_1_1 i.rn g1) (s_1_2 i.rm g2) (s_1_3 i.ra g3) (Q8.trans (s_1_4 i.form i.au ⟨g4.1,g4.2.1⟩ dd.1 dd.2.1 (wh hf hs))) (s_1_5 i.kind g5) ((bP (K:=1) (k:=xR 1 i 5) (by decide)).trans (s_1_6 i.bE g6)) (s_1_7 i.set g7) (s_1_8 i.cond g8) (s_1_9 i.aq g9)
theorem Xk (i:IN) (hs:ab i.form=2) (hr:aW i (eF 2)) (hg:i.aq<=9223372036854775807):de 2 i=i:=by
 obtain⟨hf,h1,h2,h3,h4,h5,h6,h7,h8,h9,dd⟩:=hr
 have g0:=eG (r:=i.rd) h1
 have g1:=eG (r:=i.rn) h2
 have g2:=eG (r:=i.rm) h3
 have g3:=aB (r:=i.ra) h4
 have g4:i.au=0:=bO h7
 have g5:i.kind=0:=(bo rfl h9).1
 have g6:i.bE=0:=bO (bo rfl h9).2
 have g7:i.set=0:=h8.elim id fun e=>absurd (show false=true from e.2) Bool.false_ne_true
 have g8:i.cond=0:=h6.elim id fun e=>absurd (show false=true from e.1) Bool.false_ne_true
 have g9:i.aq=0:=dG rfl h5
 exact aZ rfl (s_2_0 i.rd g0) (s_2_1 i.rn g1) (s_2_2 i.rm g2) (s_2_3 i.ra g3) ((bu (K:=2) (f:=i.form) (by decide)).trans (s_2_4 i.au g4)) (s_2_5 i.kind g5) ((bP (K:=2) (k:=xR 2 i 5) (by decide)).trans (s_2_6 i.bE g6)) (s_2_7 i.set g7) (s_2_8 i.cond g8) (s_2_9 i.aq g9)
theorem Xl (i:IN) (hs:ab i.form=3) (hr:aW i (eF 3)) (hg:i.aq<=9223372036854775807):de 3 i=i:=by
 obtain⟨hf,h1,h2,h3,h4,h5,h6,h7,h8,h9,dd⟩:=hr
 have g0:=eG (r:=i.rd) h1
 have g1:=eG (r:=i.rn) h2
 have g2:=aB (r:=i.rm) h3
 have g3:=aB (r:=i.ra) h4
 have g4:0<=i.au/\i.au<=7/\i.au % 1=0:=e9 (s:=1) (by decide) h7
 have g5:i.kind=0:=(bo rfl h9).1
 have g6:i.bE=0:=bO (bo rfl h9).2
 have g7:i.set=0:=h8.elim id fun e=>absurd (show false=true from e.2) Bool.false_ne_true
 have g8:i.cond=0:=h6.elim id fun e=>absurd (show false=true from e.1) Bool.false_ne_true
 have g9:i.aq=0:=dG rfl h5
 exact aZ rfl (s_3_0 i.rd g0) (s_3_1 i.rn g1) (s_3_2 i.rm g2) (s_3_3 i.ra g3) ((bu (K:=3) (f:=i.form) (by decide)).trans (s_3_4 i.au g4)) (s_3_5 i.kind g5) ((bP (K:=3) (k:=xR 3 i 5) (by decide)).trans (s_3_6 i.bE g6)) (s_3_7 i.set g7) (s_3_8 i.cond g8) (s_3_9 i.aq g9)
theorem Xm (i:IN) (hs:ab i.form=4) (hr:aW i (eF 4)) (hg:i.aq<=9223372036854775807):de 4 i=i:=by
 obtain⟨hf,h1,h2,h3,h4,h5,h6,h7,h8,h9,dd⟩:=hr
 have g0:=eG (r:=i.rd) h1
 have g1:=aB (r:=i.rn) h2
 have g2:=aB (r:=i.rm) h3
 have g3:=aB (r:=i.ra) h4
 have g4:0<=i.au/\i.au<=255/\i.au % 1=0:=e9 (s:=1) (by decide) h7
 have g5:i.kind=0:=(bo rfl h9).1
 have g6:i.bE=0:=bO (bo rfl h9).2
 have g7:i.set=0:=h8.elim id fun e=>absurd (show false=true from e.2) Bool.false_ne_true
 have g8:i.cond=0:=h6.elim id fun e=>absurd (show false=true from e.1) Bool.false_ne_true
 have g9:i.aq=0:=dG rfl h5
 exact aZ rfl (s_4_0 i.rd g0) (s_4_1 i.rn g1) (s_4_2 i.rm g2) (s_4_3 i.ra g3) ((bu (K:=4) (f:=i.form) (by decide)).trans (s_4_4 i.au g4)) (s_4_5 i.kind g5) ((bP (K:=4) (k:=xR 4 i 5) (by decide)).trans (s_4_6 i.bE g6)) (s_4_7 i.set g7) (s_4_8 i.cond g8) (s_4_9 i.aq g9)
theorem Xn (i:IN) (hs:ab i.form=5) (hr:aW i (eF 5)) (hg:i.aq<=9223372036854775807):de 5 i=i:=by
 obtain⟨hf,h1,h2,h3,h4,h5,h6,h7,h8,h9,dd⟩:=hr
 have g0:=eG (r:=i.rd) h1
 have g1:=aB (r:=i.rn) h2
 have g2:=eG (r:=i.rm) h3
 have g3:=aB (r:=i.ra) h4
 have g4:i.au=0:=bO h7
 have g5:i.kind=0:=(bo rfl h9).1
 have g6:i.bE=0:=bO (bo rfl h9).2
 have g7:i.set=0:=h8.elim id fun e=>absurd (show false=true from e.2) Bool.false_ne_true
 have g8:i.cond=0:=h6.elim id fun e=>absurd (show false=true from e.1) Bool.false_ne_true
 have g9:i.aq=0:=dG rfl h5
 exact aZ rfl (s_5_0 i.rd g0) (s_5_1 i.rn g1) (s_5_2 i.rm g2) (s_5_3 i.ra g3) ((bu (K:=5) (f:=i.form) (by decide)).trans (s_5_4 i.au g4)) (s_5_5 i.kind g5) ((bP (K:=5) (k:=xR 5 i 5) (by decide)).trans (s_5_6 i.bE g6)) (s_5_7 i.set g7) (s_5_8 i.cond g8) (s_5_9 i.aq g9)
theorem Xo (i:IN) (hs:ab i.form=6) (hr:aW i (eF 6)) (hg:i.aq<=9223372036854775807):de 6 i=i:=by
 obtain⟨hf,h1,h2,h3,h4,h5,h6,h7,h8,h9,dd⟩:=hr
 have g0:=nF (r:=i.rd) h1
 have g1:=aB (r:=i.rn) h2
 have g2:=nF (r:=i.rm) h3
 have g3:=aB (r:=i.ra) h4
 have g4:i.au=0:=bO h7
 have g5:i.kind=0:=(bo rfl h9).1
 have g6:i.bE=0:=bO (bo rfl h9).2
 have g7:i.set=0:=h8.elim id fun e=>absurd (show false=true from e.2) Bool.false_ne_true
 have g8:i.cond=0:=h6.elim id fun e=>absurd (show false=true from e.1) Bool.false_ne_true
 have g9:i.aq=0:=dG rfl h5
 exact aZ rfl (s_6_0 i.rd g0) (s_6_1 i.rn g1) (s_6_2 i.rm g2) (s_6_3 i.ra g3) ((bu (K:=6) (f:=i.form) (by decide)).trans (s_6_4 i.au g4)) (s_6_5 i.kind g5) ((bP (K:=6) (k:=xR 6 i 5) (by decide)).trans (s_6_6 i.bE g6)) (s_6_7 i.set g7) (s_6_8 i.cond g8) (s_6_9 i.aq g9)
theorem Xp (i:IN) (hs:ab i.form=7) (hr:aW i (eF 7)) (hg:i.aq<=9223372036854775807):de 7 i=i:=by
 obtain⟨hf,h1,h2,h3,h4,h5,h6,h7,h8,h9,dd⟩:=hr
 have g0:=aB (r:=i.rd) h1
 have g1:=aB (r:=i.rn) h2
 have g2:=nF (r:=i.rm) h3
 have g3:=aB (r:=i.ra) h4
 have g4:i.au=0:=bO h7
 have g5:i.kind=0:=(bo rfl h9).1
 have g6:i.bE=0:=bO (bo rfl h9).2
 have g7:i.set=0:=h8.elim id fun e=>absurd (show false=true from e.2) Bool.false_ne_true
 have g8:i.cond=0:=h6.elim id fun e=>absurd (show false=true from e.1) Bool.false_ne_true
 have g9:i.aq=0:=dG rfl h5
 exact aZ rfl (s_7_0 i.rd g0) (s_7_1 i.rn g1) (s_7_2 i.rm g2) (s_7_3 i.ra g3) ((bu (K:=7) (f:=i.form) (by decide)).trans (s_7_4 i.au g4)) (s_7_5 i.kind g5) ((bP (K:=7) (k:=xR 7 i 5) (by decide)).trans (s_7_6 i.bE g6)) (s_7_7 i.set g7) (s_7_8 i.cond g8) (s_7_9 i.aq g9)
theorem Xq (i:IN) (hs:ab i.form=8) (hr:aW i (eF 8)) (hg:i.aq<=9223372036854775807):de 8 i=i:=by
 obtain⟨hf,h1,h2,h3,h4,h5,h6,h7,h8,h9,dd⟩:=hr
 have g0:=eG (r:=i.rd) h1
 have g1:=aB (r:=i.rn) h2
 have g2:=aB (r:=i.rm) h3
 have g3:=aB (r:=i.ra) h4
 have g4:0<=i.au/\i.au<=1020/\i.au % 4=0:=e9 (s:=4) (by decide) h7
 have g5:i.kind=0:=(bo rfl h9).1
 have g6:i.bE=0:=bO (bo rfl h9).2
 have g7:i.set=0:=h8.elim id fun e=>absurd (show false=true from e.2) Bool.false_ne_true
 have g8:i.cond=0:=h6.elim id fun e=>absurd (show false=true from e.1) Bool.false_ne_true
 have g9:i.aq=0:=dG rfl h5
 exact aZ rfl (s_8_0 i.rd g0) (s_8_1 i.rn g1) (s_8_2 i.rm g2) (s_8_3 i.ra g3) ((bu (K:=8) (f:=i.form) (by decide)).trans (s_8_4 i.au g4)) (s_8_5 i.kind g5) ((bP (K:=8) (k:=xR 8 i 5) (by decide)).trans (s_8_6 i.bE g6)) (s_8_7 i.set g7) (s_8_8 i.cond g8) (s_8_9 i.aq g9)
theorem Xr (i:IN) (hs:ab i.form=9) (hr:aW i (eF 9)) (hg:i.aq<=9223372036854775807):de 9 i=i:=by
 obtain⟨hf,h1,h2,h3,h4,h5,h6,h7,h8,h9,dd⟩:=hr
 have g0:=eG (r:=i.rd) h1
 have g1:=eG (r:=i.rn) h2
 have g2:=aB (r:=i.rm) h3
 have g3:=aB (r:=i.ra) h4
 have g4:0<=i.au/\i.au<=124/\i.au % 4=0:=e9 (s:=4) (by decide) h7
 have g5:i.kind=0:=(bo rfl h9).1
 have g6:i.bE=0:=bO (bo rfl h9).2
 have g7:i.set=0:=h8.elim id fun e=>absurd (show false=true from e.2) Bool.false_ne_true
 have g8:i.cond=0:=h6.elim id fun e=>absurd (show false=true from e.1) Bool.false_ne_true
 have g9:i.aq=0:=dG rfl h5
 exact aZ rfl (s_9_0 i.rd g0) (s_9_1 i.rn g1) (s_9_2 i.rm g2) (s_9_3 i.ra g3) ((bu (K:=9) (f:=i.form) (by decide)).trans (s_9_4 i.au g4)) (s_9_5 i.kind g5) ((bP (K:=9) (k:=xR 9 i 5) (by decide)).trans (s_9_6 i.bE g6)) (s_9_7 i.set g7) (s_9_8 i.cond g8) (s_9_9 i.aq g9)
theorem Of (i:IN) (hs:ab i.form=10) (hr:aW i (eF 10)) (hg:i.aq<=9223372036854775807):de 10 i=i:=by
 obtain⟨hf,h1,h2,h3,h4,h5,h6,h7,h8,h9,dd⟩:=hr
 have g0:=aB (r:=i.rd) h1
 have g1:=aB (r:=i.rn) h2
 have g2:=aB (r:=i.rm) h3
 have g3:=aB (r:=i.ra) h4
 have g4:0<=i.au/\i.au<=508/\i.au % 4=0:=e9 (s:=4) (by decide) h7
 have g5:i.kind=0:=(bo rfl h9).1
 have g6:i.bE=0:=bO (bo rfl h9).2
 have g7:i.set=0:=h8.elim id fun e=>absurd (show false=true from e.2) Bool.false_ne_true
 have g8:i.cond=0:=h6.elim id fun e=>absurd (show false=true from e.1) Bool.false_ne_true
 have g9:i.aq=0:=dG rfl h5
 exact aZ rfl (Td i.rd g0) (Te i.rn g1) (Tf i.rm g2) (Tg i.ra g3) ((bu (K:=10) (f:=i.form) (by decide)).trans (Th i.au g4)) (Ti i.kind g5) ((bP (K:=10) (k:=xR 10 i 5) (by decide)).trans (Tj i.bE g6)) (Tk i.set g7) (Tl i.cond g8) (Tm i.aq g9)
theorem Og (i:IN) (hs:ab i.form=11) (hr:aW i (eF 11)) (hg:i.aq<=9223372036854775807):de 11 i=i:=by
 obtain⟨hf,h1,h2,h3,h4,h5,h6,h7,h8,h9,dd⟩:=hr
 have g0:=aB (r:=i.rd) h1
 have g1:=aB (r:=i.rn) h2
 have g2:=aB (r:=i.rm) h3
 have g3:=aB (r:=i.ra) h4
 have g4:i.au=0:=bO h7
 have g5:i.kind=0:=(bo rfl h9).1
 have g6:i.bE=0:=bO (bo rfl h9).2
 have g7:i.set=0:=h8.elim id fun e=>absurd (show false=true from e.2) Bool.false_ne_true
 have g8:i.cond=0:=h6.elim id fun e=>absurd (show false=true from e.1) Bool.false_ne_true
 have g9:0 < i.aq/\i.aq / 16384 % 2*16384+i.aq % 256=i.aq:=D' 14 (by decide) (by decide) rfl h5 hg
 exact aZ rfl (Tn i.rd g0) (To i.rn g1) (Tp i.rm g2) (Tq i.ra g3) ((bu (K:=11) (f:=i.form) (by decide)).trans (Ts i.au g4)) (Tt i.kind g5) ((bP (K:=11) (k:=xR 11 i 5) (by decide)).trans (Tu i.bE g6)) (Tv i.set g7) (Tw i.cond g8) (Tx i.aq g9)
theorem Oh (i:IN) (hs:ab i.form=12) (hr:aW i (eF 12)) (hg:i.aq<=9223372036854775807):de 12 i=i:=by
 obtain⟨hf,h1,h2,h3,h4,h5,h6,h7,h8,h9,dd⟩:=hr
 have g0:=aB (r:=i.rd) h1
 have g1:=aB (r:=i.rn) h2
 have g2:=aB (r:=i.rm) h3
 have g3:=aB (r:=i.ra) h4
 have g4:i.au=0:=bO h7
 have g5:i.kind=0:=(bo rfl h9).1
 have g6:i.bE=0:=bO (bo rfl h9).2
 have g7:i.set=0:=h8.elim id fun e=>absurd (show false=true from e.2) Bool.false_ne_true
 have g8:i.cond=0:=h6.elim id fun e=>absurd (show false=true from e.1) Bool.false_ne_true
 have g9:0 < i.aq/\i.aq / 32768 % 2*32768+i.aq % 256=i.aq:=D' 15 (by decide) (by decide) rfl h5 hg
 exact aZ rfl (Ty i.rd g0) (Tz i.rn g1) (TA i.rm g2) (TB i.ra g3) ((bu (K:=12) (f:=i.form) (by decide)).trans (TC i.au g4)) (TD i.kind g5) ((bP (K:=12) (k:=xR 12 i 5) (by decide)).trans (TE i.bE g6)) (TF i.set g7) (TG i.cond g8) (TH i.aq g9)
theorem Oi (i:IN) (hs:ab i.form=13) (hr:aW i (eF 13)) (hg:i.aq<=9223372036854775807):de 13 i=i:=by
 obtain⟨hf,h1,h2,h3,h4,h5,h6,h7,h8,h9,dd⟩:=hr
 have g0:=aB (r:=i.rd) h1
 have g1:=aB (r:=i.rn) h2
 have g2:=aB (r:=i.rm) h3
 have g3:=aB (r:=i.ra) h4
 have g4:i.au=0:=bO h7
 have g5:i.kind=0:=(bo rfl h9).1
 have g6:i.bE=0:=bO (bo rfl h9).2
 have g7:i.set=0:=h8.elim id fun e=>absurd (show false=true from e.2) Bool.false_ne_true
 have g8:i.cond=0:=h6.elim id fun e=>absurd (show false=true from e.1) Bool.false_ne_true
 have g9:i.aq=0:=dG rfl h5
 exact aZ rfl (TJ i.rd g0) (TK i.rn g1) (TL i.rm g2) (TN i.ra g3) ((bu (K:=13) (f:=i.form) (by decide)).trans (TO i.au g4)) (TP i.kind g5) ((bP (K:=13) (k:=xR 13 i 5) (by decide)).trans (TQ i.bE g6)) (TR i.set g7) (TS i.cond g8) (TT i.aq g9)
theorem Oj (i:IN) (hs:ab i.form=14) (hr:aW i (eF 14)) (hg:i.aq<=9223372036854775807):de 14 i=i:=by
 obtain⟨hf,h1,h2,h3,h4,h5,h6,h7,h8,h9,dd⟩:=hr
 have g0:=aB (r:=i.rd) h1
 have g1:=aB (r:=i.rn) h2
 have g2:=aB (r:=i.rm) h3
 have g3:=aB (r:=i.ra) h4
 have g4:0<=i.au/\i.au<=255/\i.au % 1=0:=e9 (s:=1) (by decide) h7
 have g5:i.kind=0:=(bo rfl h9).1
 have g6:i.bE=0:=bO (bo rfl h9).2
 have g7:i.set=0:=h8.elim id fun e=>absurd (show false=true from e.2) Bool.false_ne_true
 have g8:i.cond=0:=h6.elim id fun e=>absurd (show false=true from e.1) Bool.false_ne_true
 have g9:i.aq=0:=dG rfl h5
 exact aZ rfl (TU i.rd g0) (TV i.rn g1) (TW i.rm g2) (TX i.ra g3) ((bu (K:=14) (f:=i.form) (by decide)).trans (TY i.au g4)) (TZ i.kind g5) ((bP (K:=14) (k:=xR 14 i 5) (by decide)).trans (T0 i.bE g6)) (T1 i.set g7) (T2 i.cond g8) (T3 i.aq g9)
theorem Ok (i:IN) (hs:ab i.form=15) (hr:aW i (eF 15)) (hg:i.aq<=9223372036854775807):de 15 i=i:=by
 obtain⟨hf,h1,h2,h3,h4,h5,h6,h7,h8,h9,dd⟩:=hr
 have g0:=aB (r:=i.rd) h1
 have g1:=aB (r:=i.rn) h2
 have g2:=aB (r:=i.rm) h3
 have g3:=aB (r:=i.ra) h4
 have g4:-256<=i.au/\i.au<=254/\i.au % 2=0:=e9 (s:=2) (by decide) h7
 have g5:i.kind=0:=(bo rfl h9).1
 have g6:i.bE=0:=bO (bo rfl h9).2
 have g7:i.set=0:=h8.elim id fun e=>absurd (show false=true from e.2) Bool.false_ne_true
 have g8:0<=i.cond/\i.cond<=13:=by rcases h6 with h6|h6<;>omega
 have g9:i.aq=0:=dG rfl h5
 exact aZ rfl (T4 i.rd g0) (T5 i.rn g1) (T6 i.rm g2) (T7 i.ra g3) (T8 i.au g4) (T9 i.kind g5) ((bP (K:=15) (k:=xR 15 i 5) (by decide)).trans (T' i.bE g6)) (T_ i.set g7) (Ua i.cond g8) (Ub i.aq g9)
theorem Ol (i:IN) (hs:ab i.form=16) (hr:aW i (eF 16)) (hg:i.aq<=9223372036854775807):de 16 i=i:=by
 obtain⟨hf,h1,h2,h3,h4,h5,h6,h7,h8,h9,dd⟩:=hr
 have g0:=aB (r:=i.rd) h1
 have g1:=aB (r:=i.rn) h2
 have g2:=aB (r:=i.rm) h3
 have g3:=aB (r:=i.ra) h4
 have g4:-2048<=i.au/\i.au<=2046/\i.au % 2=0:=e9 (s:=2) (by decide) h7
 have g5:i.kind=0:=(bo rfl h9).1
 have g6:i.bE=0:=bO (bo rfl h9).2
 have g7:i.set=0:=h8.elim id fun e=>absurd (show false=true from e.2) Bool.false_ne_true
 have g8:i.cond=0:=h6.elim id fun e=>absurd (show false=true from e.1) Bool.false_ne_true
 have g9:i.aq=0:=dG rfl h5
 exact aZ rfl (Uc i.rd g0) (Ud i.rn g1) (Ue i.rm g2) (Uf i.ra g3) (Ug i.au g4) (Uh i.kind g5) ((bP (K:=16) (k:=xR 16 i 5) (by decide)).trans (Ui i.bE g6)) (Uj i.set g7) (Uk i.cond g8) (Ul i.aq g9)
theorem Om (i:IN) (hs:ab i.form=17) (hr:aW i (eF 17)) (hg:i.aq<=9223372036854775807):de 17 i=i:=by
 obtain⟨hf,h1,h2,h3,h4,h5,h6,h7,h8,h9,dd⟩:=hr
 have g0:=bB (r:=i.rd) h1
 have g1:=aB (r:=i.rn) h2
 have g2:=aB (r:=i.rm) h3
 have g3:=aB (r:=i.ra) h4
 have g4:0<=i.au/\i.au<=65535/\i.au % 1=0:=e9 (s:=1) (by decide) h7
 have g5:i.kind=0:=(bo rfl h9).1
 have g6:i.bE=0:=bO (bo rfl h9).2
 have g7:i.set=0:=h8.elim id fun e=>absurd (show false=true from e.2) Bool.false_ne_true
 have g8:i.cond=0:=h6.elim id fun e=>absurd (show false=true from e.1) Bool.false_ne_true
 have g9:i.aq=0:=dG rfl h5
 exact aZ rfl (Um i.rd g0) (Un i.rn g1) (Uo i.rm g2) (Up i.ra g3) ((bu (K:=17) (f:=i.form) (by decide)).trans (Uq i.au g4)) (Ur i.kind g5) ((bP (K:=17) (k:=xR 17 i 5) (by decide)).trans (Us i.bE g6)) (Ut i.set g7) (Uu i.cond g8) (Uv i.aq g9)
theorem On (i:IN) (hs:ab i.form=18) (hr:aW i (eF 18)) (hg:i.aq<=9223372036854775807):de 18 i=i:=by
 obtain⟨hf,h1,h2,h3,h4,h5,h6,h7,h8,h9,dd⟩:=hr
 have g0:=bB (r:=i.rd) h1
 have g1:=bB (r:=i.rn) h2
 have g2:=aB (r:=i.rm) h3
 have g3:=aB (r:=i.ra) h4
 have g4:0<=i.au/\i.au<=4095/\i.au % 1=0:=e9 (s:=1) (by decide) h7
 have g5:i.kind=0:=(bo rfl h9).1
 have g6:i.bE=0:=bO (bo rfl h9).2
 have g7:i.set=0\/i.set=1:=h8.imp id fun e=>e.1
 have g8:i.cond=0:=h6.elim id fun e=>absurd (show false=true from e.1) Bool.false_ne_true
 have g9:i.aq=0:=dG rfl h5
 exact aZ rfl (Uw i.rd g0) (Ux i.rn g1) (Uy i.rm g2) (Uz i.ra g3) ((bu (K:=18) (f:=i.form) (by decide)).trans (UA i.au g4)) (UB i.kind g5) ((bP (K:=18) (k:=xR 18 i 5) (by decide)).trans (UC i.bE g6)) (UD i.set g7) (UE i.cond g8) (UF i.aq g9)
theorem Oo (i:IN) (hs:ab i.form=19) (hr:aW i (eF 19)) (hg:i.aq<=9223372036854775807):de 19 i=i:=by
 obtain⟨hf,h1,h2,h3,h4,h5,h6,h7,h8,h9,dd⟩:=hr
 have g0:=bB (r:=i.rd) h1
 have g1:=aB (r:=i.rn) h2
 have g2:=aB (r:=i.rm) h3
 have g3:=aB (r:=i.ra) h4
 have g4:0<=i.au/\i.au<=4095/\i.au % 1=0:=e9 (s:=1) (by decide) h7
 have g5:i.kind=0:=(bo rfl h9).1
 have g6:i.bE=0:=bO (bo rfl h9).2
 have g7:i.set=0\/i.set=1:=h8.imp id fun e=>e.1
 have g8:i.cond=0:=h6.elim id fun e=>absurd (show false=true from e.1) Bool.false_ne_true
 have g9:i.aq=0:=dG rfl h5
 exact aZ rfl (UG i.rd g0) (UH i.rn g1) (UI i.rm g2) (UJ i.ra g3) ((bu (K:=19) (f:=i.form) (by decide)).trans (UK i.au g4)) (UL i.kind g5) ((bP (K:=19) (k:=xR 19 i 5) (by decide)).trans (UM i.bE g6)) (UN i.set g7) (UO i.cond g8) (UP i.aq g9)
theorem Oq (i:IN) (hs:ab i.form=20) (hr:aW i (eF 20)) (hg:i.aq<=9223372036854775807):de 20 i=i:=by
 obtain⟨hf,h1,h2,h3,h4,h5,h6,h7,h8,h9,dd⟩:=hr
 have g0:=aB (r:=i.rd) h1
 have g1:=bB (r:=i.rn) h2
 have g2:=aB (r:=i.rm) h3
 have g3:=aB (r:=i.ra) h4
 have g4:0<=i.au/\i.au<=4095/\i.au % 1=0:=e9 (s:=1) (by decide) h7
 have g5:i.kind=0:=(bo rfl h9).1
 have g6:i.bE=0:=bO (bo rfl h9).2
 have g7:i.set=0:=h8.elim id fun e=>absurd (show false=true from e.2) Bool.false_ne_true
 have g8:i.cond=0:=h6.elim id fun e=>absurd (show false=true from e.1) Bool.false_ne_true
 have g9:i.aq=0:=dG rfl h5
 exact aZ rfl (UQ i.rd g0) (UR i.rn g1) (US i.rm g2) (UT i.ra g3) ((bu (K:=20) (f:=i.form) (by decide)).trans (UU i.au g4)) (UW i.kind g5) ((bP (K:=20) (k:=xR 20 i 5) (by decide)).trans (UX i.bE g6)) (UY i.set g7) (UZ i.cond g8) (U0 i.aq g9)
theorem Ot (i:IN) (hs:ab i.form=21) (hr:aW i (eF 21)) (hg:i.aq<=9223372036854775807):de 21 i=i:=by
 obtain⟨hf,h1,h2,h3,h4,h5,h6,h7,h8,h9,dd⟩:=hr
 have g0:=bB (r:=i.rd) h1
 have g1:=bB (r:=i.rn) h2
 have g2:=bB (r:=i.rm) h3
 have g3:=aB (r:=i.ra) h4
 have g4:i.au=0:=bO h7
 have g6:b_ i.kind i.bE:=FQ rfl h9
 have g5:=mT g6
 have g7:i.set=0\/i.set=1:=h8.imp id fun e=>e.1
 have g8:i.cond=0:=h6.elim id fun e=>absurd (show false=true from e.1) Bool.false_ne_true
 have g9:i.aq=0:=dG rfl h5
 exact aZ rfl (U1 i.rd g0) (U2 i.rn g1) (U3 i.rm g2) (U4 i.ra g3) ((bu (K:=21) (f:=i.form) (by decide)).trans (U5 i.au g4)) (Kf i.kind g5) ((wk (K:=21) (k:=xR 21 i 5) (by decide)).trans ((congrArg (fun k=>if xR 21 i 6=0/\(k=1\/k=2) then 32 else xR 21 i 6) (Kf i.kind g5)).trans (Tc i.kind i.bE g6))) (U6 i.set g7) (U7 i.cond g8) (U8 i.aq g9)
theorem Ou (i:IN) (hs:ab i.form=22) (hr:aW i (eF 22)) (hg:i.aq<=9223372036854775807):de 22 i=i:=by
 obtain⟨hf,h1,h2,h3,h4,h5,h6,h7,h8,h9,dd⟩:=hr
 have g0:=bB (r:=i.rd) h1
 have g1:=aB (r:=i.rn) h2
 have g2:=bB (r:=i.rm) h3
 have g3:=aB (r:=i.ra) h4
 have g4:i.au=0:=bO h7
 have g6:b_ i.kind i.bE:=FQ rfl h9
 have g5:=mT g6
 have g7:i.set=0\/i.set=1:=h8.imp id fun e=>e.1
 have g8:i.cond=0:=h6.elim id fun e=>absurd (show false=true from e.1) Bool.false_ne_true
 have g9:i.aq=0:=dG rfl h5
 exact aZ rfl (U9 i.rd g0) (U' i.rn g1) (U_ i.rm g2) (Va i.ra g3) ((bu (K:=22) (f:=i.form) (by decide)).trans (Vb i.au g4)) (Kg i.kind g5) ((wk (K:=22) (k:=xR 22 i 5) (by decide)).trans ((congrArg (fun k=>if xR 22 i 6=0/\(k=1\/k=2) then 32 else xR 22 i 6) (Kg i.kind g5)).trans (Tc i.kind i.bE g6))) (Vc i.set g7) (Vd i.cond g8) (Ve i.aq g9)
theorem Ov (i:IN) (hs:ab i.form=23) (hr:aW i (eF 23)) (hg:i.aq<=9223372036854775807):de 23 i=i:=by
 obtain⟨hf,h1,h2,h3,h4,h5,h6,h7,h8,h9,dd⟩:=hr
 have g0:=aB (r:=i.rd) h1
 have g1:=bB (r:=i.rn) h2
 have g2:=bB (r:=i.rm) h3
 have g3:=aB (r:=i.ra) h4
 have g4:i.au=0:=bO h7
 have g6:b_ i.kind i.bE:=FQ rfl h9
 have g5:=mT g6
 have g7:i.set=0:=h8.elim id fun e=>absurd (show false=true from e.2) Bool.false_ne_true
 have g8:i.cond=0:=h6.elim id fun e=>absurd (show false=true from e.1) Bool.false_ne_true
 have g9:i.aq=0:=dG rfl h5
 exact aZ rfl (Vf i.rd g0) (Vg i.rn g1) (Vh i.rm g2) (Vi i.ra g3) ((bu (K:=23) (f:=i.form) (by decide)).trans (Vj i.au g4)) (Kh i.kind g5) ((wk (K:=23) (k:=xR 23 i 5) (by decide)).trans ((congrArg (fun k=>if xR 23 i 6=0/\(k=1\/k=2) then 32 else xR 23 i 6) (Kh i.kind g5)).trans (Tc i.kind i.bE g6))) (Vk i.set g7) (Vl i.cond g8) (Vm i.aq g9)
theorem Ow (i:IN) (hs:ab i.form=24) (hr:aW i (eF 24)) (hg:i.aq<=9223372036854775807):de 24 i=i:=by
 obtain⟨hf,h1,h2,h3,h4,h5,h6,h7,h8,h9,dd⟩:=hr
 have g0:=bB (r:=i.rd) h1
 have g1:=bB (r:=i.rn) h2
 have g2:=aB (r:=i.rm) h3
 have g3:=aB (r:=i.ra) h4
 have g4:0<=i.au/\i.au<=4095/\i.au % 1=0:=e9 (s:=1) (by decide) h7
 have g5:i.kind=0:=(bo rfl h9).1
 have g6:i.bE=0:=bO (bo rfl h9).2
 have g7:i.set=0:=h8.elim id fun e=>absurd (show false=true from e.2) Bool.false_ne_true
 have g8:i.cond=0:=h6.elim id fun e=>absurd (show false=true from e.1) Bool.false_ne_true
 have g9:i.aq=0:=dG rfl h5
 exact aZ rfl (Vn i.rd g0) (Vo i.rn g1) (Vp i.rm g2) (Vq i.ra g3) ((bu (K:=24) (f:=i.form) (by decide)).trans (Vr i.au g4)) (Vs i.kind g5) ((bP (K:=24) (k:=xR 24 i 5) (by decide)).trans (Vt i.bE g6)) (Vu i.set g7) (Vv i.cond g8) (Vw i.aq g9)
theorem Ox (i:IN) (hs:ab i.form=25) (hr:aW i (eF 25)) (hg:i.aq<=9223372036854775807):de 25 i=i:=by
 obtain⟨hf,h1,h2,h3,h4,h5,h6,h7,h8,h9,dd⟩:=hr
 have g0:=bB (r:=i.rd) h1
 have g1:=nF (r:=i.rn) h2
 have g2:=aB (r:=i.rm) h3
 have g3:=aB (r:=i.ra) h4
 have g4:0<=i.au/\i.au<=4095/\i.au % 1=0:=e9 (s:=1) (by decide) h7
 have g5:i.kind=0:=(bo rfl h9).1
 have g6:i.bE=0:=bO (bo rfl h9).2
 have g7:i.set=0:=h8.elim id fun e=>absurd (show false=true from e.2) Bool.false_ne_true
 have g8:i.cond=0:=h6.elim id fun e=>absurd (show false=true from e.1) Bool.false_ne_true
 have g9:i.aq=0:=dG rfl h5
 exact aZ rfl (Vx i.rd g0) (Vy i.rn g1) (Vz i.rm g2) (VA i.ra g3) ((bu (K:=25) (f:=i.form) (by decide)).trans (VB i.au g4)) (VC i.kind g5) ((bP (K:=25) (k:=xR 25 i 5) (by decide)).trans (VD i.bE g6)) (VE i.set g7) (VF i.cond g8) (VG i.aq g9)
theorem Oy (i:IN) (hs:ab i.form=26) (hr:aW i (eF 26)) (hg:i.aq<=9223372036854775807):de 26 i=i:=by
 obtain⟨hf,h1,h2,h3,h4,h5,h6,h7,h8,h9,dd⟩:=hr
 have g0:=bB (r:=i.rd) h1
 have g1:=nF (r:=i.rn) h2
 have g2:=bB (r:=i.rm) h3
 have g3:=aB (r:=i.ra) h4
 have g4:i.au=0:=bO h7
 have g5:i.kind=0:=(bo rfl h9).1
 have g6:0<=i.bE/\i.bE<=3/\i.bE % 1=0:=e9 (s:=1) (by decide) (bo rfl h9).2
 have g7:i.set=0:=h8.elim id fun e=>absurd (show false=true from e.2) Bool.false_ne_true
 have g8:i.cond=0:=h6.elim id fun e=>absurd (show false=true from e.1) Bool.false_ne_true
 have g9:i.aq=0:=dG rfl h5
 exact aZ rfl (VH i.rd g0) (VI i.rn g1) (VJ i.rm g2) (VK i.ra g3) ((bu (K:=26) (f:=i.form) (by decide)).trans (VL i.au g4)) (VM i.kind g5) ((bP (K:=26) (k:=xR 26 i 5) (by decide)).trans (VN i.bE g6)) (VO i.set g7) (VP i.cond g8) (VQ i.aq g9)
theorem Oz (i:IN) (hs:ab i.form=27) (hr:aW i (eF 27)) (hg:i.aq<=9223372036854775807):de 27 i=i:=by
 obtain⟨hf,h1,h2,h3,h4,h5,h6,h7,h8,h9,dd⟩:=hr
 have g0:=bB (r:=i.rd) h1
 have g1:=bB (r:=i.rn) h2
 have g2:=bB (r:=i.rm) h3
 have g3:=aB (r:=i.ra) h4
 have g4:i.au=0:=bO h7
 have g5:i.kind=0:=(bo rfl h9).1
 have g6:i.bE=0:=bO (bo rfl h9).2
 have g7:i.set=0\/i.set=1:=h8.imp id fun e=>e.1
 have g8:i.cond=0:=h6.elim id fun e=>absurd (show false=true from e.1) Bool.false_ne_true
 have g9:i.aq=0:=dG rfl h5
 exact aZ rfl (VR i.rd g0) (VS i.rn g1) (VT i.rm g2) (VU i.ra g3) ((bu (K:=27) (f:=i.form) (by decide)).trans (VV i.au g4)) (VW i.kind g5) ((bP (K:=27) (k:=xR 27 i 5) (by decide)).trans (VX i.bE g6)) (VY i.set g7) (VZ i.cond g8) (V0 i.aq g9)
theorem OA (i:IN) (hs:ab i.form=28) (hr:aW i (eF 28)) (hg:i.aq<=9223372036854775807):de 28 i=i:=by
 obtain⟨hf,h1,h2,h3,h4,h5,h6,h7,h8,h9,dd⟩:=hr
 have g0:=bB (r:=i.rd) h1
 have g1:=bB (r:=i.rn) h2
 have g2:=bB (r:=i.rm) h3
 have g3:=aB (r:=i.ra) h4
 have g4:i.au=0:=bO h7
 have g5:i.kind=0:=(bo rfl h9).1
 have g6:i.bE=0:=bO (bo rfl h9).2
 have g7:i.set=0:=h8.elim id fun e=>absurd (show false=true from e.2) Bool.false_ne_true
 have g8:i.cond=0:=h6.elim id fun e=>absurd (show false=true from e.1) Bool.false_ne_true
 have g9:i.aq=0:=dG rfl h5
 exact aZ rfl (V3 i.rd g0) (V4 i.rn g1) (V5 i.rm g2) (V6 i.ra g3) ((bu (K:=28) (f:=i.form) (by decide)).trans (V7 i.au g4)) (V8 i.kind g5) ((bP (K:=28) (k:=xR 28 i 5) (by decide)).trans (V9 i.bE g6)) (V' i.set g7) (V_ i.cond g8) (Wb i.aq g9)
theorem OB (i:IN) (hs:ab i.form=29) (hr:aW i (eF 29)) (hg:i.aq<=9223372036854775807):de 29 i=i:=by
 obtain⟨hf,h1,h2,h3,h4,h5,h6,h7,h8,h9,dd⟩:=hr
 have g0:=bB (r:=i.rd) h1
 have g1:=bB (r:=i.rn) h2
 have g2:=bB (r:=i.rm) h3
 have g3:=bB (r:=i.ra) h4
 have g4:i.au=0:=bO h7
 have g5:i.kind=0:=(bo rfl h9).1
 have g6:i.bE=0:=bO (bo rfl h9).2
 have g7:i.set=0:=h8.elim id fun e=>absurd (show false=true from e.2) Bool.false_ne_true
 have g8:i.cond=0:=h6.elim id fun e=>absurd (show false=true from e.1) Bool.false_ne_true
 have g9:i.aq=0:=dG rfl h5
 exact aZ rfl (Wc i.rd g0) (Wd i.rn g1) (We i.rm g2) (Wf i.ra g3) ((bu (K:=29) (f:=i.form) (by decide)).trans (Wg i.au g4)) (Wh i.kind g5) ((bP (K:=29) (k:=xR 29 i 5) (by decide)).trans (Wi i.bE g6)) (Wj i.set g7) (Wk i.cond g8) (Wl i.aq g9)
theorem OC (i:IN) (hs:ab i.form=30) (hr:aW i (eF 30)) (hg:i.aq<=9223372036854775807):de 30 i=i:=by
 obtain⟨hf,h1,h2,h3,h4,h5,h6,h7,h8,h9,dd⟩:=hr
 have g0:=bB (r:=i.rd) h1
 have g1:=bB (r:=i.rn) h2
 have g2:=bB (r:=i.rm) h3
 have g3:=bB (r:=i.ra) h4
 have g4:i.au=0:=bO h7
 have g5:i.kind=0:=(bo rfl h9).1
 have g6:i.bE=0:=bO (bo rfl h9).2
 have g7:i.set=0:=h8.elim id fun e=>absurd (show false=true from e.2) Bool.false_ne_true
 have g8:i.cond=0:=h6.elim id fun e=>absurd (show false=true from e.1) Bool.false_ne_true
 have g9:i.aq=0:=dG rfl h5
 exact aZ rfl (Wm i.rd g0) (Wn i.rn g1) (Wo i.rm g2) (Wp i.ra g3) ((bu (K:=30) (f:=i.form) (by decide)).trans (Wq i.au g4)) (Ws i.kind g5) ((bP (K:=30) (k:=xR 30 i 5) (by decide)).trans (Wt i.bE g6)) (Wu i.set g7) (Wv i.cond g8) (Ww i.aq g9)
theorem OD (i:IN) (hs:ab i.form=31) (hr:aW i (eF 31)) (hg:i.aq<=9223372036854775807):de 31 i=i:=by
 obtain⟨hf,h1,h2,h3,h4,h5,h6,h7,h8,h9,dd⟩:=hr
 have g0:=bB (r:=i.rd) h1
 have g1:=bB (r:=i.rn) h2
 have g2:=bB (r:=i.rm) h3
 have g3:=bB (r:=i.ra) h4
 have g4:i.au=0:=bO h7
 have g5:i.kind=0:=(bo rfl h9).1
 have g6:i.bE=0:=bO (bo rfl h9).2
 have g7:i.set=0:=h8.elim id fun e=>absurd (show false=true from e.2) Bool.false_ne_true
 have g8:i.cond=0:=h6.elim id fun e=>absurd (show false=true from e.1) Bool.false_ne_true
 have g9:i.aq=0:=dG rfl h5
 exact aZ rfl (Wx i.rd g0) (Wy i.rn g1) (Wz i.rm g2) (WA i.ra g3) ((bu (K:=31) (f:=i.form) (by decide)).trans (WB i.au g4)) (WC i.kind g5) ((bP (K:=31) (k:=xR 31 i 5) (by decide)).trans (WD i.bE g6)) (WE i.set g7) (WG i.cond g8) (WH i.aq g9)
theorem OE (i:IN) (hs:ab i.form=32) (hr:aW i (eF 32)) (hg:i.aq<=9223372036854775807):de 32 i=i:=by
 obtain⟨hf,h1,h2,h3,h4,h5,h6,h7,h8,h9,dd⟩:=hr
 have g0:=bB (r:=i.rd) h1
 have g1:=aB (r:=i.rn) h2
 have g2:=bB (r:=i.rm) h3
 have g3:=aB (r:=i.ra) h4
 have g4:i.au=0:=bO h7
 have g5:i.kind=0:=(bo rfl h9).1
 have g6:i.bE=0:=bO (bo rfl h9).2
 have g7:i.set=0:=h8.elim id fun e=>absurd (show false=true from e.2) Bool.false_ne_true
 have g8:i.cond=0:=h6.elim id fun e=>absurd (show false=true from e.1) Bool.false_ne_true
 have g9:i.aq=0:=dG rfl h5
 exact aZ rfl (WI i.rd g0) (WJ i.rn g1) (WK i.rm g2) (WL i.ra g3) ((bu (K:=32) (f:=i.form) (by decide)).trans (WM i.au g4)) (WN i.kind g5) ((bP (K:=32) (k:=xR 32 i 5) (by decide)).trans (WO i.bE g6)) (WQ i.set g7) (WR i.cond g8) (WS i.aq g9)
theorem OF (i:IN) (hs:ab i.form=33) (hr:aW i (eF 33)) (hg:i.aq<=9223372036854775807):de 33 i=i:=by
 obtain⟨hf,h1,h2,h3,h4,h5,h6,h7,h8,h9,dd⟩:=hr
 have g0:=aB (r:=i.rd) h1
 have g1:=aB (r:=i.rn) h2
 have g2:=aB (r:=i.rm) h3
 have g3:=aB (r:=i.ra) h4
 have g4:-1048576<=i.au/\i.au<=1048574/\i.au % 2=0:=e9 (s:=2) (by decide) h7
 have g5:i.kind=0:=(bo rfl h9).1
 have g6:i.bE=0:=bO (bo rfl h9).2
 have g7:i.set=0:=h8.elim id fun e=>absurd (show false=true from e.2) Bool.false_ne_true
 have g8:0<=i.cond/\i.cond<=13:=by rcases h6 with h6|h6<;>omega
 have g9:i.aq=0:=dG rfl h5
 exact aZ rfl (WT i.rd g0) (WU i.rn g1) (WV i.rm g2) (WW i.ra g3) (WX i.au g4) (WY i.kind g5) ((bP (K:=33) (k:=xR 33 i 5) (by decide)).trans (WZ i.bE g6)) (W0 i.set g7) (W6 i.cond g8) (W_ i.aq g9)
theorem Xs (t:Int) (h:0<=t/\t < 33554432) (h2:t % 2=0):0+aa t 24 1*2 ^ 24+aa t 12 10*2 ^ 12+aa t 23 1*2 ^ 23+aa t 22 1*2 ^ 22+aa t 1 11*2 ^ 1=t:=by
 unfold aa; rw[if_neg (by omega)]; omega
theorem FR (v:Int) (h:-16777216<=v/\v<=16777214/\v % 2=0):(0<=aa v 0 25/\aa v 0 25 < 33554432)/\aa v 0 25 % 2=0/\dw (aa v 0 25) 25=v:=by
 have e:aa v 0 25=if v < 0 then v+33554432 else v:=by unfold aa; split<;>omega
 have e2:∀ m:Int,0<=m->aa m 24 1=m / 16777216 % 2:=fun m hm=>by unfold aa; rw[if_neg (by omega)]; rfl
 have hb:0<=aa v 0 25/\aa v 0 25 < 33554432:=by rw[e]; split<;>omega
 refine⟨hb,by rw[e]; split<;>omega,?_⟩
 unfold dw
 rw[show (25 - 1:Nat)=24 from rfl,e2 _ hb.1,e]
 have p:(2:Int) ^ 25=33554432:=by decide
 rw[p]
 split<;>split<;>omega
theorem OG (i:IN) (hs:ab i.form=34) (hr:aW i (eF 34)):{de 34 (eh i) with form:=i.form}=i:=by
 obtain⟨hf,h1,h2,h3,h4,h5,h6,h7,h8,h9,dd⟩:=hr
 have g0:=aB (r:=i.rd) h1
 have g1:=aB (r:=i.rn) h2
 have g2:=aB (r:=i.rm) h3
 have g3:=aB (r:=i.ra) h4
 have g4:-16777216<=i.au/\i.au<=16777214/\i.au % 2=0:=e9 (s:=2) (by decide) h7
 have g5:i.kind=0:=(bo rfl h9).1
 have g6:i.bE=0:=bO (bo rfl h9).2
 have g7:i.set=0:=h8.elim id fun e=>absurd (show false=true from e.2) Bool.false_ne_true
 have g8:i.cond=0:=h6.elim id fun e=>absurd (show false=true from e.1) Bool.false_ne_true
 have g9:i.aq=0:=dG rfl h5
 obtain⟨hb,he,hl⟩:=FR i.au g4
 rw[sh34 hs]
 have hn:=pM hb
 have h2':bL (aa i.au 0 25) 2 % 2=0:=by have:=(mS hb).2.1; omega
 have e34:∀ x:Int,rT 34 i.form x=dw (bL x 2) 25:=fun x=>by
  unfold rT; rw[if_neg (by decide),if_neg (by decide),if_neg (by decide),if_pos rfl]
 have hi:rT 34 i.form (0+aa (bL (aa i.au 0 25) 2) 24 1*2 ^ 24+aa (bL (aa i.au 0 25) 2) 12 10*2 ^ 12+aa (bL (aa i.au 0 25) 2) 23 1*2 ^ 23+aa (bL (aa i.au 0 25) 2) 22 1*2 ^ 22+aa (bL (aa i.au 0 25) 2) 1 11*2 ^ 1)=i.au:=by
  rw[e34,Xs _ hn h2',FO hb,hl]
 exact aZ rfl (Xa i.rd g0) (Xb i.rn g1) (Xc i.rm g2) (Xd i.ra g3) hi (Xe i.kind g5) ((bP (K:=34) (k:=0) (by decide)).trans (Xf i.bE g6)) (Xg i.set g7) (Xh i.cond g8) (Xi i.aq g9)
theorem OH {s:Int} (h:1<=s/\s<=34):s=1\/s=2\/s=3\/s=4\/s=5\/s=6\/s=7\/s=8\/s=9\/s=10\/s=11\/s=12\/s=13\/s=14\/s=15\/s=16\/s=17\/s=18\/s=19\/s=20\/s=21\/s=22\/s=23\/s=24\/s=25\/s=26\/s=27\/s=28\/s=29\/s=30\/s=31\/s=32\/s=33\/s=34:=by omega
theorem Ki (i:IN) (h:ab i.form=32) (hr:0<=i.rm/\i.rm < 15):aa (bx i) 0 4=aa (eh i).rm 0 4:=by
 have hx:((2,0,0,4):Nat × Nat × Nat × Nat)∈ax (ab i.form):=by rw[h]; decide
 exact wg i hx
theorem back (i:IN) (h:bV i) (hg:i.aq<=9223372036854775807):aX i.form (bx i)=i:=by
 rw[FP i fun Oe=>Ki i Oe (ue h).2.2.1]
 have hr:=h
 unfold bV at hr
 rcases OH (mw h.1) with hs|hs|hs|hs|hs|hs|hs|hs|hs|hs|hs|hs|hs|hs|hs|hs|hs|hs|hs|hs|hs|hs|hs|hs|hs|hs|hs|hs|hs|hs|hs|hs|hs|hs
 ·rw[hs] at hr ⊢; rw[aH (by rw[hs]; decide)]; exact Xj i hs hr hg
 ·rw[hs] at hr ⊢; rw[aH (by rw[hs]; decide)]; exact Xk i hs hr hg
 ·rw[hs] at hr ⊢; rw[aH (by rw[hs]; decide)]; exact Xl i hs hr hg
 ·rw[hs] at hr ⊢; rw[aH (by rw[hs]; decide)]; exact Xm i hs hr hg
 ·rw[hs] at hr ⊢; rw[aH (by rw[hs]; decide)]; exact Xn i hs hr hg
 ·rw[hs] at hr ⊢; rw[aH (by rw[hs]; decide)]; exact Xo i hs hr hg
 ·rw[hs] at hr ⊢; rw[aH (by rw[hs]; decide)]; exact Xp i hs hr hg
 ·rw[hs] at hr ⊢; rw[aH (by rw[hs]; decide)]; exact Xq i hs hr hg
 ·rw[hs] at hr ⊢; rw[aH (by rw[hs]; decide)]; exact Xr i hs hr hg
 ·rw[hs] at hr ⊢; rw[aH (by rw[hs]; decide)]; exact Of i hs hr hg
 ·rw[hs] at hr ⊢; rw[aH (by rw[hs]; decide)]; exact Og i hs hr hg
 ·rw[hs] at hr ⊢; rw[aH (by rw[hs]; decide)]; exact Oh i hs hr hg
 ·rw[hs] at hr ⊢; rw[aH (by rw[hs]; decide)]; exact Oi i hs hr hg
 ·rw[hs] at hr ⊢; rw[aH (by rw[hs]; decide)]; exact Oj i hs hr hg
 ·rw[hs] at hr ⊢; rw[aH (by rw[hs]; decide)]; exact Ok i hs hr hg
 ·rw[hs] at hr ⊢; rw[aH (by rw[hs]; decide)]; exact Ol i hs hr hg
 ·rw[hs] at hr ⊢; rw[aH (by rw[hs]; decide)]; exact Om i hs hr hg
 ·rw[hs] at hr ⊢; rw[aH (by rw[hs]; decide)]; exact On i hs hr hg
 ·rw[hs] at hr ⊢; rw[aH (by rw[hs]; decide)]; exact Oo i hs hr hg
 ·rw[hs] at hr ⊢; rw[aH (by rw[hs]; decide)]; exact Oq i hs hr hg
 ·rw[hs] at hr ⊢; rw[aH (by rw[hs]; decide)]; exact Ot i hs hr hg
 ·rw[hs] at hr ⊢; rw[aH (by rw[hs]; decide)]; exact Ou i hs hr hg
 ·rw[hs] at hr ⊢; rw[aH (by rw[hs]; decide)]; exact Ov i hs hr hg
 ·rw[hs] at hr ⊢; rw[aH (by rw[hs]; decide)]; exact Ow i hs hr hg
 ·rw[hs] at hr ⊢; rw[aH (by rw[hs]; decide)]; exact Ox i hs hr hg
 ·rw[hs] at hr ⊢; rw[aH (by rw[hs]; decide)]; exact Oy i hs hr hg
 ·rw[hs] at hr ⊢; rw[aH (by rw[hs]; decide)]; exact Oz i hs hr hg
 ·rw[hs] at hr ⊢; rw[aH (by rw[hs]; decide)]; exact OA i hs hr hg
 ·rw[hs] at hr ⊢; rw[aH (by rw[hs]; decide)]; exact OB i hs hr hg
 ·rw[hs] at hr ⊢; rw[aH (by rw[hs]; decide)]; exact OC i hs hr hg
 ·rw[hs] at hr ⊢; rw[aH (by rw[hs]; decide)]; exact OD i hs hr hg
 ·rw[hs] at hr ⊢; rw[aH (by rw[hs]; decide)]; exact OE i hs hr hg
 ·rw[hs] at hr ⊢; rw[aH (by rw[hs]; decide)]; exact OF i hs hr hg
 ·rw[hs] at hr ⊢; exact OG i hs hr
def Xt (f w:Int):IN:=⟨f,0+aa w 0 3*2 ^ 0,0,0+aa w 3 3*2 ^ 0,0,if 1 < f/\0+aa w 6 5*2 ^ 0=0 then 32 else 0+aa w 6 5*2 ^ 0,0,0,0,0,0⟩
theorem rd_1 {f w:Int} (h:ab f=1):aX f w=Xt f w:=by
 unfold aX; rw[h]
 exact aZ rfl rfl rfl rfl rfl (Q8) rfl (bP (K:=1) (k:=xV 1 w 5) (by decide)) rfl rfl rfl
def Xu (f w:Int):IN:=⟨f,0+aa w 0 3*2 ^ 0,0+aa w 3 3*2 ^ 0,0+aa w 6 3*2 ^ 0,0,0,0,0,0,0,0⟩
theorem rd_2 {f w:Int} (h:ab f=2):aX f w=Xu f w:=by
 unfold aX; rw[h]
 exact aZ rfl rfl rfl rfl rfl (bu (K:=2) (f:=f) (by decide)) rfl (bP (K:=2) (k:=xV 2 w 5) (by decide)) rfl rfl rfl
def Xv (f w:Int):IN:=⟨f,0+aa w 0 3*2 ^ 0,0+aa w 3 3*2 ^ 0,0,0,0+aa w 6 3*2 ^ 0,0,0,0,0,0⟩
theorem rd_3 {f w:Int} (h:ab f=3):aX f w=Xv f w:=by
 unfold aX; rw[h]
 exact aZ rfl rfl rfl rfl rfl (bu (K:=3) (f:=f) (by decide)) rfl (bP (K:=3) (k:=xV 3 w 5) (by decide)) rfl rfl rfl
def Xw (f w:Int):IN:=⟨f,0+aa w 8 3*2 ^ 0,0,0,0,0+aa w 0 8*2 ^ 0,0,0,0,0,0⟩
theorem rd_4 {f w:Int} (h:ab f=4):aX f w=Xw f w:=by
 unfold aX; rw[h]
 exact aZ rfl rfl rfl rfl rfl (bu (K:=4) (f:=f) (by decide)) rfl (bP (K:=4) (k:=xV 4 w 5) (by decide)) rfl rfl rfl
def Xx (f w:Int):IN:=⟨f,0+aa w 0 3*2 ^ 0,0,0+aa w 3 3*2 ^ 0,0,0,0,0,0,0,0⟩
theorem rd_5 {f w:Int} (h:ab f=5):aX f w=Xx f w:=by
 unfold aX; rw[h]
 exact aZ rfl rfl rfl rfl rfl (bu (K:=5) (f:=f) (by decide)) rfl (bP (K:=5) (k:=xV 5 w 5) (by decide)) rfl rfl rfl
def Xy (f w:Int):IN:=⟨f,0+aa w 7 1*2 ^ 3+aa w 0 3*2 ^ 0,0,0+aa w 3 4*2 ^ 0,0,0,0,0,0,0,0⟩
theorem rd_6 {f w:Int} (h:ab f=6):aX f w=Xy f w:=by
 unfold aX; rw[h]
 exact aZ rfl rfl rfl rfl rfl (bu (K:=6) (f:=f) (by decide)) rfl (bP (K:=6) (k:=xV 6 w 5) (by decide)) rfl rfl rfl
def Xz (f w:Int):IN:=⟨f,0,0,0+aa w 3 4*2 ^ 0,0,0,0,0,0,0,0⟩
theorem rd_7 {f w:Int} (h:ab f=7):aX f w=Xz f w:=by
 unfold aX; rw[h]
 exact aZ rfl rfl rfl rfl rfl (bu (K:=7) (f:=f) (by decide)) rfl (bP (K:=7) (k:=xV 7 w 5) (by decide)) rfl rfl rfl
def XA (f w:Int):IN:=⟨f,0+aa w 8 3*2 ^ 0,0,0,0,0+aa w 0 8*2 ^ 2,0,0,0,0,0⟩
theorem rd_8 {f w:Int} (h:ab f=8):aX f w=XA f w:=by
 unfold aX; rw[h]
 exact aZ rfl rfl rfl rfl rfl (bu (K:=8) (f:=f) (by decide)) rfl (bP (K:=8) (k:=xV 8 w 5) (by decide)) rfl rfl rfl
def XB (f w:Int):IN:=⟨f,0+aa w 0 3*2 ^ 0,0+aa w 3 3*2 ^ 0,0,0,0+aa w 6 5*2 ^ 2,0,0,0,0,0⟩
theorem rd_9 {f w:Int} (h:ab f=9):aX f w=XB f w:=by
 unfold aX; rw[h]
 exact aZ rfl rfl rfl rfl rfl (bu (K:=9) (f:=f) (by decide)) rfl (bP (K:=9) (k:=xV 9 w 5) (by decide)) rfl rfl rfl
def Kj (f w:Int):IN:=⟨f,0,0,0,0,0+aa w 0 7*2 ^ 2,0,0,0,0,0⟩
theorem rd_10 {f w:Int} (h:ab f=10):aX f w=Kj f w:=by
 unfold aX; rw[h]
 exact aZ rfl rfl rfl rfl rfl (bu (K:=10) (f:=f) (by decide)) rfl (bP (K:=10) (k:=xV 10 w 5) (by decide)) rfl rfl rfl
def Kk (f w:Int):IN:=⟨f,0,0,0,0,0,0,0,0,0,0+aa w 8 1*2 ^ 14+aa w 0 8*2 ^ 0⟩
theorem rd_11 {f w:Int} (h:ab f=11):aX f w=Kk f w:=by
 unfold aX; rw[h]
 exact aZ rfl rfl rfl rfl rfl (bu (K:=11) (f:=f) (by decide)) rfl (bP (K:=11) (k:=xV 11 w 5) (by decide)) rfl rfl rfl
def Kl (f w:Int):IN:=⟨f,0,0,0,0,0,0,0,0,0,0+aa w 8 1*2 ^ 15+aa w 0 8*2 ^ 0⟩
theorem rd_12 {f w:Int} (h:ab f=12):aX f w=Kl f w:=by
 unfold aX; rw[h]
 exact aZ rfl rfl rfl rfl rfl (bu (K:=12) (f:=f) (by decide)) rfl (bP (K:=12) (k:=xV 12 w 5) (by decide)) rfl rfl rfl
def Km (f w:Int):IN:=⟨f,0,0,0,0,0,0,0,0,0,0⟩
theorem rd_13 {f w:Int} (h:ab f=13):aX f w=Km f w:=by
 unfold aX; rw[h]
 exact aZ rfl rfl rfl rfl rfl (bu (K:=13) (f:=f) (by decide)) rfl (bP (K:=13) (k:=xV 13 w 5) (by decide)) rfl rfl rfl
def Kn (f w:Int):IN:=⟨f,0,0,0,0,0+aa w 0 8*2 ^ 0,0,0,0,0,0⟩
theorem rd_14 {f w:Int} (h:ab f=14):aX f w=Kn f w:=by
 unfold aX; rw[h]
 exact aZ rfl rfl rfl rfl rfl (bu (K:=14) (f:=f) (by decide)) rfl (bP (K:=14) (k:=xV 14 w 5) (by decide)) rfl rfl rfl
def Ko (f w:Int):IN:=⟨f,0,0,0,0,dw (0+aa w 0 8*2 ^ 1) 9,0,0,0,0+aa w 8 4*2 ^ 0,0⟩
theorem rd_15 {f w:Int} (h:ab f=15):aX f w=Ko f w:=by
 unfold aX; rw[h]
 exact aZ rfl rfl rfl rfl rfl (rfl) rfl (bP (K:=15) (k:=xV 15 w 5) (by decide)) rfl rfl rfl
def Kp (f w:Int):IN:=⟨f,0,0,0,0,dw (0+aa w 0 11*2 ^ 1) 12,0,0,0,0,0⟩
theorem rd_16 {f w:Int} (h:ab f=16):aX f w=Kp f w:=by
 unfold aX; rw[h]
 exact aZ rfl rfl rfl rfl rfl (rfl) rfl (bP (K:=16) (k:=xV 16 w 5) (by decide)) rfl rfl rfl
def Kr (f w:Int):IN:=⟨f,0+aa w 8 4*2 ^ 0,0,0,0,0+aa w 26 1*2 ^ 11+aa w 16 4*2 ^ 12+aa w 12 3*2 ^ 8+aa w 0 8*2 ^ 0,0,0,0,0,0⟩
theorem rd_17 {f w:Int} (h:ab f=17):aX f w=Kr f w:=by
 unfold aX; rw[h]
 exact aZ rfl rfl rfl rfl rfl (bu (K:=17) (f:=f) (by decide)) rfl (bP (K:=17) (k:=xV 17 w 5) (by decide)) rfl rfl rfl
def D_ (f w:Int):IN:=⟨f,0+aa w 8 4*2 ^ 0,0+aa w 16 4*2 ^ 0,0,0,0+aa w 26 1*2 ^ 11+aa w 12 3*2 ^ 8+aa w 0 8*2 ^ 0,0,0,0+aa w 20 1*2 ^ 0,0,0⟩
theorem rd_18 {f w:Int} (h:ab f=18):aX f w=D_ f w:=by
 unfold aX; rw[h]
 exact aZ rfl rfl rfl rfl rfl (bu (K:=18) (f:=f) (by decide)) rfl (bP (K:=18) (k:=xV 18 w 5) (by decide)) rfl rfl rfl
def Ea (f w:Int):IN:=⟨f,0+aa w 8 4*2 ^ 0,0,0,0,0+aa w 26 1*2 ^ 11+aa w 12 3*2 ^ 8+aa w 0 8*2 ^ 0,0,0,0+aa w 20 1*2 ^ 0,0,0⟩
theorem rd_19 {f w:Int} (h:ab f=19):aX f w=Ea f w:=by
 unfold aX; rw[h]
 exact aZ rfl rfl rfl rfl rfl (bu (K:=19) (f:=f) (by decide)) rfl (bP (K:=19) (k:=xV 19 w 5) (by decide)) rfl rfl rfl
def Eb (f w:Int):IN:=⟨f,0,0+aa w 16 4*2 ^ 0,0,0,0+aa w 26 1*2 ^ 11+aa w 12 3*2 ^ 8+aa w 0 8*2 ^ 0,0,0,0,0,0⟩
theorem rd_20 {f w:Int} (h:ab f=20):aX f w=Eb f w:=by
 unfold aX; rw[h]
 exact aZ rfl rfl rfl rfl rfl (bu (K:=20) (f:=f) (by decide)) rfl (bP (K:=20) (k:=xV 20 w 5) (by decide)) rfl rfl rfl
def Ec (f w:Int):IN:=⟨f,0+aa w 8 4*2 ^ 0,0+aa w 16 4*2 ^ 0,0+aa w 0 4*2 ^ 0,0,0,0+aa w 4 2*2 ^ 0,if 0+aa w 12 3*2 ^ 2+aa w 6 2*2 ^ 0=0/\(0+aa w 4 2*2 ^ 0=1\/0+aa w 4 2*2 ^ 0=2) then 32 else 0+aa w 12 3*2 ^ 2+aa w 6 2*2 ^ 0,0+aa w 20 1*2 ^ 0,0,0⟩
theorem rd_21 {f w:Int} (h:ab f=21):aX f w=Ec f w:=by
 unfold aX; rw[h]
 exact aZ rfl rfl rfl rfl rfl (bu (K:=21) (f:=f) (by decide)) rfl (wk (K:=21) (by decide)) rfl rfl rfl
def Ed (f w:Int):IN:=⟨f,0+aa w 8 4*2 ^ 0,0,0+aa w 0 4*2 ^ 0,0,0,0+aa w 4 2*2 ^ 0,if 0+aa w 12 3*2 ^ 2+aa w 6 2*2 ^ 0=0/\(0+aa w 4 2*2 ^ 0=1\/0+aa w 4 2*2 ^ 0=2) then 32 else 0+aa w 12 3*2 ^ 2+aa w 6 2*2 ^ 0,0+aa w 20 1*2 ^ 0,0,0⟩
theorem rd_22 {f w:Int} (h:ab f=22):aX f w=Ed f w:=by
 unfold aX; rw[h]
 exact aZ rfl rfl rfl rfl rfl (bu (K:=22) (f:=f) (by decide)) rfl (wk (K:=22) (by decide)) rfl rfl rfl
def Ee (f w:Int):IN:=⟨f,0,0+aa w 16 4*2 ^ 0,0+aa w 0 4*2 ^ 0,0,0,0+aa w 4 2*2 ^ 0,if 0+aa w 12 3*2 ^ 2+aa w 6 2*2 ^ 0=0/\(0+aa w 4 2*2 ^ 0=1\/0+aa w 4 2*2 ^ 0=2) then 32 else 0+aa w 12 3*2 ^ 2+aa w 6 2*2 ^ 0,0,0,0⟩
theorem rd_23 {f w:Int} (h:ab f=23):aX f w=Ee f w:=by
 unfold aX; rw[h]
 exact aZ rfl rfl rfl rfl rfl (bu (K:=23) (f:=f) (by decide)) rfl (wk (K:=23) (by decide)) rfl rfl rfl
def Ef (f w:Int):IN:=⟨f,0+aa w 8 4*2 ^ 0,0+aa w 16 4*2 ^ 0,0,0,0+aa w 26 1*2 ^ 11+aa w 12 3*2 ^ 8+aa w 0 8*2 ^ 0,0,0,0,0,0⟩
theorem rd_24 {f w:Int} (h:ab f=24):aX f w=Ef f w:=by
 unfold aX; rw[h]
 exact aZ rfl rfl rfl rfl rfl (bu (K:=24) (f:=f) (by decide)) rfl (bP (K:=24) (k:=xV 24 w 5) (by decide)) rfl rfl rfl
def Ks (f w:Int):IN:=⟨f,0+aa w 12 4*2 ^ 0,0+aa w 16 4*2 ^ 0,0,0,0+aa w 0 12*2 ^ 0,0,0,0,0,0⟩
theorem rd_25 {f w:Int} (h:ab f=25):aX f w=Ks f w:=by
 unfold aX; rw[h]
 exact aZ rfl rfl rfl rfl rfl (bu (K:=25) (f:=f) (by decide)) rfl (bP (K:=25) (k:=xV 25 w 5) (by decide)) rfl rfl rfl
def Ku (f w:Int):IN:=⟨f,0+aa w 12 4*2 ^ 0,0+aa w 16 4*2 ^ 0,0+aa w 0 4*2 ^ 0,0,0,0,0+aa w 4 2*2 ^ 0,0,0,0⟩
theorem rd_26 {f w:Int} (h:ab f=26):aX f w=Ku f w:=by
 unfold aX; rw[h]
 exact aZ rfl rfl rfl rfl rfl (bu (K:=26) (f:=f) (by decide)) rfl (bP (K:=26) (k:=xV 26 w 5) (by decide)) rfl rfl rfl
def Kv (f w:Int):IN:=⟨f,0+aa w 8 4*2 ^ 0,0+aa w 16 4*2 ^ 0,0+aa w 0 4*2 ^ 0,0,0,0,0,0+aa w 20 1*2 ^ 0,0,0⟩
theorem rd_27 {f w:Int} (h:ab f=27):aX f w=Kv f w:=by
 unfold aX; rw[h]
 exact aZ rfl rfl rfl rfl rfl (bu (K:=27) (f:=f) (by decide)) rfl (bP (K:=27) (k:=xV 27 w 5) (by decide)) rfl rfl rfl
def Kw (f w:Int):IN:=⟨f,0+aa w 8 4*2 ^ 0,0+aa w 16 4*2 ^ 0,0+aa w 0 4*2 ^ 0,0,0,0,0,0,0,0⟩
theorem rd_28 {f w:Int} (h:ab f=28):aX f w=Kw f w:=by
 unfold aX; rw[h]
 exact aZ rfl rfl rfl rfl rfl (bu (K:=28) (f:=f) (by decide)) rfl (bP (K:=28) (k:=xV 28 w 5) (by decide)) rfl rfl rfl
def Ky (f w:Int):IN:=⟨f,0+aa w 8 4*2 ^ 0,0+aa w 16 4*2 ^ 0,0+aa w 0 4*2 ^ 0,0+aa w 12 4*2 ^ 0,0,0,0,0,0,0⟩
theorem rd_29 {f w:Int} (h:ab f=29):aX f w=Ky f w:=by
 unfold aX; rw[h]
 exact aZ rfl rfl rfl rfl rfl (bu (K:=29) (f:=f) (by decide)) rfl (bP (K:=29) (k:=xV 29 w 5) (by decide)) rfl rfl rfl
def Kz (f w:Int):IN:=⟨f,0+aa w 8 4*2 ^ 0,0+aa w 16 4*2 ^ 0,0+aa w 0 4*2 ^ 0,0+aa w 12 4*2 ^ 0,0,0,0,0,0,0⟩
theorem rd_30 {f w:Int} (h:ab f=30):aX f w=Kz f w:=by
 unfold aX; rw[h]
 exact aZ rfl rfl rfl rfl rfl (bu (K:=30) (f:=f) (by decide)) rfl (bP (K:=30) (k:=xV 30 w 5) (by decide)) rfl rfl rfl
def KA (f w:Int):IN:=⟨f,0+aa w 12 4*2 ^ 0,0+aa w 16 4*2 ^ 0,0+aa w 0 4*2 ^ 0,0+aa w 8 4*2 ^ 0,0,0,0,0,0,0⟩
theorem rd_31 {f w:Int} (h:ab f=31):aX f w=KA f w:=by
 unfold aX; rw[h]
 exact aZ rfl rfl rfl rfl rfl (bu (K:=31) (f:=f) (by decide)) rfl (bP (K:=31) (k:=xV 31 w 5) (by decide)) rfl rfl rfl
def KB (f w:Int):IN:=⟨f,0+aa w 8 4*2 ^ 0,0,aa w 0 4,0,0,0,0,0,0,0⟩
theorem rd_32 {f w:Int} (h:ab f=32):aX f w=KB f w:=by
 unfold aX; rw[h]
 exact aZ rfl rfl rfl rfl rfl (bu (K:=32) (f:=f) (by decide)) rfl (bP (K:=32) (k:=xV 32 w 5) (by decide)) rfl rfl rfl
def KC (f w:Int):IN:=⟨f,0,0,0,0,dw (0+aa w 26 1*2 ^ 20+aa w 16 6*2 ^ 12+aa w 13 1*2 ^ 18+aa w 11 1*2 ^ 19+aa w 0 11*2 ^ 1) 21,0,0,0,0+aa w 22 4*2 ^ 0,0⟩
theorem rd_33 {f w:Int} (h:ab f=33):aX f w=KC f w:=by
 unfold aX; rw[h]
 exact aZ rfl rfl rfl rfl rfl (rfl) rfl (bP (K:=33) (k:=xV 33 w 5) (by decide)) rfl rfl rfl
def KD (f w:Int):IN:=⟨f,0,0,0,0,dw (bL (0+aa w 26 1*2 ^ 24+aa w 16 10*2 ^ 12+aa w 13 1*2 ^ 23+aa w 11 1*2 ^ 22+aa w 0 11*2 ^ 1) 2) 25,0,0,0,0,0⟩
theorem rd_34 {f w:Int} (h:ab f=34):aX f w=KD f w:=by
 unfold aX; rw[h]
 exact aZ rfl rfl rfl rfl rfl (rfl) rfl (bP (K:=34) (k:=xV 34 w 5) (by decide)) rfl rfl rfl
def bQ (x:Int):Prop:=0<=x/\x<=4294967295
theorem kC {x:Int} (hx:0<=x) (l w:Nat):Ap x l w=aa x l w:=by unfold Ap aa; rw[if_neg (by omega)]
theorem AA (n:Nat) (h:n<=64):Ev.aQ .i64 (n:Int)=2 ^ n:=by
 unfold Ev.aQ
 rw[Int.toNat_natCast,show min n (IntKind.bits .i64)=n from Nat.min_eq_left h]
 norm_cast
theorem q1:Ev.aQ .i64 1=2:=by decide
theorem q4:Ev.aQ .i64 4=16:=by decide
theorem q8:Ev.aQ .i64 8=256:=by decide
theorem q11:Ev.aQ .i64 11=2048:=by decide
theorem YQ:Ev.aQ .i64 12=4096:=by decide
theorem q18:Ev.aQ .i64 18=262144:=by decide
theorem q19:Ev.aQ .i64 19=524288:=by decide
theorem q20:Ev.aQ .i64 20=1048576:=by decide
theorem q22:Ev.aQ .i64 22=4194304:=by decide
theorem q23:Ev.aQ .i64 23=8388608:=by decide
theorem q24:Ev.aQ .i64 24=16777216:=by decide
theorem q3:Ev.aQ .i64 3=8:=by decide
theorem r1:Ev.aQ .u32 1=2:=by decide
theorem r3:Ev.aQ .u32 3=8:=by decide
theorem r4:Ev.aQ .u32 4=16:=by decide
theorem r6:Ev.aQ .u32 6=64:=by decide
theorem r7:Ev.aQ .u32 7=128:=by decide
theorem r8:Ev.aQ .u32 8=256:=by decide
theorem r11:Ev.aQ .u32 11=2048:=by decide
theorem Q9:Ev.aQ .u32 12=4096:=by decide
theorem r13:Ev.aQ .u32 13=8192:=by decide
theorem Q_:Ev.aQ .u32 16=65536:=by decide
theorem r20:Ev.aQ .u32 20=1048576:=by decide
theorem r22:Ev.aQ .u32 22=4194304:=by decide
theorem r26:Ev.aQ .u32 26=67108864:=by decide
theorem aJ (x:Int) (l w:Nat) (hx:bQ x) (hw:1<=w/\w<=31) (hl:l<=31):al gT 200 [.int .u32 x,.int .i64 ((l:Int)+w - 1),.int .i64 l] (.int .i64 (aa x l w)):=by
 have b:=ae x l w
 have p:=ud w hw.2
 have c:=kC hx.1 l w
 refine Spec.enter aA aal 100 Tryz.func200 rfl (by kernel_rfl) ?_
 refine (kA x l w hx hw hl).u ?_
 rw[c]
 refine li ?_
 exact aF rfl
theorem jX (n:Int) (b:Nat) (hb:b<=40) (hn:0<=n/\n < 2 ^ (b+1)):al gT 203 [.int .i64 n,.int .i64 b] (.int .i64 (dw n (b+1))):=by
 have p1:=AA b (by omega)
 have p2:=AA (b+1) (by omega)
 have e:(((b+1:Nat)):Int)=(b:Int)+1:=rfl
 rw[e] at p2
 have d1:=As b (by omega)
 have d2:=As (b+1) (by omega)
 have ep:(2:Int) ^ (b+1)=2 ^ b*2:=Int.pow_succ 2 b
 have d3:(2:Int) ^ (b+1)<=2199023255552:=by
  have h1:(2 ^ (b+1):Nat)<=2 ^ 41:=Nat.pow_le_pow_right (by omega) (by omega)
  have h3:=cQ (b+1)
  omega
 obtain⟨q,hq⟩:∃ q,q=n / 2 ^ b:=⟨_,rfl⟩
 have q0:0<=q:=by rw[hq]; exact Int.ediv_nonneg hn.1 (by omega)
 have q1:q < 2:=by rw[hq]; exact Int.ediv_lt_of_lt_mul (by omega) (by omega)
 refine Spec.enter aA aao 100 Tryz.func203 rfl (by kernel_rfl) ?_
 refine⟨by omega,?_⟩
 refine li ?_ (show _<=(b:Int)+1/\(b:Int)+1<=_ by omega)
 have hm:n / 2 ^ b*2 ^ (b+1)=0\/n / 2 ^ b*2 ^ (b+1)=2 ^ (b+1):=by
  rw[← hq]
  have:q=0\/q=1:=by omega
  rcases this with h|h<;>rw[h]<;>omega
 refine⟨by omega,.inl ⟨bf (show _<=n / Ev.aQ .i64 (b:Int)*Ev.aQ .i64 ((b:Int)+1)/\n / Ev.aQ .i64 (b:Int)*Ev.aQ .i64 ((b:Int)+1)<=_ by rw[p1,p2]; omega),?_⟩⟩
 refine li ?_ (show _<=n - n / Ev.aQ .i64 (b:Int)*Ev.aQ .i64 ((b:Int)+1)/\n - n / Ev.aQ .i64 (b:Int)*Ev.aQ .i64 ((b:Int)+1)<=_ by rw[p1,p2]; omega)
 refine aF ?_
 show n - n / Ev.aQ .i64 (b:Int)*Ev.aQ .i64 ((b:Int)+1)=dw n (b+1)
 have eb:aa n b 1=q:=by
  unfold aa
  rw[if_neg (by omega),← hq,show (2:Int) ^ 1=2 from rfl]
  omega
 unfold dw
 rw[p1,p2,Nat.add_sub_cancel,eb,← hq]
 have:q=0\/q=1:=by omega
 rcases this with h|h<;>rw[h]
 ·rw[if_neg (by decide)]; omega
 ·rw[if_pos rfl]; omega
theorem fw (k b:Int):al gT 201 [.int .i64 k,.int .i64 b] (.int .i64 (if b=0/\(k=1\/k=2) then 32 else b)):=by
 refine Spec.enter aA aam 100 Tryz.func201 rfl (by kernel_rfl) ?_
 repeat' ((conv=>whnf); first|(refine (And.intro (fun _=>?_) (fun _=>?_):(_->_)/\(_->_))<;>(first|(exfalso; first|contradiction|omega)|skip))|refine Or.inl (And.intro (by first|exact bf (by omega)|exact ah (by omega)|exact gM (by omega)|exact j7 (by omega)) ?_)|(refine And.intro (show (_:Int)≠0 by omega) (Or.inl (And.intro (show (0:Int)<=_ by omega) (And.intro (show (0:Int) < _ by omega) ?_))))|(refine And.intro (show (_:Int)≠0 by omega) (Or.inl (And.intro (show (0:Int)<=_ by omega) (And.intro (by first|exact (show (_:Int)<=9223372036854775807 by omega)|exact (show (_:Int)<=4294967295 by omega)) (And.intro (show (0:Int) < _ by omega) ?_)))))|(refine aF ?_; (show b=_); rw[if_neg (by omega)])|(refine aF ?_; (show (32:Int)=_); rw[if_pos (by omega)])|(intro _))
def bY (i:IN) (w:Int):IN:={i with set:=aa w 20 1,rn:=aa w 16 4,rd:=aa w 8 4,rm:=aa w 0 4}
theorem bw (i:IN) (w:Int) (hw:bQ w):al gT 204 [dE i,.int .u32 w] (dE (bY i w)):=by
 refine Spec.enter aA aap 100 Tryz.func204 rfl (by kernel_rfl) ?_
 refine (aJ w 20 1 hw (by decide) (by decide)).u ?_
 refine (aJ w 16 4 hw (by decide) (by decide)).u ?_
 refine (aJ w 8 4 hw (by decide) (by decide)).u ?_
 refine (aJ w 0 4 hw (by decide) (by decide)).u ?_
 exact rA
def cD (i:IN) (w:Int):IN:={i with rd:=aa w 0 3,rn:=aa w 3 3}
theorem n7 (i:IN) (w:Int) (hw:bQ w):al gT 202 [dE i,.int .u32 w] (dE (cD i w)):=by
 refine Spec.enter aA aan 100 Tryz.func202 rfl (by kernel_rfl) ?_
 refine (aJ w 0 3 hw (by decide) (by decide)).u ?_
 refine (aJ w 3 3 hw (by decide) (by decide)).u ?_
 exact rA
theorem mU (a b:Int) (ha:a=0\/a=1) (hb:b=0\/b=1):al gT 281 [.int .u32 a,.int .u32 b] (.int .u32 (if a=b then 1 else 0)):=by
 refine Spec.enter aA aaj 100 Tryz.func281 rfl (by kernel_rfl) ?_
 refine aF ?_
 show bits .xor .u32 (bits .xor .u32 1 a) b=_
 rcases ha with rfl|rfl<;>rcases hb with rfl|rfl<;>decide
theorem FT (a b:Int) (ha:0<=a/\a<=4294967295) (hb:0<=b/\b<=4294967295):bits .or .i64 a b=bits .or .i64 b a:=by
 have ea:a=(a.toNat:Int):=by omega
 have eb:b=(b.toNat:Int):=by omega
 rw[ea,eb,Rm.sr _ _ (by omega) (by omega),Rm.sr _ _ (by omega) (by omega),Nat.or_comm]
def eS (w:Int):Int:=aa w 26 1*2048+aa w 12 3*256+aa w 0 8
theorem XC (w:Int):0<=eS w/\eS w < 4096:=by
 have b1:=ae w 26 1
 have b2:=ae w 12 3
 have b3:=ae w 0 8
 unfold eS; omega
theorem KE (w:Int):bits .or .i64 (bits .or .i64 (aa w 26 1*2048) (aa w 12 3*256)) (aa w 0 8)=eS w:=by
 have b1:=ae w 26 1
 have b2:=ae w 12 3
 have b3:=ae w 0 8
 rw[Rm.dm (aa w 26 1*2048) (aa w 12 3*256) 11 (by omega) (by omega) (by omega) (by omega) (by omega) (by omega)]
 rw[Rm.dm (aa w 26 1*2048+aa w 12 3*256) (aa w 0 8) 8 (by omega) (by omega) (by omega) (by omega) (by omega) (by omega)]
 rfl
theorem pN (w:Int) (hw:bQ w):al gT 205 [.int .u32 w,.ff] (.int .i64 (eS w)):=by
 have b1:=ae w 26 1
 have b2:=ae w 12 3
 have b3:=ae w 0 8
 refine Spec.enter aA SF 100 Tryz.func205 rfl (by kernel_rfl) ?_
 refine (aJ w 26 1 hw (by decide) (by decide)).u ?_
 refine⟨by decide,.inl ⟨bf (by rw[q11]; omega),?_⟩⟩
 refine (aJ w 12 3 hw (by decide) (by decide)).u ?_
 refine⟨by decide,.inl ⟨bf (by rw[q8]; omega),?_⟩⟩
 refine (aJ w 0 8 hw (by decide) (by decide)).u ?_
 refine aF ?_
 show bits .or .i64 (bits .or .i64 (aa w 26 1*Ev.aQ .i64 11) (aa w 12 3*Ev.aQ .i64 8)) (aa w 0 8)=eS w
 rw[q11,q8,KE]
theorem KF (w:Int) (hw:bQ w):al gT 205 [.int .u32 w,.tt] (.int .i64 (eS w+aa w 16 4*4096)):=by
 have b1:=ae w 26 1
 have b2:=ae w 12 3
 have b3:=ae w 0 8
 have b4:=ae w 16 4
 refine Spec.enter aA SF 100 Tryz.func205 rfl (by kernel_rfl) ?_
 refine (aJ w 26 1 hw (by decide) (by decide)).u ?_
 refine⟨by decide,.inl ⟨bf (by rw[q11]; omega),?_⟩⟩
 refine (aJ w 12 3 hw (by decide) (by decide)).u ?_
 refine⟨by decide,.inl ⟨bf (by rw[q8]; omega),?_⟩⟩
 refine (aJ w 0 8 hw (by decide) (by decide)).u ?_
 refine (aJ w 16 4 hw (by decide) (by decide)).u ?_
 refine⟨by decide,.inl ⟨bf (by rw[YQ]; omega),?_⟩⟩
 refine aF ?_
 show bits .or .i64 (bits .or .i64 (bits .or .i64 (aa w 26 1*Ev.aQ .i64 11) (aa w 12 3*Ev.aQ .i64 8)) (aa w 0 8)) (aa w 16 4*Ev.aQ .i64 12)=_
 have nb:=XC w
 rw[q11,q8,YQ,KE,FT _ _ (by omega) (by omega),Rm.dm (aa w 16 4*4096) (eS w) 12 (by omega) (by omega) (by omega) (by omega) (by omega) (by omega)]
 omega
def ui (w:Int):Int:=0+aa w 26 1*2 ^ 20+aa w 16 6*2 ^ 12+aa w 13 1*2 ^ 18+aa w 11 1*2 ^ 19+aa w 0 11*2 ^ 1
theorem AB (w:Int) (hw:bQ w):al gT 208 [.int .u32 w] (.int .i64 (dw (ui w) 21)):=by
 have b1:=ae w 26 1
 have b2:=ae w 11 1
 have b3:=ae w 13 1
 have b4:=ae w 16 6
 have b5:=ae w 0 11
 refine Spec.enter aA aaq 100 Tryz.func208 rfl (by kernel_rfl) ?_
 refine (aJ w 26 1 hw (by decide) (by decide)).u ?_
 refine⟨by decide,.inl ⟨bf (by rw[q20]; omega),?_⟩⟩
 refine (aJ w 11 1 hw (by decide) (by decide)).u ?_
 refine⟨by decide,.inl ⟨bf (by rw[q19]; omega),?_⟩⟩
 refine (aJ w 13 1 hw (by decide) (by decide)).u ?_
 refine⟨by decide,.inl ⟨bf (by rw[q18]; omega),?_⟩⟩
 refine (aJ w 16 6 hw (by decide) (by decide)).u ?_
 refine⟨by decide,.inl ⟨bf (by rw[YQ]; omega),?_⟩⟩
 refine (aJ w 0 11 hw (by decide) (by decide)).u ?_
 refine⟨by decide,.inl ⟨bf (by rw[q1]; omega),?_⟩⟩
 have e:bits .or .i64 (bits .or .i64 (bits .or .i64 (bits .or .i64 (aa w 26 1*Ev.aQ .i64 20) (aa w 11 1*Ev.aQ .i64 19)) (aa w 13 1*Ev.aQ .i64 18)) (aa w 16 6*Ev.aQ .i64 12)) (aa w 0 11*Ev.aQ .i64 1)=ui w:=by
  rw[q20,q19,q18,YQ,q1]
  rw[Rm.dm (aa w 26 1*1048576) (aa w 11 1*524288) 20 (by omega) (by omega) (by omega) (by omega) (by omega) (by omega)]
  rw[Rm.dm (aa w 26 1*1048576+aa w 11 1*524288) (aa w 13 1*262144) 19 (by omega) (by omega) (by omega) (by omega) (by omega) (by omega)]
  rw[Rm.dm (aa w 26 1*1048576+aa w 11 1*524288+aa w 13 1*262144) (aa w 16 6*4096) 18 (by omega) (by omega) (by omega) (by omega) (by omega) (by omega)]
  rw[Rm.dm (aa w 26 1*1048576+aa w 11 1*524288+aa w 13 1*262144+aa w 16 6*4096) (aa w 0 11*2) 12 (by omega) (by omega) (by omega) (by omega) (by omega) (by omega)]
  unfold ui; omega
 have hb:0<=ui w/\ui w < 2 ^ (20+1):=by unfold ui; omega
 refine⟨[],bI,(jX (ui w) 20 (by decide) hb).use (And.intro e (And.intro rfl trivial)) rfl rfl ?_⟩
 exact aF rfl
def kD (w:Int):Int:=0+aa w 26 1*2 ^ 24+aa w 16 10*2 ^ 12+aa w 13 1*2 ^ 23+aa w 11 1*2 ^ 22+aa w 0 11*2 ^ 1
theorem n8 (w:Int):0<=kD w/\kD w < 33554432/\kD w / 16777216=aa w 26 1/\kD w / 8388608 % 2=aa w 13 1/\kD w / 4194304 % 2=aa w 11 1/\kD w % 4194304=aa w 16 10*4096+aa w 0 11*2:=by
 have b1:=ae w 26 1
 have b2:=ae w 11 1
 have b3:=ae w 13 1
 have b4:=ae w 16 10
 have b5:=ae w 0 11
 unfold kD; omega
theorem Cq (w:Int):bL (kD w) 2=aa w 26 1*16777216+(if aa w 13 1=aa w 26 1 then 1 else 0)*8388608+(if aa w 11 1=aa w 26 1 then 1 else 0)*4194304+aa w 16 10*4096+aa w 0 11*2:=by
 obtain⟨h0,h1,h2,h3,h4,h5⟩:=n8 w
 have b:=mS ⟨h0,h1⟩
 have c:=pM ⟨h0,h1⟩
 have e:kD w / 16777216 % 2=aa w 26 1:=by omega
 rw[h2,h3,h4,h5,← h2,h2] at b
 have e2:aa w 26 1 % 2=aa w 26 1:=by omega
 rw[e2] at b
 obtain⟨t,ht⟩:∃ t,t=bL (kD w) 2:=⟨_,rfl⟩
 rw[← ht] at b c ⊢
 clear ht
 obtain⟨k1,k2,k3,k4⟩:=b
 rw[← k3,← k4]
 clear k3 k4
 omega
theorem AD (w:Int) (hw:bQ w):al gT 209 [.int .u32 w] (.int .i64 (dw (bL (kD w) 2) 25)):=by
 have b1:=ae w 26 1
 have b2:=ae w 11 1
 have b3:=ae w 13 1
 have b4:=ae w 16 10
 have b5:=ae w 0 11
 have c1:Ap w 26 1=aa w 26 1:=kC hw.1 26 1
 have c2:Ap w 13 1=aa w 13 1:=kC hw.1 13 1
 have c3:Ap w 11 1=aa w 11 1:=kC hw.1 11 1
 have s2:=mU (aa w 13 1) (aa w 26 1) (lv w 13) (lv w 26)
 have s3:=mU (aa w 11 1) (aa w 26 1) (lv w 11) (lv w 26)
 have k2:=kA w 26 1 hw (by decide) (by decide)
 have k3:=kA w 13 1 hw (by decide) (by decide)
 have k4:=kA w 11 1 hw (by decide) (by decide)
 rw[c1] at k2
 rw[c2] at k3
 rw[c3] at k4
 have jt:=Cq w
 obtain⟨m2,De⟩:∃ m:Int,m=if aa w 13 1=aa w 26 1 then 1 else 0:=⟨_,rfl⟩
 obtain⟨m3,Q2⟩:∃ m:Int,m=if aa w 11 1=aa w 26 1 then 1 else 0:=⟨_,rfl⟩
 have d2:0<=m2/\m2<=1:=by rw[De]; split<;>omega
 have d3:0<=m3/\m3<=1:=by rw[Q2]; split<;>omega
 rw[← De] at s2 jt
 rw[← Q2] at s3 jt
 refine Spec.enter aA aar 100 Tryz.func209 rfl (by kernel_rfl) ?_
 refine k2.u ?_
 refine li ?_
 refine⟨by decide,.inl ⟨bf (by rw[q24]; omega),?_⟩⟩
 refine k3.u ?_
 refine s2.u ?_
 refine li ?_
 refine⟨by decide,.inl ⟨bf (by rw[q23]; omega),?_⟩⟩
 refine k4.u ?_
 refine s3.u ?_
 refine li ?_
 refine⟨by decide,.inl ⟨bf (by rw[q22]; omega),?_⟩⟩
 refine (aJ w 16 10 hw (by decide) (by decide)).u ?_
 refine⟨by decide,.inl ⟨bf (by rw[YQ]; omega),?_⟩⟩
 refine (aJ w 0 11 hw (by decide) (by decide)).u ?_
 refine⟨by decide,.inl ⟨bf (by rw[q1]; omega),?_⟩⟩
 have e:bits .or .i64 (bits .or .i64 (bits .or .i64 (bits .or .i64 (aa w 26 1*Ev.aQ .i64 24) (m2*Ev.aQ .i64 23)) (m3*Ev.aQ .i64 22)) (aa w 16 10*Ev.aQ .i64 12)) (aa w 0 11*Ev.aQ .i64 1)=bL (kD w) 2:=by
  rw[q24,q23,q22,YQ,q1]
  rw[Rm.dm (aa w 26 1*16777216) (m2*8388608) 24 (by omega) (by omega) (by omega) (by omega) (by omega) (by omega)]
  rw[Rm.dm (aa w 26 1*16777216+m2*8388608) (m3*4194304) 23 (by omega) (by omega) (by omega) (by omega) (by omega) (by omega)]
  rw[Rm.dm (aa w 26 1*16777216+m2*8388608+m3*4194304) (aa w 16 10*4096) 22 (by omega) (by omega) (by omega) (by omega) (by omega) (by omega)]
  rw[Rm.dm (aa w 26 1*16777216+m2*8388608+m3*4194304+aa w 16 10*4096) (aa w 0 11*2) 12 (by omega) (by omega) (by omega) (by omega) (by omega) (by omega)]
  rw[jt]
 have hb:=pM ⟨(n8 w).1,(n8 w).2.1⟩
 refine⟨[],bI,(jX (bL (kD w) 2) 24 (by decide) ⟨hb.1,by omega⟩).use (And.intro e (And.intro rfl trivial)) rfl rfl ?_⟩
 exact aF rfl
theorem al.IZ {G:Gx} {f:FuncId} {args:List PV} {r r':PV} (h:al G f args r) (hle:qq r r'):al G f args r':=by
 refine Spec.intro h.run.1 fun I β w vals hH hM hA=>?_
 refine (h.run.2 I β w vals hH hM hA).mono fun e w' ⟨v,r1,S',I',ay,he,hr,hi,HO⟩=>?_
 subst hr
 exact⟨v,r',S',I',ay,he,rfl,hle _ _ _ _ hi,HO⟩
theorem av {f K:Int} (h:ab f=K):al gT 137 [.int .i64 f] (.lit .i64 K) :=
 (gb f).IZ (fp (x:=.int .i64 (ab f)) (y:=.lit .i64 K) h)
def B (v:Int) (l w a:Nat):Nat:=(aa v l w).toNat <<< a
theorem uj (v:Int) {l w a:Nat} (h:w+a<=32):B v l w a < 4294967296:=by
 have b:=ae v l w
 have e:=cQ w
 have h1:(aa v l w).toNat < 2 ^ w:=by omega
 unfold B
 rw[Nat.shiftLeft_eq]
 calc (aa v l w).toNat*2 ^ a < 2 ^ w*2 ^ a:=Nat.mul_lt_mul_of_pos_right h1 (Nat.two_pow_pos a)
  _=2 ^ (w+a):=(Nat.pow_add ..).symm
  _<=2 ^ 32:=Nat.pow_le_pow_right (by omega) h
theorem B_eq (v:Int) (l w a:Nat) (p:Int) (hp:p=2 ^ a):aa v l w*p=((B v l w a:Nat):Int):=by
 have b:=ae v l w
 unfold B
 rw[Nat.shiftLeft_eq,hp,Int.natCast_mul,Int.toNat_of_nonneg b.1,cQ]
def Bh (x:Int) (a:Nat):Prop:=x=(a:Int)/\a < 4294967296
theorem Bh.or {x y:Int} {a b:Nat} (hx:Bh x a) (hy:Bh y b):Bh (bits .or .u32 x y) (a ||| b):=by
 obtain⟨rfl,ha⟩:=hx
 obtain⟨rfl,hb⟩:=hy
 refine⟨?_,Nat.or_lt_two_pow (n:=32) ha hb⟩
 rw[u32_or _ _ (by omega) (by omega) (by omega) (by omega),Int.toNat_natCast,Int.toNat_natCast]
theorem uN (v:Int) (l w a:Nat) {p:Int} (hp:p=2 ^ a) (h:w+a<=32):Bh (aa v l w*p) (B v l w a):=⟨B_eq v l w a p hp,uj v h⟩
theorem ym (v:Int) (l w:Nat) (h:w<=32):Bh (aa v l w) (B v l w 0):=⟨by have:=B_eq v l w 0 1 rfl; rwa [Int.mul_one] at this,uj v h⟩
theorem Eg {v:Int} {w:Nat} (h:0<=v/\v < 2 ^ w):aa v 0 w=v:=by
 unfold aa
 rw[if_neg (by omega),show (2:Int) ^ 0=1 from rfl,Int.ediv_one]
 exact Int.emod_eq_of_lt h.1 h.2
theorem qE (v:Int) (w a:Nat) {p:Int} (hp:p=2 ^ a) (h:w+a<=32) (hv:0<=v/\v < 2 ^ w):Bh (v*p) (B v 0 w a):=by
 have:=uN v 0 w a hp h
 rwa [Eg hv] at this
theorem uk (v:Int) (w:Nat) (h:w<=32) (hv:0<=v/\v < 2 ^ w):Bh v (B v 0 w 0):=by
 have:=ym v 0 w h
 rwa [Eg hv] at this
theorem um {v:Int} {l w a:Nat} (h:aa v l w=0):B v l w a=0:=by unfold B; rw[h]; simp
theorem iA {v:Int} {l w a:Nat} (h:v=0):B v l w a=0:=by
 subst h
 apply um
 unfold aa
 rw[if_neg (by omega),Int.zero_ediv,Int.zero_emod]
def eQ (i:IN) (l:List (Nat × Nat × Nat × Nat)):Nat:=l.foldl (fun w x=>w ||| B (lr i x.1) x.2.1 x.2.2.2 x.2.2.1) 0
theorem Eh (i:IN):∀ (l:List (Nat × Nat × Nat × Nat)) (W V:Nat),l.foldl (Au i) (W ||| V)=W ||| l.foldl (fun w x=>w ||| B (lr i x.1) x.2.1 x.2.2.2 x.2.2.1) V
 | [],_,_=>rfl
 | x::l,W,V=>by
  rw[List.foldl_cons,List.foldl_cons]
  have e:Au i (W ||| V) x=W ||| (V ||| B (lr i x.1) x.2.1 x.2.2.2 x.2.2.1):=by
   have h:(aa (lr i x.1) x.2.1 x.2.2.2).toNat < 2 ^ x.2.2.2:=Q6 i x
   unfold Au plus B
   rw[Nat.mod_eq_of_lt h,Nat.or_assoc]
  rw[e,Eh i l]
theorem AE (i:IN) (l:List (Nat × Nat × Nat × Nat)):wc i l=(om i.form).toNat ||| eQ i l:=by
 unfold wc eQ
 rw[← Eh i l,Nat.or_zero]
theorem pO (i:IN):bx i=(((om i.form).toNat ||| eQ (eh i) (ax (ab i.form)):Nat):Int):=by
 unfold bx
 rw[AE,jG]
theorem lx {a b:Nat} (ha:a < 4294967296) (hb:b < 4294967296):a ||| b < 4294967296:=Nat.or_lt_two_pow (n:=32) ha hb
theorem fY (i:IN):Bh ((B i.set 0 1 20 ||| B i.rn 0 4 16 ||| B i.ra 0 4 12 ||| B i.rd 0 4 8 ||| B i.rm 0 4 0:Nat):Int) (B i.set 0 1 20 ||| B i.rn 0 4 16 ||| B i.ra 0 4 12 ||| B i.rd 0 4 8 ||| B i.rm 0 4 0) :=
 ⟨rfl,lx (lx (lx (lx (uj _ (by decide)) (uj _ (by decide))) (uj _ (by decide))) (uj _ (by decide))) (uj _ (by decide))⟩
theorem my (n:Int):Bh ((B n 11 1 26 ||| B n 12 4 16 ||| B n 8 3 12 ||| B n 0 8 0:Nat):Int) (B n 11 1 26 ||| B n 12 4 16 ||| B n 8 3 12 ||| B n 0 8 0) :=
 ⟨rfl,lx (lx (lx (uj _ (by decide)) (uj _ (by decide))) (uj _ (by decide))) (uj _ (by decide))⟩
theorem mz (x:Int) (l w:Nat) (hx:bQ x) (hw:1<=w/\w<=31) (hl:l<=31):al gT 280 [.int .u32 x,.int .i64 ((l:Int)+w - 1),.int .i64 l] (.int .u32 (aa x l w)):=by
 have h:=kA x l w hx hw hl
 rwa [kC hx.1 l w] at h
theorem FU (v:Int) (l w:Nat) (h:l+w<=32) (hv:-1099511627776<=v):Ap (IntKind.u32.wrap v) l w=aa v l w:=by
 rw[IntKind.wrap_u32',kC (by omega)]
 obtain⟨n,hn⟩:∃ n:Nat,(n:Int)=if v < 0 then v+1099511627776 else v:=⟨(if v < 0 then v+1099511627776 else v).toNat,Int.toNat_of_nonneg (by split<;>omega)⟩
 have e:v % 4294967296=((n % 4294967296:Nat):Int):=by
  rw[Int.natCast_emod,hn]
  split<;>omega
 rw[e,we]
 unfold aa
 rw[← hn]
 have key:n % 4294967296 / 2 ^ l % 2 ^ w=n / 2 ^ l % 2 ^ w:=by
  apply Nat.eq_of_testBit_eq
  intro p
  rw[Nat.testBit_mod_two_pow,Nat.testBit_mod_two_pow,Nat.testBit_div_two_pow,Nat.testBit_div_two_pow,show (4294967296:Nat)=2 ^ 32 from rfl,Nat.testBit_mod_two_pow]
  by_cases hp:p < w
  ·rw[decide_eq_true hp,decide_eq_true (show p+l < 32 by omega)]; simp
  ·rw[decide_eq_false hp]; simp
 rw[key,← cQ,← cQ]
 norm_cast
theorem rU (v:Int) (l w:Nat) (hv:-1099511627776<=v) (hw:1<=w/\w<=31) (hl:l<=31) (h:l+w<=32):al gT 280 [.int .u32 (IntKind.u32.wrap v),.int .i64 ((l:Int)+w - 1),.int .i64 l] (.int .u32 (aa v l w)):=by
 have hx:0<=IntKind.u32.wrap v/\IntKind.u32.wrap v<=4294967295:=by rw[IntKind.wrap_u32']; omega
 have k:=kA (IntKind.u32.wrap v) l w hx hw hl
 rwa [FU v l w h hv] at k
theorem KG {v:Int} (h:0<=v) (w:Nat):aa (v / 4) 0 w=aa v 2 w:=by
 unfold aa
 rw[if_neg (by omega),if_neg (by omega),show (2:Int) ^ 0=1 from rfl,show (2:Int) ^ 2=4 from rfl,Int.ediv_one]
theorem Ra {v:Int} {w a:Nat} (h:0<=v):B (v / 4) 0 w a=B v 2 w a:=by unfold B; rw[KG h]
theorem isD (v:Int) (w:Nat) (h:w<=32) (h0:0<=v) (hv:v / 4 < 2 ^ w):Bh (v / 4) (B v 2 w 0):=by
 have:=uk (v / 4) w h ⟨by omega,hv⟩
 rwa [Ra h0] at this
theorem n9 (i:IN) (v:Int) (w:Nat) (hv:0<=v/\v < 2 ^ w) (hd:0<=i.rd/\i.rd < 8) (hn:0<=i.rn/\i.rn < 8) (hw:w<=20):al gT 286 [dE i,.int .u32 v] (.int .u32 ((B v 0 w 6 ||| B i.rn 0 3 3 ||| B i.rd 0 3 0:Nat):Int)):=by
 have hp:=ud w (by omega)
 have iX:(2:Int) ^ w<=1048576:=by
  have h1:(2 ^ w:Nat)<=2 ^ 20:=Nat.pow_le_pow_right (by omega) hw
  have h3:=cQ w
  omega
 refine Spec.enter aA aak 100 Tryz.func286 rfl (by kernel_rfl) ?_
 refine⟨by decide,.inl ⟨ah (by rw[r6]; omega),?_⟩⟩
 refine .inl ⟨ah (by omega),?_⟩
 refine⟨by decide,.inl ⟨ah (by rw[r3]; omega),?_⟩⟩
 refine .inl ⟨ah (by omega),?_⟩
 refine aF ?_
 exact (show bits .or .u32 (bits .or .u32 (v*Ev.aQ .u32 6) (i.rn*Ev.aQ .u32 3)) i.rd=_ from (((qE v w 6 (by decide) (by omega) hv).or (qE i.rn 3 3 (by decide) (by decide) hn)).or (uk i.rd 3 (by decide) hd)).1)
theorem dx (i:IN) (hs:0<=i.set/\i.set < 2) (hd:0<=i.rd/\i.rd < 16) (hn:0<=i.rn/\i.rn < 16) (hm:0<=i.rm/\i.rm < 16) (ha:0<=i.ra/\i.ra < 16):al gT 282 [dE i] (.int .u32 ((B i.set 0 1 20 ||| B i.rn 0 4 16 ||| B i.ra 0 4 12 ||| B i.rd 0 4 8 ||| B i.rm 0 4 0:Nat):Int)):=by
 refine Spec.enter aA aae 100 Tryz.func282 rfl (by kernel_rfl) ?_
 refine .inl ⟨ah (by omega),?_⟩
 refine⟨by decide,.inl ⟨ah (by rw[r20]; omega),?_⟩⟩
 refine .inl ⟨ah (by omega),?_⟩
 refine⟨by decide,.inl ⟨ah (by rw[Q_]; omega),?_⟩⟩
 refine .inl ⟨ah (by omega),?_⟩
 refine⟨by decide,.inl ⟨ah (by rw[Q9]; omega),?_⟩⟩
 refine .inl ⟨ah (by omega),?_⟩
 refine⟨by decide,.inl ⟨ah (by rw[r8]; omega),?_⟩⟩
 refine .inl ⟨ah (by omega),?_⟩
 refine aF ?_
 exact (show bits .or .u32 (bits .or .u32 (bits .or .u32 (bits .or .u32 (i.set*Ev.aQ .u32 20) (i.rn*Ev.aQ .u32 16)) (i.ra*Ev.aQ .u32 12)) (i.rd*Ev.aQ .u32 8)) i.rm=_ from (((((qE i.set 1 20 (by decide) (by decide) hs).or (qE i.rn 4 16 (by decide) (by decide) hn)).or (qE i.ra 4 12 (by decide) (by decide) ha)).or (qE i.rd 4 8 (by decide) (by decide) hd)).or (uk i.rm 4 (by decide) hm)).1)
theorem iJ (n:Int) (hn:bQ n):al gT 283 [.int .u32 n] (.int .u32 ((B n 11 1 26 ||| B n 12 4 16 ||| B n 8 3 12 ||| B n 0 8 0:Nat):Int)):=by
 have b0:=ae n 11 1
 have b1:=ae n 12 4
 have b2:=ae n 8 3
 have b3:=ae n 0 8
 refine Spec.enter aA aaf 100 Tryz.func283 rfl (by kernel_rfl) ?_
 refine (mz n 11 1 hn (by decide) (by decide)).u ?_
 refine⟨by decide,.inl ⟨ah (by rw[r26]; omega),?_⟩⟩
 refine (mz n 12 4 hn (by decide) (by decide)).u ?_
 refine⟨by decide,.inl ⟨ah (by rw[Q_]; omega),?_⟩⟩
 refine (mz n 8 3 hn (by decide) (by decide)).u ?_
 refine⟨by decide,.inl ⟨ah (by rw[Q9]; omega),?_⟩⟩
 refine (mz n 0 8 hn (by decide) (by decide)).u ?_
 refine aF ?_
 exact (show bits .or .u32 (bits .or .u32 (bits .or .u32 (aa n 11 1*Ev.aQ .u32 26) (aa n 12 4*Ev.aQ .u32 16)) (aa n 8 3*Ev.aQ .u32 12)) (aa n 0 8)=_ from ((((uN n 11 1 26 (by decide) (by decide)).or (uN n 12 4 16 (by decide) (by decide))).or (uN n 8 3 12 (by decide) (by decide))).or (ym n 0 8 (by decide))).1)
end Go.Proofs.YtbnoodjnpooocaaGreatDoor.Pw

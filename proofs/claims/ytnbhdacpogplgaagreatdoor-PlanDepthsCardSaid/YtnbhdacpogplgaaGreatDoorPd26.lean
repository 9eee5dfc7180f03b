/- What this claim is proved with: no condition. -/
import Derived.Test.YtnbhdacpogplgaaGreatDoorPd25
import Derived.Test.YtnbhdacpogplgaaGreatDoorPd24
set_option maxRecDepth 100000
set_option maxHeartbeats 8000000
set_option linter.unusedVariables false
set_option linter.unusedSimpArgs false
namespace Go.Proofs.YtnbhdacpogplgaaGreatDoor.Pw
open Go Go.RowKit
def yM:List (Nat × aF):=[(3,.pure 0 <| .pure 2 <| .pure 3 <| .load 4 [9,7,6,5] <| .aR 1 (.aR 5 (.aR 6 (.aR 7 (.aR 8 (.aR 9 (.done) (.nil)) (.nil)) (.sub 8 (.aR 7 (.aR 9 (.done) (.nil)) (.nil)) (.nil))) (.sub 8 (.aR 6 (.aR 7 (.aR 9 (.done) (.nil)) (.nil)) (.nil)) (.nil))) (.sub 8 (.aR 5 (.aR 6 (.aR 7 (.aR 9 (.done) (.nil)) (.nil)) (.nil)) (.nil)) (.nil))) (.sub 8 (.aR 1 (.aR 5 (.aR 6 (.aR 7 (.aR 9 (.done) (.nil)) (.nil)) (.nil)) (.nil)) (.nil)) (.nil))),(4,.pure 0 <| .pure 1 <| .pure 2 <| .pure 3 <| .load 4 [35,34,33,32,31,30,29,28,27,26,25,24,23,22,21,20,19,18,17,16,15,14,13,12,11,10,9,8,7,6,5] <| .pure 5 <| .pure 6 <| .pure 7 <| .pure 8 <| .pure 9 <| .pure 11 <| .load 10 [35,34,33,32,31,30,29,28,27,26,25,24,23,22,21,20,19,18,17,16,15,14,13] <| .load 12 [35,34,33,32,31,30,29,28,27,26,25,24,23,22,21,20,19,18,17,16,15,14,13] <| .pure 13 <| .pure 14 <| .pure 15 <| .load 16 [35,34,33,32,31,30,29,28,27,26,25,24,23,22,21,20,19,18,17] <| .pure 17 <| .pure 18 <| .pure 19 <| .pure 20 <| .pure 21 <| .pure 23 <| .load 22 [35,34,33,32,31,30,29,28,27,26,25] <| .load 24 [35,34,33,32,31,30,29,28,27,26,25] <| .pure 25 <| .pure 26 <| .pure 27 <| .pure 28 <| .load 29 [35,34,33,32,31,30] <| .pure 30 <| .pure 31 <| .pure 32 <| .pure 33 <| .pure 34 <| .aR 35 (.done) (.nil)),(8,.pure 1 <| .load 0 [5,4,3] <| .aR 2 (.aR 3 (.aR 4 (.aR 5 (.done) (.nil)) (.nil)) (.nil)) (.nil)),(11,.pure 0 <| .pure 1 <| .pure 2 <| .pure 4 <| .pure 5 <| .pure 6 <| .load 3 [11,10,9,8] <| .load 7 [11,10,9,8] <| .pure 8 <| .aR 9 (.pure 10 <| .aR 11 (.done) (.nil)) (.nil)),(13,.pure 1 <| .load 0 [6,5,4] <| .aR 2 (.aR 3 (.aR 4 (.aR 5 (.aR 6 (.done) (.nil)) (.nil)) (.nil)) (.nil)) (.nil)),(14,.pure 0 <| .pure 2 <| .load 3 [8,6,5,4] <| .aR 1 (.aR 4 (.aR 5 (.aR 6 (.aR 7 (.aR 8 (.done) (.nil)) (.nil)) (.sub 7 (.aR 6 (.aR 8 (.done) (.nil)) (.nil)) (.nil))) (.sub 7 (.aR 5 (.aR 6 (.aR 8 (.done) (.nil)) (.nil)) (.nil)) (.nil))) (.sub 7 (.aR 4 (.aR 5 (.aR 6 (.aR 8 (.done) (.nil)) (.nil)) (.nil)) (.nil)) (.nil))) (.sub 7 (.aR 1 (.aR 4 (.aR 5 (.aR 6 (.aR 8 (.done) (.nil)) (.nil)) (.nil)) (.nil)) (.nil)) (.nil))),(16,.load 0 [5,4,3] <| .aR 1 (.aR 2 (.aR 3 (.aR 4 (.aR 5 (.done) (.nil)) (.nil)) (.nil)) (.nil)) (.nil)),(100005,.done),(100009,.done),(100014,.done),(100016,.done),(100017,.done),(100019,.done)]
def fZ (b:List Int) (l:List ST) (F:WK->List C × WK):Prop:=∀ w:WK,ck w.at_->Spec gT 21 [.ptr 0 0,.sl 17 (l.map rp)] [eC b w] [] fun y S'=>y=bo (ba (F w).1)/\S' = [eC b (F w).2]
def f_ (c:C):ak:=⟨.loc,30,1,.w,true,Fe c⟩
noncomputable def Ca (b:List Int) (s:ST) (U2 n:Int) (w w1:WK) (c:C):aO:=⟨(Tryz.f82).ntmps,iL [(0,.ptr 0 0),(3,.ptr 1 0),(4,.ptr 2 0),(5,.int .i64 U2),(6,.int .i64 n),(7,.ptr 3 0),(8,.ptr 4 0)] .nil,[eC b w,GC (oL s),zC,eC b w1,f_ c],1,[]⟩
noncomputable def YO (b:List Int) (s:ST) (n:Int) (w w1:WK) (c:C) (no:WK):aO:=⟨(Tryz.f82).ntmps,iL [(0,.ptr 0 0),(3,.ptr 1 0),(4,.ptr 2 0),(6,.int .i64 n),(8,.ptr 4 0),(11,.ptr 5 0)] .nil,[eC b w,GC (oL s),zC,eC b w1,f_ c,eC b no],1,[]⟩
noncomputable def yN (b:List Int) (s:ST) (w w1:WK) (c:C) (no:WK) (d:C):aO:=⟨(Tryz.f82).ntmps,iL [(0,.ptr 0 0),(3,.ptr 1 0),(4,.ptr 2 0),(8,.ptr 4 0),(11,.ptr 5 0),(12,.ptr 6 0)] .nil,[eC b w,GC (oL s),zC,eC b w1,f_ c,eC b no,f_ d],1,[]⟩
theorem Cb (b:List Int) (hb:oK b) (hl:b.length<=2000) (w:WK) (hI:ck w.at_) (s:ST) (hO:s.Ok) (hA:fM s.h.A) (BD EL:WK->List C × WK) (hB:fZ b s.bd BD) (hE:fZ b s.el EL) (gB:fe b KS BD) (gE:fe b KS EL):Spec gT 82 [.ptr 0 0,jD s] [eC b w] [] fun y S'=>y=bo (ef b s.h (fh s.el=0) BD EL w).1/\S' = [eC b (ef b s.h (fh s.el=0) BD EL w).2]:=by
 have hS:=s.B6 hO
 have Ga:=nG hA
 have GF:s.h.A.op=(gh s.h.A).op:=by rw[← iw,← Ga]
 have GG:s.h.A.n=(gh s.h.A).num:=by rw[← kW,← Ga]
 have Gb:eG s.h.A=cb (gh s.h.A):=by rw[← dj,← Ga]
 have GH:pI (.sl 3 (eG s.h.A)) (.sl 3 (cb (gh s.h.A))):=by rw[Gb]; exact rfl
 refine Spec.rT (Spec.enter al yM 100 Tryz.func82 rfl (by kernel_rfl) ?_)
 refine (gi b hb (by omega) w hI 0).e ?_
 unfold ef
 simp only
 have ht:=hS.1.2.2.1
 have uj:=sP hl 0 hI
 have hn:=lL b w
 have U8:=hB (ix b w 0) uj
 have Vt:=bu 1 (nH b w)
 have hwB:=gB.wd hl (by decide) (ix b w 0) uj
 have YP:lK 400000 [aE 1 (nH b w),ba (BD (ix b w 0)).1]:=((Wd.flat (by decide) hn.1).cons (hwB.join.cons .nil)).more (by unfold KS; omega)
 have Gy:=db YP (by decide)
 have JL:=YP.join
 clear YP
 generalize ba (BD (ix b w 0)).1=cB at *
 have YQ:=gB.I (ix b w 0) uj
 generalize (BD (ix b w 0)).2=wB at *
 generalize Vw:ix b w 0=w1 at *
 generalize htn:gS b w=tn at *
 generalize nH b w=n at *
 generalize ba [aE 1 n,cB]=y1 at *
 refine Vt.u ?_
 refine (U8).e ?_
 refine⟨[],av,Gy.eT [4] rfl (by repeat' first|exact trivial|exact rfl|exact Iff.rfl|exact Or.inl rfl|refine And.intro ?_ ?_) rfl rfl ?_⟩
 refine Exists.intro (Ca b s tn n wB w1 y1) (And.intro ?_ (And.intro (Exists.intro (Ca b s tn n wB w1 y1) (And.intro Sub.refl (And.intro (Exists.intro (Ca b s tn n wB w1 y1) (And.intro Sub.refl (And.intro (Exists.intro (Ca b s tn n wB w1 y1) (And.intro Sub.refl (And.intro ?_ (And.intro ?_ trivial)))) (And.intro ?_ trivial)))) (And.intro ?_ trivial)))) (And.intro ?_ trivial)))
 ·refine aM al.ok (π:=[some 0,some 1,some 2,some 3,some 5]) ?_
  repeat' first|exact trivial|exact rfl|exact Iff.rfl|exact not_false|refine And.intro ?_ ?_
 ·have QE:ck (GD s.h (fh s.el=0) wB).at_:=YQ
  have WQ:∀ p,(p↔(¬ wB.last/\(wB.at_=s.h.skip\/(s.h.skip = -1/\wB.at_=s.h.till/\fh s.el=0))))->aC wB p=GD s.h (fh s.el=0) wB:=fun p h=>by unfold GD; rw[propext h]
  have hy3:(¬ wB.last/\(wB.at_=s.h.skip\/(s.h.skip = -1/\wB.at_=s.h.till/\fh s.el=0)))->wB=GD s.h (fh s.el=0) wB:=fun h=>(bR h).symm
  have YR:¬ (¬ wB.last/\(wB.at_=s.h.skip\/(s.h.skip = -1/\wB.at_=s.h.till/\fh s.el=0)))->({ wB with e:=201 }:WK)=GD s.h (fh s.el=0) wB:=fun h=>(cX h).symm
  generalize GD s.h (fh s.el=0) wB=w3 at *
  refine Exists.intro (Ca b s tn n w3 w1 y1) (And.intro ?_ ?_)
  ·have fin:∀ w':WK,w'=w3->eC b w'=eC b w3:=fun w' h=>by rw[h]
   refine⟨fun h1=>?p1,fun h1=>?p2⟩
   case' p1 =>
    refine⟨fun h2=>?q1,fun h2=>And.intro (fun h3=>And.intro (fun h4=>?q2) (fun h4=>?q3)) (fun h3=>?q4)⟩
   case' q1 =>
    refine (mF b wB).e ?_
    rw[hy3 ⟨h1,.inl h2⟩]
   case' q2 =>
    refine fun hm=>?_
    refine (bs b wB (fh s.el=0)).e ?_
    rw[WQ (fh s.el=0) ⟨fun k=>⟨h1,.inr ⟨h3,h4,k⟩⟩,fun k=>k.2.elim (fun q=>absurd q h2) fun q=>q.2.2⟩]
   case' q3 =>
    refine (bO b wB).e ?_
    rw[YR fun k=>k.2.elim h2 fun q=>h4 q.2.1]
   case' q4 =>
    refine (bO b wB).e ?_
    rw[YR fun k=>k.2.elim h2 fun q=>h3 q.1]
   case' p2 =>
    refine (bO b wB).e ?_
    rw[YR fun k=>h1 k.1]
   all_goals
    refine aM al.ok (π:=[some 0,some 1,some 2,some 3,some 4]) ?_
    repeat' first|exact trivial|exact rfl|exact Iff.rfl|exact not_false|refine And.intro ?_ ?_
  
  have QF:ck (B8 b s.h w3).at_:=Kl hl QE
  have n3:=lL b w3
  have xe:lK 400010 [y1,aE 3 (nH b w3)]:=(JL.cons ((Wd.flat (by decide) n3.1).cons .nil)).more (by omega)
  have YS:s.h.skip≠-1/\w3.e=0->B8 b s.h w3=aC (ix b w3 (-1)) (gS b w3=s.h.till)/\F2 b s.h w3 y1=ba [y1,aE 3 (nH b w3)]:=fun h=>⟨if_pos h,if_pos h⟩
  have VN:¬ (s.h.skip≠-1/\w3.e=0)->B8 b s.h w3=w3/\F2 b s.h w3 y1=y1:=fun h=>⟨if_neg h,if_neg h⟩
  have hy2:Wd 400010 (F2 b s.h w3 y1):=by
   by_cases k:s.h.skip≠-1/\w3.e=0
   ·rw[(YS k).2]; exact xe.join
   ·rw[(VN k).2]; exact JL.more (by decide)
  generalize B8 b s.h w3=w4 at *
  generalize F2 b s.h w3 y1=y2 at *
  refine Exists.intro (Ca b s tn n w4 w1 y2) (And.intro ?_ ?_)
  ·refine⟨fun h5=>And.intro (fun h6=>?r1) (fun h6=>?r2),fun h5=>?r3⟩
   case r1 =>
    obtain⟨e4,e5⟩:=YS ⟨h5,h6⟩
    rw[e4,e5]
    refine (gi b hb (by omega) w3 QE (-1)).e ?_
    refine (bs b (ix b w3 (-1)) (gS b w3=s.h.till)).e ?_
    refine (bu 3 (nH b w3)).u ?_
    refine⟨[],av,(db xe (by decide)).eT [5] rfl (by repeat' first|exact trivial|exact rfl|exact Iff.rfl|exact Or.inl rfl|refine And.intro ?_ ?_) rfl rfl ?_⟩
    refine aM al.ok (π:=[some 0,some 1,some 2,some 3,some 4]) ?_
    repeat' first|exact trivial|exact rfl|exact Iff.rfl|exact not_false|refine And.intro ?_ ?_
   case r2 =>
    obtain⟨e4,e5⟩:=VN fun k=>h6 k.2
    rw[e4,e5]
    refine aM al.ok (π:=[some 0,some 1,some 2,some 3,some 4]) ?_
    repeat' first|exact trivial|exact rfl|exact Iff.rfl|exact not_false|refine And.intro ?_ ?_
   case r3 =>
    obtain⟨e4,e5⟩:=VN fun k=>h5 k.1
    rw[e4,e5]
    refine aM al.ok (π:=[some 0,some 1,some 2,some 3,some 4]) ?_
    repeat' first|exact trivial|exact rfl|exact Iff.rfl|exact not_false|refine And.intro ?_ ?_
  clear YS VN xe
  
  refine (bs b w4 (tn=w4.at_)).e ?_
  rw[show aC w4 (tn=w4.at_)=QB tn w4 from rfl]
  have YL:ck (QB tn w4).at_:=QF
  generalize QB tn w4=w5 at *
  refine (Ai b w5 s.h.till).e ?_
  have YT:ck (dG w5 s.h.till).at_:=by rw[mO]; exact ht
  have n6:=iX b (dG w5 s.h.till)
  have YU:lK 400020 [y2,aE 0 (cD b (dG w5 s.h.till))]:=(hy2.cons ((Wd.flat (by decide) n6.1).cons .nil)).more (by omega)
  refine Exists.intro (YO b s n (Rc b s.h w5) w1 (QC b s.h w5 y2) (B9 w1 w5)) (And.intro ?_ ?_)
  ·refine (mK b hb (by omega) (dG w5 s.h.till) YT).e ?_
   refine (bu 0 (cD b (dG w5 s.h.till))).u ?_
   refine⟨[],av,(db YU (by decide)).eT [6] rfl (by repeat' first|exact trivial|exact rfl|exact Iff.rfl|exact Or.inl rfl|refine And.intro ?_ ?_) rfl rfl ?_⟩
   refine aM al.ok (π:=[some 0,some 1,some 2,some 3,some 4,some 5]) ?_
   repeat' first|exact trivial|exact rfl|exact Iff.rfl|exact not_false|refine And.intro ?_ ?_
  have YV:ck (B9 w1 w5).at_:=YL
  generalize Rc b s.h w5=w7 at *
  generalize QC b s.h w5 y2=y3 at *
  generalize B9 w1 w5=no at *
  
  have Cu:=hE no YV
  have hwE:=gE.wd hl (by decide) no YV
  have gEI:=gE.I no YV
  have hf3:=bu 3 n
  have U9:lK 400000 [aE 3 n,ba (EL no).1]:=((Wd.flat (by decide) hn.1).cons (hwE.join.cons .nil)).more (by unfold KS; omega)
  have U':=db U9 (by decide)
  have Co:=U9.join
  clear U9
  generalize ba (EL no).1=cE at *
  generalize (EL no).2=wE at *
  generalize ba [aE 3 n,cE]=z1 at *
  refine hf3.u ?_
  refine (Cu).q [5] ?_
  refine⟨[],av,U'.eT [6] rfl (by repeat' first|exact trivial|exact rfl|exact Iff.rfl|exact Or.inl rfl|refine And.intro ?_ ?_) rfl rfl ?_⟩
  refine Exists.intro (yN b s w7 w1 y3 wE z1) (And.intro ?_ (And.intro (Exists.intro (yN b s w7 w1 y3 wE z1) (And.intro Sub.refl (And.intro (Exists.intro (yN b s w7 w1 y3 wE z1) (And.intro Sub.refl (And.intro (Exists.intro (yN b s w7 w1 y3 wE z1) (And.intro Sub.refl (And.intro ?_ (And.intro ?_ trivial)))) (And.intro ?_ trivial)))) (And.intro ?_ trivial)))) (And.intro ?_ trivial)))
  ·refine aM al.ok (π:=[some 0,some 1,some 2,some 3,some 4,some 5,some 7]) ?_
   repeat' first|exact trivial|exact rfl|exact Iff.rfl|exact not_false|refine And.intro ?_ ?_
  ·have hI8:ck (QD s.h wE).at_:=gEI
   have hg:∀ p,(p↔(wE.at_=s.h.till/\¬ wE.last))->aC wE p=QD s.h wE:=fun p h=>by unfold QD; rw[propext h]
   have hn2:¬ wE.at_=s.h.till->({ wE with e:=201 }:WK)=QD s.h wE:=fun h=>(cX fun k=>h k.1).symm
   generalize QD s.h wE=Jo at *
   refine Exists.intro (yN b s w7 w1 y3 Jo z1) (And.intro ?_ ?_)
   ·refine⟨fun k1=>?u1,fun k1=>?u2⟩
    case' u1 =>
     refine (bs b wE (¬ wE.last)).q [5] ?_
     rw[hg (¬ wE.last) ⟨fun q=>⟨k1,q⟩,fun q=>q.2⟩]
    case' u2 =>
     refine (bO b wE).q [5] ?_
     rw[hn2 k1]
    all_goals
     refine aM al.ok (π:=[some 0,some 1,some 2,some 3,some 4,some 5,some 6]) ?_
     repeat' first|exact trivial|exact rfl|exact Iff.rfl|exact not_false|refine And.intro ?_ ?_
   have n8:=iX b Jo
   have hj6:lK 400020 [z1,aE 0 (cD b Jo)]:=(Co.cons ((Wd.flat (by decide) n8.1).cons .nil)).more (by omega)
   have hj7:=db hj6 (by decide)
   have hfe:=mK b hb (by omega) Jo hI8
   generalize cD b Jo=f2 at *
   generalize bw b Jo=Am at *
   generalize ba [z1,aE 0 f2]=z2 at *
   refine Exists.intro (yN b s w7 w1 y3 Am z2) (And.intro ?_ ?_)
   ·refine (hfe).q [5] ?_
    refine (bu 0 f2).u ?_
    refine⟨[],av,hj7.eT [7] rfl (by repeat' first|exact trivial|exact rfl|exact Iff.rfl|exact Or.inl rfl|refine And.intro ?_ ?_) rfl rfl ?_⟩
    refine aM al.ok (π:=[some 0,some 1,some 2,some 3,some 4,some 5,some 6]) ?_
    repeat' first|exact trivial|exact rfl|exact Iff.rfl|exact not_false|refine And.intro ?_ ?_
   refine Exists.intro (yN b s (Jn w7 Am) w1 y3 Am z2) (And.intro ?_ ?_)
   ·refine⟨fun k1=>?u3,fun k1=>?u4⟩
    case u3 =>
     rw[show Jn w7 Am = { w7 with e:=Am.e } from if_pos k1]
     refine aM al.ok (π:=[some 0,some 1,some 2,some 3,some 4,some 5,some 6]) ?_
     repeat' first|exact trivial|exact rfl|exact Iff.rfl|exact not_false|refine And.intro ?_ ?_
    case u4 =>
     rw[show Jn w7 Am=w7 from if_neg k1]
     refine aM al.ok (π:=[some 0,some 1,some 2,some 3,some 4,some 5,some 6]) ?_
     repeat' first|exact trivial|exact rfl|exact Iff.rfl|exact not_false|refine And.intro ?_ ?_
   refine Se ?_ ?_
   ·repeat' first|exact trivial|exact rfl|exact Iff.rfl|exact not_false|refine And.intro ?_ ?_
    all_goals first
     | exact (show s.h.A.op=(gh s.h.A).op from GF)
     | exact (show s.h.A.n=(gh s.h.A).num from GG)
     | exact GH
   ·repeat' first|exact trivial|exact rfl|exact Iff.rfl|exact not_false|refine And.intro ?_ ?_
  ·conv=>whnf
   refine hf3.u ?_
   refine (Cu).q [5] ?_
   refine⟨[],av,U'.eT [7] rfl (by repeat' first|exact trivial|exact rfl|exact Iff.rfl|exact Or.inl rfl|refine And.intro ?_ ?_) rfl rfl ?_⟩
   refine aM al.ok (π:=[some 0,some 1,some 2,some 3,some 4,some 5,some 6]) ?_
   repeat' first|exact trivial|exact rfl|exact Iff.rfl|exact not_false|refine And.intro ?_ ?_
  ·conv=>whnf
   refine (Cu).q [5] ?_
   refine⟨[],av,U'.eT [7] rfl (by repeat' first|exact trivial|exact rfl|exact Iff.rfl|exact Or.inl rfl|refine And.intro ?_ ?_) rfl rfl ?_⟩
   refine aM al.ok (π:=[some 0,some 1,some 2,some 3,some 4,some 5,some 6]) ?_
   repeat' first|exact trivial|exact rfl|exact Iff.rfl|exact not_false|refine And.intro ?_ ?_
  ·conv=>whnf
   refine⟨[],av,U'.eT [7] rfl (by repeat' first|exact trivial|exact rfl|exact Iff.rfl|exact Or.inl rfl|refine And.intro ?_ ?_) rfl rfl ?_⟩
   refine aM al.ok (π:=[some 0,some 1,some 2,some 3,some 4,some 5,some 6]) ?_
   repeat' first|exact trivial|exact rfl|exact Iff.rfl|exact not_false|refine And.intro ?_ ?_
  ·conv=>whnf
   refine⟨[],av,U'.eT [6] rfl (by repeat' first|exact trivial|exact rfl|exact Iff.rfl|exact Or.inl rfl|refine And.intro ?_ ?_) rfl rfl ?_⟩
   refine aM al.ok (π:=[some 0,some 1,some 2,some 3,some 4,some 5,some 7]) ?_
   repeat' first|exact trivial|exact rfl|exact Iff.rfl|exact not_false|refine And.intro ?_ ?_
 ·conv=>whnf
  refine Vt.u ?_
  refine (U8).e ?_
  refine⟨[],av,Gy.eT [5] rfl (by repeat' first|exact trivial|exact rfl|exact Iff.rfl|exact Or.inl rfl|refine And.intro ?_ ?_) rfl rfl ?_⟩
  refine aM al.ok (π:=[some 0,some 1,some 2,some 3,some 4]) ?_
  repeat' first|exact trivial|exact rfl|exact Iff.rfl|exact not_false|refine And.intro ?_ ?_
 ·conv=>whnf
  refine (U8).e ?_
  refine⟨[],av,Gy.eT [5] rfl (by repeat' first|exact trivial|exact rfl|exact Iff.rfl|exact Or.inl rfl|refine And.intro ?_ ?_) rfl rfl ?_⟩
  refine aM al.ok (π:=[some 0,some 1,some 2,some 3,some 4]) ?_
  repeat' first|exact trivial|exact rfl|exact Iff.rfl|exact not_false|refine And.intro ?_ ?_
 ·conv=>whnf
  refine⟨[],av,Gy.eT [5] rfl (by repeat' first|exact trivial|exact rfl|exact Iff.rfl|exact Or.inl rfl|refine And.intro ?_ ?_) rfl rfl ?_⟩
  refine aM al.ok (π:=[some 0,some 1,some 2,some 3,some 4]) ?_
  repeat' first|exact trivial|exact rfl|exact Iff.rfl|exact not_false|refine And.intro ?_ ?_
 ·conv=>whnf
  refine⟨[],av,Gy.eT [4] rfl (by repeat' first|exact trivial|exact rfl|exact Iff.rfl|exact Or.inl rfl|refine And.intro ?_ ?_) rfl rfl ?_⟩
  refine aM al.ok (π:=[some 0,some 1,some 2,some 3,some 5]) ?_
  repeat' first|exact trivial|exact rfl|exact Iff.rfl|exact not_false|refine And.intro ?_ ?_
def yO:List (Nat × aF):=[(3,.pure 0 <| .pure 1 <| .pure 2 <| .pure 3 <| .pure 5 <| .load 4 [8,7] <| .load 6 [8,7] <| .pure 7 <| .aR 8 (.done) (.nil)),(7,.pure 0 <| .pure 1 <| .pure 2 <| .pure 3 <| .pure 5 <| .load 4 [8,7] <| .load 6 [8,7] <| .pure 7 <| .aR 8 (.done) (.nil)),(9,.pure 0 <| .pure 1 <| .pure 2 <| .load 3 [20,19,18,17,16,15,14,13,12,11,10,9,8,7,6,5,4] <| .pure 4 <| .pure 5 <| .pure 6 <| .pure 7 <| .pure 8 <| .pure 10 <| .load 9 [20,19,18,17,16,15,14,13,12] <| .load 11 [20,19,18,17,16,15,14,13,12] <| .pure 12 <| .pure 13 <| .pure 14 <| .pure 15 <| .pure 16 <| .load 17 [20,19,18] <| .pure 18 <| .pure 19 <| .aR 20 (.done) (.nil)),(12,.pure 1 <| .pure 4 <| .load 0 [10,8,7] <| .load 3 [10,8,7] <| .load 6 [10,8,7] <| .aR 2 (.aR 5 (.aR 7 (.aR 8 (.aR 9 (.aR 10 (.done) (.nil)) (.nil)) (.sub 9 (.aR 8 (.aR 10 (.done) (.nil)) (.nil)) (.nil))) (.sub 9 (.aR 7 (.aR 8 (.aR 10 (.done) (.nil)) (.nil)) (.nil)) (.nil))) (.sub 9 (.aR 5 (.aR 7 (.aR 8 (.aR 10 (.done) (.nil)) (.nil)) (.nil)) (.nil)) (.nil))) (.sub 9 (.aR 2 (.aR 5 (.aR 7 (.aR 8 (.aR 10 (.done) (.nil)) (.nil)) (.nil)) (.nil)) (.nil)) (.nil))),(13,.pure 0 <| .pure 1 <| .pure 2 <| .pure 3 <| .pure 5 <| .load 4 [15,14,13,12,11,10,9,8,7] <| .pure 7 <| .pure 8 <| .load 6 [15,14,13] <| .aR 9 (.pure 10 <| .pure 11 <| .aR 12 (.pure 13 <| .pure 14 <| .aR 15 (.done) (.nil)) (.nil)) (.nil)),(15,.pure 3 <| .load 0 [7,6,5] <| .load 1 [7,6,5] <| .load 2 [7,6,5] <| .aR 4 (.aR 5 (.aR 6 (.aR 7 (.done) (.nil)) (.nil)) (.nil)) (.nil)),(100003,.done),(100010,.done),(100012,.done),(100015,.done)]
noncomputable def YW (b:List Int) (s:ST) (w:WK) (c0 c1:C):aO:=⟨(Tryz.f83).ntmps,iL [(0,.ptr 0 0),(3,.ptr 1 0),(4,.ptr 2 0),(5,.ptr 3 0),(6,.ptr 4 0)] .nil,[eC b w,GC (oL s),zC,f_ c0,f_ c1],1,[]⟩
noncomputable def YX (b:List Int) (s:ST) (n m:Int) (w w4:WK) (c0 c1 c2:C):aO:=⟨(Tryz.f83).ntmps,iL [(0,.ptr 0 0),(3,.ptr 1 0),(4,.ptr 2 0),(5,.ptr 3 0),(6,.ptr 4 0),(8,.int .i64 n),(9,.ptr 5 0),(10,.ptr 6 0),(12,.int .i64 m)] .nil,[eC b w,GC (oL s),zC,f_ c0,f_ c1,eC b w4,f_ c2],1,[]⟩
noncomputable def YY (b:List Int) (s:ST) (n m:Int) (w w4:WK) (c0 c1 c2 c3:C):aO:=⟨(Tryz.f83).ntmps,iL [(0,.ptr 0 0),(3,.ptr 1 0),(4,.ptr 2 0),(5,.ptr 3 0),(6,.ptr 4 0),(8,.int .i64 n),(9,.ptr 5 0),(10,.ptr 6 0),(12,.int .i64 m),(13,.ptr 7 0)] .nil,[eC b w,GC (oL s),zC,f_ c0,f_ c1,eC b w4,f_ c2,f_ c3],1,[]⟩
noncomputable def Jq (b:List Int) (s:ST) (n:Int) (w w4:WK) (c0 c1 c2:C):aO:=⟨(Tryz.f83).ntmps,iL [(0,.ptr 0 0),(3,.ptr 1 0),(4,.ptr 2 0),(5,.ptr 3 0),(6,.ptr 4 0),(8,.int .i64 n),(9,.ptr 5 0),(14,.ptr 6 0)] .nil,[eC b w,GC (oL s),zC,f_ c0,f_ c1,eC b w4,f_ c2],1,[]⟩
noncomputable def YZ (b:List Int) (n:Int) (w:WK) (c0 c1 c2:C):aO:=⟨(Tryz.f83).ntmps,iL [(4,.ptr 1 0),(5,.ptr 2 0),(6,.ptr 3 0),(8,.int .i64 n),(15,.ptr 4 0)] .nil,[eC b w,zC,f_ c0,f_ c1,f_ c2],1,[]⟩
theorem Cc (b:List Int) (hb:oK b) (hl:b.length<=2000) (w:WK) (hI:ck w.at_) (s:ST) (hO:s.Ok) (hA:fM s.h.A) (hAB:fM s.h.B) (HD BD:WK->List C × WK) (hH:fZ b s.hd HD) (hB:fZ b s.bd BD) (gH:fe b KR HD) (gB:fe b KS BD):Spec gT 83 [.ptr 0 0,jD s] [eC b w] [] fun y S'=>y=bo (cn b s.h HD BD w).1/\S' = [eC b (cn b s.h HD BD w).2]:=by
 have hS:=s.B6 hO
 have Ga:=nG hA
 have GF:s.h.A.op=(gh s.h.A).op:=by rw[← iw,← Ga]
 have GG:s.h.A.n=(gh s.h.A).num:=by rw[← kW,← Ga]
 have Gb:eG s.h.A=cb (gh s.h.A):=by rw[← dj,← Ga]
 have GH:pI (.sl 3 (eG s.h.A)) (.sl 3 (cb (gh s.h.A))):=by rw[Gb]; exact rfl
 have Y0:=nG hAB
 have hBo:s.h.B.op=(gh s.h.B).op:=by rw[← iw,← Y0]
 have hBn:s.h.B.n=(gh s.h.B).num:=by rw[← kW,← Y0]
 have Y1:eG s.h.B=cb (gh s.h.B):=by rw[← dj,← Y0]
 have hBk:pI (.sl 3 (eG s.h.B)) (.sl 3 (cb (gh s.h.B))):=by rw[Y1]; exact rfl
 have ht:=hS.1.2.2.1
 have xA:=hS.1.2.1
 refine Spec.rT (Spec.enter al yO 100 Tryz.func83 rfl (by kernel_rfl) ?_)
 refine (mK b hb (by omega) w hI).e ?_
 have n0:=iX b w
 have uj:ck (bw b w).at_:=by rw[iY]; exact hI
 have hH1:=hH (bw b w) uj
 have gH1:=gH.wd hl (by decide) (bw b w) uj
 have gHI:=gH.I (bw b w) uj
 unfold cn
 simp only
 generalize cD b w=f0 at *
 generalize bw b w=w1 at *
 generalize hhl:(HD w1).1=qN at *
 generalize (HD w1).2=wH at *
 refine (bu 0 f0).u ?_
 refine Exists.intro (YW b s wH (aE 0 f0) (ba qN)) (And.intro ?_ ?_)
 ·refine (hH1).e ?_
  refine aM al.ok (π:=[some 0,some 1,some 2,some 3,some 4]) ?_
  repeat' first|exact trivial|exact rfl|exact Iff.rfl|exact not_false|refine And.intro ?_ ?_
 refine (bs b wH (wH.at_=s.h.stub)).e ?_
 rw[show aC wH (wH.at_=s.h.stub)=An s.h wH from rfl]
 have QE:ck (An s.h wH).at_:=gHI
 generalize An s.h wH=w3 at *
 refine (gi b hb (by omega) w3 QE 0).e ?_
 have n1:=lL b w3
 have QF:=sP hl 0 QE
 generalize gS b w3=tn at *
 generalize nH b w3=n at *
 generalize ix b w3 0=w4 at *
 
 have U8:=hB w4 QF
 have gB1:=gB.wd hl (by decide) w4 QF
 have YQ:=gB.I w4 QF
 generalize Zz:(BD w4).1=bl at *
 generalize (BD w4).2=wB at *
 refine (U8).e ?_
 refine (bs b wB (wB.at_=s.h.skip)).e ?_
 rw[show aC wB (wB.at_=s.h.skip)=Rd s.h wB from rfl]
 have YT:ck (Rd s.h wB).at_:=YQ
 generalize Rd s.h wB=w6 at *
 refine (gi b hb (by omega) w6 YT (-1)).e ?_
 have n6:=lL b w6
 have hg8:∀ p,(p↔(gS b w6=s.h.fr/\(ix b w6 (-1)).at_=s.h.till/\tn=s.h.till))->aC (ix b w6 (-1)) p=Re b s.h tn w6:=fun p h=>by unfold Re; rw[propext h]
 have hb8:¬ (gS b w6=s.h.fr/\(ix b w6 (-1)).at_=s.h.till/\tn=s.h.till)->({ ix b w6 (-1) with e:=201 }:WK)=Re b s.h tn w6:=fun h=>(cX h).symm
 generalize Re b s.h tn w6=w8 at *
 generalize gS b w6=back at *
 generalize nH b w6=m at *
 generalize ix b w6 (-1)=w7 at *
 refine Exists.intro (YX b s n m w8 w4 (aE 0 f0) (ba qN) (ba bl)) (And.intro ?_ ?_)
 ·refine⟨fun k1=>And.intro (fun k2=>?u1) (fun k2=>?u2),fun k1=>?u3⟩
  case' u1 =>
   refine (bs b w7 (tn=s.h.till)).e ?_
   rw[hg8 (tn=s.h.till) ⟨fun q=>⟨k1,k2,q⟩,fun q=>q.2.2⟩]
  case' u2 =>
   refine (bO b w7).e ?_
   rw[hb8 fun q=>k2 q.2.1]
  case' u3 =>
   refine (bO b w7).e ?_
   rw[hb8 fun q=>k1 q.1]
  all_goals
   refine aM al.ok (π:=[some 0,some 1,some 2,some 3,some 4,some 5,some 6]) ?_
   repeat' first|exact trivial|exact rfl|exact Iff.rfl|exact not_false|refine And.intro ?_ ?_
 
 refine (Ai b w8 s.h.fr).e ?_
 have hI9:ck (dG w8 s.h.fr).at_:=by rw[mO]; exact xA
 have n9:=iX b (dG w8 s.h.fr)
 have hf9:=mK b hb (by omega) (dG w8 s.h.fr) hI9
 have Gy:lK 700000 [ba qN,aE 1 n,ba bl,aE 3 m,aE 0 (cD b (dG w8 s.h.fr))]:=(gH1.join.cons ((Wd.flat (by decide) n1.1).cons (gB1.join.cons ((Wd.flat (by decide) n6.1).cons ((Wd.flat (by decide) n9.1).cons .nil))))).more (by unfold KR KS; omega)
 have xe:=db Gy (by decide)
 generalize cD b (dG w8 s.h.fr)=f9 at *
 generalize dG w8 s.h.fr=w9 at *
 generalize bw b w9=Kk at *
 generalize ba [ba qN,aE 1 n,ba bl,aE 3 m,aE 0 f9]=once at *
 have YU:lK 700000 [aE 0 f0,F3 s.h once,ba qN,aE 3 n]:=((Wd.flat (by decide) n0.1).cons ((Wd.one (c:=F3 s.h once) (show (4:Int)≠1 by decide) (show (4:Int)≠2 by decide)).cons (gH1.join.cons ((Wd.flat (by decide) n1.1).cons .nil)))).more (by unfold KR; omega)
 have U9:=db YU (by decide)
 refine Exists.intro (YY b s n m Kk w4 (aE 0 f0) (ba qN) (ba bl) (aE 0 f9)) (And.intro ?_ ?_)
 ·refine (hf9).e ?_
  refine (bu 0 f9).u ?_
  refine aM al.ok (π:=[some 0,some 1,some 2,some 3,some 4,some 5,some 6,some 7]) ?_
  repeat' first|exact trivial|exact rfl|exact Iff.rfl|exact not_false|refine And.intro ?_ ?_
 have hfa:=bu 1 n
 have Y2:=bu 3 m
 refine hfa.u ?_
 refine Y2.u ?_
 refine⟨[],av,xe.eT [8] rfl (by repeat' first|exact trivial|exact rfl|exact Iff.rfl|exact Or.inl rfl|refine And.intro ?_ ?_) rfl rfl ?_⟩
 refine Exists.intro (Jq b s n Kk w4 (aE 0 f0) (ba qN) once) (And.intro ?_ (And.intro (Exists.intro (Jq b s n Kk w4 (aE 0 f0) (ba qN) once) (And.intro Sub.refl (And.intro (Exists.intro (Jq b s n Kk w4 (aE 0 f0) (ba qN) once) (And.intro Sub.refl (And.intro (Exists.intro (Jq b s n Kk w4 (aE 0 f0) (ba qN) once) (And.intro Sub.refl (And.intro ?_ (And.intro ?_ trivial)))) (And.intro ?_ trivial)))) (And.intro ?_ trivial)))) (And.intro ?_ trivial)))
 ·refine aM al.ok (π:=[some 0,some 1,some 2,some 3,some 4,some 5,some 9]) ?_
  repeat' first|exact trivial|exact rfl|exact Iff.rfl|exact not_false|refine And.intro ?_ ?_
 ·refine Exists.intro (YZ b n (U3 s.h w4 Kk) (aE 0 f0) (ba qN) (F3 s.h once)) (And.intro ?_ ?_)
  ·conv=>whnf
   refine Sub.trans (Sub.jr 7 8 11 12 [bo once] rfl rfl (Or.inl rfl) rfl rfl rfl) ?_
   refine aM al.ok (π:=[some 0,some 2,some 3,some 4,some 8]) ?_
   repeat' first|exact trivial|exact rfl|exact Iff.rfl|exact not_false|refine And.intro ?_ ?_
   all_goals first
    | exact (show s.h.A.op=(gh s.h.A).op from GF)
    | exact (show s.h.A.n=(gh s.h.A).num from GG)
    | exact GH
    | exact (show s.h.B.op=(gh s.h.B).op from hBo)
    | exact (show s.h.B.n=(gh s.h.B).num from hBn)
    | exact hBk
  refine (bu 3 n).u ?_
  refine⟨[],av,U9.eT [5] rfl (by repeat' first|exact trivial|exact rfl|exact Iff.rfl|exact Or.inl rfl|refine And.intro ?_ ?_) rfl rfl ?_⟩
  exact rS
 ·conv=>whnf
  refine hfa.u ?_
  refine Y2.u ?_
  refine⟨[],av,xe.eT [9] rfl (by repeat' first|exact trivial|exact rfl|exact Iff.rfl|exact Or.inl rfl|refine And.intro ?_ ?_) rfl rfl ?_⟩
  refine aM al.ok (π:=[some 0,some 1,some 2,some 3,some 4,some 5,some 8]) ?_
  repeat' first|exact trivial|exact rfl|exact Iff.rfl|exact not_false|refine And.intro ?_ ?_
 ·conv=>whnf
  refine Y2.u ?_
  refine⟨[],av,xe.eT [9] rfl (by repeat' first|exact trivial|exact rfl|exact Iff.rfl|exact Or.inl rfl|refine And.intro ?_ ?_) rfl rfl ?_⟩
  refine aM al.ok (π:=[some 0,some 1,some 2,some 3,some 4,some 5,some 8]) ?_
  repeat' first|exact trivial|exact rfl|exact Iff.rfl|exact not_false|refine And.intro ?_ ?_
 ·conv=>whnf
  refine⟨[],av,xe.eT [9] rfl (by repeat' first|exact trivial|exact rfl|exact Iff.rfl|exact Or.inl rfl|refine And.intro ?_ ?_) rfl rfl ?_⟩
  refine aM al.ok (π:=[some 0,some 1,some 2,some 3,some 4,some 5,some 8]) ?_
  repeat' first|exact trivial|exact rfl|exact Iff.rfl|exact not_false|refine And.intro ?_ ?_
 ·conv=>whnf
  refine⟨[],av,xe.eT [8] rfl (by repeat' first|exact trivial|exact rfl|exact Iff.rfl|exact Or.inl rfl|refine And.intro ?_ ?_) rfl rfl ?_⟩
  refine aM al.ok (π:=[some 0,some 1,some 2,some 3,some 4,some 5,some 9]) ?_
  repeat' first|exact trivial|exact rfl|exact Iff.rfl|exact not_false|refine And.intro ?_ ?_
def Gd:List (Nat × aF):=[(1,.pure 0 <| .pure 1 <| .pure 3 <| .pure 4 <| .pure 5 <| .load 2 [26,25,24,23,22,21,20,19,18,17,16,15,14,13,12,11,10,9,8,7] <| .load 6 [26,25,24,23,22,21,20,19,18,17,16,15,14,13,12,11,10,9,8,7] <| .pure 7 <| .pure 8 <| .pure 9 <| .pure 11 <| .load 10 [26,25,24,23,22,21,20,19,18,17,16,15,14,13] <| .load 12 [26,25,24,23,22,21,20,19,18,17,16,15,14,13] <| .pure 13 <| .pure 14 <| .pure 15 <| .pure 16 <| .pure 17 <| .pure 18 <| .load 19 [26,25,24,23,22,21,20] <| .pure 20 <| .pure 21 <| .pure 22 <| .load 23 [26,25,24] <| .aR 24 (.pure 25 <| .aR 26 (.done) (.nil)) (.nil)),(15,.pure 0 <| .pure 1 <| .pure 2 <| .pure 3 <| .pure 5 <| .load 4 [8,7] <| .load 6 [8,7] <| .pure 7 <| .aR 8 (.done) (.nil)),(100002,.done),(100015,.done)]
noncomputable def Y3 (b:List Int) (s:ST) (w:WK):aO:=⟨(Tryz.f44).ntmps,iL [(0,.ptr 0 0),(3,.ptr 1 0),(4,.ptr 2 0)] .nil,[eC b w,GC (oL s),zC],1,[]⟩
noncomputable def Y4 (b:List Int) (s:ST) (w:WK) (c:C):aO:=⟨(Tryz.f44).ntmps,iL [(0,.ptr 0 0),(3,.ptr 1 0),(4,.ptr 2 0),(5,.ptr 3 0)] .nil,[eC b w,GC (oL s),zC,f_ c],1,[]⟩
noncomputable def i_ (b:List Int) (s:ST) (HD BD EL:WK->List C × WK) (w:WK):C × WK :=
 if s.h.kind=1 then (qy b w s.h.till (s.h.aN.map mJ),kK b w s.h.till (s.h.aN.map mJ))
  else if s.h.kind=2 then (kf b s.h w,cY b s.h w)
  else if s.h.kind=3 then ef b s.h (fh s.el=0) BD EL w
  else if s.h.kind=4 then cn b s.h HD BD w
  else (eZ,{ w with e:=201 })
theorem Cd {b:List Int} {s:ST} {HD BD EL:WK->List C × WK} {w:WK} (h:(dw s w).e≠0):stepG b s HD BD EL w=(eZ,dw s w):=if_pos h
theorem Ge {b:List Int} {s:ST} {HD BD EL:WK->List C × WK} {w:WK} (h:¬ (dw s w).e≠0):stepG b s HD BD EL w=((i_ b s HD BD EL (dw s w)).1,aC (i_ b s HD BD EL (dw s w)).2 ((i_ b s HD BD EL (dw s w)).2.at_=s.h.till)):=if_neg h
theorem Jr (b:List Int) (hb:oK b) (hl:b.length<=2000) (w:WK) (hI:ck w.at_) (s:ST) (hO:s.Ok) (HD BD EL:WK->List C × WK) (hH:fZ b s.hd HD) (hB:fZ b s.bd BD) (hE:fZ b s.el EL) (gH:ke s.hd->fe b KR HD) (gB:fe b KS BD) (gE:fe b KS EL):Spec gT 44 [.ptr 0 0,jD s] [eC b w] [] fun y S'=>y=bo (stepG b s HD BD EL w).1/\S' = [eC b (stepG b s HD BD EL w).2]:=by
 have hS:=s.B6 hO
 have wU:=yK s hO
 have hy:=@Cd b s HD BD EL w
 have hn:=@Ge b s HD BD EL w
 have Vs:=@ju s w
 generalize stepG b s HD BD EL w=RR at *
 have Dl:∀ p,(p↔(s.h.fr=w.at_/\s.h.fr < s.h.till/\¬ w.last/\fH s))->aC w p=dw s w:=fun p h=>by unfold dw; rw[propext h]
 have AM:¬ (s.h.fr=w.at_/\s.h.fr < s.h.till/\¬ w.last/\fH s)->({ w with e:=201 }:WK)=dw s w:=fun h=>(cX h).symm
 have uj:ck (dw s w).at_:=hI
 generalize dw s w=w1 at *
 refine Spec.rT (Spec.enter al Gd 100 Tryz.func44 rfl (by kernel_rfl) ?_)
 refine Exists.intro (Y3 b s w1) (And.intro ?_ ?_)
 ·refine⟨fun h1=>And.intro (fun h2=>?p1) (fun h2=>?p2),fun h1=>?p3⟩
  case' p1 =>
   refine⟨fun h3=>?p4,fun h3=>?p5⟩
   case' p4 =>
    refine wU.u ?_
    refine (bs b w (fH s)).e ?_
    rw[Dl (fH s) ⟨fun q=>⟨h1,h2,h3,q⟩,fun q=>q.2.2.2⟩]
   case' p5 =>
    refine (bO b w).e ?_
    rw[AM fun q=>h3 q.2.2.1]
  case' p2 =>
   refine (bO b w).e ?_
   rw[AM fun q=>h2 q.2.1]
  case' p3 =>
   refine (bO b w).e ?_
   rw[AM fun q=>h1 q.1]
  all_goals
   refine aM al.ok (π:=[some 0,some 1,some 2]) ?_
   repeat' first|exact trivial|exact rfl|exact Iff.rfl|exact not_false|refine And.intro ?_ ?_
 clear Dl AM
 refine⟨fun he=>?_,fun he=>?_⟩
 ·rw[hy he]
  exact rS
 have hn:=hn he
 obtain⟨⟨h1,h2,h3,wh⟩,h4⟩:=Vs (Classical.not_not.1 he)
 rw[hn]
 clear hn hy Vs
 simp only
 have Cz:s.h.kind=1->i_ b s HD BD EL w1=(qy b w1 s.h.till (s.h.aN.map mJ),kK b w1 s.h.till (s.h.aN.map mJ)):=fun k=>if_pos k
 have kO:¬ s.h.kind=1->s.h.kind=2->i_ b s HD BD EL w1=(kf b s.h w1,cY b s.h w1):=fun k k2=>by unfold i_; rw[if_neg k,if_pos k2]
 have JX:¬ s.h.kind=1->¬ s.h.kind=2->s.h.kind=3->i_ b s HD BD EL w1=ef b s.h (fh s.el=0) BD EL w1:=fun k k2 k3=>by unfold i_; rw[if_neg k,if_neg k2,if_pos k3]
 have Q4:¬ s.h.kind=1->¬ s.h.kind=2->¬ s.h.kind=3->s.h.kind=4->i_ b s HD BD EL w1=cn b s.h HD BD w1:=fun k k2 k3 k4=>by unfold i_; rw[if_neg k,if_neg k2,if_neg k3,if_pos k4]
 have hk5:¬ s.h.kind=1->¬ s.h.kind=2->¬ s.h.kind=3->¬ s.h.kind=4->i_ b s HD BD EL w1=(eZ,{ w1 with e:=201 }):=fun k k2 k3 k4=>by unfold i_; rw[if_neg k,if_neg k2,if_neg k3,if_neg k4]
 generalize i_ b s HD BD EL w1=r at *
 refine Exists.intro (Y4 b s r.2 r.1) (And.intro ?_ ?_)
 ·unfold fH at wh
  refine⟨fun k1=>?_,fun k1=>And.intro (fun k2=>?_) (fun k2=>And.intro (fun k3=>?_) (fun k3=>And.intro (fun k4=>?_) (fun k4=>?_)))⟩
  ·have k1:s.h.kind=1:=k1
   rw[if_pos k1] at wh
   have bx:=Fs b hb hl w1 uj (oL s) (s.h.aN.map mJ) (Kj wh.2.2.2.2.2.2.1)
   rw[Cz k1]
   refine (bx).e ?_
   refine aM al.ok (π:=[some 0,some 1,some 2,some 3]) ?_
   repeat' first|exact trivial|exact rfl|exact Iff.rfl|exact not_false|refine And.intro ?_ ?_
  ·have k1:¬ s.h.kind=1:=k1
   have k2:s.h.kind=2:=k2
   rw[if_neg k1,if_pos k2] at wh
   rw[kO k1 k2]
   refine (F_ b hb hl w1 uj s hO wh.2.2.2.2.1).e ?_
   refine aM al.ok (π:=[some 0,some 1,some 2,some 3]) ?_
   repeat' first|exact trivial|exact rfl|exact Iff.rfl|exact not_false|refine And.intro ?_ ?_
  ·have k1:¬ s.h.kind=1:=k1
   have k2:¬ s.h.kind=2:=k2
   have k3:s.h.kind=3:=k3
   rw[if_neg k1,if_neg k2,if_pos k3] at wh
   rw[JX k1 k2 k3]
   refine (Cb b hb hl w1 uj s hO wh.2.2.2.1 BD EL hB hE gB gE).e ?_
   refine aM al.ok (π:=[some 0,some 1,some 2,some 3]) ?_
   repeat' first|exact trivial|exact rfl|exact Iff.rfl|exact not_false|refine And.intro ?_ ?_
  ·have k1:¬ s.h.kind=1:=k1
   have k2:¬ s.h.kind=2:=k2
   have k3:¬ s.h.kind=3:=k3
   rw[if_neg k1,if_neg k2,if_neg k3] at wh
   rw[Q4 k1 k2 k3 k4]
   refine (Cc b hb hl w1 uj s hO wh.2.2.2.1 wh.2.2.2.2.1 HD BD hH hB (gH wh.2.2.2.2.2.2.1) gB).e ?_
   refine aM al.ok (π:=[some 0,some 1,some 2,some 3]) ?_
   repeat' first|exact trivial|exact rfl|exact Iff.rfl|exact not_false|refine And.intro ?_ ?_
  ·rw[hk5 k1 k2 k3 k4]
   refine (qx b w1).e ?_
   refine aM al.ok (π:=[some 0,some 1,some 2,some 3]) ?_
   repeat' first|exact trivial|exact rfl|exact Iff.rfl|exact not_false|refine And.intro ?_ ?_
 refine (bs b r.2 (r.2.at_=s.h.till)).e ?_
 exact rS
def Gf (b:List Int) (s:ST):Prop:=∀ w:WK,ck w.at_->Spec gT 44 [.ptr 0 0,jD s] [eC b w] [] fun y S'=>y=bo (dY b s w).1/\S' = [eC b (dY b s w).2]
structure U_ (b:List Int) (l:List ST) (w0:WK) where
 i:Nat
 w:WK
 out:List C
 eq:bg b l w0=(out++(bg b (l.drop i) w).1,(bg b (l.drop i) w).2)
 hI:ck w.at_
 len:out.length<=2003
 ok:w.e=0->cc b w0.at_ w.at_/\(out.length:Int)<=w.at_ - w0.at_
theorem U_.o7 {b:List Int} (hl:b.length<=2000) {l:List ST} {w0:WK} (r:U_ b l w0) {s:ST} (hs:l[r.i]?=some s) (he:r.w.e=0) (hg:wQ b KS (dY b s)):∃ r':U_ b l w0,r'.i=r.i+1/\r'.w=(dY b s r.w).2/\r'.out=r.out++[(dY b s r.w).1]:=by
 have hd:l.drop r.i=s::l.drop (r.i+1):=by
  have h1:=(List.getElem?_eq_some_iff.1 hs)
  obtain⟨h1,h2⟩:=h1
  rw[List.drop_eq_getElem_cons h1,h2]
 obtain⟨c1,c2⟩:=r.ok he
 have hb:=c1.bd
 have e1:=r.eq
 rw[hd,bg,if_neg (fun k=>k he)] at e1
 refine⟨⟨r.i+1,(dY b s r.w).2,r.out++[(dY b s r.w).1],?_,hg.I _ r.hI,?_,fun h=>?_⟩,rfl,rfl,rfl⟩
 ·rw[e1]; simp only[List.append_assoc,List.singleton_append]
 ·rw[List.length_append,List.length_singleton]; omega
 ·obtain⟨_,q2,q3,_⟩:=hg.ok _ r.hI h
  refine⟨c1.trans q2,?_⟩
  rw[List.length_append,List.length_singleton]; omega
def dS (l:List C):ak:=⟨.dyn,30,12,.w,true,l.map bo⟩
theorem mP (b:List Int) (hb:oK b) (hl:b.length<=2000) (l:List ST) (hO:iv l) (hs:∀ s∈l,Gf b s):fZ b l (bg b l):=fun w hI=>by
 have hwd:=(fI hl l hO).wd hl (by decide) w hI
 have hj:=db hwd (by decide)
 have Va:=fun s hs=>qI hl s (e_ hO s hs)
 rw[o9]
 obtain⟨RR,Vb⟩:∃ RR,RR=bg b l w:=⟨_,rfl⟩
 rw[← Vb] at hj ⊢
 refine Spec.rT (Spec.enter al VA 100 Tryz.func21 rfl (by kernel_rfl) ?_)
 refine fun hm=>?_
 refine SW.qb al VA (by kernel_rfl) (α:=U_ b l w) (fun r=>[(0,.ptr 0 0),(4,.ptr 1 0),(5,.wref 2),(8,.sl 17 (l.map jD)),(9,.int .i64 ((l.map jD).length:Nat)),(10,.int .i64 r.i)]) (fun r=>[eC b r.w,zC,dS r.out]) (fun r=>l.length - r.i) ⟨0,w,[],rfl,hI,by decide,fun _=>⟨.nil _,by simp⟩⟩ 100 [some 0,some 1,none] ?_ ?_
 ·repeat' first|exact trivial|exact rfl|exact Iff.rfl|exact not_false|refine And.intro ?_ ?_
 intro r
 have ka:=fun s=>@U_.o7 b hl l w r s
 obtain⟨i,x,out,heq,Ys,hlen,hok⟩:=r
 have el:(l.map jD).length=l.length:=List.length_map ..
 refine⟨fun h1=>?_,fun h1=>?_⟩
 ·have gf:(i:Int) < ((l.map jD).length:Nat):=h1
  rw[el] at gf
  refine⟨ST,l,jD,rfl,show (0:Int)<=(i:Int) by omega,show (i:Int) < (l.length:Int) by omega,fun s QT=>?_⟩
  have Vc:l[i]?=some s:=QT
  have Vl:=List.mem_of_getElem? Vc
  refine⟨fun he=>?_,fun he=>?_⟩
  ·have xf:x.e≠0:=he
   have hd:bg b (l.drop i) x=([],x):=by
    cases hdr:l.drop i with
    | nil=>rfl
    | cons s2 l2=>rw[bg,if_pos xf]
   rw[hd,List.append_nil] at heq
   rw[heq] at Vb
   rw[Vb] at hj ⊢
   refine⟨[],av,hj.eT [2] rfl (by repeat' first|exact trivial|exact rfl|exact Iff.rfl|exact Or.inl rfl|refine And.intro ?_ ?_) rfl rfl ?_⟩
   exact rS
  ·have xf:x.e=0:=Classical.not_not.1 he
   have Cq:=hs s Vl x Ys
   obtain⟨r',q1,q2,q3⟩:=ka s Vc xf (Va s Vl)
   simp only at q1 q2 q3
   generalize (dY b s x).1=c at *
   generalize (dY b s x).2=x2 at *
   refine (Cq).e ?_
   refine⟨show (out.map bo).length+1<=maxLen by rw[List.length_map]; unfold maxLen; omega,show ((out.map bo).length+1)*144<=140737488355328 by rw[List.length_map]; omega,?_⟩
   unfold maxLen at hm
   refine .inl ⟨ay (show _<=(i:Int)+1/\(i:Int)+1<=_ by omega),⟨r',[some 0,some 1,some 5],show l.length - r'.i < l.length - i by omega,?_⟩⟩
   rw[q1,q2,q3]
   repeat' first|exact trivial|exact rfl|exact Iff.rfl|exact not_false|refine And.intro ?_ ?_
   all_goals exact (show out.map bo++[bo c]=(out++[c]).map bo by rw[List.map_append]; rfl)
 ·have gf:¬ (i:Int) < ((l.map jD).length:Nat):=h1
  rw[el] at gf
  have hd:bg b (l.drop i) x=([],x):=by
   rw[List.drop_of_length_le (by omega)]
   rfl
  rw[hd,List.append_nil] at heq
  rw[heq] at Vb
  rw[Vb] at hj ⊢
  refine⟨[],av,hj.eT [2] rfl (by repeat' first|exact trivial|exact rfl|exact Iff.rfl|exact Or.inl rfl|refine And.intro ?_ ?_) rfl rfl ?_⟩
  exact rS
theorem Gg (b:List Int) (hb:oK b) (hl:b.length<=2000):∀ s:ST,s.Ok->Gf b s:=ST.ind fun s Aq Ar YM hO w hI=>by
 have F9:iv s.hd/\iv s.bd/\iv s.el:=by cases s; exact hO.2.2
 have hH:=mP b hb hl s.hd F9.1 fun x hx=>Aq x hx (e_ F9.1 x hx)
 have hB:=mP b hb hl s.bd F9.2.1 fun x hx=>Ar x hx (e_ F9.2.1 x hx)
 have hE:=mP b hb hl s.el F9.2.2 fun x hx=>YM x hx (e_ F9.2.2 x hx)
 rw[mM]
 exact Jr b hb hl w hI s hO _ _ _ hH hB hE (fun hp=>wV hl s.hd hp) (fI hl s.bd F9.2.1) (fI hl s.el F9.2.2)
theorem Ce (b:List Int) (hb:oK b) (hl:b.length<=2000) (l:List ST) (hO:iv l):fZ b l (bg b l):=mP b hb hl l hO fun s hs=>Gg b hb hl s (e_ hO s hs)
theorem oh:∀ g:G,ai gT 125 [gP g] (.int .i64 (nF g)):=G.ind fun g ih=>by
 obtain⟨o,n,l⟩:=g
 have RV:∀ x∈l,ai gT 125 [gP x] (.int .i64 (nF x)):=fun x hx=>ih x hx
 clear ih
 show ai gT 125 [.agg [.int .i64 o,.int .u32 n,.sl 3 (gM l)]] (.int .i64 (fm l 1))
 rw[dC]
 obtain⟨R,hR⟩:∃ R,R=fm l 1:=⟨_,rfl⟩
 rw[← hR]
 have el:(l.map gP).length=l.length:=List.length_map ..
 refine Spec.enter al qU 100 Tryz.func125 rfl (by kernel_rfl) ?_
 refine fun hm=>?_
 refine SW.hU al qU (by kernel_rfl) (α:={q:Nat × Int // R=fm (l.drop q.1) q.2}) (fun q=>[(3,.int .i64 q.1.2),(9,.int .i64 q.1.1)]) (fun q=>l.length - q.1.1) ⟨(0,1),hR⟩ 60 ?_ ?_
 ·repeat' first|exact trivial|exact rfl|refine And.intro ?_ ?_
 rintro⟨⟨i,a⟩,hi⟩
 refine⟨fun h=>?_,fun h=>?_⟩
 ·have h':(i:Int) < ((l.map gP).length:Nat):=h
  rw[el] at h'
  refine⟨G,l,gP,rfl,show (0:Int)<=(i:Int) by omega,show (i:Int) < (l.length:Int) by omega,fun x hx=>?_⟩
  have dp:l[i]?=some x:=hx
  refine (RV x (List.mem_of_getElem? dp)).u ?_
  refine .inr ?_
  unfold maxLen at hm
  refine .inl ⟨ay (show _<=(i:Int)+1/\(i:Int)+1<=_ by omega),⟨⟨(i+1,IntKind.i64.wrap (a+nF x)),?_⟩,show l.length - (i+1) < l.length - i by omega,?_⟩⟩
  ·show R=fm (l.drop (i+1)) _
   rw[hi]
   show fm (l.drop i) a=_
   rw[List.drop_eq_getElem_cons (by omega),fm]
   rw[List.getElem?_eq_getElem (by omega)] at dp
   rw[Option.some.inj dp]
  ·repeat' first|exact trivial|exact rfl|refine And.intro ?_ ?_
 ·have h':¬ (i:Int) < ((l.map gP).length:Nat):=h
  rw[el] at h'
  refine aj ?_
  exact (show a=R by rw[hi]; show a=fm (l.drop i) a; rw[List.drop_of_length_le (by omega),fm])
theorem Cf (g:G) (h:ai gT 143 [gP g] (.bool (bI g))):ai gT 152 [gP g] (.bool (¬ bI g)):=by
 refine Spec.enter al Lh 100 Tryz.func152 rfl (by kernel_rfl) ?_
 refine h.u ?_
 exact aj Iff.rfl
theorem um:∀ g:G,ai gT 143 [gP g] (.bool (bI g)):=G.ind fun g ih=>by
 obtain⟨o,n,l⟩:=g
 have hc:=FT l (fun x=>¬ bI x) fun x hx=>Cf x (ih x hx)
 clear ih
 show ai gT 143 [.agg [.int .i64 o,.int .u32 n,.sl 3 (gM l)]] (.bool (wJ o n l.length/\gR l))
 rw[dC,propext (@js l)]
 have el:(l.map gP).length=l.length:=List.length_map ..
 unfold wJ
 rw[← el]
 have FU:(¬ ∃ x∈l,¬ bI x)↔∀ x∈l,bI x:=by simp
 generalize (∃ x∈l,¬ bI x)=E at hc FU
 generalize (∀ x∈l,bI x)=A at FU
 refine Spec.enter al Lg 100 Tryz.func143 rfl (by kernel_rfl) ?_
 refine⟨fun h1=>?_,fun h1=>And.intro (fun h2=>?_) (fun h2=>?_)⟩
 ·exact aj (show ¬ _ from fun k=>k.1 (.inl h1))
 ·exact aj (show ¬ _ from fun k=>k.1 (.inr (.inl h2)))
 refine fun _=>?_
 refine (og o).u ?_
 generalize ((l.map gP).length:Int)=K at *
 generalize fL o=ne at *
 have bad:(o < 1\/17 < o\/K≠ne\/(2 < o/\n≠0)\/(o=2/\255 < n))->¬ (¬ (o < 1\/17 < o\/K≠ne\/(2 < o/\n≠0)\/(o=2/\255 < n))/\A):=fun h k=>k.1 h
 have iH:¬ (o < 1\/17 < o\/K≠ne\/(2 < o/\n≠0)\/(o=2/\255 < n))->(¬ E↔(¬ (o < 1\/17 < o\/K≠ne\/(2 < o/\n≠0)\/(o=2/\255 < n))/\A)):=fun h=>FU.trans ⟨fun k=>⟨h,k⟩,fun k=>k.2⟩
 refine⟨fun h3=>?_,fun h3=>And.intro (fun h4=>And.intro (fun h5=>?_) (fun h5=>And.intro (fun h6=>?_) (fun h6=>?_))) (fun h4=>And.intro (fun h6=>And.intro (fun h7=>?_) (fun h7=>?_)) (fun h6=>?_))⟩
 ·exact aj (bad (by omega))
 ·exact aj (bad (by omega))
 ·exact absurd h6 (by omega)
 ·refine hc.u ?_
  exact aj (iH (by omega))
 ·exact aj (bad (by omega))
 ·refine hc.u ?_
  exact aj (iH (by omega))
 ·refine hc.u ?_
  exact aj (iH (by omega))
theorem wW (g:G):ai gT 126 [gP g] (.bool (nF g<=16384/\bI g)):=by
 have h1:=oh g
 have h2:=um g
 refine Spec.enter al Lf 100 Tryz.func126 rfl (by kernel_rfl) ?_
 refine h1.u ?_
 refine⟨fun h=>?_,fun h=>?_⟩
 ·refine h2.u ?_
  exact aj (show bI g↔_ from ⟨fun k=>⟨h,k⟩,fun k=>k.2⟩)
 ·exact aj (show ¬ _ from fun k=>h k.1)
def qJ (t:T):Prop:=(nF (fG t)<=16384/\bI (fG t))/\ft t=true
theorem wX (t:T):ai gT 89 [gF t,.tt] (.bool (qJ t)):=by
 have hr:=wW (fG t)
 rw[FV] at hr
 refine Spec.enter al XB 100 Tryz.func89 rfl (by kernel_rfl) ?_
 refine hr.u ?_
 refine⟨fun h1=>?_,fun h1=>?_⟩
 ·refine (wA t).u ?_
  refine aj ?_
  exact (show ft t=true↔qJ t from ⟨fun h=>⟨h1,h⟩,fun h=>h.2⟩)
 ·refine aj ?_
  exact (show ¬ qJ t from fun h=>h1 h.1)
def Cg (t:T):Int:=if t.op=0 then 0 else nF (fG t)
theorem qK (t:T):ai gT 87 [gF t] (.int .i64 (Cg t)):=by
 have hc:=oh (fG t)
 rw[FV] at hc
 refine Spec.enter al ZL 100 Tryz.func87 rfl (by kernel_rfl) ?_
 refine⟨fun h1=>?_,fun h1=>?_⟩
 ·refine aj ?_
  exact (show (0:Int)=Cg t by rw[Cg,if_pos h1])
 ·refine hc.u ?_
  refine aj ?_
  exact (show nF (fG t)=Cg t by rw[Cg,if_neg h1])
mutual
def Vd:C->Int
 | .mk _ _ _ _ _ a b l=>rq l (IntKind.i64.wrap (IntKind.i64.wrap (1+Cg a)+Cg b))
def rq:List C->Int->Int
 | [],a=>a
 | c::l,a=>rq l (IntKind.i64.wrap (a+Vd c))
end
theorem QH (c:C):Vd c=rq c.l (IntKind.i64.wrap (IntKind.i64.wrap (1+Cg c.a)+Cg c.b)):=by cases c; rfl
theorem wY:∀ c:C,ai gT 47 [bo c] (.int .i64 (Vd c)):=C.nw fun c ih=>by
 have ek:(gG c).length=c.l.length:=by rw[dh,List.length_map]
 rw[QH]
 obtain⟨R,hR⟩:∃ R,R=rq c.l (IntKind.i64.wrap (IntKind.i64.wrap (1+Cg c.a)+Cg c.b)):=⟨_,rfl⟩
 rw[← hR]
 refine Spec.enter al VC 100 Tryz.func47 rfl (by kernel_rfl) ?_
 refine (qK c.a).u ?_
 refine .inr ?_
 refine (qK c.b).u ?_
 refine .inr ?_
 refine fun hm=>SW.hU al VC (by kernel_rfl) (α:={q:Nat × Int // R=rq (c.l.drop q.1) q.2}) (fun q=>[(17,.int .i64 q.1.1),(3,.int .i64 q.1.2)]) (fun q=>c.l.length - q.1.1) ⟨(0,IntKind.i64.wrap (IntKind.i64.wrap (1+Cg c.a)+Cg c.b)),hR⟩ 60 ?_ ?_
 ·repeat' first|exact trivial|exact rfl|refine And.intro ?_ ?_
 rintro⟨⟨i,a⟩,hi⟩
 refine⟨fun h=>?_,fun h=>?_⟩
 ·have h':(i:Int) < ((gG c).length:Nat):=h
  refine⟨C,c.l,bo,dh c,show (0:Int)<=(i:Int) by omega,show (i:Int) < (c.l.length:Int) by omega,fun x hx=>?_⟩
  have dp:c.l[i]?=some x:=hx
  refine (ih x (List.mem_of_getElem? dp)).u ?_
  refine .inr ?_
  unfold maxLen at hm
  refine .inl ⟨ay (show _<=(i:Int)+1/\(i:Int)+1<=_ by omega),⟨⟨(i+1,IntKind.i64.wrap (a+Vd x)),?_⟩,show c.l.length - (i+1) < c.l.length - i by omega,?_⟩⟩
  ·show R=rq (c.l.drop (i+1)) _
   rw[hi]
   show rq (c.l.drop i) a=_
   rw[List.drop_eq_getElem_cons (by omega),rq]
   rw[List.getElem?_eq_getElem (by omega)] at dp
   rw[Option.some.inj dp]
  ·repeat' first|exact trivial|exact rfl|refine And.intro ?_ ?_
 ·have h':¬ (i:Int) < ((gG c).length:Nat):=h
  refine aj ?_
  exact (show a=R by rw[hi]; show a=rq (c.l.drop i) a; rw[List.drop_of_length_le (by omega),rq])
def Gh (k cy mi wo si:Int) (a b:T) (n:Int):Prop:=(1<=k/\k<=6)/\((k=1->0<=cy/\cy<=2147483647/\0<=mi/\mi<=2147483647)/\(¬ k=1->cy=0/\mi=0)/\(k=4->4<=wo/\wo<=253)/\(¬ k=4->wo=0)/\(k=5->0<=si/\si<=1024)/\(¬ k=5->si=0))
  /\ ((k=1\/k=6->n=0)/\(k=2->n<=2147483647)/\(k=3->n=2)/\(k=4\/k=5->n=1))
  /\ ((3<=k->qJ a)/\(k < 3->cQ a false=true))/\((k=4\/k=6->qJ b)/\(¬ (k=4\/k=6)->cQ b false=true))
mutual
def nJ:C->Prop
 | .mk k cy mi wo si a b l=>Gh k cy mi wo si a b (l.length:Nat)/\wZ l
def wZ:List C->Prop
 | []=>True
 | c::l=>nJ c/\wZ l
end
theorem sQ:∀ {l:List C},wZ l↔∀ x∈l,nJ x
 | []=>by simp[wZ]
 | c::l=>by rw[wZ,sQ]; simp
theorem Js (c:C):nJ c↔Gh c.kind c.fj c.fC c.word c.size c.a c.b (c.l.length:Nat)/\∀ x∈c.l,nJ x:=by
 cases c with
 | mk k cy mi wo si a b l=>rw[← sQ]; rfl
theorem rr (c:C) (h:ai gT 48 [bo c] (.bool (nJ c))):ai gT 91 [bo c] (.bool (¬ nJ c)):=by
 refine Spec.enter al ZO 100 Tryz.func91 rfl (by kernel_rfl) ?_
 refine h.u ?_
 exact aj Iff.rfl
theorem uo:∀ c:C,ai gT 48 [bo c] (.bool (nJ c)):=C.nw fun c ih=>by
 have hh:=z5 c.l (fun x=>¬ nJ x) fun x hx=>rr x (ih x hx)
 rw[← dh] at hh
 have ek:(gG c).length=c.l.length:=by rw[dh,List.length_map]
 have S:=Js c
 obtain⟨KL,Qq⟩:∃ KL,KL = ∀ x∈c.l,nJ x:=⟨_,rfl⟩
 rw[← Qq] at S
 have e:(∃ x∈c.l,¬ nJ x) = ¬ KL:=propext (by rw[Qq]; exact⟨fun ⟨x,hx,hn⟩ h=>hn (h x hx),fun h=>Classical.byContradiction fun hn=>h fun x hx=>Classical.byContradiction fun h'=>hn ⟨x,hx,h'⟩⟩)
 rw[e] at hh
 obtain⟨LN,YB⟩:∃ LN:Int,LN=((gG c).length:Int):=⟨_,rfl⟩
 rw[← ek,← YB] at S
 clear e Qq ih
 unfold Gh at S
 have tA:=wX c.a
 have tB:=wX c.b
 generalize qJ c.a=PA at S tA
 generalize qJ c.b=PB at S tB
 obtain⟨SC,YC⟩:∃ SC,SC=nJ c:=⟨_,rfl⟩
 rw[← YC] at S ⊢
 refine Spec.enter al ZM 100 Tryz.func48 rfl (by kernel_rfl) ?_
 refine⟨fun h1=>?_,fun h1=>And.intro (fun h2=>?_) (fun h2=>?_)⟩
 ·refine aj ?_
  exact (show ¬ SC by grind)
 ·refine aj ?_
  exact (show ¬ SC by grind)
 refine Kh h1 h2 (fun hk=>?_) (fun hk=>?_) (fun hk=>?_) (fun hk=>?_) (fun hk=>?_) (fun hk=>?_)
 ·simp only[hk] at S
  simp at S
  refine⟨by omega,by omega,.inl ⟨1,hk,?_⟩⟩
  repeat' (first
   | refine And.intro (fun _=>?_) (fun _=>?_)
   | refine⟨[],av,(cF _ _ _).use ⟨rfl,rfl,rfl,trivial,trivial⟩ rfl rfl ?_⟩
   | refine⟨[],av,(cG _ _ _).use ⟨rfl,rfl,rfl,trivial,trivial⟩ rfl rfl ?_⟩
   | refine⟨[],av,tA.use ⟨⟨rfl,rfl,rfl,trivial⟩,trivial,trivial⟩ rfl rfl ?_⟩
   | refine⟨[],av,tB.use ⟨⟨rfl,rfl,rfl,trivial⟩,trivial,trivial⟩ rfl rfl ?_⟩
   | refine⟨[],av,(cI _).use ⟨⟨rfl,rfl,rfl,trivial⟩,trivial,trivial⟩ rfl rfl ?_⟩
   | refine⟨[],av,(hh).use ⟨rfl,trivial,trivial⟩ rfl rfl ?_⟩
   | (refine aj ?_; first|exact (show ¬ SC by grind)|exact (show _↔SC by grind))
   | intro _)
 ·simp only[hk] at S
  simp at S
  refine⟨by omega,by omega,.inl ⟨2,hk,?_⟩⟩
  repeat' (first
   | refine And.intro (fun _=>?_) (fun _=>?_)
   | refine⟨[],av,(cF _ _ _).use ⟨rfl,rfl,rfl,trivial,trivial⟩ rfl rfl ?_⟩
   | refine⟨[],av,(cG _ _ _).use ⟨rfl,rfl,rfl,trivial,trivial⟩ rfl rfl ?_⟩
   | refine⟨[],av,tA.use ⟨⟨rfl,rfl,rfl,trivial⟩,trivial,trivial⟩ rfl rfl ?_⟩
   | refine⟨[],av,tB.use ⟨⟨rfl,rfl,rfl,trivial⟩,trivial,trivial⟩ rfl rfl ?_⟩
   | refine⟨[],av,(cI _).use ⟨⟨rfl,rfl,rfl,trivial⟩,trivial,trivial⟩ rfl rfl ?_⟩
   | refine⟨[],av,(hh).use ⟨rfl,trivial,trivial⟩ rfl rfl ?_⟩
   | (refine aj ?_; first|exact (show ¬ SC by grind)|exact (show _↔SC by grind))
   | intro _)
 ·simp only[hk] at S
  simp at S
  refine⟨by omega,by omega,.inl ⟨3,hk,?_⟩⟩
  repeat' (first
   | refine And.intro (fun _=>?_) (fun _=>?_)
   | refine⟨[],av,(cF _ _ _).use ⟨rfl,rfl,rfl,trivial,trivial⟩ rfl rfl ?_⟩
   | refine⟨[],av,(cG _ _ _).use ⟨rfl,rfl,rfl,trivial,trivial⟩ rfl rfl ?_⟩
   | refine⟨[],av,tA.use ⟨⟨rfl,rfl,rfl,trivial⟩,trivial,trivial⟩ rfl rfl ?_⟩
   | refine⟨[],av,tB.use ⟨⟨rfl,rfl,rfl,trivial⟩,trivial,trivial⟩ rfl rfl ?_⟩
   | refine⟨[],av,(cI _).use ⟨⟨rfl,rfl,rfl,trivial⟩,trivial,trivial⟩ rfl rfl ?_⟩
   | refine⟨[],av,(hh).use ⟨rfl,trivial,trivial⟩ rfl rfl ?_⟩
   | (refine aj ?_; first|exact (show ¬ SC by grind)|exact (show _↔SC by grind))
   | intro _)
 ·simp only[hk] at S
  simp at S
  refine⟨by omega,by omega,.inl ⟨4,hk,?_⟩⟩
  repeat' (first
   | refine And.intro (fun _=>?_) (fun _=>?_)
   | refine⟨[],av,(cF _ _ _).use ⟨rfl,rfl,rfl,trivial,trivial⟩ rfl rfl ?_⟩
   | refine⟨[],av,(cG _ _ _).use ⟨rfl,rfl,rfl,trivial,trivial⟩ rfl rfl ?_⟩
   | refine⟨[],av,tA.use ⟨⟨rfl,rfl,rfl,trivial⟩,trivial,trivial⟩ rfl rfl ?_⟩
   | refine⟨[],av,tB.use ⟨⟨rfl,rfl,rfl,trivial⟩,trivial,trivial⟩ rfl rfl ?_⟩
   | refine⟨[],av,(cI _).use ⟨⟨rfl,rfl,rfl,trivial⟩,trivial,trivial⟩ rfl rfl ?_⟩
   | refine⟨[],av,(hh).use ⟨rfl,trivial,trivial⟩ rfl rfl ?_⟩
   | (refine aj ?_; first|exact (show ¬ SC by grind)|exact (show _↔SC by grind))
   | intro _)
 ·simp only[hk] at S
  simp at S
  refine⟨by omega,by omega,.inl ⟨5,hk,?_⟩⟩
  repeat' (first
   | refine And.intro (fun _=>?_) (fun _=>?_)
   | refine⟨[],av,(cF _ _ _).use ⟨rfl,rfl,rfl,trivial,trivial⟩ rfl rfl ?_⟩
   | refine⟨[],av,(cG _ _ _).use ⟨rfl,rfl,rfl,trivial,trivial⟩ rfl rfl ?_⟩
   | refine⟨[],av,tA.use ⟨⟨rfl,rfl,rfl,trivial⟩,trivial,trivial⟩ rfl rfl ?_⟩
   | refine⟨[],av,tB.use ⟨⟨rfl,rfl,rfl,trivial⟩,trivial,trivial⟩ rfl rfl ?_⟩
   | refine⟨[],av,(cI _).use ⟨⟨rfl,rfl,rfl,trivial⟩,trivial,trivial⟩ rfl rfl ?_⟩
   | refine⟨[],av,(hh).use ⟨rfl,trivial,trivial⟩ rfl rfl ?_⟩
   | (refine aj ?_; first|exact (show ¬ SC by grind)|exact (show _↔SC by grind))
   | intro _)
 ·simp only[hk] at S
  simp at S
  refine⟨by omega,by omega,.inl ⟨6,hk,?_⟩⟩
  repeat' (first
   | refine And.intro (fun _=>?_) (fun _=>?_)
   | refine⟨[],av,(cF _ _ _).use ⟨rfl,rfl,rfl,trivial,trivial⟩ rfl rfl ?_⟩
   | refine⟨[],av,(cG _ _ _).use ⟨rfl,rfl,rfl,trivial,trivial⟩ rfl rfl ?_⟩
   | refine⟨[],av,tA.use ⟨⟨rfl,rfl,rfl,trivial⟩,trivial,trivial⟩ rfl rfl ?_⟩
   | refine⟨[],av,tB.use ⟨⟨rfl,rfl,rfl,trivial⟩,trivial,trivial⟩ rfl rfl ?_⟩
   | refine⟨[],av,(cI _).use ⟨⟨rfl,rfl,rfl,trivial⟩,trivial,trivial⟩ rfl rfl ?_⟩
   | refine⟨[],av,(hh).use ⟨rfl,trivial,trivial⟩ rfl rfl ?_⟩
   | (refine aj ?_; first|exact (show ¬ SC by grind)|exact (show _↔SC by grind))
   | intro _)
def yP (c:C):Prop:=Vd c<=16384/\nJ c
theorem w_ (c:C):ai gT 23 [bo c] (.bool (yP c)):=by
 refine Spec.enter al ZK 100 Tryz.func23 rfl (by kernel_rfl) ?_
 refine (wY c).u ?_
 refine⟨fun h=>?_,fun h=>?_⟩
 ·refine (uo c).u ?_
  exact aj (show nJ c↔_ from ⟨fun k=>⟨h,k⟩,fun k=>k.2⟩)
 ·exact aj (show ¬ _ from fun k=>h k.1)
def uq (l:List ST):Prop:=∃ s,l[l.length - 1]?=some s/\s.h.kind=1
noncomputable def om (b:List Int) (a:Int) (l:List ST):WK:=aC (bg b l (kL a)).2 ((bg b l (kL a)).2.last/\uq l)
open Classical in
noncomputable def bK (b:List Int) (a:Int) (l:List ST):C × Int × Int :=
 if (om b a l).e≠0 then (eZ,0,(om b a l).e)
 else if ¬ yP (ba (bg b l (kL a)).1) then (eZ,0,161)
 else (ba (bg b l (kL a)).1,(om b a l).at_,0)
theorem kg {b:List Int} (hl:b.length<=2000) {a:Int} (hI:ck a) {l:List ST} (hO:iv l) (h:(bK b a l).2.2=0):cc b a (bK b a l).2.1:=by
 have hg:=fI hl l hO
 unfold bK at h ⊢
 by_cases h1:(om b a l).e≠0
 ·rw[if_pos h1] at h; exact absurd h h1
 ·rw[if_neg h1] at h ⊢
  by_cases h2:¬ yP (ba (bg b l (kL a)).1)
  ·rw[if_pos h2] at h; exact absurd (show (161:Int)=0 from h) (by decide)
  ·rw[if_neg h2]
   obtain⟨_,h3⟩:=cm (Classical.not_not.1 h1)
   exact (hg.ok (kL a) hI h3).2.1
theorem Ap {b:List Int} (hl:b.length<=2000) {a:Int} (hI:ck a) {l:List ST} (hO:iv l):ck (bK b a l).2.1:=by
 have hg:=fI hl l hO
 have z:ck 0:=⟨by decide,by decide⟩
 unfold bK
 split
 ·exact z
 split
 ·exact z
 ·exact hg.I (kL a) hI
theorem sR (b:List Int) (hb:oK b) (hl:b.length<=2000) (a:Int) (hI:ck a) (l:List ST) (hO:iv l):ai gT 7 [.sl 1 (mz b),.int .i64 a,.sl 17 (l.map rp)] (.tup [bo (bK b a l).1,.int .i64 (bK b a l).2.1,.int .i64 (bK b a l).2.2]):=by
 have hs:=Ce b hb hl l hO (kL a) hI
 have hr:=w_ (ba (bg b l (kL a)).1)
 have el:(l.map jD).length=l.length:=List.length_map ..
 rw[o9] at hs ⊢
 unfold bK
 have hcw:∀ p,(p↔((bg b l (kL a)).2.last/\uq l))->aC (bg b l (kL a)).2 p=om b a l:=fun p h=>by unfold om; rw[propext h]
 have AE:¬ ((bg b l (kL a)).2.last/\uq l)->({ (bg b l (kL a)).2 with e:=201 }:WK)=om b a l:=fun h=>(cX h).symm
 generalize om b a l=w1 at *
 generalize ba (bg b l (kL a)).1=c at *
 generalize (bg b l (kL a)).2=w2 at *
 refine Spec.enter al P7 100 Tryz.func7 rfl (by kernel_rfl) ?_
 refine⟨[],av,(hs).vW [1] rfl rfl rfl (by repeat' first|exact trivial|exact rfl|exact Iff.rfl|refine And.intro ?_ ?_) (And.intro (by first|(show dR _ _; exact da rfl rfl)|(repeat' first|exact trivial|exact rfl|exact Iff.rfl|exact Or.inl rfl|exact not_false|refine And.intro ?_ ?_)) ?_)⟩
 refine⟨fun h1=>fun hm=>And.intro (fun h2=>?p1) (fun h2=>?p2),fun h1=>?p3⟩
 case' p1 =>
  have Ij:(0:Int) < ((l.map jD).length:Nat):=h2
  rw[el] at Ij
  unfold maxLen at hm
  refine fun uL=>?_
  refine li ?_ (show _<=(((l.map jD).length:Nat):Int) - 1/\(((l.map jD).length:Nat):Int) - 1<=_ by omega)
  have em:max ((((l.map jD).length:Nat):Int) - 1) 0=((l.length - 1:Nat):Int):=by omega
  refine⟨ST,l,jD,rfl,(show (0:Int)<=max ((((l.map jD).length:Nat):Int) - 1) 0 by omega),(show max ((((l.map jD).length:Nat):Int) - 1) 0 < (l.length:Int) by omega),fun x hx=>?_⟩
  have dp:l[l.length - 1]?=some x:=by
   have GA:l[(max ((((l.map jD).length:Nat):Int) - 1) 0).toNat]?=some x:=hx
   rw[em] at GA
   exact GA
  refine⟨[],av,(bs b w2 (x.h.kind=1)).vW [1] rfl rfl rfl (by repeat' first|exact trivial|exact rfl|exact Iff.rfl|refine And.intro ?_ ?_) (And.intro (by first|(show dR _ _; exact da rfl rfl)|(repeat' first|exact trivial|exact rfl|exact Iff.rfl|exact Or.inl rfl|exact not_false|refine And.intro ?_ ?_)) ?_)⟩
  rw[hcw (x.h.kind=1) ⟨fun k=>⟨h1,x,dp,k⟩,fun k=>by
   obtain⟨_,y,hy,hk⟩:=k
   rw[dp] at hy
   cases hy
   exact hk⟩]
 case' p2 =>
  have Ij:¬ (0:Int) < ((l.map jD).length:Nat):=h2
  rw[el] at Ij
  refine⟨[],av,(bO b w2).vW [1] rfl rfl rfl (by repeat' first|exact trivial|exact rfl|exact Iff.rfl|refine And.intro ?_ ?_) (And.intro (by first|(show dR _ _; exact da rfl rfl)|(repeat' first|exact trivial|exact rfl|exact Iff.rfl|exact Or.inl rfl|exact not_false|refine And.intro ?_ ?_)) ?_)⟩
  rw[AE fun k=>by
   obtain⟨_,y,hy,_⟩:=k
   have:=(List.getElem?_eq_some_iff.1 hy).1
   omega]
 case' p3 =>
  refine⟨[],av,(bO b w2).vW [1] rfl rfl rfl (by repeat' first|exact trivial|exact rfl|exact Iff.rfl|refine And.intro ?_ ?_) (And.intro (by first|(show dR _ _; exact da rfl rfl)|(repeat' first|exact trivial|exact rfl|exact Iff.rfl|exact Or.inl rfl|exact not_false|refine And.intro ?_ ?_)) ?_)⟩
  rw[AE fun k=>h1 k.1]
 all_goals
  refine⟨fun he=>?_,fun he=>?_⟩
  ·rw[if_pos he]
   exact rA
  ·rw[if_neg he]
   refine hr.u ?_
   refine⟨fun hq=>?_,fun hq=>?_⟩
   ·rw[if_pos hq]
    exact rA
   ·rw[if_neg hq]
    exact rA
end Go.Proofs.YtnbhdacpogplgaaGreatDoor.Pw

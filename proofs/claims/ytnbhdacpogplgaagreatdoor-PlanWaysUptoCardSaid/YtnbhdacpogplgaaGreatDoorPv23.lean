/- What this claim is proved with: no condition. -/
import Derived.Test.YtnbhdacpogplgaaGreatDoorPv22
import Derived.Test.YtnbhdacpogplgaaGreatDoorPv21
import Derived.Test.YtnbhdacpogplgaaGreatDoorPv9
import Derived.Test.YtnbhdacpogplgaaGreatDoorPv20
import Derived.Test.YtnbhdacpogplgaaGreatDoorPv8
set_option maxRecDepth 100000
set_option maxHeartbeats 16000000
set_option linter.unusedVariables false
set_option linter.unusedSimpArgs false
namespace Go.Proofs.YtnbhdacpogplgaaGreatDoor.Pw
open Go Go.RowKit
variable {b:List Int}
def stC (s:ST) (t u:T):List PV:=[.int .i64 s.h.kind,.int .i64 s.h.fr,.int .i64 s.h.till,.int .i64 s.h.stub,.int .i64 s.h.skip,.int .i64 s.h.size,.int .i64 s.h.word,.int .i64 t.op,.int .u32 t.num,.sl 3 (cz t),.int .i64 u.op,.int .u32 u.num,.sl 3 (cz u),.sl 7 (s.h.aw.map rV),.sl 17 (s.hd.map sr),.sl 17 (s.bd.map sr),.sl 17 (s.el.map sr)]
theorem ZW {s:ST} {t u:T} (hA:s.h.A=fD t) (hB:s.h.B=fD u):iq s = .agg (stC s t u):=by
 unfold iq D7 spF qv stC
 simp only
 rw[hA,hB,iT,l_,dA,iT,l_,dA]
theorem YB.R5 {y:WY} (h:YB b y) (n:Nat) {v:Int} (hv:0<=v/\v<=4294967295):YB b (y.put n v):=by
 refine⟨⟨h.ok.fuel,h.ok.len,⟨?_,fun x hx=>?_⟩,h.ok.Un⟩,h.dv⟩
 ·show (y.ws.set n v).length=254
  rw[List.length_set]; exact h.ok.wk.1
 ·rcases List.mem_or_eq_of_mem_set (show x∈y.ws.set n v from hx) with hx|rfl
  ·exact h.ok.wk.2 x hx
  ·exact hv
structure YN (b:List Int) (h:SH) (high iO:Int) (HD BD:WY->WY) (R:WY) where
 k:Nat
 i:Int
 y:WY
 eq:mZ b h high iO HD BD k i y=R
 py:y.fuel+2<=k
 B:YB b y
 bi:0<=i/\i<=4294967295
open Classical in
theorem FJ (b:List Int) (hb:pq b) (hl:b.length<=2000) (y:WY) (hy:YB b y) (hf:0<=y.fuel) (s:ST) (hO:s.Ok) (hA:eD s.h.A) (hB:eD s.h.B) (hw:0<=s.h.word/\s.h.word<=253) (HD BD:WY->WY) (hHD:jK b s.hd HD) (hBD:jK b s.bd BD) (kH:jz b HD) (kB:jz b BD) (fH:jx HD) (fB:jx BD):Spec gT 42 [.ptr 0 0,iq s] (kK b y) [2,3] fun r S'=>r = .tup []/\S'=kK b (lf b s.h HD BD y):=by
 have uF:=s.rW hO
 have ca:=gf uF.2.1 hA
 have hwu:=gf uF.2.2.1 hB
 have fU:bX s.h.stub:=uF.1.2.2.2.1
 have mn:bX s.h.skip:=uF.1.2.2.2.2.1
 rw[ZW (iU hA) (iU hB)]
 unfold lf
 generalize cJ s.h.A=t at ca ⊢
 generalize cJ s.h.B=u at hwu ⊢
 have he:=fp y.ws hy.ok.wk.words t ca
 have Fy:∀ v,t.bo y.ws=some v->0<=v/\v<=4294967295:=fun v h=>T.eL hy.ok.wk.words ca h
 have hu:=fp y.ws hy.ok.wk.words u hwu
 have huv:∀ v,u.bo y.ws=some v->0<=v/\v<=4294967295:=fun v h=>T.eL hy.ok.wk.words hwu h
 have hlen:(bh y.ws).length=254:=by rw[bh,List.length_map]; exact hy.ok.wk.1
 refine Spec.nQ ao P42 100 Tryz.func42 rfl (by kernel_rfl) ?_
 refine⟨[],az,he.BV [1] (by repeat' first|exact trivial|exact rfl|exact Iff.rfl|exact Or.inl rfl|refine And.intro ?_ ?_) rfl rfl ?_⟩
 refine⟨[],az,hu.BV [1] (by repeat' first|exact trivial|exact rfl|exact Iff.rfl|exact Or.inl rfl|refine And.intro ?_ ?_) rfl rfl ?_⟩
 unfold jQ
 generalize t.bo y.ws=q at Fy ⊢
 generalize u.bo y.ws=q2 at huv ⊢
 cases q with
 | none =>
  rw[if_pos (.inl rfl)]
  refine⟨fun _=>?_,fun h=>absurd nofun h⟩
  refine Exists.intro [some 0,some 1,some 2,some 3] (Exists.intro [] (Exists.intro (kK b { y with ck:=3 }) (And.intro ?_ (And.intro (Nat.le_of_ble_eq_true rfl) (And.intro rfl rfl)))))
  repeat' first|exact trivial|exact rfl|exact Iff.rfl|exact not_false|refine And.intro ?_ ?_
 | some v =>
  have hv:=Fy v rfl
  refine⟨fun h=>absurd rfl h,fun _=>?_⟩
  cases q2 with
  | none =>
   rw[if_pos (.inr rfl)]
   refine⟨fun _=>?_,fun h=>absurd nofun h⟩
   refine Exists.intro [some 0,some 1,some 2,some 3] (Exists.intro [] (Exists.intro (kK b { y with ck:=3 }) (And.intro ?_ (And.intro (Nat.le_of_ble_eq_true rfl) (And.intro rfl rfl)))))
   repeat' first|exact trivial|exact rfl|exact Iff.rfl|exact not_false|refine And.intro ?_ ?_
  | some z =>
   have hz:=huv z rfl
   refine⟨fun h=>absurd rfl h,fun _=>?_⟩
   rw[if_neg (fun k=>k.elim nofun nofun)]
   refine⟨fun h=>absurd h (show ¬ s.h.word < 0 by omega),fun _=>?_⟩
   refine fun hm=>?_
   refine⟨fun h=>absurd (show ((bh y.ws).length:Int)<=s.h.word from h) (by omega),fun _=>?_⟩
   refine⟨hw.1,show s.h.word < ((bh y.ws).length:Nat) by omega,?_⟩
   refine⟨Int,y.ws,PV.int .u32,rfl,show s.h.word.toNat < y.ws.length by rw[hy.ok.wk.1]; omega,fun iO CN=>?_⟩
   have Tt:y.ws[s.h.word.toNat]?=some iO:=CN
   have hwb:0<=iO/\iO<=4294967295:=hy.ok.wk.2 iO (List.mem_of_getElem? Tt)
   rw[Tt]
   obtain⟨R,hR⟩:∃ R,mZ b s.h z iO HD BD (y.fuel+2).toNat v y=R:=⟨_,rfl⟩
   rw[show mZ b s.h ((some z).getD 0) ((some iO).getD 0) HD BD (y.fuel+2).toNat ((some v).getD 0) y=R from hR]
   refine SW.tU ao P42 (by kernel_rfl) (α:=YN b s.h z iO HD BD R) (fun r=>[(0,.ptr 0 0),(3,.ptr 4 0),(6,.int .u32 z),(8,.int .u32 iO),(9,.int .u32 r.i)]) (fun r=>kK b r.y++[⟨.loc,37,1,.w,true,stC s t u⟩]) (fun r=>r.k) ⟨(y.fuel+2).toNat,v,y,hR,by omega,hy,hv⟩ 100 [some 0,some 1,some 2,some 3,some 4] ?_ ?_
   ·repeat' first|exact trivial|exact rfl|exact Iff.rfl|exact not_false|refine And.intro ?_ ?_
   rintro⟨k,i,y,heq,NG,hy,hbi⟩
   have jI:y.fin->R=y:=fun h=>by
    cases k with
    | zero=>exact heq.symm
    | succ k=>rw[mZ,if_pos h] at heq; exact heq.symm
   have Kh:¬ y.fin->∃ k',k=k'+1/\R=(if (HD (y.put s.h.word.toNat (if i < z then i else iO))).fin then HD (y.put s.h.word.toNat (if i < z then i else iO)) else
  if i < z then
   mZ b s.h z iO HD BD k' (i+1) (if (BD (aK b (HD (y.put s.h.word.toNat i)) s.h.stub False)).fin then BD (aK b (HD (y.put s.h.word.toNat i)) s.h.stub False) else aK b (BD (aK b (HD (y.put s.h.word.toNat i)) s.h.stub False)) s.h.skip True)
  else aK b (HD (y.put s.h.word.toNat iO)) s.h.stub True):=fun h=>by
    cases k with
    | zero =>
     have:y.fuel < 0:=by omega
     exact absurd (.inr this) h
    | succ k=>rw[mZ,if_neg h] at heq; exact⟨k,rfl,heq.symm⟩
   have hlen:(bh y.ws).length=254:=by rw[bh,List.length_map]; exact hy.ok.wk.1
   have hset1:(bh y.ws).set s.h.word.toNat (.int .u32 iO)=bh (y.put s.h.word.toNat iO).ws:=by
    show (y.ws.map _).set _ _=(y.ws.set _ _).map _
    rw[List.map_set]
   have hset2:((bh y.ws).set s.h.word.toNat (.int .u32 iO)).set s.h.word.toNat (.int .u32 i)=bh (y.put s.h.word.toNat i).ws:=by
    rw[List.set_set]
    show (y.ws.map _).set _ _=(y.ws.set _ _).map _
    rw[List.map_set]
   refine (iy b y).e ?_
   refine⟨fun h2=>?_,fun h2=>?_⟩
   ·have hf0:0<=y.fuel:=by
     have:¬ y.fuel < 0:=fun k=>h2 (.inr k)
     omega
    obtain⟨k',rfl,hR⟩:=Kh h2
    refine⟨hw.1,show s.h.word < ((bh y.ws).length:Nat) by omega,?_⟩
    refine And.intro (show s.h.word.toNat < (bh y.ws).length by omega) ?_
    refine⟨fun h3=>?_,fun h3=>?_⟩
    ·have Kn:i < z:=h3
     rw[if_pos Kn,if_pos Kn] at hR
     refine⟨hw.1,show s.h.word < (((bh y.ws).set s.h.word.toNat (.int .u32 iO)).length:Nat) by rw[List.length_set]; omega,?_⟩
     refine And.intro (show s.h.word.toNat < ((bh y.ws).set s.h.word.toNat (.int .u32 iO)).length by rw[List.length_set]; omega) ?_
     have B1:=hy.R5 s.h.word.toNat hbi
     have B2:=kH _ B1
     have F2:=fH (y.put s.h.word.toNat i)
     replace F2:_<=max y.fuel (-1):=F2
     refine⟨[2,3],jJ (.inr (by simp)) (.inr (by simp)) (by rintro b ⟨⟩; nofun) (by rintro b ⟨⟩; nofun),(hHD _ B1).jF rfl rfl rfl rfl rfl (by first|exact ah rfl rfl|(repeat' first|exact trivial|exact rfl|exact Iff.rfl|exact Or.inl rfl|exact not_false|refine And.intro ?_ ?_)) (And.intro (by first|exact ah rfl rfl|(repeat' first|exact trivial|exact rfl|exact Iff.rfl|exact Or.inl rfl|exact not_false|refine And.intro ?_ ?_)) (And.intro hset2 (And.intro (by first|exact ah rfl rfl|(repeat' first|exact trivial|exact rfl|exact Iff.rfl|exact Or.inl rfl|exact not_false|refine And.intro ?_ ?_)) (And.intro (by first|exact ah rfl rfl|(repeat' first|exact trivial|exact rfl|exact Iff.rfl|exact Or.inl rfl|exact not_false|refine And.intro ?_ ?_)) (And.intro trivial ?_)))))⟩
     generalize HD (y.put s.h.word.toNat i)=y2 at B2 F2 hR ⊢
     refine (iy b y2).e ?_
     refine⟨fun h4=>?_,fun h4=>?_⟩
     ·rw[if_pos h4] at hR
      subst hR
      refine Exists.intro [some 0,some 1,some 2,some 3] (Exists.intro [] (Exists.intro (kK b R) (And.intro ?_ (And.intro (Nat.le_of_ble_eq_true rfl) (And.intro rfl rfl)))))
      repeat' first|exact trivial|exact rfl|exact Iff.rfl|exact not_false|refine And.intro ?_ ?_
     ·rw[if_neg h4] at hR
      have Kf:0<=y2.fuel:=by
       have:¬ y2.fuel < 0:=fun k=>h4 (.inr k)
       omega
      have e1:(z<=i)=False:=propext ⟨fun k=>absurd Kn (by omega),fun k=>k.elim⟩
      have s1:=gy b hb hl y2 B2.ok s.h.stub fU (z<=i)
      have B3:=B2.step hl (by omega) fU False
      have F3:=(m7 (b:=b) Kf s.h.stub False).1
      refine⟨[2,3],jJ (by first|exact .inl (Nat.zero_le _)|exact .inr (by simp)) (by first|exact .inl (Nat.zero_le _)|exact .inr (by simp)) (by rintro b ⟨⟩; nofun) (by rintro b ⟨⟩; nofun),(s1).jF rfl rfl rfl rfl rfl (by first|exact ah rfl rfl|(repeat' first|exact trivial|exact rfl|exact Iff.rfl|exact Or.inl rfl|exact not_false|refine And.intro ?_ ?_)) (And.intro (by first|exact ah rfl rfl|(repeat' first|exact trivial|exact rfl|exact Iff.rfl|exact Or.inl rfl|exact not_false|refine And.intro ?_ ?_)) (And.intro (by first|exact ah rfl rfl|(repeat' first|exact trivial|exact rfl|exact Iff.rfl|exact Or.inl rfl|exact not_false|refine And.intro ?_ ?_)) (And.intro (by first|exact ah rfl rfl|(repeat' first|exact trivial|exact rfl|exact Iff.rfl|exact Or.inl rfl|exact not_false|refine And.intro ?_ ?_)) (And.intro (by first|exact ah rfl rfl|(repeat' first|exact trivial|exact rfl|exact Iff.rfl|exact Or.inl rfl|exact not_false|refine And.intro ?_ ?_)) (And.intro trivial ?_)))))⟩
      rw[e1]
      generalize aK b y2 s.h.stub False=y3 at B3 F3 hR ⊢
      refine⟨fun h=>absurd h (by omega),fun _=>?_⟩
      have B4:=kB _ B3
      have F4:=fB y3
      refine⟨[2,3],jJ (by first|exact .inl (Nat.zero_le _)|exact .inr (by simp)) (by first|exact .inl (Nat.zero_le _)|exact .inr (by simp)) (by rintro b ⟨⟩; nofun) (by rintro b ⟨⟩; nofun),(hBD _ B3).jF rfl rfl rfl rfl rfl (by first|exact ah rfl rfl|(repeat' first|exact trivial|exact rfl|exact Iff.rfl|exact Or.inl rfl|exact not_false|refine And.intro ?_ ?_)) (And.intro (by first|exact ah rfl rfl|(repeat' first|exact trivial|exact rfl|exact Iff.rfl|exact Or.inl rfl|exact not_false|refine And.intro ?_ ?_)) (And.intro (by first|exact ah rfl rfl|(repeat' first|exact trivial|exact rfl|exact Iff.rfl|exact Or.inl rfl|exact not_false|refine And.intro ?_ ?_)) (And.intro (by first|exact ah rfl rfl|(repeat' first|exact trivial|exact rfl|exact Iff.rfl|exact Or.inl rfl|exact not_false|refine And.intro ?_ ?_)) (And.intro (by first|exact ah rfl rfl|(repeat' first|exact trivial|exact rfl|exact Iff.rfl|exact Or.inl rfl|exact not_false|refine And.intro ?_ ?_)) (And.intro trivial ?_)))))⟩
      generalize BD y3=y4 at B4 F4 hR ⊢
      refine (iy b y4).e ?_
      refine⟨fun h5=>?_,fun h5=>?_⟩
      ·rw[if_neg h5] at hR
       have hf4:0<=y4.fuel:=by
        have:¬ y4.fuel < 0:=fun k=>h5 (.inr k)
        omega
       have B5:=B4.step hl (by omega) mn True
       have F5:=(m7 (b:=b) hf4 s.h.skip True).1
       refine⟨[2,3],jJ (by first|exact .inl (Nat.zero_le _)|exact .inr (by simp)) (by first|exact .inl (Nat.zero_le _)|exact .inr (by simp)) (by rintro b ⟨⟩; nofun) (by rintro b ⟨⟩; nofun),(gy b hb hl y4 B4.ok s.h.skip mn True).jF rfl rfl rfl rfl rfl (by first|exact ah rfl rfl|(repeat' first|exact trivial|exact rfl|exact Iff.rfl|exact Or.inl rfl|exact not_false|refine And.intro ?_ ?_)) (And.intro (by first|exact ah rfl rfl|(repeat' first|exact trivial|exact rfl|exact Iff.rfl|exact Or.inl rfl|exact not_false|refine And.intro ?_ ?_)) (And.intro (by first|exact ah rfl rfl|(repeat' first|exact trivial|exact rfl|exact Iff.rfl|exact Or.inl rfl|exact not_false|refine And.intro ?_ ?_)) (And.intro (by first|exact ah rfl rfl|(repeat' first|exact trivial|exact rfl|exact Iff.rfl|exact Or.inl rfl|exact not_false|refine And.intro ?_ ?_)) (And.intro (by first|exact ah rfl rfl|(repeat' first|exact trivial|exact rfl|exact Iff.rfl|exact Or.inl rfl|exact not_false|refine And.intro ?_ ?_)) (And.intro trivial ?_)))))⟩
       refine lu ?_ (show 0<=i+1/\i+1<=4294967295 by omega)
       refine⟨⟨k',i+1,_,hR.symm,by omega,B5,by omega⟩,[some 0,some 1,some 2,some 3,some 4],Nat.lt_succ_self _,?_⟩
       repeat' first|exact trivial|exact rfl|exact Iff.rfl|exact not_false|refine And.intro ?_ ?_
      ·have h5':=Classical.not_not.1 h5
       rw[if_pos h5'] at hR
       refine lu ?_ (show 0<=i+1/\i+1<=4294967295 by omega)
       refine⟨⟨k',i+1,_,hR.symm,by omega,B4,by omega⟩,[some 0,some 1,some 2,some 3,some 4],Nat.lt_succ_self _,?_⟩
       repeat' first|exact trivial|exact rfl|exact Iff.rfl|exact not_false|refine And.intro ?_ ?_
    ·have Kn:¬ i < z:=h3
     rw[if_neg Kn,if_neg Kn] at hR
     have B1:=hy.R5 s.h.word.toNat hwb
     have B2:=kH _ B1
     refine⟨[2,3],jJ (.inr (by simp)) (.inr (by simp)) (by rintro b ⟨⟩; nofun) (by rintro b ⟨⟩; nofun),(hHD _ B1).jF rfl rfl rfl rfl rfl (by first|exact ah rfl rfl|(repeat' first|exact trivial|exact rfl|exact Iff.rfl|exact Or.inl rfl|exact not_false|refine And.intro ?_ ?_)) (And.intro (by first|exact ah rfl rfl|(repeat' first|exact trivial|exact rfl|exact Iff.rfl|exact Or.inl rfl|exact not_false|refine And.intro ?_ ?_)) (And.intro hset1 (And.intro (by first|exact ah rfl rfl|(repeat' first|exact trivial|exact rfl|exact Iff.rfl|exact Or.inl rfl|exact not_false|refine And.intro ?_ ?_)) (And.intro (by first|exact ah rfl rfl|(repeat' first|exact trivial|exact rfl|exact Iff.rfl|exact Or.inl rfl|exact not_false|refine And.intro ?_ ?_)) (And.intro trivial ?_)))))⟩
     generalize HD (y.put s.h.word.toNat iO)=y2 at B2 hR ⊢
     refine (iy b y2).e ?_
     refine⟨fun h4=>?_,fun h4=>?_⟩
     ·rw[if_pos h4] at hR
      subst hR
      refine Exists.intro [some 0,some 1,some 2,some 3] (Exists.intro [] (Exists.intro (kK b R) (And.intro ?_ (And.intro (Nat.le_of_ble_eq_true rfl) (And.intro rfl rfl)))))
      repeat' first|exact trivial|exact rfl|exact Iff.rfl|exact not_false|refine And.intro ?_ ?_
     ·rw[if_neg h4] at hR
      have e1:(z<=i)=True:=propext ⟨fun _=>trivial,fun _=>by omega⟩
      have s1:=gy b hb hl y2 B2.ok s.h.stub fU (z<=i)
      refine⟨[2,3],jJ (by first|exact .inl (Nat.zero_le _)|exact .inr (by simp)) (by first|exact .inl (Nat.zero_le _)|exact .inr (by simp)) (by rintro b ⟨⟩; nofun) (by rintro b ⟨⟩; nofun),(s1).jF rfl rfl rfl rfl rfl (by first|exact ah rfl rfl|(repeat' first|exact trivial|exact rfl|exact Iff.rfl|exact Or.inl rfl|exact not_false|refine And.intro ?_ ?_)) (And.intro (by first|exact ah rfl rfl|(repeat' first|exact trivial|exact rfl|exact Iff.rfl|exact Or.inl rfl|exact not_false|refine And.intro ?_ ?_)) (And.intro (by first|exact ah rfl rfl|(repeat' first|exact trivial|exact rfl|exact Iff.rfl|exact Or.inl rfl|exact not_false|refine And.intro ?_ ?_)) (And.intro (by first|exact ah rfl rfl|(repeat' first|exact trivial|exact rfl|exact Iff.rfl|exact Or.inl rfl|exact not_false|refine And.intro ?_ ?_)) (And.intro (by first|exact ah rfl rfl|(repeat' first|exact trivial|exact rfl|exact Iff.rfl|exact Or.inl rfl|exact not_false|refine And.intro ?_ ?_)) (And.intro trivial ?_)))))⟩
      rw[e1]
      refine⟨fun _=>?_,fun h=>absurd (show z<=i by omega) h⟩
      subst hR
      refine Exists.intro [some 0,some 1,some 2,some 3] (Exists.intro [] (Exists.intro (kK b (aK b y2 s.h.stub True)) (And.intro ?_ (And.intro (Nat.le_of_ble_eq_true rfl) (And.intro rfl rfl)))))
      repeat' first|exact trivial|exact rfl|exact Iff.rfl|exact not_false|refine And.intro ?_ ?_
   ·have hR:=jI (Classical.not_not.1 h2)
    subst hR
    refine Exists.intro [some 0,some 1,some 2,some 3] (Exists.intro [] (Exists.intro (kK b (R)) (And.intro ?_ (And.intro (Nat.le_of_ble_eq_true rfl) (And.intro rfl rfl)))))
    repeat' first|exact trivial|exact rfl|exact Iff.rfl|exact not_false|refine And.intro ?_ ?_
theorem AY {h:SH} (hO:h.Ok) (hd:gu h.aw):∀ d∈h.aw.map eg,d.a.Wf/\d.b.Wf:=fun d hm=>by
 obtain⟨x,hx,rfl⟩:=List.mem_map.1 hm
 obtain⟨m1,m2⟩:=hd x hx
 obtain⟨_,o1,o2⟩:=hO.2.2.2.2 x hx
 exact⟨gf o1 m1,gf o2 m2⟩
theorem ON {b:List Int} (hl:b.length<=2000) {wt:Int} (ca:0<=wt/\wt<=7):∀ s:ST,s.Ok->∀ (W:WK) (y:WY) (r:R),bX W.at_->jg b wt W y r->(bG b s W).2.e=0->Out b wt (bG b s W).2 (x_ b s y) (eR wt (bG b s W).1 r):=ST.ind fun s uG tG HB hO W y r hI hS he=>by
 have jf:c_ s.hd/\c_ s.bd/\c_ s.el:=by cases s; exact hO.2.2
 have uF:=s.rW hO
 have sH:=ix hl (wt:=wt) s.hd jf.1 fun x hx=>uG x hx (bs jf.1 x hx)
 have sB:=ix hl (wt:=wt) s.bd jf.2.1 fun x hx=>tG x hx (bs jf.2.1 x hx)
 have sE:=ix hl (wt:=wt) s.el jf.2.2 fun x hx=>HB x hx (bs jf.2.2 x hx)
 have gB:=bV hl s.bd jf.2.1
 have gE:=bV hl s.el jf.2.2
 rw[fo] at he ⊢
 obtain⟨⟨pD,hft,_,bS⟩,h2,h3⟩:=o9 he
 rw[h2] at he ⊢
 rw[vi]
 unfold gv at bS
 unfold fV at he ⊢
 unfold JY
 by_cases k1:s.h.kind=1
 ·rw[if_pos k1] at he bS ⊢
  rw[if_pos k1]
  have oE:(iS b W s.h.till (s.h.aw.map eg)).e=0:=he
  show Out b wt (iS b W s.h.till (s.h.aw.map eg)) _ (eR wt (pv b W s.h.till (s.h.aw.map eg)) r)
  obtain⟨F',_⟩:=aU oE
  have e2:iS b W s.h.till (s.h.aw.map eg)=(jY b W s.h.till (s.h.aw.map eg)).w:=cv oE
  rw[e2] at oE ⊢
  obtain⟨ext,q1,q2⟩:=AP ca ((s.h.till - W.at_).toNat+1) ⟨W,[],s.h.aw.map eg⟩ (jY b W s.h.till (s.h.aw.map eg)) rfl oE F' (by
   unfold uE
   split
   ·show (s.h.till - W.at_).toNat < _; omega
   ·omega) (by simp) (AY uF bS.2.2.2.2.2.2.1) y r (y.fuel+2).toNat hS.wk hS (Nat.le_refl _)
  have e3:(jY b W s.h.till (s.h.aw.map eg)).out=ext:=q1
  have hw:=zu hl hI s.h.till (s.h.aw.map eg)
  unfold pv
  rw[fN ca hw (hS.bd ca).2 hS.j1.1,e3,pD]
  exact q2
 rw[if_neg k1] at he bS ⊢
 rw[if_neg k1]
 by_cases k2:s.h.kind=2
 ·rw[if_pos k2] at he bS ⊢
  rw[if_pos k2]
  exact J1 ca s.h ⟨bS.2.1,bS.2.2.1⟩ hS pD he
 rw[if_neg k2] at he bS ⊢
 rw[if_neg k2]
 by_cases k3:s.h.kind=3
 ·rw[if_pos k3] at he ⊢
  rw[if_pos k3]
  exact Fz hl ca gB gE sB sE (j' b s.bd) (j' b s.el) (J3 hl s.bd jf.2.1) hI uF.1.2.2.1 hS pD he
 rw[if_neg k3] at he bS ⊢
 rw[if_neg k3]
 by_cases k4:s.h.kind=4
 ·rw[if_pos k4] at he ⊢
  rw[if_pos k4]
  exact FB hl ca (lb hl s.hd bS.2.2.2.2.2.2.1) gB sH sB (j' b s.bd) (me b s.hd) (me b s.bd) hI (gf uF.2.1 bS.2.2.2.1) (gf uF.2.2.1 bS.2.2.2.2.1) hS pD he
 ·rw[if_neg k4] at he
  exact absurd (show (201:Int)=0 from he) (by decide)
theorem J8 {b:List Int} (hl:b.length<=2000) {wt:Int} (ca:0<=wt/\wt<=7) (l:List ST) (hO:c_ l):zt b wt (ar b l) (bY b l):=ix hl l hO fun s hs=>ON hl ca s (bs hO s hs)
theorem ZX {b:List Int} {s:ST} (hk:s.h.kind=1) {W:WK} (he:(bG b s W).2.e=0):¬ (bG b s W).2.aO:=by
 rw[fo] at he ⊢
 obtain⟨⟨pD,hft,_,_⟩,h2,_⟩:=o9 he
 rw[h2] at he ⊢
 unfold fV at he ⊢
 rw[if_pos hk] at he ⊢
 have oE:(iS b W s.h.till (s.h.aw.map eg)).e=0:=he
 show ¬ (iS b W s.h.till (s.h.aw.map eg)).aO
 have e2:iS b W s.h.till (s.h.aw.map eg)=(jY b W s.h.till (s.h.aw.map eg)).w:=cv oE
 rw[e2] at oE ⊢
 refine HF _ _ ?_ (.inl ?_) oE
 ·unfold uE
  split
  ·show (s.h.till - W.at_).toNat < _; omega
  ·omega
 ·show W.at_ < s.h.till; omega
theorem HR {b:List Int} (hl:b.length<=2000):∀ (l:List ST),c_ l->vh l->∀ W:WK,bX W.at_->(ar b l W).2.e=0->¬ (ar b l W).2.aO
 | [],_,⟨s,hs,_⟩,_,_,_=>by simp at hs
 | s::l,hO,O7,W,hI,he=>by
  by_cases h0:W.e=0
  ·have e1:ar b (s::l) W=((bG b s W).1::(ar b l (bG b s W).2).1,(ar b l (bG b s W).2).2):=by rw[ar,if_neg (fun k=>k h0)]
   rw[e1] at he ⊢
   have mc:=fM hl s hO.1
   have mn:=mc.I W hI
   cases l with
   | nil =>
    obtain⟨x,hx,hk⟩:=O7
    simp at hx
    subst hx
    rw[ar] at he ⊢
    exact ZX hk he
   | cons x l =>
    refine HR hl (x::l) hO.2 ?_ _ mn he
    obtain⟨z,hz,hk⟩:=O7
    exact⟨z,by simpa using hz,hk⟩
  ·rw[ar,if_pos h0] at he; exact absurd he h0
def y0 (ws:List Int):WY:=⟨rG ws,[],0,0,3000⟩
theorem DU {ws:List Int} (h:ws.length<=254) (hw:∀ v∈ws,0<=v/\v<=4294967295):Pd (rG ws):=by
 have:=Td (fuel:=0) hw ⟨by decide,by decide⟩
 exact⟨this.len,this.ws⟩
theorem OO {b:List Int} (hl:b.length<=2000) {a:Int} (hI:bX a) {l:List ST} (hO:c_ l) {wt:Int} (ca:0<=wt/\wt<=7) {ws:List Int} (hn:ws.length<=254) (hw:∀ v∈ws,0<=v/\v<=4294967295) (he:(iF b a l).2.2=0) (f:Int) :
  (bY b l (y0 ws)).fuel < 0\/(bY b l (y0 ws)).ck=3\/((eR wt (iF b a l).1 (r0 ws f).er).ck=(bY b l (y0 ws)).ck/\(eR wt (iF b a l).1 (r0 ws f).er).sum=iH b wt (bY b l (y0 ws))):=by
 have hc:(iF b a l).1=aq (ar b l (kN a)).1/\(jP b a l).e=0:=by
  unfold iF at he ⊢
  by_cases h1:(jP b a l).e≠0
  ·rw[if_pos h1] at he; exact absurd he h1
  ·rw[if_neg h1] at he ⊢
   by_cases h2:¬ xi (aq (ar b l (kN a)).1)
   ·rw[if_pos h2] at he; exact absurd (show (161:Int)=0 from he) (by decide)
   ·rw[if_neg h2]; exact⟨rfl,Classical.not_not.1 h1⟩
 obtain⟨⟨_,O7⟩,mV⟩:=aU hc.2
 rw[hc.1]
 have hS:jg b wt (kN a) (y0 ws) (r0 ws f).er:=by
  refine⟨rfl,DU hn hw,rfl,rfl,rfl,⟨by show (0:Int)<=3000; decide,Int.le_refl _⟩,⟨Int.le_refl _,by show (0:Int)<=40*(3000 - 3000); decide⟩,⟨Int.le_refl _,by show (0:Int)<=10*(3000 - 3000); decide⟩,fun k=>k.elim,fun k=>k.elim,fun _=>⟨rfl,Iff.rfl,rfl⟩⟩
 have Dm:=((bV hl l hO).wd hl (by decide) (kN a) hI)
 rw[fN ca Dm (by show (0:Int)<=_; decide) hS.j1.1]
 have ya:=HR hl l hO O7 (kN a) hI mV
 rcases J8 hl ca l hO (kN a) (y0 ws) _ hI hS mV with o|o|⟨o1,o2,o3⟩|o
 ·exact .inl o
 ·exact .inr (.inl o)
 ·exact .inr (.inr ⟨o2,o3⟩)
 ·exact .inr (.inr ⟨by rw[o.rt,o.yt],(o.no ya).1⟩)
variable {b:List Int}
mutual
def J9:ST->Prop
 | .mk h hd bd el=>(h.kind=1->gu h.aw)/\(h.kind=2->eD h.A/\0<=h.size/\h.size<=1024)/\(h.kind=3->eD h.A/\m8 bd/\m8 el)/\(h.kind=4->eD h.A/\eD h.B/\(0<=h.word/\h.word<=253)/\m8 hd/\m8 bd)
def m8:List ST->Prop
 | []=>True
 | s::l=>J9 s/\m8 l
end
theorem m8.mem:∀ {l:List ST},m8 l->∀ s∈l,J9 s
 | [],_,s,hs=>by cases hs
 | x::l,h,s,hs=>by
  rcases List.mem_cons.1 hs with rfl|hs
  ·exact h.1
  ·exact m8.mem h.2 s hs
theorem sn (s:ST):J9 s↔(s.h.kind=1->gu s.h.aw)/\(s.h.kind=2->eD s.h.A/\0<=s.h.size/\s.h.size<=1024)/\(s.h.kind=3->eD s.h.A/\m8 s.bd/\m8 s.el)/\(s.h.kind=4->eD s.h.A/\eD s.h.B/\(0<=s.h.word/\s.h.word<=253)/\m8 s.hd/\m8 s.bd):=by cases s; exact Iff.rfl
theorem DW {b:List Int} (hl:b.length<=2000) (till:Int):∀ (k:Nat) (n:Int) (y:WY) (ds:List DV),YB b y->bX n->(∀ d∈ds,d.a.Wf/\d.b.Wf)->YB b (mX b till k n y ds)
 | 0,_,y,_,h,_,_=>by rw[mX]; exact h
 | k+1,n,y,ds,h,hn,hw=>by
  rw[mX]
  split
  ·rename_i hc
   have hf:0<=y.fuel:=by
    have:¬ y.fuel < 0:=fun k=>hc.2 (.inr k)
    omega
   obtain⟨g1,g2,g3⟩:=DT hl h hf hn hw
   exact DW hl till k _ _ _ g1 (zx hl hn) g3
  ·exact h
theorem FK {b:List Int} (hl:b.length<=2000) {h:SH} (hO:h.Ok) {y:WY} (hy:YB b y) (hf:0<=y.fuel):YB b (mY b h y):=by
 have fU:bX h.fr:=hO.1.2.1
 have mn:bX h.stub:=hO.1.2.2.2.1
 have B1:=hy.step hl (by omega) fU True
 have B3:=hy.step hl (by omega) fU False
 unfold mY
 split
 ·exact hy.R4 3
 split
 ·by_cases he:(aK b y h.fr True).fuel < -1
  ·exfalso
   unfold aK at he
   split at he
   ·exact absurd (show (-1:Int) < -1 from he) (by decide)
   ·have oE:y.fuel - 1 < -1:=he
    omega
  ·exact (B1.step hl (by omega) mn False).R4 _
 ·exact B3
theorem DX {b:List Int} (hl:b.length<=2000) {h:SH} (hO:h.Ok) {BD EL:WY->WY} (kB:jz b BD) (kE:jz b EL) {y:WY} (hy:YB b y) (hf:0<=y.fuel):YB b (iu b h BD EL y):=by
 have fU:bX h.fr:=hO.1.2.1
 have mn:bX h.skip:=hO.1.2.2.2.2.1
 have B1:=hy.step hl (by omega) fU True
 have B3:=hy.step hl (by omega) fU False
 have B4:=kB _ B3
 unfold iu
 split
 ·exact B3.R4 3
 split
 ·exact kE _ B1
 split
 ·rename_i hc
  have:¬ (BD (aK b y h.fr False)).fuel < 0:=fun k=>hc.2 (.inr k)
  exact B4.step hl (by omega) mn True
 ·exact B4
open Classical in
theorem DY {b:List Int} (hl:b.length<=2000) {h:SH} (hO:h.Ok) {HD BD:WY->WY} (kH:jz b HD) (kB:jz b BD) {high iO:Int} (Q5:high<=4294967295) (hw:0<=iO/\iO<=4294967295):∀ (k:Nat) (i:Int) (y:WY),YB b y->0<=i/\i<=4294967295->YB b (mZ b h high iO HD BD k i y)
 | 0,_,y,hy,_=>by rw[mZ]; exact hy
 | k+1,i,y,hy,hi=>by
  have fU:bX h.stub:=hO.1.2.2.2.1
  have mn:bX h.skip:=hO.1.2.2.2.2.1
  rw[mZ]
  by_cases h1:y.fin
  ·rw[if_pos h1]; exact hy
  rw[if_neg h1]
  by_cases h3:i < high
  ·rw[if_pos h3,if_pos h3]
   have B2:=kH _ (hy.R5 h.word.toNat hi)
   generalize HD (y.put h.word.toNat i)=y2 at B2 ⊢
   by_cases h4:y2.fin
   ·rw[if_pos h4]; exact B2
   rw[if_neg h4]
   have f2:¬ y2.fuel < 0:=fun k=>h4 (.inr k)
   have B3:=kB _ (B2.step hl (by omega) fU False)
   generalize BD (aK b y2 h.stub False)=y4 at B3 ⊢
   refine DY hl hO kH kB Q5 hw k (i+1) _ ?_ (by omega)
   split
   ·exact B3
   ·rename_i h5
    have f4:¬ y4.fuel < 0:=fun k=>h5 (.inr k)
    exact B3.step hl (by omega) mn True
  ·rw[if_neg h3,if_neg h3]
   have B2:=kH _ (hy.R5 h.word.toNat hw)
   generalize HD (y.put h.word.toNat iO)=y2 at B2 ⊢
   by_cases h4:y2.fin
   ·rw[if_pos h4]; exact B2
   rw[if_neg h4]
   have f2:¬ y2.fuel < 0:=fun k=>h4 (.inr k)
   exact B2.step hl (by omega) fU True
theorem DZ {b:List Int} (hl:b.length<=2000) {h:SH} (hO:h.Ok) (hA:eD h.A) (hB:eD h.B) {HD BD:WY->WY} (kH:jz b HD) (kB:jz b BD) {y:WY} (hy:YB b y):YB b (lf b h HD BD y):=by
 have v1:=tF hy.ok.wk (gf hO.2.1 hA)
 have v2:=tF hy.ok.wk (gf hO.2.2.1 hB)
 unfold lf
 split
 ·exact hy.R4 3
 ·refine DY hl hO kH kB v2.2 ?_ _ _ y hy v1
  cases e:y.ws[h.word.toNat]? with
  | none=>exact⟨Int.le_refl 0,by decide⟩
  | some v=>exact hy.ok.wk.2 v (List.mem_of_getElem? e)
structure StG (b:List Int) (s:ST):Prop where
 ok:s.Ok
 vis:J9 s
 bd:s.h.kind=3\/s.h.kind=4->jK b s.bd (bY b s.bd)/\jz b (bY b s.bd)
 el:s.h.kind=3->jK b s.el (bY b s.el)/\jz b (bY b s.el)
 hd:s.h.kind=4->jK b s.hd (bY b s.hd)/\jz b (bY b s.hd)
theorem StG.pj {b:List Int} (hl:b.length<=2000) {s:ST} (h:StG b s) {y:WY} (hy:YB b y) (hf:0<=y.fuel):YB b (x_ b s y):=by
 have hO:=s.rW h.ok
 obtain⟨v1,v2,v3,v4⟩:=(sn s).1 h.vis
 rw[vi]
 unfold JY
 split
 ·rename_i k1
  exact DW hl _ _ _ _ _ hy hO.1.2.1 (AY hO (v1 k1))
 split
 ·exact FK hl hO hy hf
 split
 ·rename_i k3
  exact DX hl hO (h.bd (.inl k3)).2 (h.el k3).2 hy hf
 split
 ·rename_i k4
  obtain⟨a1,a2,a3⟩:=v4 k4
  exact DZ hl hO a1 a2 (h.hd k4).2 (h.bd (.inr k4)).2 hy
 ·exact hy
theorem mj {b:List Int} (hl:b.length<=2000):∀ l:List ST,(∀ s∈l,StG b s)->jz b (bY b l)
 | [],_,y,hy=>by rw[bY]; exact hy
 | s::l,h,y,hy=>by
  rw[bY]
  split
  ·exact hy
  ·rename_i hf
   have f2:¬ y.fuel < 0:=fun k=>hf (.inr k)
   exact mj hl l (fun x hx=>h x (List.mem_cons_of_mem _ hx)) _ ((h s (List.mem_cons_self ..)).pj hl hy (by omega))
structure YI (b:List Int) (l:List ST) (R:WY) where
 i:Nat
 y:WY
 eq:bY b (l.drop i) y=R
 B:YB b y
theorem pd (b:List Int) (hb:pq b) (hl:b.length<=2000) (l:List ST) (hg:∀ s∈l,StG b s):jK b l (bY b l):=fun y hy=>by
 rw[o4]
 obtain⟨R,hR⟩:∃ R,bY b l y=R:=⟨_,rfl⟩
 rw[hR]
 refine Spec.nQ ao P18 100 Tryz.func18 rfl (by kernel_rfl) ?_
 refine fun hm=>?_
 refine SW.tU ao P18 (by kernel_rfl) (α:=YI b l R) (fun r=>[(0,.ptr 0 0),(6,.sl 17 (l.map iq)),(7,.int .i64 ((l.map iq).length:Nat)),(8,.int .i64 r.i)]) (fun r=>kK b r.y) (fun r=>l.length - r.i) ⟨0,y,hR,hy⟩ 100 [some 0,some 1,some 2,some 3] ?_ ?_
 ·repeat' first|exact trivial|exact rfl|exact Iff.rfl|exact not_false|refine And.intro ?_ ?_
 rintro⟨i,y,heq,hy⟩
 have el:(l.map iq).length=l.length:=List.length_map ..
 refine⟨fun h1=>?_,fun h1=>?_⟩
 ·have eU:(i:Int) < ((l.map iq).length:Nat):=h1
  rw[el] at eU
  refine⟨ST,l,iq,rfl,show (0:Int)<=(i:Int) by omega,show (i:Int) < (l.length:Int) by omega,fun s Sv=>?_⟩
  have On:l[i]?=some s:=Sv
  have Sd:=List.mem_of_getElem? On
  have hG:=hg s Sd
  have hd:l.drop i=s::l.drop (i+1):=by
   obtain⟨h1,h2⟩:=List.getElem?_eq_some_iff.1 On
   rw[List.drop_eq_getElem_cons h1,h2]
  rw[hd,bY] at heq
  refine (iy b y).e ?_
  refine⟨fun h2=>?_,fun h2=>?_⟩
  ·rw[if_pos h2] at heq
   subst heq
   refine Exists.intro [some 0,some 1,some 2,some 3] (Exists.intro [] (Exists.intro (kK b (y)) (And.intro ?_ (And.intro (Nat.le_of_ble_eq_true rfl) (And.intro rfl rfl)))))
   repeat' first|exact trivial|exact rfl|exact Iff.rfl|exact not_false|refine And.intro ?_ ?_
  ·rw[if_neg h2] at heq
   have f2:¬ y.fuel < 0:=fun k=>h2 (.inr k)
   have hf:0<=y.fuel:=by omega
   have B2:=hG.pj hl hy hf
   have hO:=s.rW hG.ok
   obtain⟨v1,v2,v3,v4⟩:=(sn s).1 hG.vis
   rw[vi] at heq B2
   unfold JY at heq B2
   unfold maxLen at hm
   refine⟨fun k1=>?_,fun k1=>?_⟩
   ·have ZY:s.h.kind=1:=k1
    rw[if_pos ZY] at heq B2
    refine⟨[2,3],jJ (by first|exact .inl (Nat.zero_le _)|exact .inr (by simp)) (by first|exact .inl (Nat.zero_le _)|exact .inr (by simp)) (by rintro b ⟨⟩; nofun) (by rintro b ⟨⟩; nofun),(R2 b hb hl y hy (qv s) hO.1.2.1 (s.h.aw.map eg) (N7 (v1 ZY)) (AY hO (v1 ZY))).jF rfl rfl rfl rfl rfl (by first|exact ah rfl rfl|(repeat' first|exact trivial|exact rfl|exact Iff.rfl|exact Or.inl rfl|exact not_false|refine And.intro ?_ ?_)) (And.intro (by first|exact ah rfl rfl|(repeat' first|exact trivial|exact rfl|exact Iff.rfl|exact Or.inl rfl|exact not_false|refine And.intro ?_ ?_)) (And.intro (by first|exact ah rfl rfl|(repeat' first|exact trivial|exact rfl|exact Iff.rfl|exact Or.inl rfl|exact not_false|refine And.intro ?_ ?_)) (And.intro (by first|exact ah rfl rfl|(repeat' first|exact trivial|exact rfl|exact Iff.rfl|exact Or.inl rfl|exact not_false|refine And.intro ?_ ?_)) (And.intro (by first|exact ah rfl rfl|(repeat' first|exact trivial|exact rfl|exact Iff.rfl|exact Or.inl rfl|exact not_false|refine And.intro ?_ ?_)) (And.intro trivial ?_)))))⟩
    refine li ?_ (show _<=(i:Int)+1/\(i:Int)+1<=_ by omega)
    refine⟨⟨i+1,_,heq,B2⟩,[some 0,some 1,some 2,some 3],show l.length - (i+1) < l.length - i by omega,?_⟩
    repeat' first|exact trivial|exact rfl|exact Iff.rfl|exact not_false|refine And.intro ?_ ?_
   ·have ZY:¬ s.h.kind=1:=k1
    rw[if_neg ZY] at heq B2
    refine⟨fun k2=>?_,fun k2=>?_⟩
    ·have k2':s.h.kind=2:=k2
     rw[if_pos k2'] at heq B2
     refine⟨[2,3],jJ (by first|exact .inl (Nat.zero_le _)|exact .inr (by simp)) (by first|exact .inl (Nat.zero_le _)|exact .inr (by simp)) (by rintro b ⟨⟩; nofun) (by rintro b ⟨⟩; nofun),(J7 b hb hl y hy hf s hG.ok (v2 k2').1 (v2 k2').2).jF rfl rfl rfl rfl rfl (by first|exact ah rfl rfl|(repeat' first|exact trivial|exact rfl|exact Iff.rfl|exact Or.inl rfl|exact not_false|refine And.intro ?_ ?_)) (And.intro (by first|exact ah rfl rfl|(repeat' first|exact trivial|exact rfl|exact Iff.rfl|exact Or.inl rfl|exact not_false|refine And.intro ?_ ?_)) (And.intro (by first|exact ah rfl rfl|(repeat' first|exact trivial|exact rfl|exact Iff.rfl|exact Or.inl rfl|exact not_false|refine And.intro ?_ ?_)) (And.intro (by first|exact ah rfl rfl|(repeat' first|exact trivial|exact rfl|exact Iff.rfl|exact Or.inl rfl|exact not_false|refine And.intro ?_ ?_)) (And.intro (by first|exact ah rfl rfl|(repeat' first|exact trivial|exact rfl|exact Iff.rfl|exact Or.inl rfl|exact not_false|refine And.intro ?_ ?_)) (And.intro trivial ?_)))))⟩
     refine li ?_ (show _<=(i:Int)+1/\(i:Int)+1<=_ by omega)
     refine⟨⟨i+1,_,heq,B2⟩,[some 0,some 1,some 2,some 3],show l.length - (i+1) < l.length - i by omega,?_⟩
     repeat' first|exact trivial|exact rfl|exact Iff.rfl|exact not_false|refine And.intro ?_ ?_
    ·have k2':¬ s.h.kind=2:=k2
     rw[if_neg k2'] at heq B2
     refine⟨fun k3=>?_,fun k3=>?_⟩
     ·have ZZ:s.h.kind=3:=k3
      rw[if_pos ZZ] at heq B2
      refine⟨[2,3],jJ (by first|exact .inl (Nat.zero_le _)|exact .inr (by simp)) (by first|exact .inl (Nat.zero_le _)|exact .inr (by simp)) (by rintro b ⟨⟩; nofun) (by rintro b ⟨⟩; nofun),(FI b hb hl y hy hf s hG.ok (v3 ZZ).1 _ _ (hG.bd (.inl ZZ)).1 (hG.el ZZ).1 (hG.bd (.inl ZZ)).2).jF rfl rfl rfl rfl rfl (by first|exact ah rfl rfl|(repeat' first|exact trivial|exact rfl|exact Iff.rfl|exact Or.inl rfl|exact not_false|refine And.intro ?_ ?_)) (And.intro (by first|exact ah rfl rfl|(repeat' first|exact trivial|exact rfl|exact Iff.rfl|exact Or.inl rfl|exact not_false|refine And.intro ?_ ?_)) (And.intro (by first|exact ah rfl rfl|(repeat' first|exact trivial|exact rfl|exact Iff.rfl|exact Or.inl rfl|exact not_false|refine And.intro ?_ ?_)) (And.intro (by first|exact ah rfl rfl|(repeat' first|exact trivial|exact rfl|exact Iff.rfl|exact Or.inl rfl|exact not_false|refine And.intro ?_ ?_)) (And.intro (by first|exact ah rfl rfl|(repeat' first|exact trivial|exact rfl|exact Iff.rfl|exact Or.inl rfl|exact not_false|refine And.intro ?_ ?_)) (And.intro trivial ?_)))))⟩
      refine li ?_ (show _<=(i:Int)+1/\(i:Int)+1<=_ by omega)
      refine⟨⟨i+1,_,heq,B2⟩,[some 0,some 1,some 2,some 3],show l.length - (i+1) < l.length - i by omega,?_⟩
      repeat' first|exact trivial|exact rfl|exact Iff.rfl|exact not_false|refine And.intro ?_ ?_
     ·have ZZ:¬ s.h.kind=3:=k3
      rw[if_neg ZZ] at heq B2
      refine⟨fun k4=>?_,fun k4=>?_⟩
      ·have Pg:s.h.kind=4:=k4
       rw[if_pos Pg] at heq B2
       refine⟨[2,3],jJ (by first|exact .inl (Nat.zero_le _)|exact .inr (by simp)) (by first|exact .inl (Nat.zero_le _)|exact .inr (by simp)) (by rintro b ⟨⟩; nofun) (by rintro b ⟨⟩; nofun),(FJ b hb hl y hy hf s hG.ok (v4 Pg).1 (v4 Pg).2.1 (v4 Pg).2.2.1 _ _ (hG.hd Pg).1 (hG.bd (.inr Pg)).1 (hG.hd Pg).2 (hG.bd (.inr Pg)).2 (me b s.hd) (me b s.bd)).jF rfl rfl rfl rfl rfl (by first|exact ah rfl rfl|(repeat' first|exact trivial|exact rfl|exact Iff.rfl|exact Or.inl rfl|exact not_false|refine And.intro ?_ ?_)) (And.intro (by first|exact ah rfl rfl|(repeat' first|exact trivial|exact rfl|exact Iff.rfl|exact Or.inl rfl|exact not_false|refine And.intro ?_ ?_)) (And.intro (by first|exact ah rfl rfl|(repeat' first|exact trivial|exact rfl|exact Iff.rfl|exact Or.inl rfl|exact not_false|refine And.intro ?_ ?_)) (And.intro (by first|exact ah rfl rfl|(repeat' first|exact trivial|exact rfl|exact Iff.rfl|exact Or.inl rfl|exact not_false|refine And.intro ?_ ?_)) (And.intro (by first|exact ah rfl rfl|(repeat' first|exact trivial|exact rfl|exact Iff.rfl|exact Or.inl rfl|exact not_false|refine And.intro ?_ ?_)) (And.intro trivial ?_)))))⟩
       refine li ?_ (show _<=(i:Int)+1/\(i:Int)+1<=_ by omega)
       refine⟨⟨i+1,_,heq,B2⟩,[some 0,some 1,some 2,some 3],show l.length - (i+1) < l.length - i by omega,?_⟩
       repeat' first|exact trivial|exact rfl|exact Iff.rfl|exact not_false|refine And.intro ?_ ?_
      ·have Pg:¬ s.h.kind=4:=k4
       rw[if_neg Pg] at heq B2
       refine li ?_ (show _<=(i:Int)+1/\(i:Int)+1<=_ by omega)
       refine⟨⟨i+1,_,heq,B2⟩,[some 0,some 1,some 2,some 3],show l.length - (i+1) < l.length - i by omega,?_⟩
       repeat' first|exact trivial|exact rfl|exact Iff.rfl|exact not_false|refine And.intro ?_ ?_
 ·have eU:¬ (i:Int) < ((l.map iq).length:Nat):=h1
  rw[el] at eU
  rw[List.drop_of_length_le (by omega),bY] at heq
  subst heq
  refine Exists.intro [some 0,some 1,some 2,some 3] (Exists.intro [] (Exists.intro (kK b (y)) (And.intro ?_ (And.intro (Nat.le_of_ble_eq_true rfl) (And.intro rfl rfl)))))
  repeat' first|exact trivial|exact rfl|exact Iff.rfl|exact not_false|refine And.intro ?_ ?_
theorem R6 {b:List Int} (hb:pq b) (hl:b.length<=2000):∀ s:ST,s.Ok->J9 s->StG b s:=ST.ind fun s uG tG HB hO hV=>by
 have jf:c_ s.hd/\c_ s.bd/\c_ s.el:=by cases s; exact hO.2.2
 obtain⟨_,_,v3,v4⟩:=(sn s).1 hV
 have gH:m8 s.hd->jK b s.hd (bY b s.hd)/\jz b (bY b s.hd):=fun h =>
  have g:=fun x hx=>uG x hx (bs jf.1 x hx) (h.mem x hx)
  ⟨pd b hb hl _ g,mj hl _ g⟩
 have gB:m8 s.bd->jK b s.bd (bY b s.bd)/\jz b (bY b s.bd):=fun h =>
  have g:=fun x hx=>tG x hx (bs jf.2.1 x hx) (h.mem x hx)
  ⟨pd b hb hl _ g,mj hl _ g⟩
 have gE:m8 s.el->jK b s.el (bY b s.el)/\jz b (bY b s.el):=fun h =>
  have g:=fun x hx=>HB x hx (bs jf.2.2 x hx) (h.mem x hx)
  ⟨pd b hb hl _ g,mj hl _ g⟩
 exact⟨hO,hV,fun k=>k.elim (fun k=>gB (v3 k).2.1) (fun k=>gB (v4 k).2.2.2.2),fun k=>gE (v3 k).2.2,fun k=>gH (v4 k).2.2.2.1⟩
theorem R7 (b:List Int) (hb:pq b) (hl:b.length<=2000) (l:List ST) (hO:c_ l) (hV:m8 l):jK b l (bY b l)/\jz b (bY b l) :=
 have g:=fun x hx=>R6 hb hl x (bs hO x hx) (hV.mem x hx)
 ⟨pd b hb hl _ g,mj hl _ g⟩
def E2 (w:WK):Prop:=w.e=0\/w.e=201
theorem E2.aP {w:WK} (h:E2 w) (p:Prop):E2 (aE w p):=by
 unfold aE E2
 simp only
 split
 ·exact h
 ·exact .inr rfl
theorem E2.next {b:List Int} {w:WK} (h:E2 w):E2 (cf b w):=by
 unfold cf
 split
 ·exact h.aP _
 split
 ·exact h
 ·exact h
theorem E2.jump {w:WK} (h:E2 w) (t:Int):E2 (bR w t):=by
 unfold E2
 rw[je]
 exact h
theorem E2.pR {b:List Int} {w:WK} (h:E2 w):E2 (aD b w):=by
 unfold aD
 split
 ·exact h
 split
 ·exact h
 split
 ·exact h.aP _
 ·exact h
theorem E2.br {b:List Int} {w:WK} (h:E2 w) (c:Int):E2 (cu b w c):=by
 unfold cu
 exact ((h.aP _).next).aP _
theorem E2.iter {b:List Int} {x:eN} (h:E2 x.w):E2 (aY b x).w:=by
 have h4:E2 (aE (cf b (aE x.w (¬ x.w.last))) (¬ Fi (iA b x.w.at_).form/\(iA b x.w.at_).form≠45)):=((h.aP _).next).aP _
 unfold aY
 simp only
 split
 ·exact h4
 ·split
  ·exact .inr rfl
  ·split
   ·exact .inr rfl
   ·exact h4
theorem E2.runN {b:List Int} {till:Int}:∀ (k:Nat) (x:eN),E2 x.w->E2 (runN b till k x).w
 | 0,x,h=>by rw[Pw.runN]; exact h
 | k+1,x,h=>by
  rw[Pw.runN]
  split
  ·split
   ·exact h.iter
   ·exact E2.runN k _ h.iter
  ·exact h
theorem E2.run {b:List Int} {w:WK} (h:E2 w) (till:Int) (ds:List DV):E2 (iS b w till ds):=by
 unfold iS
 exact E2.aP (E2.runN _ _ h) _
theorem E2.check {b:List Int} {w:WK} (h:E2 w) (s:SH):E2 (cl b s w):=by
 unfold cl
 exact (((h.br _).aP _).aP _).aP _
def E2F (F:WK->List C × WK):Prop:=∀ w,E2 w->E2 (F w).2
theorem E2.c4 {b:List Int} {h:SH} {w:WK} (hw:E2 w):E2 (gw b h w):=by
 unfold gw
 split
 ·exact (hw.br _).aP _
 ·exact hw
theorem E2.choice {b:List Int} {h:SH} {z:Prop} {BD EL:WK->List C × WK} (hB:E2F BD) (hE:E2F EL) {w:WK} (hw:E2 w):E2 (de b h z BD EL w).2:=by
 have h1:=hB _ (hw.br (b:=b) 0)
 have h3:E2 (pQ h z (BD (cu b w 0)).2):=h1.aP _
 have h5:E2 (zo (dK b w) (gw b h (pQ h z (BD (cu b w 0)).2))):=(h3.c4 (b:=b) (h:=h)).aP _
 have hN:E2 (kG (cu b w 0) (zo (dK b w) (gw b h (pQ h z (BD (cu b w 0)).2)))):=h5
 have Gb:E2 (Hx h (EL (kG (cu b w 0) (zo (dK b w) (gw b h (pQ h z (BD (cu b w 0)).2))))).2):=(hE _ hN).aP _
 have h7:E2 (Hw b h (zo (dK b w) (gw b h (pQ h z (BD (cu b w 0)).2)))):=(h5.jump _).pR
 have h8:=Gb.pR (b:=b)
 show E2 (Hy (Hw b h (zo (dK b w) (gw b h (pQ h z (BD (cu b w 0)).2)))) (aD b (Hx h (EL (kG (cu b w 0) (zo (dK b w) (gw b h (pQ h z (BD (cu b w 0)).2))))).2)))
 unfold Hy
 split
 ·exact h8
 ·exact h7
theorem E2.rounds {b:List Int} {h:SH} {HD BD:WK->List C × WK} (hH:E2F HD) (hB:E2F BD) {w:WK} (hw:E2 w):E2 (cr b h HD BD w).2:=by
 have h3:E2 (lz h (HD (aD b w)).2):=(hH _ hw.pR).aP _
 have h6:E2 (A6 h (BD (cu b (lz h (HD (aD b w)).2) 0)).2):=(hB _ (h3.br 0)).aP _
 have h8:E2 (JP b h (dK b (lz h (HD (aD b w)).2)) (A6 h (BD (cu b (lz h (HD (aD b w)).2) 0)).2)):=(h6.br _).aP _
 exact (h8.jump h.fr).pR (b:=b)
theorem E2.step {b:List Int}:∀ s:ST,∀ w,E2 w->E2 (bG b s w).2:=ST.ind fun s uG tG HB w hw=>by
 have key:∀ l:List ST,(∀ x∈l,∀ w,E2 w->E2 (bG b x w).2)->E2F (ar b l):=fun l=>by
  induction l with
  | nil=>intro _ w h; rw[ar]; exact h
  | cons x l ih =>
   intro hx w h
   rw[ar]
   split
   ·exact h
   ·exact ih (fun z hz=>hx z (List.mem_cons_of_mem _ hz)) _ (hx x (List.mem_cons_self ..) w h)
 have h1:E2 (fk s w):=hw.aP _
 rw[fo]
 by_cases h:(fk s w).e≠0
 ·rw[tu h]; exact h1
 ·rw[xg h]
  refine E2.aP ?_ _
  unfold fV
  split
  ·exact h1.run _ _
  split
  ·exact h1.check _
  split
  ·exact h1.choice (key _ tG) (key _ HB)
  split
  ·exact h1.rounds (key _ uG) (key _ tG)
  ·exact .inr rfl
theorem E2.steps {b:List Int}:∀ l:List ST,E2F (ar b l)
 | [],w,h=>by rw[ar]; exact h
 | s::l,w,h=>by
  rw[ar]
  split
  ·exact h
  ·exact E2.steps l _ (E2.step s w h)
theorem R8 (b:List Int) (a:Int) (l:List ST):(jP b a l).e=0\/(jP b a l).e=201:=by
 have h0:E2 (kN a):=.inl rfl
 exact E2.aP (E2.steps (b:=b) l _ h0) _
def VS (b:List Int) (s:ST):Prop:=∀ W:WK,bX W.at_->(bG b s W).2.e=0->J9 s
theorem ow {b:List Int} (hl:b.length<=2000):∀ (l:List ST),c_ l->(∀ s∈l,VS b s)->∀ W:WK,bX W.at_->(ar b l W).2.e=0->m8 l
 | [],_,_,_,_,_=>trivial
 | s::l,hO,h,W,hI,he=>by
  by_cases h0:W.e=0
  ·have e1:ar b (s::l) W=((bG b s W).1::(ar b l (bG b s W).2).1,(ar b l (bG b s W).2).2):=by rw[ar,if_neg (fun k=>k h0)]
   rw[e1] at he
   have mc:=fM hl s hO.1
   have mn:=mc.I W hI
   have Bs:=((bV hl l hO.2).ok _ mn he).1
   exact⟨h s (List.mem_cons_self ..) W hI Bs,ow hl l hO.2 (fun x hx=>h x (List.mem_cons_of_mem _ hx)) _ mn he⟩
  ·rw[ar,if_pos h0] at he; exact absurd he h0
theorem OP {b:List Int} (hl:b.length<=2000):∀ s:ST,s.Ok->VS b s:=ST.ind fun s uG tG HB hO W hI he=>by
 have jf:c_ s.hd/\c_ s.bd/\c_ s.el:=by cases s; exact hO.2.2
 have sH:=ow hl s.hd jf.1 fun x hx=>uG x hx (bs jf.1 x hx)
 have sB:=ow hl s.bd jf.2.1 fun x hx=>tG x hx (bs jf.2.1 x hx)
 have sE:=ow hl s.el jf.2.2 fun x hx=>HB x hx (bs jf.2.2 x hx)
 have gB:=bV hl s.bd jf.2.1
 rw[fo] at he
 obtain⟨⟨pD,hft,_,bS⟩,h2,h3⟩:=o9 he
 rw[h2] at he
 clear h2 h3
 unfold gv at bS
 unfold fV at he
 refine (sn s).2 ⟨fun k1=>?_,fun k2=>?_,fun k3=>?_,fun k4=>?_⟩
 ·rw[if_pos k1] at bS
  exact bS.2.2.2.2.2.2.1
 ·rw[if_neg (by omega),if_pos k2] at bS
  exact⟨bS.2.2.2.2.1,bS.2.1,bS.2.2.1⟩
 ·rw[if_neg (by omega),if_neg (by omega),if_pos k3] at bS he
  have hA:=bS.2.2.2.1
  unfold de at he
  simp only at he
  obtain⟨h7,h8⟩:=Dh he
  have h6:=dq h7
  rw[je] at h6
  have e5:zo (dK b W) (gw b s.h (pQ s.h (eT s.el=0) (ar b s.bd (cu b W 0)).2))=gw b s.h (pQ s.h (eT s.el=0) (ar b s.bd (cu b W 0)).2):=cv h6
  have h4:=(aU h6).2
  obtain⟨q3,_⟩:=Di h4
  have qB:=(aU q3).2
  have e3:pQ s.h (eT s.el=0) (ar b s.bd (cu b W 0)).2=(ar b s.bd (cu b W 0)).2:=cv q3
  have fU:=k_ hl 0 hI
  have g1:=dq h8
  have g3:=(aU g1).2
  rw[e5,e3] at g3
  have tp:bX (kG (cu b W 0) (gw b s.h (ar b s.bd (cu b W 0)).2)).at_:=Dj hl (gB.I _ fU)
  exact⟨hA,sB _ fU qB,sE _ tp g3⟩
 ·rw[if_neg (by omega),if_neg (by omega),if_neg (by omega)] at bS
  rw[if_neg (by omega),if_neg (by omega),if_neg (by omega),if_pos k4] at he
  have hA:=bS.2.2.2.1
  have hBt:=bS.2.2.2.2.1
  have lD:=bS.2.2.2.2.2.2.1
  unfold cr at he
  simp only at he
  have h1:(aD b (bR (JP b s.h (dK b (lz s.h (ar b s.hd (aD b W)).2)) (A6 s.h (ar b s.bd (cu b (lz s.h (ar b s.hd (aD b W)).2) 0)).2)) s.h.fr)).e=0:=he
  have xS:=dq h1
  rw[je] at xS
  have h4:=(aU xS).2
  have h5:=(jv h4).1
  have h8:=(aU h5).2
  have fU:bX (aD b W).at_:=by rw[dU]; exact hI
  have gH:=lb hl s.hd lD
  have HA:bX (lz s.h (ar b s.hd (aD b W)).2).at_:=gH.I _ fU
  have tp:=k_ hl 0 HA
  obtain⟨p1,_,_⟩:=gB.ok _ tp h8
  have r1:=(jv p1).1
  have r4:=(aU r1).2
  exact⟨hA,hBt,⟨by have:=bS.2.1; omega,bS.2.2.1⟩,sH _ fU r4,sB _ tp h8⟩
theorem OQ {b:List Int} (hl:b.length<=2000) {a:Int} (hI:bX a) {l:List ST} (hO:c_ l) (he:(jP b a l).e=0):m8 l :=
 ow hl l hO (fun s hs=>OP hl s (bs hO s hs)) (kN a) hI (aU he).2
def cyB (B:BF):an:=⟨.loc,39,1,.w,true,[.bool B.full,.int .u32 B.line]⟩
structure YC (b:List Int) (wt:Int) (y:WY) where
 i:Nat
 B:BF
 sum:Int
 eq:(y.tr.drop i).foldl (AN b wt) (B,sum - y.aw)=dL b wt y.tr
 bd:y.aw<=sum/\sum<=y.aw+40*i
theorem J' (b:List Int) (hb:pq b) (hl:b.length<=2000) (y:WY) (hy:YB b y) (wt:Int) (ca:0<=wt/\wt<=7):Spec gT 20 [.ptr 0 0,.int .i64 wt] (kK b y) [] fun r S'=>r = .int .i64 (iH b wt y)/\S'=kK b y:=by
 obtain⟨R,hR⟩:∃ R,iH b wt y=R:=⟨_,rfl⟩
 rw[hR]
 unfold iH at hR
 have hfu:=hy.ok.fuel
 have hln:=hy.ok.len
 have Qa:=hy.dv
 refine Spec.rf (Spec.enter ao P20 100 Tryz.func20 rfl (by kernel_rfl) ?_)
 refine fun hm=>?_
 refine SW.tU ao P20 (by kernel_rfl) (α:=YC b wt y) (fun r=>[(0,.ptr 0 0),(1,.int .i64 wt),(5,.ptr 4 0),(6,.int .i64 r.sum),(23,.wref 2),(24,.int .i64 ((OL y.tr).length:Nat)),(25,.int .i64 r.i)]) (fun r=>kK b y++[cyB r.B]) (fun r=>y.tr.length - r.i) ⟨0,⟨False,0⟩,y.aw,by rw[Int.sub_self]; rfl,by omega⟩ 100 [some 0,some 1,some 2,some 3,some 4] ?_ ?_
 ·repeat' first|exact trivial|exact rfl|exact Iff.rfl|exact not_false|refine And.intro ?_ ?_
 rintro⟨i,B,sum,heq,xK⟩
 have el:=AW y.tr
 have el2:=AX y.tr
 refine⟨fun h1=>?_,fun h1=>?_⟩
 ·have eU:(i:Int) < ((OL y.tr).length:Nat):=h1
  rw[el] at eU
  refine⟨show (0:Int)<=(i:Int) by omega,show (i:Int) < ((OL y.tr).length:Nat) by omega,?_⟩
  refine⟨Int × Prop,y.tr,fun x=>.int .i64 x.1,rfl,show ((i:Nat):Int).toNat < y.tr.length by omega,fun x hx=>?_⟩
  have dE:y.tr[i]?=some x:=hx
  obtain⟨xI,xe⟩:=hy.ok.Un x (List.mem_of_getElem? dE)
  obtain⟨⟨LS,SR⟩,hr,JA⟩:=bN xe
  obtain⟨r0,r1⟩:=js hr JA
  have hs:=gV hr
  have ha:=rN b hb (by omega) x.1 xI
  refine ha.u ?_
  have hba:aj gT 10 [cZ (iA b x.1),.bool x.2,.int .u32 0,.int .u32 0] (.tup [.int .i64 (dt b x.1 x.2),.int .i64 0]):=@yY (iA b x.1) x.2 (Classical.propDecidable _) 0 0 hr (JA (iA b x.1).aC (by simp[Cy])) r0 r1 ⟨by decide,by decide⟩ ⟨by decide,by decide⟩
  have hf:aj gT 11 [Jp B.full B.line,.int .u32 (134217728+x.1),.int .i64 (aX (iA b x.1).form)] (.tup [Jp True (zq b x.1).line,.int .i64 (eZ b B x.1)]):=@mN B.full (Classical.propDecidable _) B.line (134217728+x.1) (aX (iA b x.1).form) ⟨by omega,by omega⟩ hs
  have ux:=gS (iA b x.1)
  have PZ:=sd xe x.2
  have pF:=sc b B x.1
  have Tk:=kI pF ca
  have um:AN b wt (B,sum - y.aw) x=(zq b x.1,(sum+(dt b x.1 x.2+eZ b B x.1*wt)) - y.aw):=by
   unfold AN
   simp only[Prod.mk.injEq,true_and]
   omega
  have hd:y.tr.drop i=x::y.tr.drop (i+1):=by
   obtain⟨h1,h2⟩:=List.getElem?_eq_some_iff.1 dE
   rw[List.drop_eq_getElem_cons h1,h2]
  rw[hd,List.foldl_cons,um] at heq
  have hnx:(zq b x.1).full=True:=rfl
  generalize zq b x.1=B2 at hf heq hnx
  obtain⟨f2,l2⟩:=B2
  obtain rfl:f2=True:=hnx
  generalize eZ b B x.1=mi at hf heq Tk pF
  generalize dt b x.1 x.2=ba at hba heq PZ
  refine⟨show (0:Int)<=(i:Int) by omega,show (i:Int) < ((Tq y.tr).length:Nat) by omega,?_⟩
  refine⟨Int × Prop,y.tr,fun x=>.bool x.2,rfl,show ((i:Nat):Int).toNat < y.tr.length by omega,fun x2 Tf=>?_⟩
  obtain rfl:x=x2:=Option.some.inj (dE.symm.trans Tf)
  refine hba.u ?_
  refine .inl ⟨ai (by omega),?_⟩
  refine .inl ⟨ai (by omega),?_⟩
  refine ux.u ?_
  refine hf.u ?_
  refine And.intro (And.intro ?K (And.intro ?oa ?or)) (And.intro ?ia ?ir)
  case or =>
   conv=>whnf
   exact trivial
  case ir =>
   conv=>whnf
   exact trivial
  case oa =>
   conv=>whnf
   refine ux.u ?_
   refine hf.u ?_
   exact rfl
  case ia =>
   conv=>whnf
   refine hf.u ?_
   exact rfl
  case K =>
   refine li ?_
   refine li ?_
   refine li ?_ (show _<=sum+(ba+mi*wt)/\sum+(ba+mi*wt)<=_ by omega)
   refine li ?_ (show _<=(i:Int)+1/\(i:Int)+1<=_ by omega)
   refine⟨⟨i+1,⟨True,l2⟩,sum+(ba+mi*wt),heq,by omega⟩,[some 0,some 1,some 2,some 3,some 4],show y.tr.length - (i+1) < y.tr.length - i by omega,?_⟩
   repeat' first|exact trivial|exact rfl|exact Iff.rfl|exact not_false|refine And.intro ?_ ?_
 ·have eU:¬ (i:Int) < ((OL y.tr).length:Nat):=h1
  rw[el] at eU
  rw[List.drop_of_length_le (by omega),List.foldl_nil] at heq
  have ZD:sum=R:=by rw[← hR,← heq]; show sum=y.aw+(sum - y.aw); omega
  subst ZD
  exact rS
theorem R9 {b:List Int} (hl:b.length<=2000) {a:Int} (hI:bX a) {l:List ST} (hO:c_ l) (hw:8+(fS l:Int)<=vk):(iF b a l).2.2=201\/((iF b a l).2.2=161/\16384 < yc l 8)\/((iF b a l).2.2=0/\m8 l/\gM (iF b a l).1=true/\(iF b a l).1.Wf):=by
 have he:=R8 b a l
 unfold iF
 by_cases h1:(jP b a l).e≠0
 ·rw[if_pos h1]
  exact .inl (he.resolve_left h1)
 ·have eU:(jP b a l).e=0:=Classical.not_not.1 h1
  rw[if_neg h1]
  by_cases h2:¬ xi (aq (ar b l (kN a)).1)
  ·rw[if_pos h2]
   exact .inr (.inl ⟨rfl,OK hl hI hO eU hw h2⟩)
  ·rw[if_neg h2]
   have hp:=(xv hl hI hO eU).1
   exact .inr (.inr ⟨rfl,OQ hl hI hO eU,ZS _ hp.1,hp.2⟩)
theorem OR {b:List Int} {wt:Int} (ca:0<=wt/\wt<=7):∀ (tr:List (Int × Prop)) (q:BF × Int),(∀ x∈tr,eA b x.1=0)->q.2<=(tr.foldl (AN b wt) q).2/\(tr.foldl (AN b wt) q).2<=q.2+40*tr.length
 | [],q,_=>⟨Int.le_refl _,by show q.2<=q.2+40*((0:Nat):Int); omega⟩
 | x::tr,q,h=>by
  obtain⟨h1,h2⟩:=OR ca tr (AN b wt q x) fun y hy=>h y (List.mem_cons_of_mem _ hy)
  have PZ:=sd (h x (List.mem_cons_self ..)) x.2
  have Tk:=kI (sc b q.1 x.1) ca
  have e:(AN b wt q x).2=q.2+dt b x.1 x.2+eZ b q.1 x.1*wt:=rfl
  rw[List.foldl_cons,List.length_cons]
  omega
theorem OS {b:List Int} {wt:Int} (ca:0<=wt/\wt<=7) {y:WY} (h:YB b y):0<=iH b wt y/\iH b wt y<=1000000:=by
 obtain⟨h1,h2⟩:=OR ca y.tr (⟨False,0⟩,0) fun x hx=>(h.ok.Un x hx).2
 have h3:=h.dv
 have h4:=h.ok.fuel
 have h5:=h.ok.len
 unfold iH dL
 simp only at h1 h2
 omega
noncomputable def wayS0 (b:List Int) (l:List ST) (ws:List Int) (wt:Int) (c:C):aN:=⟨(Tryz.f5).ntmps,ll [(2,.sl 17 (l.map sr)),(3,.sl 1 (bh ws)),(4,.int .i64 wt),(11,.ptr 4 0),(14,.ptr 0 0)] .nil,kK b (y0 ws)++[ly c],0,[]⟩
theorem yd (b:List Int) (hb:pq b) (a:Int) (hI:bX a) (l:List ST) (hO:c_ l) (hW:8+(fS l:Int)<=vk) (ws:List Int) (hws:∀ v∈ws,0<=v/\v<=4294967295) (wt:Int):aj gT 5 [.sl 1 (uC b),.int .i64 a,.sl 17 (l.map sr),.sl 1 (bh ws),.int .i64 wt] .tt:=by
 have el:(uC b).length=b.length:=List.length_map ..
 have elw:(bh ws).length=ws.length:=List.length_map ..
 refine Spec.FF ao [69] [(100009,.done)] 100 Tryz.func5 rfl (by kernel_rfl) ?_
 refine⟨[],az,x6.use trivial rfl rfl ?_⟩
 refine fun ss=>?_
 refine⟨fun h1=>?_,fun h1=>?_⟩
 ·exact rA
 have eU:¬ (2000:Int) < ((uC b).length:Nat):=h1
 rw[el] at eU
 have hl:b.length<=2000:=by omega
 refine (JX l).u ?_
 refine⟨fun h2=>?_,fun h2=>?_⟩
 ·exact rA
 refine⟨fun h3=>?_,fun h3=>?_⟩
 ·exact rA
 refine⟨fun h4=>?_,fun h4=>?_⟩
 ·exact rA
 refine fun Tk=>?_
 refine⟨fun h5=>?_,fun h5=>?_⟩
 ·exact rA
 have h5':¬ (254:Int) < ((bh ws).length:Nat):=h5
 rw[elw] at h5'
 have ca:0<=wt/\wt<=7:=⟨by have:¬ wt < 0:=h3; omega,by have:¬ 7 < wt:=h4; omega⟩
 have z6:ws.length<=254:=by omega
 refine (JW b hb hl a hI l hO).u ?_
 have hE:=R9 hl hI hO hW
 have OT:=fun he=>OO hl hI hO ca z6 hws he 6000
 generalize (iF b a l).1=c at *
 generalize (iF b a l).2.1=en at *
 generalize (iF b a l).2.2=ce at *
 refine⟨fun h6=>?_,fun h6=>?_⟩
 ·refine⟨fun k1=>?_,fun k1=>?_⟩
  ·exact rA
  ·have ZY:¬ ce=201:=k1
   have h6':¬ ce=0:=h6
   obtain⟨e1,e2⟩:=(hE.resolve_left ZY).resolve_right (fun k=>h6' k.1)
   refine⟨fun _=>?_,fun k=>absurd e1 k⟩
   refine (DP l hO).u ?_
   exact al e2
 have h6':ce=0:=Classical.not_not.1 h6
 obtain⟨_,hV,hsh,hcw⟩:=(hE.resolve_left (by omega)).resolve_left (fun k=>absurd k.1 (by omega))
 have OT:=OT h6'
 have Le:bh ws++List.replicate (254 - ws.length) (PV.int .u32 0)=bh (rG ws):=by
  unfold rG
  rw[List.take_of_length_le z6]
  unfold bh
  rw[List.map_append,List.map_replicate]
 refine Exists.intro (wayS0 b l ws wt c) (And.intro ?_ ?_)
 ·refine⟨show 0+(bh ws).length<=maxLen by rw[elw]; unfold maxLen; omega,show (0+(bh ws).length)*4<=140737488355328 by rw[elw]; omega,?_⟩
  refine fun hmw2=>?_
  refine li ?_ (show _<=254 - (((bh ws).length:Nat):Int)/\254 - (((bh ws).length:Nat):Int)<=_ by omega)
  refine OF ao ?_
  refine⟨254 - ws.length,show 254 - (((bh ws).length:Nat):Int)=((254 - ws.length:Nat):Int) by rw[elw]; omega,show (bh ws).length+(254 - ws.length)<=maxLen by rw[elw]; unfold maxLen; omega,show ((bh ws).length+(254 - ws.length))*4<=140737488355328 by rw[elw]; omega,?_⟩
  refine aT ao.ok (π:=[some 4,some 3,none,none,some 0]) ?_
  repeat' first|exact trivial|exact rfl|exact Iff.rfl|exact not_false|exact Le|refine And.intro ?_ ?_
 have hy0:YB b (y0 ws):=⟨⟨⟨show (-2:Int)<=3000 by decide,show (3000:Int)<=3000 by decide⟩,show ((0:Nat):Int)+3000<=3000 by decide,DU z6 hws,fun x hx=>by cases hx⟩,⟨Int.le_refl 0,show (0:Int)<=10*(3000 - 3000) by decide⟩⟩
 obtain⟨um,hkp⟩:=R7 b hb hl l hO hV
 have hB:=hkp _ hy0
 refine⟨[2,3],jJ (by first|exact .inl (Nat.zero_le _)|exact .inr (by simp)) (by first|exact .inl (Nat.zero_le _)|exact .inr (by simp)) (by rintro b ⟨⟩; nofun) (by rintro b ⟨⟩; nofun),(um _ hy0).jF rfl rfl rfl rfl rfl (by first|exact ah rfl rfl|(repeat' first|exact trivial|exact rfl|exact Iff.rfl|exact Or.inl rfl|exact not_false|refine And.intro ?_ ?_)) (And.intro (by first|exact ah rfl rfl|(repeat' first|exact trivial|exact rfl|exact Iff.rfl|exact Or.inl rfl|exact not_false|refine And.intro ?_ ?_)) (And.intro (by first|exact ah rfl rfl|(repeat' first|exact trivial|exact rfl|exact Iff.rfl|exact Or.inl rfl|exact not_false|refine And.intro ?_ ?_)) (And.intro (by first|exact ah rfl rfl|(repeat' first|exact trivial|exact rfl|exact Iff.rfl|exact Or.inl rfl|exact not_false|refine And.intro ?_ ?_)) (And.intro (by first|exact ah rfl rfl|(repeat' first|exact trivial|exact rfl|exact Iff.rfl|exact Or.inl rfl|exact not_false|refine And.intro ?_ ?_)) (And.intro trivial ?_)))))⟩
 have Fy:=Fc c hcw hsh ws hws wt 6000 ⟨by decide,by decide⟩
 have hok:=@Zm c ws wt 6000
 have hcy:=J' b hb hl (bY b l (y0 ws)) hB wt ca
 have A3:=OS ca hB
 generalize bY b l (y0 ws)=y at OT hB hcy A3 ⊢
 refine Fy.u ?_
 generalize (eR wt c (r0 ws 6000).er)=r at OT hok
 generalize evC c ws wt 6000=x at hok ⊢
 obtain⟨x1,x2,x3⟩:=x
 refine⟨fun h7=>?_,fun h7=>?_⟩
 ·exact rA
 have Tm:x3=0:=Classical.not_not.1 h7
 obtain⟨_,hx⟩:=hok Tm
 obtain⟨rfl,rfl,-⟩:x1=r.sum/\x2=r.ck/\x3=0:=⟨congrArg Prod.fst hx,congrArg (fun q=>q.2.1) hx,Tm⟩
 refine⟨fun h8=>?_,fun h8=>?_⟩
 ·exact rA
 refine⟨fun h9=>?_,fun h9=>?_⟩
 ·exact rA
 obtain⟨e1,e2⟩:=(OT.resolve_left h8).resolve_left h9
 refine⟨fun _=>?_,fun k=>absurd e1 k⟩
 refine (hcy).e ?_
 refine .inl ⟨cL (by omega),?_⟩
 exact al e2
theorem HS:∀ l:List G,OB l=(l.map gN).sum
 | []=>rfl
 | g::l=>by rw[OB,HS l,List.map_cons,List.sum_cons]
def wd1 (d:DG):Nat:=4+gN d.a+gN d.b
theorem HT:∀ l:List DG,HQ l=(l.map wd1).sum
 | []=>rfl
 | d::l=>by rw[HQ,HT l,List.map_cons,List.sum_cons]; rfl
theorem oz:∀ l:List ST,fS l=(l.map Pf).sum
 | []=>rfl
 | s::l=>by rw[fS,oz l,List.map_cons,List.sum_cons]
def so (u:Nat) (x:PV):Prop:=∃ g:G,g.Ok/\x=gP g/\gN g<=1*u
def SDb (u:Nat) (x:PV):Prop:=∃ d:DG,d.Ok/\x=rV d/\wd1 d<=8*u
def SSb (u:Nat) (x:PV):Prop:=∃ s:ST,s.Ok/\x=sr s/\Pf s<=40*u
def sGb:Nat->PV->Prop:=Q7 3 40 gP G.Ok gN 1
def J_:Nat->PV->Prop:=Q7 7 88 rV DG.Ok wd1 8
def kL:Nat->PV->Prop:=Q7 17 232 sr ST.Ok Pf 40
theorem OU:∀ m,n_ m Tryz.prog 27 so
 | 0=>n_.zero
 | m+1=>by
  have h1:n_ (m+1) Tryz.prog 25 sGb:=rz (OU m) (fun u x h=>h) 3 40 (by kernel_rfl) Tryz.underlying25 (by kernel_rfl) (by decide) (by kernel_rfl)
  have h2:n_ (m+2) Tryz.prog 27 (M1 [fun _=>SInt .i64,fun _=>SInt .u32,sGb]) :=
   E6 (Ss:=[fun _=>SInt .i64,fun _=>SInt .u32,sGb]) Tryz.underlying27 ⟨rfl,kC.O9 _,(show _=_ by kernel_rfl),Zs.O9 _,(show _=_ by kernel_rfl),h1,(show _=_ by kernel_rfl)⟩
  refine n_.less (n:=m+2) (n_.BQ h2 fun u x hx=>?_) (by omega)
  obtain⟨us,xs,q0,rfl,hu⟩:=hx
  obtain⟨u0,_,_,_,rfl,rfl,⟨o,ho,rfl⟩,q1⟩:=bP (S:=fun _=>SInt .i64) (Ss:=[fun _=>SInt .u32,sGb]) q0
  obtain⟨u1,_,_,_,rfl,rfl,⟨n,hn,rfl⟩,q2⟩:=bP (S:=fun _=>SInt .u32) (Ss:=[sGb]) q1
  obtain⟨u2,_,_,_,rfl,rfl,⟨l,hl,TV,rfl,wl⟩,q3⟩:=bP (S:=sGb) (Ss:=[]) q2
  obtain⟨rfl,rfl⟩:=s6 q3
  refine⟨.mk o n l,⟨gr ho,Da hn,hl.1,C_ TV⟩,?_,?_⟩
  ·show PV.agg _ = .agg [.int .i64 o,.int .u32 n,.sl 3 (jH l)]
   rw[fi]
   rfl
  ·show 1+OB l<=1*u
   rw[HS]
   simp only[List.sum_cons,List.sum_nil] at hu
   omega
theorem opDB:∀ m,n_ m Tryz.prog 91 SDb
 | 0=>n_.zero
 | m+1=>by
  refine n_.BQ (E6 (Ss:=[fun _=>SInt .i64,so,so]) Tryz.underlying91 ⟨rfl,kC.O9 _,(show _=_ by kernel_rfl),OU _,(show _=_ by kernel_rfl),OU _,(show _=_ by kernel_rfl)⟩) fun u x hx=>?_
  obtain⟨us,xs,q0,rfl,hu⟩:=hx
  obtain⟨u0,_,_,_,rfl,rfl,⟨a,ha,rfl⟩,q1⟩:=bP (S:=fun _=>SInt .i64) (Ss:=[so,so]) q0
  obtain⟨u1,_,_,_,rfl,rfl,⟨g1,h1,rfl,w1⟩,q2⟩:=bP (S:=so) (Ss:=[so]) q1
  obtain⟨u2,_,_,_,rfl,rfl,⟨g2,h2,rfl,w2⟩,q3⟩:=bP (S:=so) (Ss:=[]) q2
  obtain⟨rfl,rfl⟩:=s6 q3
  refine⟨⟨a,g1,g2⟩,⟨gr ha,h1,h2⟩,rfl,?_⟩
  show 4+gN g1+gN g2<=8*u
  simp only[List.sum_cons,List.sum_nil] at hu
  omega
theorem opDsB:∀ m,n_ m Tryz.prog 34 J_
 | 0=>n_.zero
 | m+1=>rz (opDB m) (fun u x h=>h) 7 88 (by kernel_rfl) Tryz.underlying34 (by kernel_rfl) (by decide) (by kernel_rfl)
theorem opSB:∀ m,n_ m Tryz.prog 37 SSb
 | 0=>n_.zero
 | m+1=>by
  have h1:n_ (m+1) Tryz.prog 35 kL:=rz (opSB m) (fun u x h=>h) 17 232 (by kernel_rfl) Tryz.underlying35 (by kernel_rfl) (by decide) (by kernel_rfl)
  have h2:n_ (m+2) Tryz.prog 37 (M1 [fun _=>SInt .i64,fun _=>SInt .i64,fun _=>SInt .i64,fun _=>SInt .i64,fun _=>SInt .i64,fun _=>SInt .i64,fun _=>SInt .i64,so,so,J_,kL,kL,kL]) :=
   E6 (Ss:=[fun _=>SInt .i64,fun _=>SInt .i64,fun _=>SInt .i64,fun _=>SInt .i64,fun _=>SInt .i64,fun _=>SInt .i64,fun _=>SInt .i64,so,so,J_,kL,kL,kL]) Tryz.underlying37 ⟨rfl,kC.O9 _,(show _=_ by kernel_rfl),kC.O9 _,(show _=_ by kernel_rfl),kC.O9 _,(show _=_ by kernel_rfl),kC.O9 _,(show _=_ by kernel_rfl),kC.O9 _,(show _=_ by kernel_rfl),kC.O9 _,(show _=_ by kernel_rfl),kC.O9 _,(show _=_ by kernel_rfl),OU _,(show _=_ by kernel_rfl),OU _,(show _=_ by kernel_rfl),opDsB _,(show _=_ by kernel_rfl),h1,(show _=_ by kernel_rfl),h1,(show _=_ by kernel_rfl),h1,(show _=_ by kernel_rfl)⟩
  refine n_.less (n:=m+2) (n_.BQ h2 fun u x hx=>?_) (by omega)
  obtain⟨us,xs,q0,rfl,hu⟩:=hx
  obtain⟨u0,_,_,_,rfl,rfl,⟨a0,b0,rfl⟩,q1⟩:=bP (S:=fun _=>SInt .i64) (Ss:=[fun _=>SInt .i64,fun _=>SInt .i64,fun _=>SInt .i64,fun _=>SInt .i64,fun _=>SInt .i64,fun _=>SInt .i64,so,so,J_,kL,kL,kL]) q0
  obtain⟨u1,_,_,_,rfl,rfl,⟨a1,b1,rfl⟩,q2⟩:=bP (S:=fun _=>SInt .i64) (Ss:=[fun _=>SInt .i64,fun _=>SInt .i64,fun _=>SInt .i64,fun _=>SInt .i64,fun _=>SInt .i64,so,so,J_,kL,kL,kL]) q1
  obtain⟨u2,_,_,_,rfl,rfl,⟨a2,b2,rfl⟩,q3⟩:=bP (S:=fun _=>SInt .i64) (Ss:=[fun _=>SInt .i64,fun _=>SInt .i64,fun _=>SInt .i64,fun _=>SInt .i64,so,so,J_,kL,kL,kL]) q2
  obtain⟨u3,_,_,_,rfl,rfl,⟨a3,b3,rfl⟩,q4⟩:=bP (S:=fun _=>SInt .i64) (Ss:=[fun _=>SInt .i64,fun _=>SInt .i64,fun _=>SInt .i64,so,so,J_,kL,kL,kL]) q3
  obtain⟨u4,_,_,_,rfl,rfl,⟨a4,b4,rfl⟩,q5⟩:=bP (S:=fun _=>SInt .i64) (Ss:=[fun _=>SInt .i64,fun _=>SInt .i64,so,so,J_,kL,kL,kL]) q4
  obtain⟨u5,_,_,_,rfl,rfl,⟨a5,b5,rfl⟩,q6⟩:=bP (S:=fun _=>SInt .i64) (Ss:=[fun _=>SInt .i64,so,so,J_,kL,kL,kL]) q5
  obtain⟨u6,_,_,_,rfl,rfl,⟨a6,b6,rfl⟩,q7⟩:=bP (S:=fun _=>SInt .i64) (Ss:=[so,so,J_,kL,kL,kL]) q6
  obtain⟨u7,_,_,_,rfl,rfl,⟨gA,hA,rfl,wA⟩,q8⟩:=bP (S:=so) (Ss:=[so,J_,kL,kL,kL]) q7
  obtain⟨u8,_,_,_,rfl,rfl,⟨gB,hB,rfl,wB⟩,q9⟩:=bP (S:=so) (Ss:=[J_,kL,kL,kL]) q8
  obtain⟨u9,_,_,_,rfl,rfl,⟨ds,hds,hdo,rfl,wD⟩,q10⟩:=bP (S:=J_) (Ss:=[kL,kL,kL]) q9
  obtain⟨u10,_,_,_,rfl,rfl,⟨hd,hhd,hho,rfl,wH⟩,q11⟩:=bP (S:=kL) (Ss:=[kL,kL]) q10
  obtain⟨u11,_,_,_,rfl,rfl,⟨bd,xK,hbo,rfl,wBd⟩,SY⟩:=bP (S:=kL) (Ss:=[kL]) q11
  obtain⟨u12,_,_,_,rfl,rfl,⟨el,KZ,heo,rfl,wE⟩,q13⟩:=bP (S:=kL) (Ss:=[]) SY
  obtain⟨rfl,rfl⟩:=s6 q13
  refine⟨.mk ⟨a0,a1,a2,a3,a4,a5,a6,gA,gB,ds⟩ hd bd el,⟨⟨⟨gr b0,gr b1,gr b2,gr b3,gr b4,gr b5,gr b6⟩,hA,hB,hds.1,hdo⟩,⟨hhd.1,xK.1,KZ.1⟩,oq hho,oq hbo,oq heo⟩,?_,?_⟩
  ·rw[sr,kD,kD,kD]
   rfl
  ·show 40+gN gA+gN gB+HQ ds+fS hd+fS bd+fS el<=40*u
   rw[HT,oz,oz,oz]
   simp only[List.sum_cons,List.sum_nil] at hu
   omega
theorem opSsB:∀ m,n_ m Tryz.prog 35 kL
 | 0=>n_.zero
 | m+1=>rz (opSB m) (fun u x h=>h) 17 232 (by kernel_rfl) Tryz.underlying35 (by kernel_rfl) (by decide) (by kernel_rfl)
theorem OV (u:Nat) (y:PV):kL u y->y.cells = [y]:=fun ⟨_,_,_,h,_⟩=>by subst h; rfl
theorem Z0:Op Tryz.prog 56 (P0 1 4 (PV.int .u32) (fun z:Int=>0<=z/\z<=4294967295)) :=
 LC (Gk (Gj Tryz.underlying24 (by kernel_rfl)) 1 4 (by kernel_rfl) Tryz.underlying56 (by kernel_rfl) (by decide) (by kernel_rfl)) fun x ⟨z,h,e⟩=>⟨z,Da h,e⟩
theorem xw (x:PV) (s:P0 1 1 (PV.int .u8) (fun z:Int=>0<=z/\z<=255) x) (y:PV) (t:SInt .i64 y) (v:Nat) (hv:v<=1048576) (z:PV) (u:kL v z) (y2:PV) (t2:P0 1 4 (PV.int .u32) (fun z:Int=>0<=z/\z<=4294967295) y2) (y3:PV) (t3:SInt .i64 y3):aj gT 5 [x,y,z,y2,y3] .tt:=by
 obtain⟨b,h1,h2,rfl⟩:=s
 obtain⟨n,hn,rfl⟩:=t
 obtain⟨l,h3,h4,rfl,h5⟩:=u
 obtain⟨ws,h6,h7,rfl⟩:=t2
 obtain⟨wt,h8,rfl⟩:=t3
 refine yd b h2 n (gr hn) l (oq h4) ?_ ws h7 wt
 rw[oz]
 unfold vk
 omega
end Go.Proofs.YtnbhdacpogplgaaGreatDoor.Pw

/- What a law is proved with. -/
import Derived.Test.YtnbngokbamifbaaGreatDoorNh24
import Derived.Test.YtnbngokbamifbaaGreatDoorNh20
set_option linter.unusedVariables false
set_option linter.unusedSimpArgs false
set_option linter.unusedVariables false
namespace Go.Proofs.YtnbngokbamifbaaGreatDoor.Pw
open Go Go.RowKit
theorem getD_midC (p b q : List Int) (k : Nat) (h : k < b.length) : (p ++ b ++ q).getD (p.length + k) 0 = b.getD k 0:=by
 rw [List.getD_eq_getElem?_getD,List.getD_eq_getElem?_getD,List.append_assoc,List.getElem?_append_right (by omega),Nat.add_sub_cancel_left,List.getElem?_append_left h]
theorem byL_okAC (i : IN) : BOk (byL i):=by
 intro z hz
 unfold byL at hz
 split at hz <;> simp only [List.mem_append,List.mem_cons,List.not_mem_nil,or_false,false_or] at hz <;> omega
theorem at_midC (p q : List Int) (i : IN) (h : rightV i) (hg : i.regs <= 9223372036854775807) : atI (p ++ byL i ++ q) p.length = i /\ atE (p ++ byL i ++ q) p.length = 0:=by
 have fst:=of_word i h hg
 have bk:=back i h hg
 have wb:=word_bd i
 have tw:=top_wide i h
 have tn:=top_narrow i h
 have f1:=h.1
 unfold U32 at wb
 have g:=getD_midC p (byL i) q
 have el0 : (p ++ byL i ++ q).length = p.length + (byL i).length + q.length:=by rw [List.length_append,List.length_append]
 generalize hb0 : byL i = b at g el0 ⊢
 by_cases h48 : 48 <= i.form
 ·have eb : b = [wordV i / 65536 % 256,wordV i / 16777216 % 256,wordV i % 256,wordV i / 256 % 256]:=by rw [← hb0]; unfold byL; rw [if_pos h48]; rfl
  subst eb
  have el : (p ++ [wordV i / 65536 % 256,wordV i / 16777216 % 256,wordV i % 256,wordV i / 256 % 256] ++ q).length = p.length + 4 + q.length:=el0
  generalize p ++ [wordV i / 65536 % 256,wordV i / 16777216 % 256,wordV i % 256,wordV i / 256 % 256] ++ q = l at g el ⊢
  have g0:=g 0 (by simp)
  have g1:=g 1 (by simp)
  have g2:=g 2 (by simp)
  have g3:=g 3 (by simp)
  have k0 : hN l p.length = wordV i / 65536:=by
   unfold hN
   rw [Nat.add_zero] at g0
   rw [g0,g1]
   show wordV i / 65536 % 256 + wordV i / 16777216 % 256 * 256 = _
   omega
  have k2 : hN l (p.length + 2) = wordV i % 65536:=by
   unfold hN
   rw [g2,g3]
   show wordV i % 256 + wordV i / 256 % 256 * 256 = _
   omega
  have kW : hW l p.length = wordV i:=by unfold hW; rw [k0,k2]; omega
  have hb : ¬ ¬ beginsV (hN l p.length):=by
   have:=tw h48
   rw [k0]; unfold beginsV; omega
  have e : (48 <= i.form) = True:=eq_true h48
  rw [e] at fst
  unfold atI atE
  rw [if_neg (by omega),if_neg hb,if_neg (by omega),if_neg (by omega),if_neg hb,if_neg (by omega),kW,ofI_is fst,ofE_is fst,bk]
  exact ⟨rfl,rfl⟩
 ·have eb : b = [wordV i % 256,wordV i / 256 % 256]:=by rw [← hb0]; unfold byL; rw [if_neg h48]; rfl
  subst eb
  have el : (p ++ [wordV i % 256,wordV i / 256 % 256] ++ q).length = p.length + 2 + q.length:=el0
  generalize p ++ [wordV i % 256,wordV i / 256 % 256] ++ q = l at g el ⊢
  have tn':=tn h48
  have g0:=g 0 (by simp)
  have g1:=g 1 (by simp)
  have k0 : hN l p.length = wordV i:=by
   unfold hN
   rw [Nat.add_zero] at g0
   rw [g0,g1]
   show wordV i % 256 + wordV i / 256 % 256 * 256 = _
   omega
  have hb : ¬ beginsV (hN l p.length):=by rw [k0]; unfold beginsV; omega
  have e : (48 <= i.form) = False:=eq_false h48
  rw [e] at fst
  unfold atI atE
  rw [if_neg (by omega),if_pos hb,if_neg (by omega),if_pos hb,k0,ofI_is fst,ofE_is fst,bk]
  exact ⟨rfl,rfl⟩
theorem fch_at {fl : List Int} {n : Nat} (hn : n % 2 = 0) (hl : fl.length <= 65536) (h : atE fl n = 0) : fchE fl (134217728 + (n : Int)) = 0 /\ fchI fl (134217728 + (n : Int)) = atI fl n:=by
 have e0 : offF (134217728 + (n : Int)) = n:=by unfold offF; omega
 have h2 : ¬ (134217728 + (n : Int)) % 2 ≠ 0:=by omega
 unfold atE at h
 split at h
 ·cases h
 ·rename_i h1
  have f1 : inFl fl (134217728 + (n : Int)) 2:=⟨by omega,by omega⟩
  have k1 : hfE fl (134217728 + (n : Int)) = 0:=by unfold hfE; rw [if_neg h2,if_pos f1]
  have k2 : hfV fl (134217728 + (n : Int)) = hN fl n:=by unfold hfV; rw [if_neg h2,if_pos f1,e0]
  unfold fchE fchI atI
  rw [k1,k2,if_neg (show ¬ (0 : Int) ≠ 0 by decide),if_neg (show ¬ (0 : Int) ≠ 0 by decide),if_neg h1]
  split at h
  ·rename_i hb
   rw [if_pos hb,if_pos hb,if_pos hb]
   exact ⟨h,rfl⟩
  ·rename_i hb
   rw [if_neg hb,if_neg hb,if_neg hb]
   split at h
   ·cases h
   ·rename_i h4
    have ew : IntKind.u32.wrap (134217728 + (n : Int) + 2) = 134217728 + ((n + 2 : Nat) : Int):=by rw [IntKind.wrap_u32']; omega
    have e1 : offF (134217728 + ((n + 2 : Nat) : Int)) = n + 2:=by unfold offF; omega
    have h3 : ¬ (134217728 + ((n + 2 : Nat) : Int)) % 2 ≠ 0:=by omega
    have f2 : inFl fl (134217728 + ((n + 2 : Nat) : Int)) 2:=⟨by omega,by omega⟩
    have k3 : hfE fl (134217728 + ((n + 2 : Nat) : Int)) = 0:=by unfold hfE; rw [if_neg h3,if_pos f2]
    have k4 : hfV fl (134217728 + ((n + 2 : Nat) : Int)) = hN fl (n + 2):=by unfold hfV; rw [if_neg h3,if_pos f2,e1]
    have kh : half2 fl (134217728 + (n : Int)) = hW fl n:=by unfold half2; rw [k2,ew,k4]; rfl
    rw [ew,k3,if_neg (show ¬ (0 : Int) ≠ 0 by decide),if_neg (show ¬ (0 : Int) ≠ 0 by decide),if_neg h4,kh]
    exact ⟨h,rfl⟩
theorem fch_mid (p q : List Int) (i : IN) (h : rightV i) (hi : IOk i) (hp : p.length % 2 = 0) (hl : (p ++ byL i ++ q).length <= 65536) : fchE (p ++ byL i ++ q) (134217728 + (p.length : Int)) = 0 /\ fchI (p ++ byL i ++ q) (134217728 + (p.length : Int)) = i:=by
 have hI:=hi i.regs (by simp [inLs])
 obtain ⟨h1,h2⟩:=at_midC p q i h hI.2
 obtain ⟨h3,h4⟩:=fch_at hp hl h2
 exact ⟨h3,h4.trans h1⟩
theorem updN_bd {w : Nat -> Int} (h : ∀ k,U32 (w k)) (j : Nat) {x : Int} (hx : U32 x) : ∀ k,U32 (updN w j x k):=fun k=>by
 unfold updN; split
 ·exact hx
 ·exact h k
theorem stW_bd {w : Nat -> Int} (h : ∀ k,U32 (w k)) (a : Int) {x : Int} (hx : U32 x) : ∀ k,U32 (stW w a x k):=by
 unfold stW; split
 ·exact updN_bd h _ hx
 ·exact h
theorem pushG_w {x : XS} (hx : XOk x) {w : Nat -> Int} (h : ∀ k,U32 (w k)) (a : Int) : ∀ r k,U32 ((pushG x w a r).1 k)
 | 0,k=>h k
 | r + 1,k=>by
  have ih:=pushG_w hx h a r
  rw [pushG]
  split
  ·exact ih k
  ·split
   ·exact ih k
   ·split
    ·exact ih k
    ·exact stW_bd ih _ (getX_bd hx _) k
theorem doW_bd {m : MS} (hm : MOk m) {x : XS} (hx : XOk x) : ∀ k,U32 (doW m x k):=by
 unfold doW
 split
 ·unfold accW
  split
  ·exact stW_bd hm.w _ (getX_bd hx _)
  ·exact hm.w
 ·split
  ·exact pushG_w hx hm.w _ 15
  ·exact hm.w
open Classical in
theorem stpM_ok {m : MS} (hm : MSOk m) (hc : m.cyc <= 999999999999900) : MSOk (stpM m) /\ m.cyc <= (stpM m).cyc /\ (stpM m).cyc <= m.cyc + 34 /\ (stpE m = 0 -> m.cyc < (stpM m).cyc) /\ (stpM m).wait = m.wait /\ (stpM m).fl = m.fl:=by
 unfold stpM
 split
 ·rename_i hk
  exact ⟨hm,Int.le_refl _,by omega,fun h=>absurd h (by unfold stpE; rw [if_pos hk]; decide),rfl,rfl⟩
 rename_i hk
 split
 ·rename_i hf
  exact ⟨⟨⟨hm.mem.w,hm.mem.fl,hm.mem.len⟩,hm.s,hm.wait,hm.cyc⟩,Int.le_refl _,by show m.cyc <= _; omega,fun h=>absurd h (by unfold stpE; rw [if_neg hk,if_pos hf]; decide),rfl,rfl⟩
 rename_i hf
 obtain ⟨hr,hio⟩:=fch_right (Classical.not_not.1 hf)
 have hx:=startX_ok hm.s hr hio
 have hy:=doX_y hm.mem (startX_y hm.s (fchI m.fl (m.s.R 15))) hx
 have hw:=doW_bd hm.mem hx
 split
 ·rename_i hd
  exact ⟨⟨⟨hw,hm.mem.fl,hm.mem.len⟩,hm.s,hm.wait,hm.cyc⟩,Int.le_refl _,by show m.cyc <= _; omega,fun h=>absurd h (by unfold stpE; rw [if_neg hk,if_neg hf,if_pos hd]; decide),rfl,rfl⟩
 ·have hrg:=rightC_regs hr hio
  have hb : 1 <= stpBase m /\ stpBase m <= 20:=by unfold stpBase; exact base_bd _ _ hy.a hy.b hrg.1 hrg.2
  have hmi : 0 <= stpMiss m /\ stpMiss m <= 2:=by unfold stpMiss; exact fetM_bd _ _ _ _
  have hmw:=mul_bd hmi hm.wait
  have hcy:=hm.cyc
  have e : (stpOk m).cyc = m.cyc + (stpBase m + stpMiss m * m.wait):=rfl
  exact ⟨⟨⟨hw,hm.mem.fl,hm.mem.len⟩,hy.s,hm.wait,by show 0 <= (stpOk m).cyc /\ (stpOk m).cyc <= _; rw [e]; omega⟩,by rw [e]; omega,by rw [e]; omega,fun _=>by rw [e]; omega,rfl,rfl⟩
theorem rs0_ok : RSOk rs0:=⟨fun _=>z_u32,⟨Int.le_refl _,Int.zero_le_ofNat 1⟩,⟨Int.le_refl _,Int.zero_le_ofNat 1⟩,⟨Int.le_refl _,Int.zero_le_ofNat 1⟩,⟨Int.le_refl _,Int.zero_le_ofNat 1⟩⟩
theorem clampS_ok {s : RS} (h : ∀ k,U32 (s.R k)) (hn : 0 <= s.N) (hz : 0 <= s.Z) (hc : 0 <= s.C) (hv : 0 <= s.V) : RSOk (clampS s):=⟨h,by show 0 <= min s.N 1 /\ min s.N 1 <= 1; omega,by show 0 <= min s.Z 1 /\ min s.Z 1 <= 1; omega,by show 0 <= min s.C 1 /\ min s.C 1 <= 1; omega,by show 0 <= min s.V 1 /\ min s.V 1 <= 1; omega⟩
theorem ms0_ok {fl : List Int} {wait : Int} (hb : BOk fl) (hl : fl.length <= 65536) (hw : 0 <= wait /\ wait <= 7) : MSOk (ms0 fl wait):=⟨⟨fun _=>z_u32,hb,hl⟩,rs0_ok,hw,by show 0 <= (0 : Int) /\ (0 : Int) <= _; decide⟩
theorem setM_ok {m : MS} (hm : MSOk m) {s : RS} (h : RSOk (clampS s)) : MSOk (setM m s):=⟨⟨hm.mem.w,hm.mem.fl,hm.mem.len⟩,h,hm.wait,hm.cyc⟩
end Go.Proofs.YtnbngokbamifbaaGreatDoor.Pw
set_option linter.unusedVariables false
namespace Go.Proofs.YtnbngokbamifbaaGreatDoor.Pw
open Go Go.RowKit
def ia1 : IN:=⟨8,0,0,0,0,5,0,0,0,0,0⟩
def ia2 : IN:=⟨31,0,0,14,0,0,0,0,0,0,0⟩
theorem right_ia1 : rightV ia1:=by
 show rightR _ (ruW (shapeV 8))
 rw [show shapeV 8 = 4 by decide,show ruW 4 = {r0U with rd:=1,i1:=255,i2:=1} from rfl]
 refine ⟨by decide,.inl (by decide),.inr (.inr (.inr (by decide))),.inr (.inr (.inr (by decide))),.inr (.inr (.inr (by decide))),.inl (by decide),.inl rfl,.inr (by decide),.inl rfl,.inr ⟨Bool.false_ne_true,rfl,.inl (by decide)⟩,?_⟩
 refine ⟨by decide,by decide,by decide,by decide,?_⟩
 show shapeV 8 = 18 \/ shapeV 8 = 19 \/ shapeV 8 = 20 -> _
 rw [show shapeV 8 = 4 by decide]
 exact fun h=>absurd h (by decide)
theorem right_ia2 : rightV ia2:=by
 show rightR _ (ruW (shapeV 31))
 rw [show shapeV 31 = 7 by decide,show ruW 7 = {r0U with rm:=2} from rfl]
 refine ⟨by decide,.inr (.inr (.inr (by decide))),.inr (.inr (.inr (by decide))),.inr (.inl (by decide)),.inr (.inr (.inr (by decide))),.inl (by decide),.inl rfl,.inl (by decide),.inl rfl,.inr ⟨Bool.false_ne_true,rfl,.inl (by decide)⟩,?_⟩
 refine ⟨by decide,by decide,by decide,by decide,?_⟩
 show shapeV 31 = 18 \/ shapeV 31 = 19 \/ shapeV 31 = 20 -> _
 rw [show shapeV 31 = 7 by decide]
 exact fun h=>absurd h (by decide)
def aF : List Int:=byL ia1 ++ byL ia2
def aS : RS:=⟨upd (upd (fun _=>0) 14 4294967295) 15 134217728,0,0,0,0⟩
def am1 : MS:=setM (ms0 aF 0) aS
theorem len_ia (i : IN) (h : i.form < 48) : (byL i).length = 2:=by unfold byL; rw [if_neg (by omega)]; rfl
theorem aF_len : aF.length = 4:=by unfold aF; rw [List.length_append,len_ia ia1 (by decide),len_ia ia2 (by decide)]
theorem aF_ok : BOk aF:=fun z hz=>(List.mem_append.1 hz).elim (byL_okAC _ z) (byL_okAC _ z)
theorem a_flash : flashL [ia1,ia2] ++ [] = aF:=by
 unfold flashL aF
 rw [List.flatMap_cons,List.flatMap_cons,List.flatMap_nil,if_pos right_ia1,if_pos right_ia2,List.append_nil,List.append_nil]
theorem am1_ok : MSOk am1:=setM_ok (ms0_ok aF_ok (by rw [aF_len]; decide) (by decide)) (clampS_ok (upd_bd (upd_bd (fun _=>z_u32) ⟨by decide,by decide⟩) ⟨by decide,by decide⟩) (by decide) (by decide) (by decide) (by decide))
theorem fch_ia1 : fchE aF 134217728 = 0 /\ fchI aF 134217728 = ia1:=by
 have:=fch_mid [] (byL ia2) ia1 right_ia1 (lit_ok _ (by decide)) rfl (by show aF.length <= _; rw [aF_len]; decide)
 exact this
theorem fch_ia2 : fchE aF 134217730 = 0 /\ fchI aF 134217730 = ia2:=by
 have:=fch_mid (byL ia1) [] ia2 right_ia2 (lit_ok _ (by decide)) (by rw [len_ia ia1 (by decide)]) (by rw [List.append_nil]; show aF.length <= _; rw [aF_len]; decide)
 rw [List.append_nil,len_ia ia1 (by decide)] at this
 exact this
open Classical in
theorem a_step1 : stpE am1 = 0 /\ (stpM am1).kind = 0 /\ (stpM am1).s.R 0 = 5 /\ (stpM am1).s.R 15 = 134217730 /\ (stpM am1).s.R 14 = 4294967295 /\ (stpM am1).cyc = 1 /\ (stpM am1).fl = aF /\ (stpM am1).wait = 0:=by
 have r15 : am1.s.R 15 = 134217728:=rfl
 have hk : ¬ am1.kind ≠ 0:=by decide
 have hf : ¬ fchE am1.fl (am1.s.R 15) ≠ 0:=by rw [r15]; exact fun h=>h fch_ia1.1
 have hI : fchI am1.fl (am1.s.R 15) = ia1:=by rw [r15]; exact fch_ia1.2
 have hd : stpD am1 = 0:=by unfold stpD; rw [hI]; rfl
 have eE : stpE am1 = 0:=by unfold stpE; rw [if_neg hk,if_neg hf,if_neg (by rw [hd]; decide)]
 have eM : stpM am1 = stpOk am1:=by unfold stpM; rw [if_neg hk,if_neg hf,if_neg (by rw [hd]; decide)]
 have eX : stpX am1 = doX am1 (startX am1.s ia1):=by unfold stpX; rw [hI]
 have eB : stpBase am1 = 1:=by unfold stpBase; rw [hI]; exact baseV_0 (by decide)
 rw [eM]
 refine ⟨eE,?_,?_,?_,?_,?_,rfl,rfl⟩
 ·show (stpX am1).kind = 0; rw [eX]; rfl
 ·show (stpX am1).s.R 0 = 5; rw [eX]; rfl
 ·show (stpX am1).s.R 15 = _; rw [eX]; rfl
 ·show (stpX am1).s.R 14 = _; rw [eX]; rfl
 ·show am1.cyc + (stpBase am1 + stpMiss am1 * am1.wait) = 1
  rw [eB,show am1.wait = 0 from rfl,Int.mul_zero]; rfl
open Classical in
theorem a_step2 (m : MS) (hk : m.kind = 0) (h15 : m.s.R 15 = 134217730) (h14 : m.s.R 14 = 4294967295) (hfl : m.fl = aF) (hw : m.wait = 0) : stpE m = 0 /\ (stpM m).kind = 1 /\ (stpM m).code = 0 /\ (stpM m).cyc = m.cyc + 3 /\ (stpM m).s.R 0 = m.s.R 0:=by
 have hk' : ¬ m.kind ≠ 0:=fun h=>h hk
 have hf : ¬ fchE m.fl (m.s.R 15) ≠ 0:=by rw [h15,hfl]; exact fun h=>h fch_ia2.1
 have hI : fchI m.fl (m.s.R 15) = ia2:=by rw [h15,hfl]; exact fch_ia2.2
 have hd : stpD m = 0:=by unfold stpD; rw [hI]; rfl
 have eE : stpE m = 0:=by unfold stpE; rw [if_neg hk',if_neg hf,if_neg (by rw [hd]; decide)]
 have eM : stpM m = stpOk m:=by unfold stpM; rw [if_neg hk',if_neg hf,if_neg (by rw [hd]; decide)]
 have g : getX (startX m.s ia2) 14 = 4294967295:=h14
 have eX : stpX m = { startX m.s ia2 with kind:=1,code:=0 }:=by
  have e1 : stpX m = backX (startX m.s ia2) (getX (startX m.s ia2) 14):=by unfold stpX; rw [hI]; rfl
  rw [e1,g]; unfold backX; rw [if_pos (by decide)]
 have eB : stpBase m = 3:=by unfold stpBase; rw [hI]; exact baseV_2 (by decide)
 rw [eM]
 refine ⟨eE,?_,?_,?_,?_⟩
 ·show (stpX m).kind = 1; rw [eX]
 ·show (stpX m).code = 0; rw [eX]
 ·show m.cyc + (stpBase m + stpMiss m * m.wait) = m.cyc + 3
  rw [eB,hw,Int.mul_zero]; rfl
 ·show (stpX m).s.R 0 = _; rw [eX]; rfl
theorem anc1_pure (a d w c n : Int) : PureF gT 47 [evP a d w c n] (.tup []):=by
 refine Spec.enter gTok P47 100 Tryz.func47 rfl (by kernel_rfl) ?_
 (refine retE ?_; repeat' first|exact trivial|exact rfl|exact Iff.rfl|exact Or.inl rfl|refine And.intro ?_ ?_)
set_option maxHeartbeats 8000000 in
set_option maxRecDepth 100000 in
theorem anchor07_pure : PureF gT 13 [] .tt:=by
 have hb:=built_ok [ia1,ia2] [] 0 (by decide) (by decide) (fun i hi=>by
  rcases List.mem_cons.1 hi with rfl | hi
  ·exact lit_ok _ (by decide)
  ·rcases List.mem_cons.1 hi with rfl | hi
   ·exact lit_ok _ (by decide)
   ·cases hi) (by decide)
 rw [a_flash] at hb
 refine Spec.enter gTok P13 100 Tryz.func13 rfl (by kernel_rfl) ?_
 refine ⟨[],no_rl,Spec.lend (args':=[.sl 11 (insP [ia1,ia2]),.sl 1 (u8P []),.int .i64 0]) [0] rfl (And.intro (Or.inl rfl) (And.intro rfl (And.intro rfl trivial))) rfl (hb.useNews rfl (And.intro rfl (And.intro rfl (And.intro rfl trivial))) rfl ?_)⟩
 refine ⟨[],no_rl,(set_ok (ms0 aF 0) aS).useQ [1,2,3] rfl rfl (by repeat' first|exact trivial|exact rfl|exact Iff.rfl|refine And.intro ?_ ?_) ⟨⟨rfl,rfl⟩,⟨rfl,rfl⟩,⟨rfl,rfl⟩,?_⟩⟩
 refine ⟨[],no_rl,Spec.enter gTok P18 100 Tryz.func18 rfl (by kernel_rfl) ?_⟩
 refine SW.rounds gTok P18 (by kernel_rfl) (N:=60) 4 ?_
 obtain ⟨e1,k1,r0,r15,r14,c1,f1,w1⟩:=a_step1
 have hm2 : MSOk (stpM am1):=(stpM_ok am1_ok (by decide)).1
 obtain ⟨e2,k2,cd2,c2,q0⟩:=a_step2 (stpM am1) k1 r15 r14 f1 w1
 rw [c1] at c2
 rw [r0] at q0
 refine And.intro (fun _=>?_) (fun h=>absurd (show am1.kind = 0 from rfl) h)
 refine And.intro (fun h=>absurd (show 9 <= am1.cyc from h) (by decide)) (fun _=>?_)
 refine ⟨[],no_rl,(step_ok am1 am1_ok).useQ [1,2,3] rfl rfl (by exact ⟨trivial,trivial⟩) ⟨⟨rfl,rfl⟩,⟨rfl,rfl⟩,⟨rfl,rfl⟩,?_⟩⟩
 refine And.intro (fun h=>absurd e1 h) (fun _=>?_)
 refine ⟨[],no_rl,(anc1_pure (evA am1) (evD am1) (evW am1) (evC am1) (evN am1)).use (by repeat' first|exact trivial|exact rfl|exact Iff.rfl|exact Or.inl rfl|refine And.intro ?_ ?_) rfl rfl ?_⟩
 refine And.intro (fun _=>?_) (fun h=>absurd k1 h)
 refine And.intro (fun h=>absurd (show 9 <= (stpM am1).cyc from h) (by rw [c1]; decide)) (fun _=>?_)
 refine ⟨[],no_rl,(step_ok (stpM am1) hm2).useQ [1,2,3] rfl rfl (by exact ⟨trivial,trivial⟩) ⟨⟨rfl,rfl⟩,⟨rfl,rfl⟩,⟨rfl,rfl⟩,?_⟩⟩
 refine And.intro (fun h=>absurd e2 h) (fun _=>?_)
 refine ⟨[],no_rl,(anc1_pure (evA (stpM am1)) (evD (stpM am1)) (evW (stpM am1)) (evC (stpM am1)) (evN (stpM am1))).use (by repeat' first|exact trivial|exact rfl|exact Iff.rfl|exact Or.inl rfl|refine And.intro ?_ ?_) rfl rfl ?_⟩
 refine And.intro (fun h=>absurd (show (stpM (stpM am1)).kind = 0 from h) (by rw [k2]; decide)) (fun _=>?_)
 refine And.intro (fun h=>absurd (show (stpM (stpM am1)).kind = 3 from h) (by rw [k2]; decide)) (fun _=>?_)
 refine Exists.intro _ (And.intro (PLe.refl _) ?_)
 refine ⟨[],no_rl,(halt_ok (stpM (stpM am1))).useQ [1,2,3] rfl rfl (by exact ⟨trivial,trivial⟩) ⟨⟨rfl,rfl⟩,⟨rfl,rfl⟩,⟨rfl,rfl⟩,?_⟩⟩
 refine And.intro (fun _=>?_) (fun h=>absurd (show (stpM (stpM am1)).kind = 1 /\ (stpM (stpM am1)).code = 0 /\ True from ⟨k2,cd2,trivial⟩) h)
 refine ⟨[],no_rl,(cycles_ok (stpM (stpM am1))).useQ [1,2,3] rfl rfl (by exact ⟨trivial,trivial⟩) ⟨⟨rfl,rfl⟩,⟨rfl,rfl⟩,⟨rfl,rfl⟩,?_⟩⟩
 refine And.intro (fun _=>?_) (fun h=>absurd (show (stpM (stpM am1)).cyc = 4 from c2) h)
 refine ⟨[],no_rl,(state_ok (stpM (stpM am1))).useQ [1,2,3] rfl rfl (by exact ⟨trivial,trivial⟩) ⟨⟨rfl,rfl⟩,⟨rfl,rfl⟩,⟨rfl,rfl⟩,?_⟩⟩
 refine retE ?_
 exact q0
end Go.Proofs.YtnbngokbamifbaaGreatDoor.Pw
set_option linter.unusedVariables false
namespace Go.Proofs.YtnbngokbamifbaaGreatDoor.Pw
open Go Go.RowKit
set_option maxRecDepth 100000 in
theorem rholds_out (s : RS) (c : Int) (h : c < 0 \/ 13 < c) : PureF gT 15 [rsP s,.int .i64 c] (.bool (holdsV s c)):=by
 have hn : ¬ holdsV s c:=by unfold holdsV; omega
 refine Spec.enter gTok P15 100 Tryz.func15 rfl (by kernel_rfl) ?_
 refine And.intro (fun _=>?_) (fun h0=>?_)
 ·exact retE (leB_ff hn)
 ·have h0' : ¬ c < 0:=h0
  refine And.intro (fun _=>?_) (fun h1=>absurd (show 13 < c by omega) h1)
  exact retE (leB_ff hn)
set_option maxHeartbeats 4000000 in
set_option maxRecDepth 100000 in
theorem rholds_in (s : RS) (hs : RSOk s) (c : Int) (h0 : 0 <= c) (h1 : c <= 13) : PureF gT 15 [rsP s,.int .i64 c] (.bool (holdsV s c)):=by
 have hz:=hs.z
 have hn:=hs.n
 have hc:=hs.c
 have hv:=hs.v
 refine Spec.enter gTok P15 100 Tryz.func15 rfl (by kernel_rfl) ?_
 refine And.intro (fun h=>absurd (show c < 0 from h) (by omega)) (fun _=>?_)
 refine And.intro (fun h=>absurd (show 13 < c from h) (by omega)) (fun _=>?_)
 have h14 : c = 0 \/ c = 1 \/ c = 2 \/ c = 3 \/ c = 4 \/ c = 5 \/ c = 6 \/ c = 7 \/ c = 8 \/ c = 9 \/ c = 10 \/ c = 11 \/ c = 12 \/ c = 13:=by omega
 repeat' (first
  | (refine ⟨h0,show c < 14 by omega,?_⟩
     refine .inr ⟨rfl,h0,show 0 + c.toNat * 1 < 14 by omega,fun x hx=>?_⟩
     rcases h14 with rfl | rfl | rfl | rfl | rfl | rfl | rfl | rfl | rfl | rfl | rfl | rfl | rfl | rfl <;> (cases hx; refine retE ?_; first | (refine leB_iff ?_; unfold holdsV; omega) | (refine leB_tt ?_; unfold holdsV; omega) | (refine leB_ff ?_; unfold holdsV; omega)))
  | (refine (And.intro (fun _=>?_) (fun _=>?_) : (_ -> _) /\ (_ -> _)) <;> (first | (exfalso; omega) | skip)))
theorem rholds_pure (s : RS) (hs : RSOk s) (c : Int) : PureF gT 15 [rsP s,.int .i64 c] (.bool (holdsV s c)):=by
 by_cases h : c < 0 \/ 13 < c
 ·exact rholds_out s c h
 ·exact rholds_in s hs c (by omega) (by omega)
theorem hl_0 (s : RS) : holdsV s 0 ↔ s.Z = 1:=by unfold holdsV; simp
theorem hl_1 (s : RS) : holdsV s 1 ↔ ¬ s.Z = 1:=by unfold holdsV; simp
theorem hl_2 (s : RS) : holdsV s 2 ↔ s.C = 1:=by unfold holdsV; simp
theorem hl_3 (s : RS) : holdsV s 3 ↔ ¬ s.C = 1:=by unfold holdsV; simp
theorem hl_4 (s : RS) : holdsV s 4 ↔ s.N = 1:=by unfold holdsV; simp
theorem hl_5 (s : RS) : holdsV s 5 ↔ ¬ s.N = 1:=by unfold holdsV; simp
theorem hl_6 (s : RS) : holdsV s 6 ↔ s.V = 1:=by unfold holdsV; simp
theorem hl_7 (s : RS) : holdsV s 7 ↔ ¬ s.V = 1:=by unfold holdsV; simp
theorem hl_8 (s : RS) : holdsV s 8 ↔ (s.C = 1 /\ s.Z = 0):=by unfold holdsV; simp
theorem hl_9 (s : RS) : holdsV s 9 ↔ ¬ (s.C = 1 /\ s.Z = 0):=by unfold holdsV; simp
theorem hl_10 (s : RS) : holdsV s 10 ↔ s.N = s.V:=by unfold holdsV; simp
theorem hl_11 (s : RS) : holdsV s 11 ↔ ¬ s.N = s.V:=by unfold holdsV; simp
theorem hl_12 (s : RS) : holdsV s 12 ↔ (s.Z = 0 /\ s.N = s.V):=by unfold holdsV; simp
theorem hl_13 (s : RS) : holdsV s 13 ↔ ¬ (s.Z = 0 /\ s.N = s.V):=by unfold holdsV; simp
theorem holdsV_flip (s : RS) {c : Int} (h0 : 0 <= c) (h1 : c <= 13) : ¬ (holdsV s c ↔ holdsV s (bits .xor .i64 c 1)):=by
 have hc : c = 0 \/ c = 1 \/ c = 2 \/ c = 3 \/ c = 4 \/ c = 5 \/ c = 6 \/ c = 7 \/ c = 8 \/ c = 9 \/ c = 10 \/ c = 11 \/ c = 12 \/ c = 13:=by omega
 rcases hc with rfl | rfl | rfl | rfl | rfl | rfl | rfl | rfl | rfl | rfl | rfl | rfl | rfl | rfl
 ·rw [show bits .xor .i64 0 1 = 1 by decide,hl_0,hl_1]; exact iff_not_self
 ·rw [show bits .xor .i64 1 1 = 0 by decide,hl_1,hl_0]; exact not_iff_self
 ·rw [show bits .xor .i64 2 1 = 3 by decide,hl_2,hl_3]; exact iff_not_self
 ·rw [show bits .xor .i64 3 1 = 2 by decide,hl_3,hl_2]; exact not_iff_self
 ·rw [show bits .xor .i64 4 1 = 5 by decide,hl_4,hl_5]; exact iff_not_self
 ·rw [show bits .xor .i64 5 1 = 4 by decide,hl_5,hl_4]; exact not_iff_self
 ·rw [show bits .xor .i64 6 1 = 7 by decide,hl_6,hl_7]; exact iff_not_self
 ·rw [show bits .xor .i64 7 1 = 6 by decide,hl_7,hl_6]; exact not_iff_self
 ·rw [show bits .xor .i64 8 1 = 9 by decide,hl_8,hl_9]; exact iff_not_self
 ·rw [show bits .xor .i64 9 1 = 8 by decide,hl_9,hl_8]; exact not_iff_self
 ·rw [show bits .xor .i64 10 1 = 11 by decide,hl_10,hl_11]; exact iff_not_self
 ·rw [show bits .xor .i64 11 1 = 10 by decide,hl_11,hl_10]; exact not_iff_self
 ·rw [show bits .xor .i64 12 1 = 13 by decide,hl_12,hl_13]; exact iff_not_self
 ·rw [show bits .xor .i64 13 1 = 12 by decide,hl_13,hl_12]; exact not_iff_self
structure RSIn (s : RS) : Prop where
 r : ∀ k,U32 (s.R k)
 n : 0 <= s.N
 z : 0 <= s.Z
 c : 0 <= s.C
 v : 0 <= s.V
theorem RSIn.ok {s : RS} (h : RSIn s) : RSOk (clampS s):=clampS_ok h.r h.n h.z h.c h.v
set_option maxHeartbeats 1000000 in
set_option maxRecDepth 100000 in
theorem CoreHolds_pure (s : RS) (hs : RSIn s) (c : Int) : PureF gT 4 [rsP s,.int .i64 c] .tt:=by
 have k1:=holds_pure (clampS s) c
 have k2:=rholds_pure (clampS s) hs.ok c
 have k3:=holds_pure (clampS s) (bits .xor .i64 c 1)
 refine Spec.enter gTok P4 100 Tryz.func4 rfl (by kernel_rfl) ?_
 refine ⟨[],no_rl,anchor07_pure.use (by repeat' first|exact trivial|exact rfl|exact Iff.rfl|exact Or.inl rfl|refine And.intro ?_ ?_) rfl rfl ?_⟩
 refine ⟨[],no_rl,k1.use (by repeat' first|exact trivial|exact rfl|exact Iff.rfl|exact Or.inl rfl|refine And.intro ?_ ?_) rfl rfl ?_⟩
 refine ⟨[],no_rl,k2.use (by repeat' first|exact trivial|exact rfl|exact Iff.rfl|exact Or.inl rfl|refine And.intro ?_ ?_) rfl rfl ?_⟩
 refine And.intro (fun h=>absurd Iff.rfl h) (fun _=>?_)
 refine And.intro (fun _=>?_) (fun h0=>?_)
 ·(refine retE ?_; repeat' first|exact trivial|exact rfl|exact Iff.rfl|exact Or.inl rfl|refine And.intro ?_ ?_)
 refine And.intro (fun _=>?_) (fun h1=>?_)
 ·(refine retE ?_; repeat' first|exact trivial|exact rfl|exact Iff.rfl|exact Or.inl rfl|refine And.intro ?_ ?_)
 refine ⟨[],no_rl,k3.use (by repeat' first|exact trivial|exact rfl|exact Iff.rfl|exact Or.inl rfl|refine And.intro ?_ ?_) rfl rfl ?_⟩
 have h0' : ¬ c < 0:=h0
 have h1' : ¬ 13 < c:=h1
 exact retE (show ¬ (holdsV (clampS s) c ↔ holdsV (clampS s) (bits .xor .i64 c 1)) from holdsV_flip _ (by omega) (by omega))
end Go.Proofs.YtnbngokbamifbaaGreatDoor.Pw
set_option linter.unusedVariables false
namespace Go.Proofs.YtnbngokbamifbaaGreatDoor.Pw
open Go Go.RowKit
def SArr (n : Nat) (S : PV -> Prop) (x : PV) : Prop:=∃ xs : List PV,xs.length = n /\ (∀ y ∈ xs,S y) /\ x = .agg xs
theorem isL_singles {w : World} {I : Nat -> Prop} {β : Places} : ∀ {xs : List PV} {cs : List Value},xs.length = cs.length -> (∀ (i : Nat) (y : PV) (c : Value),xs[i]? = some y -> cs[i]? = some c -> y.Is w I β c) -> IsL w I xs β cs:=fun {xs cs} hl h =>
 IsL.of hl fun i c hc=>by
  have hlt : i < cs.length:=by rw [← hl]; exact (List.getElem?_eq_some_iff.1 hc).1
  exact ⟨cs[i],List.getElem?_eq_getElem hlt,h i c _ hc (List.getElem?_eq_getElem hlt)⟩
theorem opArr {P : Program} {t e : TypeId} {S : PV -> Prop} {n : Nat} (he : Op P e S) (ht : P.underlying t = some (.array n e)) (hce : P.cellsOf e = 1) (hc : P.cellsOf t = n) (h1 : ∀ y,S y -> y.cells = [y]) : Op P t (SArr n S):=fun {H} ec w base held fuel cs x h hwt=>by
 obtain ⟨xs,m,_,rfl,hl,hxl,hx⟩:=DataW.trod_array ht h
 rw [hc] at hl
 have each : ∀ i,i < n -> ∃ y,S y /\ ∃ c,cs[i]? = some c /\ y.Is w (In w) no c /\ c.oneCell' = true:=fun i hi=>by
  have hxi:=hx i hi
  rw [hce,Nat.mul_one,List.getElem?_eq_getElem (by omega)] at hxi
  obtain ⟨y,hS,_,hy,hyl,hy1⟩:=he ec w base held m _ _ hxi fun k hk=>hwt k (by
   simp only [DataW.weights,ht]
   exact weights_all (List.mem_map.2 ⟨xs[i],List.getElem_mem _,rfl⟩) hk)
  have hci : i < cs.length:=by omega
  have e1 : (cs.drop i).take 1 = [cs[i]]:=by
   rw [List.drop_eq_getElem_cons hci]; rfl
  rw [e1,h1 y hS] at hy
  simp only [IsL,and_true] at hy
  exact ⟨y,hS,cs[i],List.getElem?_eq_getElem hci,hy,hy1 _ (by rw [e1]; simp)⟩
 obtain ⟨ys,hys,hp⟩:=choose_list n each
 refine ⟨.agg ys,⟨ys,hys,fun y hy=>?_,rfl⟩,nofun,isL_singles (by show ys.length = cs.length; omega) fun i y c hy hci=>?_,by rw [hl,hc],fun c hcc=>?_⟩
 ·obtain ⟨i,hi⟩:=List.getElem?_of_mem hy
  exact (hp i y hi).1
 ·obtain ⟨_,c2,hc2,h2,_⟩:=hp i y hy
  rw [hci] at hc2; cases hc2; exact h2
 ·obtain ⟨i,hi⟩:=List.getElem?_of_mem hcc
  have hlt : i < ys.length:=by have:=(List.getElem?_eq_some_iff.1 hi).1; omega
  obtain ⟨_,c2,hc2,_,h2⟩:=hp i ys[i] (List.getElem?_eq_getElem hlt)
  rw [hi] at hc2; cases hc2; exact h2
def SState (x : PV) : Prop:=∃ s : RS,RSIn s /\ x = rsP s
theorem state_dec (x : PV) (h : SAgg [SArr 16 (SInt .u32),SInt .u32,SInt .u32,SInt .u32,SInt .u32] x) : SState x:=by
 obtain ⟨xs,h,rfl⟩:=h
 obtain ⟨_,_,rfl,⟨rs,hr,hall,rfl⟩,h_1⟩:=all2_cons h
 obtain ⟨_,_,rfl,⟨n,bn,rfl⟩,h_2⟩:=all2_cons h_1
 obtain ⟨_,_,rfl,⟨z,bz,rfl⟩,h_3⟩:=all2_cons h_2
 obtain ⟨_,_,rfl,⟨c,bc,rfl⟩,h_4⟩:=all2_cons h_3
 obtain ⟨_,_,rfl,⟨v,bv,rfl⟩,h_5⟩:=all2_cons h_4
 obtain rfl:=all2_nil h_5
 obtain ⟨zs,hz,rfl⟩:=decode (S:=SInt .u32) (enc:=PV.int .u32) (ok:=U32) (fun x ⟨z,hz,e⟩=>⟨z,inR_u32c hz,e⟩) rs hall
 rw [List.length_map] at hr
 refine ⟨⟨fun k=>zs.getD k 0,n,z,c,v⟩,⟨fun k=>?_,(inR_u32c bn).1,(inR_u32c bz).1,(inR_u32c bc).1,(inR_u32c bv).1⟩,?_⟩
 ·show U32 (zs.getD k 0)
  rw [List.getD_eq_getElem?_getD]
  cases e : zs[k]? with
  | none=>exact z_u32
  | some y=>exact hz y (List.mem_of_getElem? e)
 ·match zs,hr with
  | [a0,a1,a2,a3,a4,a5,a6,a7,a8,a9,a10,a11,a12,a13,a14,a15],_=>rfl
theorem opState_ : Op Tryz.prog 42 (SAgg [SArr 16 (SInt .u32),SInt .u32,SInt .u32,SInt .u32,SInt .u32]) :=
 opAgg (Ss:=[SArr 16 (SInt .u32),SInt .u32,SInt .u32,SInt .u32,SInt .u32]) Tryz.underlying42
  ⟨rfl,opArr opU32c Tryz.underlying40 (by kernel_rfl) (by kernel_rfl) SInt.cell,(show _ = _ by kernel_rfl),opU32c,(show _ = _ by kernel_rfl),opU32c,(show _ = _ by kernel_rfl),opU32c,(show _ = _ by kernel_rfl),opU32c,(show _ = _ by kernel_rfl)⟩
theorem opState : Op Tryz.prog 42 SState:=opState_.weak state_dec
theorem opState_agg (y : PV) (h : SState y) : ∃ xs,y = .agg xs:=by
 obtain ⟨s,_,rfl⟩:=h; exact ⟨_,rfl⟩
theorem CoreHolds_pure' (x : PV) (s : SState x) (y : PV) (t : SInt .i64 y) : PureF gT 4 [x,y] .tt:=by
 obtain ⟨r,hr,rfl⟩:=s
 obtain ⟨n,hn,rfl⟩:=t
 exact CoreHolds_pure r hr n
end Go.Proofs.YtnbngokbamifbaaGreatDoor.Pw

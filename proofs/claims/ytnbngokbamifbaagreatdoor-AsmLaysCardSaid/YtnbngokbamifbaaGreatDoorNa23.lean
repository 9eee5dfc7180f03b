/- What a law is proved with. -/
import Derived.Test.YtnbngokbamifbaaGreatDoorNa22
import Derived.Test.YtnbngokbamifbaaGreatDoorNa15
set_option linter.unusedVariables false
set_option linter.unusedSimpArgs false
set_option linter.unusedVariables false
namespace Go.Proofs.YtnbngokbamifbaaGreatDoor.Pw
open Go Go.RowKit
def OffB (L : List (Int × Int)) : Prop:=∀ k,0 <= lkM L k /\ lkM L k <= 1000000
set_option maxHeartbeats 2000000 in
set_option maxRecDepth 10000 in
theorem far_runs (m : Md) {l : List AI} {W : List Bool} {at_ sz : List Int} {e : Int} {L : List (Int × Int)} {i : Nat} {x : AI} {a : Int} (hx : l[i]? = some x) (hm : mayV x.label) (hat : at_[i]? = some a) (ha : 0 <= a /\ a <= 1000000) (hL : OffB L) :
  RunsA 127 [.ptr 5 0,.int .i64 i] (sLyM m l W at_ sz e L) (.int .i64 (lkM L x.label - a - 4)) (sLyM m l W at_ sz e L):=by
 have hl:=(List.getElem?_eq_some_iff.1 hx).1
 have hal:=(List.getElem?_eq_some_iff.1 hat).1
 have hk:=hL x.label
 unfold mayV at hm
 cases m
 all_goals
  refine Spec.leS (Spec.enter gTok P127 100 Tryz.func127 rfl (by kernel_rfl) ?_)
  refine ⟨AI,l,aiP,rfl,show (0 : Int) <= (i : Int) by omega,show (i : Int) < (l.length : Int) by omega,fun x' hx'=>?_⟩
  obtain rfl : x = x':=Option.some.inj (hx.symm.trans hx')
  refine ⟨show (0 : Int) <= (i : Int) by omega,show (i : Int) < ((intsP at_).length : Nat) by rw [intsP_len]; omega,Int,at_,PV.int .i64,rfl,show (i : Int).toNat < at_.length by omega,fun v hv=>?_⟩
  obtain rfl : a = v:=Option.some.inj (hat.symm.trans hv)
  refine plookup_ok gTok ?_
  refine ⟨rfl,?_⟩
  refine ⟨show InR .i64 x.label from inR_i64 (by omega),rfl,L,rfl,?_⟩
  refine .inl ⟨inR_i64 (show _ <= lkM L x.label - a /\ lkM L x.label - a <= _ by omega),?_⟩
  refine .inl ⟨inR_i64 (show _ <= lkM L x.label - a - 4 /\ lkM L x.label - a - 4 <= _ by omega),?_⟩
  exact retS rfl (by repeat' first|exact trivial|exact rfl|exact Iff.rfl|refine And.intro ?_ ?_)
theorem reaches_runs {l : List AI} {W : List Bool} {at_ sz : List Int} {e : Int} {L : List (Int × Int)} {i : Nat} {x : AI} {a : Int} (hx : l[i]? = some x) (hm : mayV x.label) (hcd : -1 <= x.cond) (hat : at_[i]? = some a) (ha : 0 <= a /\ a <= 1000000) (hL : OffB L) :
  RunsA 72 [.ptr 5 0,.int .i64 i] (sLy l W at_ sz e L) (.bool (shortA x.cond (lkM L x.label - a - 4) = true)) (sLy l W at_ sz e L):=by
 have hl:=(List.getElem?_eq_some_iff.1 hx).1
 have hk:=hL x.label
 have hf:=far_runs .w (W:=W) (sz:=sz) (e:=e) hx hm hat ha hL
 have hn : -1000004 <= lkM L x.label - a - 4 /\ lkM L x.label - a - 4 <= 1000000:=by omega
 generalize lkM L x.label - a - 4 = n at hf hn ⊢
 refine Spec.leS (Spec.enter gTok P72 100 Tryz.func72 rfl (by kernel_rfl) ?_)
 refine ⟨AI,l,aiP,rfl,show (0 : Int) <= (i : Int) by omega,show (i : Int) < (l.length : Int) by omega,fun x' hx'=>?_⟩
 obtain rfl : x = x':=Option.some.inj (hx.symm.trans hx')
 refine And.intro (fun hc=>?_) (fun hc=>?_)
 ·have hc' : x.cond = -1:=hc
  refine ⟨[],no_rl,hf.useS rfl rfl rfl rfl (by repeat' first|exact trivial|exact rfl|exact Iff.rfl|refine And.intro ?_ ?_) (And.intro (by repeat' first|exact trivial|exact rfl|exact Iff.rfl|refine And.intro ?_ ?_) (And.intro (by repeat' first|exact trivial|exact rfl|exact Iff.rfl|refine And.intro ?_ ?_) (And.intro (by repeat' first|exact trivial|exact rfl|exact Iff.rfl|refine And.intro ?_ ?_) (And.intro (by repeat' first|exact trivial|exact rfl|exact Iff.rfl|refine And.intro ?_ ?_) (And.intro (by repeat' first|exact trivial|exact rfl|exact Iff.rfl|refine And.intro ?_ ?_) (And.intro (by repeat' first|exact trivial|exact rfl|exact Iff.rfl|refine And.intro ?_ ?_) ?_))))))⟩
  refine And.intro (fun h1=>?_) (fun h1=>?_)
  ·refine retS ?_ (by repeat' first|exact trivial|exact rfl|exact Iff.rfl|refine And.intro ?_ ?_)
   have h1' : -2048 <= n:=h1
   exact (show n < 2048 ↔ shortA x.cond n = true by unfold shortA; rw [if_pos (by omega),decide_eq_true_eq]; omega)
  ·refine retS ?_ (by repeat' first|exact trivial|exact rfl|exact Iff.rfl|refine And.intro ?_ ?_)
   have h1' : ¬ -2048 <= n:=h1
   exact (show ¬ shortA x.cond n = true by unfold shortA; rw [if_pos (by omega),decide_eq_true_eq]; omega)
 ·have hc' : ¬ x.cond = -1:=hc
  refine ⟨[],no_rl,hf.useS rfl rfl rfl rfl (by repeat' first|exact trivial|exact rfl|exact Iff.rfl|refine And.intro ?_ ?_) (And.intro (by repeat' first|exact trivial|exact rfl|exact Iff.rfl|refine And.intro ?_ ?_) (And.intro (by repeat' first|exact trivial|exact rfl|exact Iff.rfl|refine And.intro ?_ ?_) (And.intro (by repeat' first|exact trivial|exact rfl|exact Iff.rfl|refine And.intro ?_ ?_) (And.intro (by repeat' first|exact trivial|exact rfl|exact Iff.rfl|refine And.intro ?_ ?_) (And.intro (by repeat' first|exact trivial|exact rfl|exact Iff.rfl|refine And.intro ?_ ?_) (And.intro (by repeat' first|exact trivial|exact rfl|exact Iff.rfl|refine And.intro ?_ ?_) ?_))))))⟩
  refine And.intro (fun h1=>?_) (fun h1=>?_)
  ·refine retS ?_ (by repeat' first|exact trivial|exact rfl|exact Iff.rfl|refine And.intro ?_ ?_)
   have h1' : -256 <= n:=h1
   exact (show n < 256 ↔ shortA x.cond n = true by unfold shortA; rw [if_neg (by omega),decide_eq_true_eq]; omega)
  ·refine retS ?_ (by repeat' first|exact trivial|exact rfl|exact Iff.rfl|refine And.intro ?_ ?_)
   have h1' : ¬ -256 <= n:=h1
   exact (show ¬ shortA x.cond n = true by unfold shortA; rw [if_neg (by omega),decide_eq_true_eq]; omega)
def branA (c : Int) (w : Bool) (n : Int) : IN:=⟨(if w then 100 else 47) - (if c < 0 then 0 else 1),0,0,0,0,n,0,0,0,max c 0,0⟩
set_option maxHeartbeats 2000000 in
set_option maxRecDepth 10000 in
theorem branch_runs {l : List AI} {W : List Bool} {at_ sz : List Int} {e : Int} {L : List (Int × Int)} {i : Nat} {x : AI} {w : Bool} {a : Int} (hx : l[i]? = some x) (hw : W[i]? = some w) (hm : mayV x.label) (hcd : -1 <= x.cond) (hat : at_[i]? = some a) (ha : 0 <= a /\ a <= 1000000) (hL : OffB L) :
  RunsA 128 [.ptr 5 0,.int .i64 i] (sLy l W at_ sz e L) (inP (branA x.cond w (lkM L x.label - a - 4))) (sLy l W at_ sz e L):=by
 have hl:=(List.getElem?_eq_some_iff.1 hx).1
 have hwl:=(List.getElem?_eq_some_iff.1 hw).1
 have elw:=wI_len W
 have hk:=hL x.label
 have hf:=far_runs .p (W:=W) (sz:=sz) (e:=e) hx hm hat ha hL
 have hn : -1000004 <= lkM L x.label - a - 4 /\ lkM L x.label - a - 4 <= 1000000:=by omega
 generalize lkM L x.label - a - 4 = n at hf hn ⊢
 refine Spec.leS (Spec.enter gTok P128 100 Tryz.func128 rfl (by kernel_rfl) ?_)
 refine ⟨AI,l,aiP,rfl,show (0 : Int) <= (i : Int) by omega,show (i : Int) < (l.length : Int) by omega,fun x' hx'=>?_⟩
 obtain rfl : x = x':=Option.some.inj (hx.symm.trans hx')
 refine ⟨[],no_rl,hf.useS rfl rfl rfl rfl (by repeat' first|exact trivial|exact rfl|exact Iff.rfl|refine And.intro ?_ ?_) (And.intro (by repeat' first|exact trivial|exact rfl|exact Iff.rfl|refine And.intro ?_ ?_) (And.intro (by repeat' first|exact trivial|exact rfl|exact Iff.rfl|refine And.intro ?_ ?_) (And.intro (by repeat' first|exact trivial|exact rfl|exact Iff.rfl|refine And.intro ?_ ?_) (And.intro (by repeat' first|exact trivial|exact rfl|exact Iff.rfl|refine And.intro ?_ ?_) (And.intro (by repeat' first|exact trivial|exact rfl|exact Iff.rfl|refine And.intro ?_ ?_) (And.intro (by repeat' first|exact trivial|exact rfl|exact Iff.rfl|refine And.intro ?_ ?_) ?_))))))⟩
 refine And.intro ?_ (And.intro ?_ trivial)
 rotate_left
 ·refine ⟨[],no_rl,hf.useS rfl rfl rfl rfl (by repeat' first|exact trivial|exact rfl|exact Iff.rfl|refine And.intro ?_ ?_) (And.intro (by repeat' first|exact trivial|exact rfl|exact Iff.rfl|refine And.intro ?_ ?_) (And.intro (by repeat' first|exact trivial|exact rfl|exact Iff.rfl|refine And.intro ?_ ?_) (And.intro (by repeat' first|exact trivial|exact rfl|exact Iff.rfl|refine And.intro ?_ ?_) (And.intro (by repeat' first|exact trivial|exact rfl|exact Iff.rfl|refine And.intro ?_ ?_) (And.intro (by repeat' first|exact trivial|exact rfl|exact Iff.rfl|refine And.intro ?_ ?_) (And.intro (by repeat' first|exact trivial|exact rfl|exact Iff.rfl|refine And.intro ?_ ?_) ?_))))))⟩
  exact rfl
 refine ⟨AI,l,aiP,rfl,show (0 : Int) <= (i : Int) by omega,show (i : Int) < (l.length : Int) by omega,fun x1 hx1=>?_⟩
 obtain rfl : x = x1:=Option.some.inj (hx.symm.trans hx1)
 refine And.intro (fun hc=>?_) (fun hc=>?_)
 ·have hc' : x.cond = -1:=hc
  refine ⟨show (0 : Int) <= (i : Int) by omega,show (i : Int) < ((intsP (wI W)).length : Nat) by rw [intsP_len]; omega,Int,wI W,PV.int .i64,rfl,show (i : Int).toNat < (wI W).length by omega,fun v hv=>?_⟩
  obtain rfl : (if w then 1 else 0) = v:=Option.some.inj ((wI_get hw).symm.trans hv)
  refine And.intro (fun h0=>?_) (fun h0=>?_)
  ·skip
   have hw0 : w = false:=by cases w <;> simp at h0 ⊢
   subst hw0
   refine retS ?_ (by repeat' first|exact trivial|exact rfl|exact Iff.rfl|refine And.intro ?_ ?_)
   repeat' first | exact trivial | exact rfl | refine And.intro ?_ ?_
   all_goals exact (show (47 : Int) = (branA x.cond false n).form by unfold branA; rw [if_pos (show x.cond < 0 by omega)]; rfl)
  ·refine ⟨AI,l,aiP,rfl,show (0 : Int) <= (i : Int) by omega,show (i : Int) < (l.length : Int) by omega,fun x1 hx1=>?_⟩
   obtain rfl : x = x1:=Option.some.inj (hx.symm.trans hx1)
   refine And.intro (fun _=>?_) (fun hc2=>absurd hc hc2)
   have hw0 : w = true:=by cases w <;> simp at h0 ⊢
   subst hw0
   refine retS ?_ (by repeat' first|exact trivial|exact rfl|exact Iff.rfl|refine And.intro ?_ ?_)
   repeat' first | exact trivial | exact rfl | refine And.intro ?_ ?_
   all_goals exact (show (100 : Int) = (branA x.cond true n).form by unfold branA; rw [if_pos (show x.cond < 0 by omega)]; rfl)
 ·have hc' : ¬ x.cond = -1:=hc
  refine ⟨AI,l,aiP,rfl,show (0 : Int) <= (i : Int) by omega,show (i : Int) < (l.length : Int) by omega,fun x1 hx1=>?_⟩
  obtain rfl : x = x1:=Option.some.inj (hx.symm.trans hx1)
  refine And.intro (fun hc2=>absurd hc2 hc) (fun _=>?_)
  refine ⟨show (0 : Int) <= (i : Int) by omega,show (i : Int) < ((intsP (wI W)).length : Nat) by rw [intsP_len]; omega,Int,wI W,PV.int .i64,rfl,show (i : Int).toNat < (wI W).length by omega,fun v hv=>?_⟩
  obtain rfl : (if w then 1 else 0) = v:=Option.some.inj ((wI_get hw).symm.trans hv)
  refine And.intro (fun h0=>?_) (fun h0=>?_)
  ·skip
   have hw0 : w = false:=by cases w <;> simp at h0 ⊢
   subst hw0
   refine retS ?_ (by repeat' first|exact trivial|exact rfl|exact Iff.rfl|refine And.intro ?_ ?_)
   repeat' first | exact trivial | exact rfl | refine And.intro ?_ ?_
   all_goals exact (show (46 : Int) = (branA x.cond false n).form by unfold branA; rw [if_neg (show ¬ x.cond < 0 by omega)]; rfl)
  ·skip
   have hw0 : w = true:=by cases w <;> simp at h0 ⊢
   subst hw0
   refine retS ?_ (by repeat' first|exact trivial|exact rfl|exact Iff.rfl|refine And.intro ?_ ?_)
   repeat' first | exact trivial | exact rfl | refine And.intro ?_ ?_
   all_goals exact (show (99 : Int) = (branA x.cond true n).form by unfold branA; rw [if_neg (show ¬ x.cond < 0 by omega)]; rfl)
end Go.Proofs.YtnbngokbamifbaaGreatDoor.Pw
set_option linter.unusedVariables false
namespace Go.Proofs.YtnbngokbamifbaaGreatDoor.Pw
open Go Go.RowKit
def bE (b : Bool) : PV:=if b then .tt else .ff
def bP (W : List Bool) : List PV:=W.map bE
theorem dshort_pure (c n : Int) : PureF gT 43 [.int .i64 c,.int .i64 n] (.bool (shortA c n = true)):=by
 refine Spec.enter gTok P43 100 Tryz.func43 rfl (by kernel_rfl) ?_
 refine And.intro (fun hc=>?_) (fun hc=>?_)
 ·have hc' : c < 0:=hc
  have e : (shortA c n = true) ↔ -2048 <= n /\ n <= 2047:=by unfold shortA; rw [if_pos hc',decide_eq_true_eq]
  rw [e]
  refine And.intro (fun h1=>?_) (fun h1=>?_)
  ·refine retE ?_
   exact (show n <= 2047 ↔ _ from ⟨fun h=>⟨h1,h⟩,fun h=>h.2⟩)
  ·refine retE ?_
   exact (show ¬ _ from fun h=>h1 h.1)
 ·have hc' : ¬ c < 0:=hc
  have e : (shortA c n = true) ↔ -256 <= n /\ n <= 255:=by unfold shortA; rw [if_neg hc',decide_eq_true_eq]
  rw [e]
  refine And.intro (fun h1=>?_) (fun h1=>?_)
  ·refine retE ?_
   exact (show n <= 255 ↔ _ from ⟨fun h=>⟨h1,h⟩,fun h=>h.2⟩)
  ·refine retE ?_
   exact (show ¬ _ from fun h=>h1 h.1)
set_option maxHeartbeats 2000000 in
set_option maxRecDepth 10000 in
theorem dbranch_pure (c n : Int) (w : Bool) : PureF gT 77 [.int .i64 c,bE w,.int .i64 n] (inP (branA c w n)):=by
 by_cases hc : c < 0
 ·cases w with
  | true =>
   rw [show branA c true n = ⟨100,0,0,0,0,n,0,0,0,0,0⟩ by unfold branA; rw [if_pos hc,show max c 0 = 0 by omega]; rfl]
   refine Spec.enter gTok P77 100 Tryz.func77 rfl (by kernel_rfl) ?_
   refine And.intro (fun _=>?_) (fun h=>absurd hc h)
   refine retE (by repeat' first|exact trivial|exact rfl|exact Iff.rfl|refine And.intro ?_ ?_)
  | false =>
   rw [show branA c false n = ⟨47,0,0,0,0,n,0,0,0,0,0⟩ by unfold branA; rw [if_pos hc,show max c 0 = 0 by omega]; rfl]
   refine Spec.enter gTok P77 100 Tryz.func77 rfl (by kernel_rfl) ?_
   refine And.intro (fun _=>?_) (fun h=>absurd hc h)
   refine retE (by repeat' first|exact trivial|exact rfl|exact Iff.rfl|refine And.intro ?_ ?_)
 ·cases w with
  | true =>
   rw [show branA c true n = ⟨99,0,0,0,0,n,0,0,0,c,0⟩ by unfold branA; rw [if_neg hc,show max c 0 = c by omega]; rfl]
   refine Spec.enter gTok P77 100 Tryz.func77 rfl (by kernel_rfl) ?_
   refine And.intro (fun h=>absurd h hc) (fun _=>?_)
   refine retE (by repeat' first|exact trivial|exact rfl|exact Iff.rfl|refine And.intro ?_ ?_)
  | false =>
   rw [show branA c false n = ⟨46,0,0,0,0,n,0,0,0,c,0⟩ by unfold branA; rw [if_neg hc,show max c 0 = c by omega]; rfl]
   refine Spec.enter gTok P77 100 Tryz.func77 rfl (by kernel_rfl) ?_
   refine And.intro (fun h=>absurd h hc) (fun _=>?_)
   refine retE (by repeat' first|exact trivial|exact rfl|exact Iff.rfl|refine And.intro ?_ ?_)
def xB8 (x : AI) : PBlk:=⟨.loc,94,1,.w,true,aiFs x⟩
set_option maxHeartbeats 2000000 in
set_option maxRecDepth 10000 in
theorem dsize_pure {x : AI} (hx : ItOk x) (w : Bool) {a : Int} (ha : 0 <= a /\ a <= 1000000) : PureF gT 76 [aiP x,bE w,.int .i64 a] (.int .i64 (bytesA x w a)):=by
 have e2t : x.kind ≠ 1 -> x.kind = 2 -> (4 : Int) = bytesA x true a:=fun h1 h2=>by unfold bytesA; rw [if_neg h1,if_pos h2]; rfl
 have e2f : x.kind ≠ 1 -> x.kind = 2 -> (2 : Int) = bytesA x false a:=fun h1 h2=>by unfold bytesA; rw [if_neg h1,if_pos h2]; rfl
 cases w
 all_goals
  refine Spec.enter gTok P76 100 Tryz.func76 rfl (by kernel_rfl) ?_
  refine And.intro (fun k1=>?_) (fun k1=>?_)
  ·have k1' : x.kind = 1:=k1
   have e : ∀ w,bytesA x w a = if 47 < x.inst.form then 4 else 2:=fun w=>by unfold bytesA; rw [if_pos k1']
   rw [e]
   refine And.intro (fun h=>?_) (fun h=>?_)
   ·rw [if_pos h]; exact retE (by repeat' first|exact trivial|exact rfl|exact Iff.rfl|refine And.intro ?_ ?_)
   ·rw [if_neg h]; exact retE (by repeat' first|exact trivial|exact rfl|exact Iff.rfl|refine And.intro ?_ ?_)
  have k1' : ¬ x.kind = 1:=k1
  refine And.intro (fun k2=>?_) (fun k2=>?_)
  ·have k2' : x.kind = 2:=k2
   first | exact retE (e2t k1' k2') | exact retE (e2f k1' k2')
  have k2' : ¬ x.kind = 2:=k2
  refine And.intro (fun k4=>?_) (fun k4=>?_)
  ·have k4' : x.kind = 4:=k4
   have e : ∀ w,bytesA x w a = (x.to_ - a % x.to_) % x.to_:=fun w=>by unfold bytesA; rw [if_neg k1',if_neg k2',if_pos k4']
   have ht:=hx.to_ k4'
   rw [e]
   obtain ⟨r,hr⟩ : ∃ r : Nat,(x.to_ - a % x.to_) % x.to_ = (r : Int):=⟨((x.to_ - a % x.to_) % x.to_).toNat,by rcases ht with h | h | h <;> rw [h] <;> omega⟩
   rw [hr]
   refine SW.loopX gTok P76 (by kernel_rfl) (α:={n : Nat // n <= r}) (fun n=>[(2,.int .i64 a),(3,.ptr 0 0),(7,.int .i64 n.1)]) (fun n=>[xB8 x]) (fun n=>r - n.1) ⟨0,Nat.zero_le _⟩ 60 [some 0] ?_ ?_
   ·repeat' first | exact trivial | exact rfl | exact Iff.rfl | refine And.intro ?_ ?_
   rintro ⟨n,hn⟩
   have hr16 : (r : Int) < 16:=by rw [← hr]; rcases ht with h | h | h <;> rw [h] <;> omega
   have key : (a + (n : Int)) % x.to_ = 0 ↔ n = r:=by
    rcases ht with h | h | h <;> rw [h] at hr ⊢ <;> omega
   refine .inl ⟨inR_i64 (show _ <= a + (n : Int) /\ a + (n : Int) <= _ by omega),?_⟩
   refine And.intro (show x.to_ ≠ 0 by omega) (.inl ⟨show 0 <= a + (n : Int) by omega,show 0 < x.to_ by omega,?_⟩)
   refine And.intro (fun h=>?_) (fun h=>?_)
   ·have h' : ¬ n = r:=fun e=>h (key.2 e)
    refine .inl ⟨inR_i64 (show _ <= (n : Int) + 1 /\ (n : Int) + 1 <= _ by omega),⟨⟨n + 1,by omega⟩,[some 0],show r - (n + 1) < r - n by omega,?_⟩⟩
    repeat' first | exact trivial | exact rfl | exact Iff.rfl | refine And.intro ?_ ?_
   ·have h' : n = r:=key.1 (Classical.not_not.1 h)
    subst h'
    exact retE (by repeat' first|exact trivial|exact rfl|exact Iff.rfl|refine And.intro ?_ ?_)
  ·have k4' : ¬ x.kind = 4:=k4
   have e : ∀ w,bytesA x w a = 0:=fun w=>by unfold bytesA; rw [if_neg k1',if_neg k2',if_neg k4']
   rw [e]
   exact retE (by repeat' first|exact trivial|exact rfl|exact Iff.rfl|refine And.intro ?_ ?_)
theorem cnt_snoc {l : List AI} {i : Nat} {x : AI} (hx : l[i]? = some x) (k : Int) : cntA (l.take (i + 1)) k = cntA (l.take i) k + (if isMark k x = true then 1 else 0):=by
 unfold cntA
 rw [List.take_add_one,hx,List.countP_append]
 simp only [Option.toList_some,List.countP_cons,List.countP_nil,Nat.zero_add]
set_option maxHeartbeats 2000000 in
set_option maxRecDepth 10000 in
theorem dmarks_pure (l : List AI) (hl : l.length <= 10000) (k : Int) : PureF gT 75 [.sl 15 (l.map aiP),.int .i64 k] (.int .i64 (cntA l k)):=by
 have el : (l.map aiP).length = l.length:=List.length_map ..
 refine Spec.enter gTok P75 100 Tryz.func75 rfl (by kernel_rfl) ?_
 refine SW.loopX gTok P75 (by kernel_rfl) (fun i : Nat=>[(0,.sl 15 (l.map aiP)),(1,.int .i64 k),(5,.int .i64 (cntA (l.take i) k)),(6,.int .i64 i)]) (fun i=>[]) (fun i=>l.length - i) 0 60 [] ?_ fun i=>?_
 ·repeat' first | exact trivial | exact rfl | exact Iff.rfl | refine And.intro ?_ ?_
 refine fun hm=>?_
 refine And.intro (fun h=>?_) (fun h=>?_)
 ·have h' : (i : Int) < ((l.map aiP).length : Nat):=h
  rw [el] at h'
  have hx' : l[i]? = some l[i]:=List.getElem?_eq_getElem (by omega)
  have hs:=cnt_snoc hx' k
  have hc : cntA (l.take i) k <= 10000:=by
   have : cntA (l.take i) k <= (l.take i).length:=List.countP_le_length
   rw [List.length_take] at this; omega
  generalize l[i] = x at hx' hs
  refine ⟨AI,l,aiP,rfl,show (0 : Int) <= (i : Int) by omega,show (i : Int) < (l.length : Int) by omega,fun x' hx2=>?_⟩
  obtain rfl : x = x':=Option.some.inj (hx'.symm.trans hx2)
  have bir:=inR_i64 (show _ <= (i : Int) + 1 /\ (i : Int) + 1 <= _ by omega)
  have bmu : l.length - (i + 1) < l.length - i:=by omega
  refine And.intro (fun k3=>?_) (fun k3=>?_)
  ·refine ⟨AI,l,aiP,rfl,show (0 : Int) <= (i : Int) by omega,show (i : Int) < (l.length : Int) by omega,fun x' hx2=>?_⟩
   obtain rfl : x = x':=Option.some.inj (hx'.symm.trans hx2)
   refine And.intro (fun kl=>?_) (fun kl=>?_)
   ·have e : isMark k x = true:=isMark_iff.2 ⟨k3,kl⟩
    rw [if_pos e] at hs
    refine .inl ⟨inR_i64 (show _ <= ((cntA (l.take i) k : Nat) : Int) + 1 /\ ((cntA (l.take i) k : Nat) : Int) + 1 <= _ by omega),?_⟩
    refine .inl ⟨bir,⟨i + 1,[],bmu,?_⟩⟩
    repeat' first | exact trivial | exact rfl | exact Iff.rfl | refine And.intro ?_ ?_
    all_goals exact (show ((cntA (l.take i) k : Nat) : Int) + 1 = ((cntA (l.take (i + 1)) k : Nat) : Int) by rw [hs]; rfl)
   ·have e : ¬ isMark k x = true:=fun e=>kl (isMark_iff.1 e).2
    rw [if_neg e] at hs
    refine .inl ⟨bir,⟨i + 1,[],bmu,?_⟩⟩
    repeat' first | exact trivial | exact rfl | exact Iff.rfl | refine And.intro ?_ ?_
    all_goals exact (show ((cntA (l.take i) k : Nat) : Int) = ((cntA (l.take (i + 1)) k : Nat) : Int) by rw [hs]; rfl)
  ·have e : ¬ isMark k x = true:=fun e=>k3 (isMark_iff.1 e).1
   rw [if_neg e] at hs
   refine .inl ⟨bir,⟨i + 1,[],bmu,?_⟩⟩
   repeat' first | exact trivial | exact rfl | exact Iff.rfl | refine And.intro ?_ ?_
   all_goals exact (show ((cntA (l.take i) k : Nat) : Int) = ((cntA (l.take (i + 1)) k : Nat) : Int) by rw [hs]; rfl)
 ·have h' : ¬ (i : Int) < ((l.map aiP).length : Nat):=h
  rw [el] at h'
  refine retE ?_
  exact (show ((cntA (l.take i) k : Nat) : Int) = ((cntA l k : Nat) : Int) by rw [List.take_of_length_le (by omega)])
end Go.Proofs.YtnbngokbamifbaaGreatDoor.Pw
set_option linter.unusedVariables false
namespace Go.Proofs.YtnbngokbamifbaaGreatDoor.Pw
open Go Go.RowKit
set_option maxRecDepth 10000 in
theorem aof_pure (x : AI) : PureF gT 36 [aiP x] (aiP x):=by
 refine Spec.enter gTok P36 100 Tryz.func36 rfl (by kernel_rfl) ?_
 refine retE (by repeat' first|exact trivial|exact rfl|exact Iff.rfl|refine And.intro ?_ ?_)
set_option maxHeartbeats 4000000 in
set_option maxRecDepth 10000 in
theorem aempty_pure (i : IN) : PureF gT 130 [inP i] (.bool (zI i)):=by
 refine Spec.enter gTok P130 100 Tryz.func130 rfl (by kernel_rfl) ?_
 repeat' ((conv=>whnf); first | (refine (And.intro (fun _=>?_) (fun _=>?_) : (_ -> _) /\ (_ -> _)) <;> (first | (exfalso; first | contradiction | omega) | skip)) | refine Or.inl (And.intro (by first | exact inR_i64 (by omega) | exact inR_u32 (by omega) | exact inR_u64 (by omega) | exact inR_u8 (by omega)) ?_) | (refine And.intro (show (_ : Int) ≠ 0 by omega) (Or.inl (And.intro (show (0 : Int) <= _ by omega) (And.intro (show (0 : Int) < _ by omega) ?_)))) | (refine And.intro (show (_ : Int) ≠ 0 by omega) (Or.inl (And.intro (show (0 : Int) <= _ by omega) (And.intro (by first | exact (show (_ : Int) <= 9223372036854775807 by omega) | exact (show (_ : Int) <= 4294967295 by omega)) (And.intro (show (0 : Int) < _ by omega) ?_))))) | (refine retE ?_; (show _ ↔ zI i); unfold zI; omega) | (refine retE ?_; (show ¬ zI i); unfold zI; omega) | (intro _))
set_option maxHeartbeats 4000000 in
set_option maxRecDepth 10000 in
theorem refIRight_pure (x : AI) (hi : IOk x.inst) : PureF gT 74 [aiP x] (.bool (rightA x)):=by
 have hr:=refRight_pure x.inst hi
 have he:=aempty_pure x.inst
 refine Spec.enter gTok P74 100 Tryz.func74 rfl (by kernel_rfl) ?_
 repeat' ((conv=>whnf); first | (refine (And.intro (fun _=>?_) (fun _=>?_) : (_ -> _) /\ (_ -> _)) <;> (first | (exfalso; first | contradiction | omega) | skip)) | refine Or.inl (And.intro (by first | exact inR_i64 (by omega) | exact inR_u32 (by omega) | exact inR_u64 (by omega) | exact inR_u8 (by omega)) ?_) | (refine And.intro (show (_ : Int) ≠ 0 by omega) (Or.inl (And.intro (show (0 : Int) <= _ by omega) (And.intro (show (0 : Int) < _ by omega) ?_)))) | (refine And.intro (show (_ : Int) ≠ 0 by omega) (Or.inl (And.intro (show (0 : Int) <= _ by omega) (And.intro (by first | exact (show (_ : Int) <= 9223372036854775807 by omega) | exact (show (_ : Int) <= 4294967295 by omega)) (And.intro (show (0 : Int) < _ by omega) ?_))))) | (refine retE ?_; (show rightA x); (clear hr he; unfold rightA mayV; grind)) | (refine retE ?_; (show _ ↔ rightA x); (clear hr he; unfold rightA mayV; grind)) | (refine Exists.intro [] (And.intro no_rl (hr.use (by repeat' first|exact trivial|exact rfl|exact Iff.rfl|refine And.intro ?_ ?_) rfl rfl ?_))) | (refine Exists.intro [] (And.intro no_rl (he.use (by repeat' first|exact trivial|exact rfl|exact Iff.rfl|refine And.intro ?_ ?_) rfl rfl ?_))) | (refine retE ?_; (show ¬ rightA x); (clear hr he; unfold rightA mayV; grind)) | (intro _))
end Go.Proofs.YtnbngokbamifbaaGreatDoor.Pw
set_option linter.unusedVariables false
namespace Go.Proofs.YtnbngokbamifbaaGreatDoor.Pw
open Go Go.RowKit
def wrongA (l : List AI) (x : AI) : Prop:=(x.kind = 2 /\ cntA l x.label ≠ 1) \/ (x.kind = 3 /\ 1 < cntA l x.label)
open Classical in
noncomputable def checkA (l : List AI) : Int:=if ∃ x ∈ l,¬ rightA x then 10 else if ∃ x ∈ l,wrongA l x then 80 else 0
theorem cntA_snoc {l : List AI} {i : Nat} {x : AI} (hx : l[i]? = some x) (k : Int) : cntA (l.take (i + 1)) k = cntA (l.take i) k + (if isMark k x = true then 1 else 0):=by
 unfold cntA
 rw [List.take_add_one,hx,List.countP_append]
 simp only [Option.toList_some,List.countP_cons,List.countP_nil,Nat.zero_add]
theorem cntA_le (l : List AI) (k : Int) : cntA l k <= l.length:=List.countP_le_length
structure MkOk (l : List AI) (x : Nat × List (Int × Int)) : Prop where
 le : x.2.length <= x.1
 cnt : ∀ k,lkM x.2 k = cntA (l.take x.1) k
 right : ∀ y ∈ l.take x.1,rightA y
theorem MkOk.skip {l : List AI} {i : Nat} {H : List (Int × Int)} {x : AI} (h : MkOk l (i,H)) (hx : l[i]? = some x) (hr : rightA x) (hk : ¬ x.kind = 3) : MkOk l (i + 1,H):=by
 refine ⟨Nat.le_succ_of_le h.le,fun k=>?_,fun y hy=>?_⟩
 ·have h1:=h.cnt k
  simp only at h1 ⊢
  rw [cntA_snoc hx,if_neg (fun e=>hk (isMark_iff.1 e).1),h1,Nat.add_zero]
 ·simp only at hy
  rw [List.take_add_one,hx,List.mem_append] at hy
  rcases hy with hy | hy
  ·exact h.right y hy
  ·have : y = x:=by simpa using hy
   rw [this]; exact hr
theorem MkOk.put {l : List AI} {i : Nat} {H : List (Int × Int)} {x : AI} (h : MkOk l (i,H)) (hx : l[i]? = some x) (hr : rightA x) (hk : x.kind = 3) : MkOk l (i + 1,H ++ [(x.label,lkM H x.label + 1)]):=by
 refine ⟨by have:=h.le; simp only [List.length_append,List.length_singleton] at this ⊢; omega,fun k=>?_,fun y hy=>?_⟩
 ·have h1:=h.cnt
  simp only at h1 ⊢
  rw [cntA_snoc hx,lkM_snoc]
  simp only
  by_cases hkk : x.label = k
  ·subst hkk
   rw [if_pos rfl,if_pos (isMark_iff.2 ⟨hk,rfl⟩),h1]; simp
  ·rw [if_neg hkk,if_neg (fun e=>hkk (isMark_iff.1 e).2),h1,Nat.add_zero]
 ·simp only at hy
  rw [List.take_add_one,hx,List.mem_append] at hy
  rcases hy with hy | hy
  ·exact h.right y hy
  ·have : y = x:=by simpa using hy
   rw [this]; exact hr
open Classical in
noncomputable def wrongT (l : List AI) (i : Nat) : Int:=if ∃ x ∈ l.take i,wrongA l x then 80 else 0
theorem wrongT_step {l : List AI} {i : Nat} {x : AI} (hx : l[i]? = some x) : (wrongA l x -> wrongT l (i + 1) = 80) /\ (¬ wrongA l x -> wrongT l (i + 1) = wrongT l i):=by
 have hm : ∀ y,y ∈ l.take (i + 1) ↔ y ∈ l.take i \/ y = x:=fun y=>by rw [List.take_add_one,hx,List.mem_append]; simp
 unfold wrongT
 refine ⟨fun h=>if_pos ⟨x,(hm x).2 (.inr rfl),h⟩,fun h=>?_⟩
 by_cases h2 : ∃ y ∈ l.take i,wrongA l y
 ·obtain ⟨y,hy,hw⟩:=h2
  rw [if_pos ⟨y,(hm y).2 (.inl hy),hw⟩,if_pos ⟨y,hy,hw⟩]
 ·rw [if_neg (fun ⟨y,hy,hw⟩=>((hm y).1 hy).elim (fun hy=>h2 ⟨y,hy,hw⟩) fun e=>h (e ▸ hw)),if_neg h2]
set_option maxHeartbeats 4000000 in
set_option maxRecDepth 10000 in
theorem check_pure (l : List AI) (hl : l.length <= 10000) (hb : ∀ x ∈ l,I64 x.inst.imm /\ I64 x.to_) : PureF gT 37 [.sl 15 (l.map aiP)] (.int .i64 (checkA l)):=by
 have el : (l.map aiP).length = l.length:=List.length_map ..
 refine Spec.enter gTok P37 100 Tryz.func37 rfl (by kernel_rfl) ?_
 refine pmakeMap_ok ?_
 refine fun hm=>?_
 refine SW.loopX gTok P37 (by kernel_rfl) (α:={x : Nat × List (Int × Int) // MkOk l x}) (fun x=>[(0,.sl 15 (l.map aiP)),(3,.mref 0),(4,.lit .i64 0),(10,.sl 15 (l.map aiP)),(11,.int .i64 (l.map aiP).length),(12,.int .i64 x.1.1)]) (fun x=>[mpB x.1.2]) (fun x=>l.length - x.1.1) ⟨(0,[]),⟨Nat.le_refl _,fun k=>rfl,fun y hy=>by simp at hy⟩⟩ 60 [some 0] ?_ ?_
 ·repeat' first | exact trivial | exact rfl | exact Iff.rfl | refine And.intro ?_ ?_
 rintro ⟨⟨i,H⟩,hH⟩
 have hle:=hH.le
 have hcn:=hH.cnt
 have hri:=hH.right
 simp only at hle hcn hri
 refine And.intro (fun h=>?_) (fun h=>?_)
 ·have h' : (i : Int) < ((l.map aiP).length : Nat):=h
  rw [el] at h'
  refine ⟨AI,l,aiP,rfl,show (0 : Int) <= (i : Int) by omega,show (i : Int) < (l.length : Int) by omega,fun x hx=>?_⟩
  have hx' : l[i]? = some x:=hx
  have hxm:=List.mem_of_getElem? hx'
  refine ⟨[],no_rl,(iright_pure x (hb x hxm).1 (hb x hxm).2).use (by repeat' first|exact trivial|exact rfl|exact Iff.rfl|refine And.intro ?_ ?_) rfl rfl ?_⟩
  refine And.intro (fun hn=>?_) (fun hn=>?_)
  ·have hn' : ¬ rightA x:=hn
   refine retE ?_
   exact (show (10 : Int) = checkA l by unfold checkA; rw [if_pos ⟨x,hxm,hn'⟩])
  ·have hr : rightA x:=Classical.not_not.1 hn
   refine And.intro (fun hk=>?_) (fun hk=>?_)
   ·have hk' : x.kind = 3:=hk
    have hmay:=((rightA_3 hk').1 hr).2.2
    unfold mayV at hmay
    have hc1:=cntA_le (l.take i) x.label
    rw [List.length_take] at hc1
    have hc2:=hcn x.label
    refine plookup_ok gTok ?_
    refine ⟨rfl,?_⟩
    refine ⟨show InR .i64 x.label from inR_i64 (by omega),rfl,H,rfl,?_⟩
    refine .inl ⟨inR_i64 (show _ <= lkM H x.label + 1 /\ lkM H x.label + 1 <= _ by omega),?_⟩
    refine pmapPut_ok gTok ?_
    refine ⟨rfl,?_⟩
    refine ⟨show InR .i64 x.label from inR_i64 (by omega),rfl,show InR .i64 (lkM H x.label + 1) from inR_i64 (by omega),rfl,show (H.map kvP).length < maxLen by rw [List.length_map]; unfold maxLen; omega,?_⟩
    refine .inl ⟨inR_i64 (show _ <= (i : Int) + 1 /\ (i : Int) + 1 <= _ by omega),⟨⟨(i + 1,H ++ [(x.label,lkM H x.label + 1)]),hH.put hx' hr hk'⟩,[some 0],show l.length - (i + 1) < l.length - i by omega,?_⟩⟩
    repeat' first | exact trivial | exact rfl | exact Iff.rfl | refine And.intro ?_ ?_
    all_goals exact (show H.map kvP ++ [kvP (x.label,lkM H x.label + 1)] = (H ++ [(x.label,lkM H x.label + 1)]).map kvP by rw [List.map_append]; rfl)
   ·have hk' : ¬ x.kind = 3:=hk
    refine .inl ⟨inR_i64 (show _ <= (i : Int) + 1 /\ (i : Int) + 1 <= _ by omega),⟨⟨(i + 1,H),hH.skip hx' hr hk'⟩,[some 0],show l.length - (i + 1) < l.length - i by omega,?_⟩⟩
    repeat' first | exact trivial | exact rfl | exact Iff.rfl | refine And.intro ?_ ?_
 ·have h' : ¬ (i : Int) < ((l.map aiP).length : Nat):=h
  rw [el] at h'
  rw [List.take_of_length_le (by omega)] at hri hcn
  have hch : checkA l = wrongT l l.length:=by
   unfold checkA wrongT
   rw [if_neg (fun ⟨x,hx,hn⟩=>hn (hri x hx)),List.take_length]
  rw [hch]
  refine fun hm2=>?_
  refine SW.loopX gTok P37 (by kernel_rfl) (fun j : Nat=>[(3,.mref 0),(4,.int .i64 (wrongT l j)),(28,.sl 15 (l.map aiP)),(29,.int .i64 (l.map aiP).length),(30,.int .i64 j)]) (fun _=>[mpB H]) (fun j=>l.length - j) 0 60 [some 0] ?_ fun j=>?_
  ·repeat' first | exact trivial | exact rfl | exact Iff.rfl | refine And.intro ?_ ?_
   all_goals exact (show (0 : Int) = wrongT l 0 by unfold wrongT; rw [if_neg (fun ⟨x,hx,_⟩=>by simp at hx)])
  refine And.intro (fun h=>?_) (fun h=>?_)
  ·have hj' : (j : Int) < ((l.map aiP).length : Nat):=h
   rw [el] at hj'
   refine ⟨AI,l,aiP,rfl,show (0 : Int) <= (j : Int) by omega,show (j : Int) < (l.length : Int) by omega,fun x hx=>?_⟩
   have hx' : l[j]? = some x:=hx
   have hxm:=List.mem_of_getElem? hx'
   have hr:=hri x hxm
   obtain ⟨w1,w2⟩:=wrongT_step hx'
   have hcl:=hcn x.label
   refine And.intro (fun k2=>?_) (fun k2=>?_)
   ·have k2' : x.kind = 2:=k2
    have hmay:=((rightA_2 k2').1 hr).2.2.2
    unfold mayV at hmay
    refine plookup_ok gTok ?_
    refine ⟨rfl,?_⟩
    refine ⟨show InR .i64 x.label from inR_i64 (by omega),rfl,H,rfl,?_⟩
    refine And.intro (fun h1=>?_) (fun h1=>?_)
    ·have h1' : ¬ lkM H x.label = 1:=h1
     have e1:=w1 (show wrongA l x from .inl ⟨k2',by omega⟩)
     refine .inl ⟨inR_i64 (show _ <= (j : Int) + 1 /\ (j : Int) + 1 <= _ by omega),⟨j + 1,[some 0],by omega,?_⟩⟩
     repeat' first | exact trivial | exact rfl | exact Iff.rfl | refine And.intro ?_ ?_
     all_goals exact (show (80 : Int) = wrongT l (j + 1) by rw [e1])
    ·have h1' : lkM H x.label = 1:=Classical.not_not.1 h1
     refine And.intro (fun k3=>absurd (show x.kind = 3 from k3) (by omega)) (fun k3=>?_)
     have e1:=w2 (show ¬ wrongA l x from fun hw=>hw.elim (fun e=>e.2 (by omega)) (fun e=>by omega))
     refine .inl ⟨inR_i64 (show _ <= (j : Int) + 1 /\ (j : Int) + 1 <= _ by omega),⟨j + 1,[some 0],by omega,?_⟩⟩
     repeat' first | exact trivial | exact rfl | exact Iff.rfl | refine And.intro ?_ ?_
     all_goals exact (show wrongT l j = wrongT l (j + 1) by rw [e1])
   ·have k2' : ¬ x.kind = 2:=k2
    refine And.intro (fun k3=>?_) (fun k3=>?_)
    ·have k3' : x.kind = 3:=k3
     have hmay:=((rightA_3 k3').1 hr).2.2
     unfold mayV at hmay
     refine plookup_ok gTok ?_
     refine ⟨rfl,?_⟩
     refine ⟨show InR .i64 x.label from inR_i64 (by omega),rfl,H,rfl,?_⟩
     refine And.intro (fun h1=>?_) (fun h1=>?_)
     ·have h1' : 1 < lkM H x.label:=h1
      have e1:=w1 (show wrongA l x from .inr ⟨k3',by omega⟩)
      refine .inl ⟨inR_i64 (show _ <= (j : Int) + 1 /\ (j : Int) + 1 <= _ by omega),⟨j + 1,[some 0],by omega,?_⟩⟩
      repeat' first | exact trivial | exact rfl | exact Iff.rfl | refine And.intro ?_ ?_
      all_goals exact (show (80 : Int) = wrongT l (j + 1) by rw [e1])
     ·have h1' : ¬ 1 < lkM H x.label:=h1
      have e1:=w2 (show ¬ wrongA l x from fun hw=>hw.elim (fun e=>k2' e.1) (fun e=>h1' (by omega)))
      refine .inl ⟨inR_i64 (show _ <= (j : Int) + 1 /\ (j : Int) + 1 <= _ by omega),⟨j + 1,[some 0],by omega,?_⟩⟩
      repeat' first | exact trivial | exact rfl | exact Iff.rfl | refine And.intro ?_ ?_
      all_goals exact (show wrongT l j = wrongT l (j + 1) by rw [e1])
    ·have k3' : ¬ x.kind = 3:=k3
     have e1:=w2 (show ¬ wrongA l x from fun hw=>hw.elim (fun e=>k2' e.1) (fun e=>k3' e.1))
     refine .inl ⟨inR_i64 (show _ <= (j : Int) + 1 /\ (j : Int) + 1 <= _ by omega),⟨j + 1,[some 0],by omega,?_⟩⟩
     repeat' first | exact trivial | exact rfl | exact Iff.rfl | refine And.intro ?_ ?_
     all_goals exact (show wrongT l j = wrongT l (j + 1) by rw [e1])
  ·have hj' : ¬ (j : Int) < ((l.map aiP).length : Nat):=h
   rw [el] at hj'
   refine retE ?_
   exact (show wrongT l j = wrongT l l.length by unfold wrongT; rw [List.take_of_length_le (by omega),List.take_length])
end Go.Proofs.YtnbngokbamifbaaGreatDoor.Pw
set_option linter.unusedVariables false
namespace Go.Proofs.YtnbngokbamifbaaGreatDoor.Pw
open Go Go.RowKit
theorem take_all {l : List AI} {i : Nat} {x : AI} {p : AI -> Prop} (hx : l[i]? = some x) (h : ∀ y ∈ l.take i,p y) (hp : p x) : ∀ y ∈ l.take (i + 1),p y:=fun y hy=>by
 rw [List.take_add_one,hx,List.mem_append] at hy
 rcases hy with hy | hy
 ·exact h y hy
 ·have : y = x:=by simpa using hy
  rw [this]; exact hp
set_option maxHeartbeats 4000000 in
set_option maxRecDepth 10000 in
theorem dcheck_pure (l : List AI) (hl : l.length <= 10000) (hio : ∀ x ∈ l,IOk x.inst) : PureF gT 41 [.sl 15 (l.map aiP)] (.int .i64 (checkA l)):=by
 have el : (l.map aiP).length = l.length:=List.length_map ..
 refine Spec.enter gTok P41 100 Tryz.func41 rfl (by kernel_rfl) ?_
 refine SW.loopX gTok P41 (by kernel_rfl) (α:={i : Nat // ∀ y ∈ l.take i,rightA y}) (fun i=>[(0,.sl 15 (l.map aiP)),(3,.int .i64 i.1)]) (fun i=>[]) (fun i=>l.length - i.1) ⟨0,fun y hy=>by simp at hy⟩ 60 [] ?_ ?_
 ·repeat' first | exact trivial | exact rfl | exact Iff.rfl | refine And.intro ?_ ?_
 rintro ⟨i,hn⟩
 refine fun hm=>?_
 refine And.intro (fun h=>?_) (fun h=>?_)
 ·have h' : (i : Int) < ((l.map aiP).length : Nat):=h
  rw [el] at h'
  obtain ⟨x,hx⟩ : ∃ x,l[i]? = some x:=⟨_,List.getElem?_eq_getElem (by omega)⟩
  have hr:=refIRight_pure x (hio x (List.mem_of_getElem? hx))
  refine ⟨AI,l,aiP,rfl,show (0 : Int) <= (i : Int) by omega,show (i : Int) < (l.length : Int) by omega,fun x' hx2=>?_⟩; obtain rfl : x = x':=Option.some.inj (hx.symm.trans hx2)
  refine ⟨[],no_rl,hr.use (by repeat' first|exact trivial|exact rfl|exact Iff.rfl|refine And.intro ?_ ?_) rfl rfl ?_⟩
  refine And.intro (fun hne=>?_) (fun hne=>?_)
  ·refine retE ?_
   exact (show (10 : Int) = checkA l by unfold checkA; rw [if_pos ⟨x,List.mem_of_getElem? hx,hne⟩])
  ·refine .inl ⟨inR_i64 (show _ <= (i : Int) + 1 /\ (i : Int) + 1 <= _ by omega),⟨⟨i + 1,take_all hx hn (Classical.not_not.1 hne)⟩,[],show l.length - (i + 1) < l.length - i by omega,?_⟩⟩
   repeat' first | exact trivial | exact rfl | exact Iff.rfl | refine And.intro ?_ ?_
 ·have h' : ¬ (i : Int) < ((l.map aiP).length : Nat):=h
  rw [el] at h'
  rw [List.take_of_length_le (by omega)] at hn
  have hno : ¬ ∃ x ∈ l,¬ rightA x:=fun ⟨x,hx,h⟩=>h (hn x hx)
  refine SW.loopX gTok P41 (by kernel_rfl) (α:={i : Nat // ∀ y ∈ l.take i,¬ wrongA l y}) (fun i=>[(0,.sl 15 (l.map aiP)),(4,.int .i64 i.1)]) (fun i=>[]) (fun i=>l.length - i.1) ⟨0,fun y hy=>by simp at hy⟩ 60 [] ?_ ?_
  ·repeat' first | exact trivial | exact rfl | exact Iff.rfl | refine And.intro ?_ ?_
  rintro ⟨i,hn⟩
  refine fun hm=>?_
  refine And.intro (fun h=>?_) (fun h=>?_)
  ·have h' : (i : Int) < ((l.map aiP).length : Nat):=h
   rw [el] at h'
   obtain ⟨x,hx⟩ : ∃ x,l[i]? = some x:=⟨_,List.getElem?_eq_getElem (by omega)⟩
   have hxm:=List.mem_of_getElem? hx
   have bi0 : (0 : Int) <= (i : Int):=by omega
   have bi1 : (i : Int) < (l.length : Int):=by omega
   have bir:=inR_i64 (show _ <= (i : Int) + 1 /\ (i : Int) + 1 <= _ by omega)
   have bmu : l.length - (i + 1) < l.length - i:=by omega
   have hmk:=dmarks_pure l hl x.label
   have bad : wrongA l x -> (80 : Int) = checkA l:=fun hw=>by unfold checkA; rw [if_neg hno,if_pos ⟨x,hxm,hw⟩]
   have hw : wrongA l x ↔ (x.kind = 2 /\ ¬ ((cntA l x.label : Nat) : Int) = 1) \/ (x.kind = 3 /\ 1 < ((cntA l x.label : Nat) : Int)):=by unfold wrongA; omega
   generalize ((cntA l x.label : Nat) : Int) = c at hw hmk
   refine ⟨AI,l,aiP,rfl,bi0,bi1,fun x' hx2=>?_⟩; obtain rfl : x = x':=Option.some.inj (hx.symm.trans hx2)
   refine And.intro (fun k2=>?_) (fun k2=>?_)
   ·have k2' : ¬ x.kind = 2:=k2
    refine ⟨AI,l,aiP,rfl,bi0,bi1,fun x' hx2=>?_⟩; obtain rfl : x = x':=Option.some.inj (hx.symm.trans hx2)
    refine And.intro (fun k3=>?_) (fun k3=>?_)
    ·have k3' : ¬ x.kind = 3:=k3
     refine .inl ⟨bir,⟨⟨i + 1,take_all hx hn (fun h=>by have:=hw.1 h; omega)⟩,[],bmu,?_⟩⟩
     repeat' first | exact trivial | exact rfl | exact Iff.rfl | refine And.intro ?_ ?_
    ·have k3' : x.kind = 3:=Classical.not_not.1 k3
     refine ⟨AI,l,aiP,rfl,bi0,bi1,fun x' hx2=>?_⟩; obtain rfl : x = x':=Option.some.inj (hx.symm.trans hx2)
     refine ⟨[],no_rl,hmk.use (by repeat' first|exact trivial|exact rfl|exact Iff.rfl|refine And.intro ?_ ?_) rfl rfl ?_⟩
     refine ⟨AI,l,aiP,rfl,bi0,bi1,fun x' hx2=>?_⟩; obtain rfl : x = x':=Option.some.inj (hx.symm.trans hx2)
     refine And.intro (fun h=>absurd h k2') (fun _=>?_)
     refine ⟨AI,l,aiP,rfl,bi0,bi1,fun x' hx2=>?_⟩; obtain rfl : x = x':=Option.some.inj (hx.symm.trans hx2)
     refine And.intro (fun _=>?_) (fun h=>absurd k3' h)
     refine And.intro (fun hc=>?_) (fun hc=>?_)
     ·exact retE (bad (hw.2 (.inr ⟨k3',hc⟩)))
     ·refine .inl ⟨bir,⟨⟨i + 1,take_all hx hn (fun h=>by have:=hw.1 h; have hc' : ¬ 1 < c:=hc; omega)⟩,[],bmu,?_⟩⟩
      repeat' first | exact trivial | exact rfl | exact Iff.rfl | refine And.intro ?_ ?_
   ·have k2' : x.kind = 2:=Classical.not_not.1 k2
    refine ⟨AI,l,aiP,rfl,bi0,bi1,fun x' hx2=>?_⟩; obtain rfl : x = x':=Option.some.inj (hx.symm.trans hx2)
    refine ⟨[],no_rl,hmk.use (by repeat' first|exact trivial|exact rfl|exact Iff.rfl|refine And.intro ?_ ?_) rfl rfl ?_⟩
    refine ⟨AI,l,aiP,rfl,bi0,bi1,fun x' hx2=>?_⟩; obtain rfl : x = x':=Option.some.inj (hx.symm.trans hx2)
    refine And.intro (fun _=>?_) (fun h=>absurd k2' h)
    refine And.intro (fun hc=>?_) (fun hc=>?_)
    ·exact retE (bad (hw.2 (.inl ⟨k2',hc⟩)))
    ·refine ⟨AI,l,aiP,rfl,bi0,bi1,fun x' hx2=>?_⟩; obtain rfl : x = x':=Option.some.inj (hx.symm.trans hx2)
     refine And.intro (fun h=>absurd (show x.kind = 3 from h) (by omega)) (fun _=>?_)
     refine .inl ⟨bir,⟨⟨i + 1,take_all hx hn (fun h=>by have:=hw.1 h; have hc' : c = 1:=Classical.not_not.1 hc; omega)⟩,[],bmu,?_⟩⟩
     repeat' first | exact trivial | exact rfl | exact Iff.rfl | refine And.intro ?_ ?_
  ·have h' : ¬ (i : Int) < ((l.map aiP).length : Nat):=h
   rw [el] at h'
   rw [List.take_of_length_le (by omega)] at hn
   refine retE ?_
   exact (show (0 : Int) = checkA l by unfold checkA; rw [if_neg hno,if_neg (fun ⟨x,hx,h⟩=>hn x hx h)])
end Go.Proofs.YtnbngokbamifbaaGreatDoor.Pw
set_option linter.unusedVariables false
namespace Go.Proofs.YtnbngokbamifbaaGreatDoor.Pw
open Go Go.RowKit
def mixL {α : Type} (new old : List α) (i : Nat) : List α:=new.take i ++ old.drop i
theorem mix_len {α : Type} {new old : List α} (h : new.length = old.length) (i : Nat) : (mixL new old i).length = old.length:=by
 unfold mixL; rw [List.length_append,List.length_take,List.length_drop]; omega
theorem mix_set {α : Type} {new old : List α} (h : new.length = old.length) {i : Nat} {v : α} (hv : new[i]? = some v) : (mixL new old i).set i v = mixL new old (i + 1):=by
 have hi : i < new.length:=(List.getElem?_eq_some_iff.1 hv).1
 unfold mixL
 rw [List.take_add_one,hv,List.set_append_right _ _ (by rw [List.length_take]; omega),List.length_take,Nat.min_eq_left (by omega),Nat.sub_self,List.drop_eq_getElem_cons (show i < old.length by omega),List.set_cons_zero,List.append_assoc]
 rfl
theorem mix_get {α : Type} {new old : List α} {i : Nat} (h : i < new.length) : (mixL new old (i + 1))[i]? = new[i]?:=by
 unfold mixL
 rw [List.getElem?_append_left (by rw [List.length_take]; omega),List.getElem?_take,if_pos (by omega)]
theorem mix_all {α : Type} {new old : List α} (h : new.length = old.length) {i : Nat} (hi : old.length <= i) : mixL new old i = new:=by
 unfold mixL
 rw [List.take_of_length_le (by omega),List.drop_of_length_le hi,List.append_nil]
theorem mix_none {α : Type} (new old : List α) : mixL new old 0 = old:=by unfold mixL; rfl
theorem mix_at {α : Type} {new old : List α} (h : new.length = old.length) {i : Nat} {v : α} (hv : old[i]? = some v) : (mixL new old i)[i]? = some v:=by
 have hi:=(List.getElem?_eq_some_iff.1 hv).1
 unfold mixL
 rw [List.getElem?_append_right (by rw [List.length_take]; omega),List.length_take,Nat.min_eq_left (by omega),Nat.sub_self,List.getElem?_drop]
 exact hv
theorem mix_same {α : Type} {new old : List α} (h : new.length = old.length) {i : Nat} {v : α} (hv : old[i]? = some v) (hn : new[i]? = some v) : mixL new old (i + 1) = mixL new old i:=by
 rw [← mix_set h hn]
 have h1:=mix_at h hv
 obtain ⟨h2,h3⟩:=List.getElem?_eq_some_iff.1 h1
 rw [← h3,List.set_getElem_self]
def atsA (l : List AI) (W : List Bool) : List Int:=(List.range l.length).map (atA l W)
def szsA (l : List AI) (W : List Bool) : List Int:=(List.range l.length).map fun i=>atA l W (i + 1) - atA l W i
theorem atsA_len (l : List AI) (W : List Bool) : (atsA l W).length = l.length:=by simp [atsA]
theorem szsA_len (l : List AI) (W : List Bool) : (szsA l W).length = l.length:=by simp [szsA]
theorem atsA_get {l : List AI} {W : List Bool} {i : Nat} (h : i < l.length) : (atsA l W)[i]? = some (atA l W i):=by simp [atsA,h]
theorem szsA_get {l : List AI} {W : List Bool} {i : Nat} (h : i < l.length) : (szsA l W)[i]? = some (atA l W (i + 1) - atA l W i):=by simp [szsA,h]
theorem rightA_it {x : AI} (h : rightA x) : ItOk x:=⟨rightA_kind h,fun k=>((rightA_4 k).1 h).2.2⟩
theorem marksT_kvP {l : List AI} {W : List Bool} {L : List (Int × Int)} {i : Nat} {x : AI} (hx : l[i]? = some x) (hk : x.kind = 3) : (L ++ marksT l W i).map kvP ++ [kvP (x.label,atA l W i)] = (L ++ marksT l W (i + 1)).map kvP:=by
 rw [marksT,hx]
 simp only
 rw [if_pos hk,← List.append_assoc,List.map_append (l₂:=[_])]
 rfl
theorem marksT_not {l : List AI} {W : List Bool} {i : Nat} {x : AI} (hx : l[i]? = some x) (hk : ¬ x.kind = 3) : marksT l W (i + 1) = marksT l W i:=by
 rw [marksT,hx]
 simp only
 rw [if_neg hk,List.append_nil]
theorem marksT_end {l : List AI} {W : List Bool} : ∀ {i : Nat},l.length <= i -> marksT l W i = marksT l W l.length
 | 0,h=>by rw [show l.length = 0 by omega]
 | i + 1,h=>by
  rcases Nat.eq_or_lt_of_le h with e | e
  ·rw [e]
  ·rw [marksT,List.getElem?_eq_none (by omega),marksT_end (by omega)]
   simp
set_option maxHeartbeats 4000000 in
set_option maxRecDepth 10000 in
theorem lay_runs {l : List AI} {W : List Bool} {at0 sz0 : List Int} {e0 : Int} {L : List (Int × Int)} (hW : W.length = l.length) (ha0 : at0.length = l.length) (hs0 : sz0.length = l.length) (hr : ∀ x ∈ l,rightA x) (hl : l.length <= 10000) (hL : L.length <= 1000000000) :
  RunsA 38 [.ptr 5 0] (sLy l W at0 sz0 e0 L) (.tup []) (sLy l W (atsA l W) (szsA l W) (endA l W 0) (L ++ marksT l W l.length)):=by
 have hI : ∀ x ∈ l,ItOk x:=fun x hx=>rightA_it (hr x hx)
 have la:=atsA_len l W
 have ls:=szsA_len l W
 have el : (l.map aiP).length = l.length:=List.length_map ..
 refine Spec.leS (Spec.enter gTok P38 100 Tryz.func38 rfl (by kernel_rfl) ?_)
 refine fun hm=>?_
 refine SW.loopX gTok P38 (by kernel_rfl) (fun i : Nat=>[(0,.ptr 5 0),(2,.int .i64 (atA l W i)),(8,.sl 15 (l.map aiP)),(9,.int .i64 (l.map aiP).length),(10,.int .i64 i)]) (fun i=>sLy l W (mixL (atsA l W) at0 i) (mixL (szsA l W) sz0 i) e0 (L ++ marksT l W i)) (fun i=>l.length - i) 0 60 [some 0,some 1,some 2,some 3,some 4,some 5] ?_ fun i=>?_
 ·repeat' first | exact trivial | exact rfl | exact Iff.rfl | refine And.intro ?_ ?_
  all_goals first | exact (show intsP at0 = intsP _ by rw [mix_none]) | exact (show (L ++ marksT l W 0).map kvP = L.map kvP by rw [marksT,List.append_nil]) | exact (show L.map kvP = (L ++ marksT l W 0).map kvP by rw [marksT,List.append_nil])
 refine And.intro (fun h=>?_) (fun h=>?_)
 ·have h' : (i : Int) < ((l.map aiP).length : Nat):=h
  rw [el] at h'
  refine ⟨AI,l,aiP,rfl,show (0 : Int) <= (i : Int) by omega,show (i : Int) < (l.length : Int) by omega,fun x hx=>?_⟩
  have hx' : l[i]? = some x:=hx
  have hw' : W[i]? = some W[i]:=List.getElem?_eq_getElem (by omega)
  have hrx:=hr x (List.mem_of_getElem? hx')
  have b1:=atA_bd hW hI i (by omega)
  have b2:=atA_bd hW hI (i + 1) (by omega)
  have es:=atA_succ hW hx' hw'
  have hb:=bytes_runs .p (W:=W) (at_:=mixL (atsA l W) at0 i) (sz:=mixL (szsA l W) sz0 i) (e:=e0) (L:=L ++ marksT l W i) hx' hw' hrx (a:=atA l W i) (by omega)
  refine ⟨[],no_rl,hb.useS rfl rfl rfl rfl (by repeat' first|exact trivial|exact rfl|exact Iff.rfl|refine And.intro ?_ ?_) (And.intro (by repeat' first|exact trivial|exact rfl|exact Iff.rfl|refine And.intro ?_ ?_) (And.intro (by repeat' first|exact trivial|exact rfl|exact Iff.rfl|refine And.intro ?_ ?_) (And.intro (by repeat' first|exact trivial|exact rfl|exact Iff.rfl|refine And.intro ?_ ?_) (And.intro (by repeat' first|exact trivial|exact rfl|exact Iff.rfl|refine And.intro ?_ ?_) (And.intro (by repeat' first|exact trivial|exact rfl|exact Iff.rfl|refine And.intro ?_ ?_) (And.intro (by repeat' first|exact trivial|exact rfl|exact Iff.rfl|refine And.intro ?_ ?_) ?_))))))⟩
  refine ⟨show (0 : Int) <= (i : Int) by omega,show (i : Int) < ((intsP (mixL (atsA l W) at0 i)).length : Nat) by rw [intsP_len,mix_len (by omega)]; omega,show (i : Int).toNat < (intsP (mixL (atsA l W) at0 i)).length by rw [intsP_len,mix_len (by omega)]; omega,?_⟩
  refine ⟨show (0 : Int) <= (i : Int) by omega,show (i : Int) < ((intsP (mixL (szsA l W) sz0 i)).length : Nat) by rw [intsP_len,mix_len (by omega)]; omega,show (i : Int).toNat < (intsP (mixL (szsA l W) sz0 i)).length by rw [intsP_len,mix_len (by omega)]; omega,?_⟩
  refine And.intro (fun hk3=>?_) (fun hk3=>?_)
  ·have hk3' : x.kind = 3:=hk3
   have hmay:=((rightA_3 hk3').1 hrx).2.2
   unfold mayV at hmay
   refine pmapPut_ok gTok ?_
   refine ⟨rfl,?_⟩
   have lm:=marksT_len l W i
   refine ⟨show InR .i64 x.label from inR_i64 (by omega),rfl,show InR .i64 (atA l W i) from inR_i64 (by omega),rfl,show ((L ++ marksT l W i).map kvP).length < maxLen by rw [List.length_map,List.length_append]; unfold maxLen; omega,?_⟩
   refine ⟨show (0 : Int) <= (i : Int) by omega,show (i : Int) < (((intsP (mixL (szsA l W) sz0 i)).set i (.int .i64 (bytesA x W[i] (atA l W i)))).length : Nat) by rw [List.length_set,intsP_len,mix_len (by omega)]; omega,Int,(mixL (szsA l W) sz0 i).set i (bytesA x W[i] (atA l W i)),PV.int .i64,show (intsP (mixL (szsA l W) sz0 i)).set i (.int .i64 (bytesA x W[i] (atA l W i))) = _ by unfold intsP; rw [List.map_set],show (i : Int).toNat < ((mixL (szsA l W) sz0 i).set i (bytesA x W[i] (atA l W i))).length by rw [List.length_set,mix_len (by omega)]; omega,fun v hv=>?_⟩
   obtain rfl : bytesA x W[i] (atA l W i) = v:=by
    have hv' : ((mixL (szsA l W) sz0 i).set i (bytesA x W[i] (atA l W i)))[i]? = some v:=hv
    rw [List.getElem?_set_self (by rw [mix_len (by omega)]; omega)] at hv'
    exact Option.some.inj hv'
   refine .inl ⟨inR_i64 (show _ <= atA l W i + bytesA x W[i] (atA l W i) /\ atA l W i + bytesA x W[i] (atA l W i) <= _ by omega),?_⟩
   refine .inl ⟨inR_i64 (show _ <= (i : Int) + 1 /\ (i : Int) + 1 <= _ by omega),⟨i + 1,[some 0,some 1,some 2,some 3,some 4,some 5],by omega,?_⟩⟩
   repeat' first | exact trivial | exact rfl | exact Iff.rfl | refine And.intro ?_ ?_
   all_goals first | exact (show atA l W i + bytesA x W[i] (atA l W i) = atA l W (i + 1) by rw [es]) | exact (show (intsP (mixL (atsA l W) at0 i)).set i (.int .i64 (atA l W i)) = intsP (mixL (atsA l W) at0 (i + 1)) by rw [← mix_set (by omega) (atsA_get (by omega))]; unfold intsP; rw [List.map_set]) | exact (show (intsP (mixL (szsA l W) sz0 i)).set i (.int .i64 (bytesA x W[i] (atA l W i))) = intsP (mixL (szsA l W) sz0 (i + 1)) by rw [← mix_set (by omega) (szsA_get (by omega)),es,show atA l W i + bytesA x W[i] (atA l W i) - atA l W i = bytesA x W[i] (atA l W i) by omega]; unfold intsP; rw [List.map_set]) | exact (show (L ++ marksT l W i).map kvP ++ [kvP (x.label,atA l W i)] = (L ++ marksT l W (i + 1)).map kvP by exact marksT_kvP hx' hk3')
  ·have hk3' : ¬ x.kind = 3:=hk3
   refine ⟨show (0 : Int) <= (i : Int) by omega,show (i : Int) < (((intsP (mixL (szsA l W) sz0 i)).set i (.int .i64 (bytesA x W[i] (atA l W i)))).length : Nat) by rw [List.length_set,intsP_len,mix_len (by omega)]; omega,Int,(mixL (szsA l W) sz0 i).set i (bytesA x W[i] (atA l W i)),PV.int .i64,show (intsP (mixL (szsA l W) sz0 i)).set i (.int .i64 (bytesA x W[i] (atA l W i))) = _ by unfold intsP; rw [List.map_set],show (i : Int).toNat < ((mixL (szsA l W) sz0 i).set i (bytesA x W[i] (atA l W i))).length by rw [List.length_set,mix_len (by omega)]; omega,fun v hv=>?_⟩
   obtain rfl : bytesA x W[i] (atA l W i) = v:=by
    have hv' : ((mixL (szsA l W) sz0 i).set i (bytesA x W[i] (atA l W i)))[i]? = some v:=hv
    rw [List.getElem?_set_self (by rw [mix_len (by omega)]; omega)] at hv'
    exact Option.some.inj hv'
   refine .inl ⟨inR_i64 (show _ <= atA l W i + bytesA x W[i] (atA l W i) /\ atA l W i + bytesA x W[i] (atA l W i) <= _ by omega),?_⟩
   refine .inl ⟨inR_i64 (show _ <= (i : Int) + 1 /\ (i : Int) + 1 <= _ by omega),⟨i + 1,[some 0,some 1,some 2,some 3,some 4,some 5],by omega,?_⟩⟩
   repeat' first | exact trivial | exact rfl | exact Iff.rfl | refine And.intro ?_ ?_
   all_goals first | exact (show atA l W i + bytesA x W[i] (atA l W i) = atA l W (i + 1) by rw [es]) | exact (show (intsP (mixL (atsA l W) at0 i)).set i (.int .i64 (atA l W i)) = intsP (mixL (atsA l W) at0 (i + 1)) by rw [← mix_set (by omega) (atsA_get (by omega))]; unfold intsP; rw [List.map_set]) | exact (show (intsP (mixL (szsA l W) sz0 i)).set i (.int .i64 (bytesA x W[i] (atA l W i))) = intsP (mixL (szsA l W) sz0 (i + 1)) by rw [← mix_set (by omega) (szsA_get (by omega)),es,show atA l W i + bytesA x W[i] (atA l W i) - atA l W i = bytesA x W[i] (atA l W i) by omega]; unfold intsP; rw [List.map_set]) | exact (show (L ++ marksT l W i).map kvP = (L ++ marksT l W (i + 1)).map kvP by rw [marksT_not hx' hk3'])
 ·have h' : ¬ (i : Int) < ((l.map aiP).length : Nat):=h
  rw [el] at h'
  rw [mix_all (by omega) (show at0.length <= i by omega),mix_all (by omega) (show sz0.length <= i by omega),marksT_end (show l.length <= i by omega),atA_end hW (show l.length <= i by omega)]
  (refine retS (by repeat' first | exact trivial | exact rfl | exact Iff.rfl | refine And.intro ?_ ?_) ?_; repeat' first|exact trivial|exact rfl|exact Iff.rfl|refine And.intro ?_ ?_)
end Go.Proofs.YtnbngokbamifbaaGreatDoor.Pw
set_option linter.unusedVariables false
namespace Go.Proofs.YtnbngokbamifbaaGreatDoor.Pw
open Go Go.RowKit
def offA (l : List AI) (W : List Bool) : List Int:=(List.range (l.length + 1)).map (atA l W)
theorem offA_len (l : List AI) (W : List Bool) : (offA l W).length = l.length + 1:=by unfold offA; rw [List.length_map,List.length_range]
theorem offA_get {l : List AI} {W : List Bool} {i : Nat} (h : i <= l.length) : (offA l W)[i]? = some (atA l W i):=by
 unfold offA
 rw [List.getElem?_map,List.getElem?_range (by omega)]; rfl
theorem find_first {l : List AI} {k : Int} {i : Nat} {x : AI} (hx : l[i]? = some x) (hk : isMark k x = true) (hn : ∀ y ∈ l.take i,isMark k y = false) : l.findIdx? (isMark k) = some i:=by
 have hi:=(List.getElem?_eq_some_iff.1 hx).1
 rw [List.findIdx?_eq_some_iff_getElem]
 refine ⟨hi,?_,fun j hj=>?_⟩
 ·rw [← (List.getElem?_eq_some_iff.1 hx).2] at hk; exact hk
 ·have:=hn l[j] (by rw [List.mem_take_iff_getElem]; exact ⟨j,by omega,rfl⟩)
  simp [this]
set_option maxHeartbeats 4000000 in
set_option maxRecDepth 10000 in
theorem dfar_pure {l : List AI} {W : List Bool} (hW : W.length = l.length) (hI : ∀ x ∈ l,ItOk x) (hl : l.length <= 10000) {i : Nat} {x : AI} (hx : l[i]? = some x) :
  PureF gT 44 [.sl 15 (l.map aiP),.sl 1 (intsP (offA l W)),.int .i64 i] (.int .i64 (farA l W i x)):=by
 have el : (l.map aiP).length = l.length:=List.length_map ..
 have hi:=(List.getElem?_eq_some_iff.1 hx).1
 have hol:=offA_len l W
 have gi:=offA_get (l:=l) (W:=W) (Nat.le_of_lt hi)
 have ai:=atA_bd hW hI i (Nat.le_of_lt hi)
 refine Spec.enter gTok P44 100 Tryz.func44 rfl (by kernel_rfl) ?_
 refine SW.loopX gTok P44 (by kernel_rfl) (α:={k : Nat // ∀ y ∈ l.take k,isMark x.label y = false}) (fun k=>[(0,.sl 15 (l.map aiP)),(1,.sl 1 (intsP (offA l W))),(2,.int .i64 i),(7,.int .i64 k.1)]) (fun k=>[]) (fun k=>l.length - k.1) ⟨0,fun y hy=>by simp at hy⟩ 60 [] ?_ ?_
 ·repeat' first | exact trivial | exact rfl | exact Iff.rfl | refine And.intro ?_ ?_
 rintro ⟨k,hn⟩
 refine fun hm=>?_
 refine And.intro (fun h=>?_) (fun h=>?_)
 ·have h' : (k : Int) < ((l.map aiP).length : Nat):=h
  rw [el] at h'
  obtain ⟨y,hy⟩ : ∃ y,l[k]? = some y:=⟨_,List.getElem?_eq_getElem (by omega)⟩
  have gk:=offA_get (l:=l) (W:=W) (i:=k) (by omega)
  have ak:=atA_bd hW hI k (by omega)
  have nxt : ¬ isMark x.label y = true -> ∀ z ∈ l.take (k + 1),isMark x.label z = false:=fun hne z hz=>by
   rw [List.take_add_one,hy,List.mem_append] at hz
   rcases hz with hz | hz
   ·exact hn z hz
   ·have : z = y:=by simpa using hz
    rw [this]; simpa using hne
  have bk0 : (0 : Int) <= (k : Int):=by omega
  have bk1 : (k : Int) < (l.length : Int):=by omega
  have bi0 : (0 : Int) <= (i : Int):=by omega
  have bi1 : (i : Int) < (l.length : Int):=by omega
  have bok : (k : Int) < ((offA l W).length : Int):=by omega
  have boi : (i : Int) < ((offA l W).length : Int):=by omega
  have bir:=inR_i64 (show _ <= (k : Int) + 1 /\ (k : Int) + 1 <= _ by omega)
  have bmu : l.length - (k + 1) < l.length - k:=by omega
  refine ⟨AI,l,aiP,rfl,bk0,bk1,fun y' hy2=>?_⟩; obtain rfl : y = y':=Option.some.inj (hy.symm.trans hy2)
  refine And.intro (fun k3=>?_) (fun k3=>?_)
  ·refine ⟨AI,l,aiP,rfl,bk0,bk1,fun y' hy2=>?_⟩; obtain rfl : y = y':=Option.some.inj (hy.symm.trans hy2)
   refine ⟨AI,l,aiP,rfl,bi0,bi1,fun x' hx2=>?_⟩; obtain rfl : x = x':=Option.some.inj (hx.symm.trans hx2)
   refine And.intro (fun kl=>?_) (fun kl=>?_)
   ·have hmk : isMark x.label y = true:=isMark_iff.2 ⟨k3,kl⟩
    have hf:=find_first hy hmk hn
    refine ⟨Int,offA l W,PV.int .i64,rfl,bk0,bok,fun v hv=>?_⟩; obtain rfl : atA l W k = v:=Option.some.inj (gk.symm.trans hv)
    refine ⟨Int,offA l W,PV.int .i64,rfl,bi0,boi,fun v hv=>?_⟩; obtain rfl : atA l W i = v:=Option.some.inj (gi.symm.trans hv)
    refine .inl ⟨inR_i64 (show _ <= atA l W k - atA l W i /\ atA l W k - atA l W i <= _ by omega),?_⟩
    refine .inl ⟨inR_i64 (show _ <= atA l W k - atA l W i - 4 /\ atA l W k - atA l W i - 4 <= _ by omega),?_⟩
    refine retE ?_
    exact (show atA l W k - atA l W i - 4 = farA l W i x by unfold farA; rw [hf])
   ·refine .inl ⟨bir,⟨⟨k + 1,nxt fun e=>kl (isMark_iff.1 e).2⟩,[],bmu,?_⟩⟩
    repeat' first | exact trivial | exact rfl | exact Iff.rfl | refine And.intro ?_ ?_
  ·refine .inl ⟨bir,⟨⟨k + 1,nxt fun e=>k3 (isMark_iff.1 e).1⟩,[],bmu,?_⟩⟩
   repeat' first | exact trivial | exact rfl | exact Iff.rfl | refine And.intro ?_ ?_
 ·have h' : ¬ (k : Int) < ((l.map aiP).length : Nat):=h
  rw [el] at h'
  rw [List.take_of_length_le (by omega)] at hn
  refine retE ?_
  exact (show (0 : Int) = farA l W i x by unfold farA; rw [List.findIdx?_eq_none_iff.2 hn])
def oI (cs : List PV) : PBlk:=⟨.dyn,3,1,.w,true,cs⟩
theorem offT_snoc (l : List AI) (W : List Bool) (i : Nat) : intsP ((List.range i).map (atA l W)) ++ [.int .i64 (atA l W i)] = intsP ((List.range (i + 1)).map (atA l W)):=by
 rw [List.range_succ,List.map_append]; unfold intsP; rw [List.map_append]; rfl
set_option maxHeartbeats 4000000 in
set_option maxRecDepth 10000 in
theorem doffsets_pure {l : List AI} {W : List Bool} (hW : W.length = l.length) (hI : ∀ x ∈ l,ItOk x) (hl : l.length <= 10000) :
  PureF gT 42 [.sl 15 (l.map aiP),.sl 1 (bP W)] (.sl 1 (intsP (offA l W))):=by
 have el : (l.map aiP).length = l.length:=List.length_map ..
 refine Spec.enter gTok P42 100 Tryz.func42 rfl (by kernel_rfl) ?_
 refine SW.loopX gTok P42 (by kernel_rfl) (α:={i : Nat // i <= l.length}) (fun i=>[(0,.sl 15 (l.map aiP)),(1,.sl 1 (bP W)),(5,.int .i64 (atA l W i.1)),(6,.wref 0),(7,.int .i64 i.1)]) (fun i=>[oI (intsP ((List.range i.1).map (atA l W)))]) (fun i=>l.length - i.1) ⟨0,Nat.zero_le _⟩ 60 [none] ?_ ?_
 ·repeat' first | exact trivial | exact rfl | exact Iff.rfl | refine And.intro ?_ ?_
 rintro ⟨i,hi⟩
 have ai:=atA_bd hW hI i hi
 have eo : (intsP ((List.range i).map (atA l W))).length = i:=by rw [intsP_len,List.length_map,List.length_range]
 have b1 : (intsP ((List.range i).map (atA l W))).length + 1 <= maxLen:=by rw [eo]; unfold maxLen; omega
 have b2 : ((intsP ((List.range i).map (atA l W))).length + 1) * 8 <= 140737488355328:=by rw [eo]; omega
 refine fun hm=>?_
 refine And.intro (fun h=>?_) (fun h=>?_)
 ·have h' : (i : Int) < ((l.map aiP).length : Nat):=h
  rw [el] at h'
  obtain ⟨x,hx⟩ : ∃ x,l[i]? = some x:=⟨_,List.getElem?_eq_getElem (by omega)⟩
  obtain ⟨w,hw⟩ : ∃ w,W[i]? = some w:=⟨_,List.getElem?_eq_getElem (by omega)⟩
  have es:=atA_succ hW hx hw
  have ai2:=atA_bd hW hI (i + 1) (by omega)
  have hsz:=dsize_pure (hI x (List.mem_of_getElem? hx)) w (a:=atA l W i) (by omega)
  refine ⟨b1,b2,?_⟩
  refine ⟨AI,l,aiP,rfl,show (0 : Int) <= (i : Int) by omega,show (i : Int) < (l.length : Int) by omega,fun x' hx2=>?_⟩; obtain rfl : x = x':=Option.some.inj (hx.symm.trans hx2)
  refine ⟨Bool,W,bE,rfl,show (0 : Int) <= (i : Int) by omega,show (i : Int) < (W.length : Int) by omega,fun w' hw2=>?_⟩; obtain rfl : w = w':=Option.some.inj (hw.symm.trans hw2)
  cases w
  all_goals
   refine ⟨[],no_rl,hsz.use (by repeat' first|exact trivial|exact rfl|exact Iff.rfl|refine And.intro ?_ ?_) rfl rfl ?_⟩
   refine .inl ⟨inR_i64 (by rw [← es]; omega),?_⟩
   refine .inl ⟨inR_i64 (show _ <= (i : Int) + 1 /\ (i : Int) + 1 <= _ by omega),⟨⟨i + 1,by omega⟩,[some 2],show l.length - (i + 1) < l.length - i by omega,?_⟩⟩
   repeat' first | exact trivial | exact rfl | exact Iff.rfl | refine And.intro ?_ ?_
   all_goals first | exact es.symm | exact offT_snoc l W i
 ·have h' : ¬ (i : Int) < ((l.map aiP).length : Nat):=h
  rw [el] at h'
  obtain rfl : i = l.length:=by omega
  refine ⟨b1,b2,?_⟩
  refine retE ?_
  exact offT_snoc l W l.length
end Go.Proofs.YtnbngokbamifbaaGreatDoor.Pw

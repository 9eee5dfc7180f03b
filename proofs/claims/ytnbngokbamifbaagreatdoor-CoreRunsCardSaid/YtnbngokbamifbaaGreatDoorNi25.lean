/- What a law is proved with. -/
import Derived.Test.YtnbngokbamifbaaGreatDoorNi24
import Derived.Test.YtnbngokbamifbaaGreatDoorNi14
import Derived.Test.YtnbngokbamifbaaGreatDoorNi20
set_option linter.unusedVariables false
set_option linter.unusedSimpArgs false
set_option linter.unusedVariables false
namespace Go.Proofs.YtnbngokbamifbaaGreatDoor.Pw
open Go Go.RowKit
structure MD where
 fl : List Int
 L : List (Int × Int)
 wait : Int
 s : RS
 line : Int
 cyc : Int
 kind : Int
 code : Int
def wP (p : Int × Int) : PV:=.agg [.int .u32 p.1,.int .u32 p.2]
def mdFs (m : MD) : List PV:=[.sl 1 (u8P m.fl),.sl 2 (m.L.map wP),.int .i64 m.wait,.int .u32 (m.s.R 0),.int .u32 (m.s.R 1),.int .u32 (m.s.R 2),.int .u32 (m.s.R 3),.int .u32 (m.s.R 4),.int .u32 (m.s.R 5),.int .u32 (m.s.R 6),.int .u32 (m.s.R 7),.int .u32 (m.s.R 8),.int .u32 (m.s.R 9),.int .u32 (m.s.R 10),.int .u32 (m.s.R 11),.int .u32 (m.s.R 12),.int .u32 (m.s.R 13),.int .u32 (m.s.R 14),.int .u32 (m.s.R 15),.int .u32 m.s.N,.int .u32 m.s.Z,.int .u32 m.s.C,.int .u32 m.s.V,.int .i64 m.line,.int .i64 m.cyc,.int .i64 m.kind,.int .i64 m.code]
def mdP (m : MD) : PV:=.agg (mdFs m)
def mdB (m : MD) : PBlk:=⟨.loc,52,1,.w,true,mdFs m⟩
def rs0 : RS:=⟨fun _=>0,0,0,0,0⟩
def ms0 (fl : List Int) (wait : Int) : MS:=⟨fun _=>0,fl,wait,rs0,False,0,0,0,0⟩
def md0 (fl : List Int) (wait : Int) : MD:=⟨fl,[],wait,rs0,-1,0,0,0⟩
def mdZ : MD:=⟨[],[],0,rs0,0,0,0,0⟩
theorem ramL_zero : List.replicate 65536 (PV.int .u8 0) = ramL fun _=>0:=by
 refine List.ext_getElem? fun k=>?_
 rw [ramL_get,List.getElem?_replicate]
 split
 ·unfold encW byW; rw [Int.zero_ediv]; rfl
 ·rfl
set_option maxRecDepth 100000 in
theorem clone_u8 (fl : List Int) (hl : fl.length <= 65536) : PureF gT 86 [.sl 1 (u8P fl)] (.sl 1 (u8P fl)):=by
 have el : (u8P fl).length = fl.length:=List.length_map ..
 have hm : 0 + (u8P fl).length <= maxLen:=by rw [el]; unfold maxLen; omega
 have hb : (0 + (u8P fl).length) * 1 <= 140737488355328:=by rw [el]; omega
 refine Spec.enter gTok P86 100 Tryz.func86 rfl (by kernel_rfl) ?_
 by_cases h : fl = []
 ·subst h
  refine .inr (And.intro ?_ ?_)
  ·exact retE (show (u8P []) = [] from rfl)
  ·refine ⟨hm,hb,?_⟩
   exact retE rfl
 ·refine .inl ⟨by rw [el]; exact fun e=>h (List.eq_nil_of_length_eq_zero e),?_⟩
  refine ⟨hm,hb,?_⟩
  exact retE rfl
set_option maxRecDepth 100000 in
theorem rnew_pure (fl : List Int) (wait : Int) : PureF gT 51 [.sl 1 (u8P fl),.int .i64 wait] (mdP (md0 fl wait)):=by
 refine Spec.enter gTok P51 100 Tryz.func51 rfl (by kernel_rfl) ?_
 (refine retE ?_; repeat' first|exact trivial|exact rfl|exact Iff.rfl|exact Or.inl rfl|refine And.intro ?_ ?_)
open Classical in
noncomputable def flashL (l : List IN) : List Int:=l.flatMap fun i=>if rightV i then byL i else []
theorem u8Q_app (a b : List Int) : u8P (a ++ b) = u8P a ++ u8P b:=List.map_append ..
theorem flashL_snoc {l : List IN} {k : Nat} {i : IN} (h : l[k]? = some i) : flashL (l.take (k + 1)) = flashL (l.take k) ++ (open Classical in if rightV i then byL i else []):=by
 unfold flashL
 rw [List.take_add_one,h,List.flatMap_append]; simp
theorem byL_bd (i : IN) : (byL i).length <= 4:=by
 unfold byL
 split <;> simp
theorem flashL_len : ∀ (l : List IN),(flashL l).length <= 4 * l.length
 | []=>by simp [flashL]
 | i :: l=>by
  have ih:=flashL_len l
  unfold flashL at ih ⊢
  rw [List.flatMap_cons,List.length_append,List.length_cons]
  have h1:=byL_bd i
  split
  ·omega
  ·simp only [List.length_nil]; omega
set_option maxHeartbeats 8000000 in
set_option maxRecDepth 100000 in
theorem built_ok (l : List IN) (more : List Int) (wait : Int) (hl : l.length <= 40) (hmo : more.length <= 100) (hi : ∀ i ∈ l,IOk i) (hw : 0 <= wait /\ wait <= 7) : Spec gT 16 [.sl 11 (insP l),.sl 1 (u8P more),.int .i64 wait] [] [] fun r S'=>r = .tup [.ptr 2 0,mdP (md0 (flashL l ++ more) wait)] /\ S' = stM (ms0 (flashL l ++ more) wait) ++ [mdB (md0 (flashL l ++ more) wait)]:=by
 have el : (insP l).length = l.length:=List.length_map ..
 refine Spec.enterN gTok P16 100 Tryz.func16 rfl (by kernel_rfl) ?_
 refine fun hm=>?_
 refine SW.loopX gTok P16 (by kernel_rfl) (α:={k : Nat // k <= l.length}) (fun k=>[(1,.sl 1 (u8P more)),(2,.int .i64 wait),(7,.ptr 0 0),(8,.wref 1),(17,.sl 11 (insP l)),(18,.int .i64 (insP l).length),(19,.int .i64 k.1)]) (fun k=>[mdB mdZ,⟨.dyn,5,1,.w,true,u8P (flashL (l.take k.1))⟩]) (fun k=>l.length - k.1) ⟨0,Nat.zero_le _⟩ 60 [some 0,none] ?_ ?_
 ·repeat' first | exact trivial | exact rfl | exact Iff.rfl | refine And.intro ?_ ?_
 rintro ⟨k,hk⟩
 refine And.intro (fun h=>?_) (fun h=>?_)
 ·have h' : (k : Int) < ((insP l).length : Nat):=h
  rw [el] at h'
  obtain ⟨i,hi2⟩ : ∃ i,l[k]? = some i:=⟨_,List.getElem?_eq_getElem (by omega)⟩
  have hio:=hi i (List.mem_of_getElem? hi2)
  have hs:=flashL_snoc hi2
  have hfl:=flashL_len (l.take k)
  rw [List.length_take] at hfl
  have efl : (u8P (flashL (l.take k))).length = (flashL (l.take k)).length:=List.length_map ..
  refine ⟨IN,l,inP,rfl,show (0 : Int) <= (k : Int) by omega,show (k : Int) < (l.length : Int) by omega,fun j hj=>?_⟩
  obtain rfl : i = j:=Option.some.inj (hi2.symm.trans hj)
  by_cases hr : rightV i
  ·rw [if_pos hr] at hs
   have hb4:=byL_bd i
   have ebl : (u8P (byL i)).length = (byL i).length:=List.length_map ..
   refine ⟨[],no_rl,(bytes_yes i hr hio).use (by repeat' first|exact trivial|exact rfl|exact Iff.rfl|exact Or.inl rfl|refine And.intro ?_ ?_) rfl rfl ?_⟩
   refine And.intro (fun _=>?_) (fun h=>absurd rfl h)
   refine ⟨show (u8P (flashL (l.take k))).length + (u8P (byL i)).length <= maxLen by rw [efl,ebl]; unfold maxLen; omega,show ((u8P (flashL (l.take k))).length + (u8P (byL i)).length) * 1 <= 140737488355328 by rw [efl,ebl]; omega,?_⟩
   refine .inl ⟨inR_i64 (show _ <= (k : Int) + 1 /\ (k : Int) + 1 <= _ by omega),⟨⟨k + 1,by omega⟩,[some 0,some 3],show l.length - (k + 1) < l.length - k by omega,?_⟩⟩
   repeat' first | exact trivial | exact rfl | exact Iff.rfl | refine And.intro ?_ ?_
   all_goals exact (show u8P (flashL (l.take k)) ++ u8P (byL i) = u8P (flashL (l.take (k + 1))) by rw [hs,u8Q_app])
  ·rw [if_neg hr,List.append_nil] at hs
   refine ⟨[],no_rl,(bytes_no i hr hio).use (by repeat' first|exact trivial|exact rfl|exact Iff.rfl|exact Or.inl rfl|refine And.intro ?_ ?_) rfl rfl ?_⟩
   refine And.intro (fun h=>absurd h (show ¬ (10 : Int) = 0 by decide)) (fun _=>?_)
   refine .inl ⟨inR_i64 (show _ <= (k : Int) + 1 /\ (k : Int) + 1 <= _ by omega),⟨⟨k + 1,by omega⟩,[some 0,some 1],show l.length - (k + 1) < l.length - k by omega,?_⟩⟩
   repeat' first | exact trivial | exact rfl | exact Iff.rfl | refine And.intro ?_ ?_
   all_goals exact (show u8P (flashL (l.take k)) = u8P (flashL (l.take (k + 1))) by rw [hs])
 ·have h' : ¬ (k : Int) < ((insP l).length : Nat):=h
  rw [el] at h'
  have hkk : l.take k = l:=List.take_of_length_le (by omega)
  have hfl:=flashL_len l
  have efl : (u8P (flashL l)).length = (flashL l).length:=List.length_map ..
  have emo : (u8P more).length = more.length:=List.length_map ..
  have eF : u8P (flashL (l.take k)) ++ u8P more = u8P (flashL l ++ more):=by rw [hkk,u8Q_app]
  have hFl : (flashL l ++ more).length <= 65536:=by rw [List.length_append]; omega
  refine ⟨show (u8P (flashL (l.take k))).length + (u8P more).length <= maxLen by rw [hkk,efl,emo]; unfold maxLen; omega,show ((u8P (flashL (l.take k))).length + (u8P more).length) * 1 <= 140737488355328 by rw [hkk,efl,emo]; omega,?_⟩
  rw [eF]
  generalize flashL l ++ more = F at hFl ⊢
  have eFl : (u8P F).length = F.length:=List.length_map ..
  have hc:=clone_u8 F hFl
  refine ⟨[],no_rl,Spec.enterN gTok P49 100 Tryz.func49 rfl (by kernel_rfl) ?_⟩
  refine fun hm2=>?_
  refine And.intro (fun h=>absurd (show (65536 : Int) < ((u8P F).length : Nat) from h) (by rw [eFl]; omega)) (fun _=>?_)
  refine ⟨[],no_rl,hc.useF [2] rfl (And.intro rfl trivial) rfl rfl ?_⟩
  refine pmakeN_ok gTok ?_
  refine ⟨65536,rfl,rfl,rfl,rfl,by decide,by decide,?_⟩
  rw [show List.replicate 65536 (PV.norm (.lit .u8 0)) = ramL fun _=>0 from ramL_zero]
  refine And.intro ?_ ?_
  ·refine Exists.intro [some 0,some 1,some 2,some 3,some 4] (Exists.intro [(2,.ptr 4 0),(3,.int .i64 0)] (Exists.intro [mdB mdZ,⟨.dyn,5,1,.w,false,[]⟩,⟨.dyn,5,1,.r,true,u8P F⟩,ramB fun _=>0,⟨.loc,150,1,.w,true,[.sl 1 (u8P F),.wref 3]⟩] (And.intro ?_ (And.intro (Nat.le_of_ble_eq_true rfl) ?_))))
   ·repeat' first | exact trivial | exact rfl | exact Iff.rfl | refine And.intro ?_ ?_
   refine And.intro (fun h=>absurd rfl h) (fun _=>?_)
   refine ⟨[],no_rl,Spec.enterN gTok P50 100 Tryz.func50 rfl (by kernel_rfl) ?_⟩
   refine And.intro (fun h=>absurd hw.1 (Int.not_le.2 h)) (fun _=>?_)
   refine And.intro (fun h=>absurd hw.2 (Int.not_le.2 h)) (fun _=>?_)
   refine Exists.intro [some 0,some 1,some 2,some 3,some 4,some 5] (Exists.intro [(4,.ptr 5 0),(5,.int .i64 0)] (Exists.intro [mdB mdZ,⟨.dyn,5,1,.w,false,[]⟩,⟨.dyn,5,1,.r,true,u8P F⟩,ramB fun _=>0,⟨.loc,150,1,.w,true,[.sl 1 (u8P F),.wref 3]⟩,⟨.loc,120,1,.w,true,.ptr 4 0 :: (machB (ms0 F wait)).cs.tail⟩] (And.intro ?_ (And.intro (Nat.le_of_ble_eq_true rfl) ?_))))
   ·repeat' first | exact trivial | exact rfl | exact Iff.rfl | exact not_false | refine And.intro ?_ ?_
   refine And.intro (fun h=>absurd rfl h) (fun _=>?_)
   refine ⟨[],no_rl,(rnew_pure F wait).useF [2] rfl (And.intro rfl (And.intro rfl trivial)) rfl rfl ?_⟩
   refine Exists.intro [some 3,some 4,some 5,some 0] (Exists.intro [(6,.ptr 2 0),(7,.ptr 3 0)] (Exists.intro (stM (ms0 F wait) ++ [mdB (md0 F wait)]) (And.intro ?_ (And.intro (Nat.le_of_ble_eq_true rfl) ?_))))
   ·repeat' first | exact trivial | exact rfl | exact Iff.rfl | exact not_false | refine And.intro ?_ ?_
   exact ⟨rfl,rfl⟩
  ·refine And.intro ?_ ?_
   ·refine pmakeN_ok gTok ?_
    refine ⟨65536,rfl,rfl,rfl,rfl,by decide,by decide,?_⟩
    rw [show List.replicate 65536 (PV.norm (.lit .u8 0)) = ramL fun _=>0 from ramL_zero]
    refine ⟨[],no_rl,hc.useF [2] rfl (And.intro rfl trivial) rfl rfl ?_⟩
    exact rfl
   ·first | exact trivial | ((conv=>whnf); exact trivial)
set_option maxHeartbeats 8000000 in
set_option maxRecDepth 100000 in
theorem built_no (l : List IN) (more : List Int) (wait : Int) (hl : l.length <= 40) (hmo : more.length <= 100) (hi : ∀ i ∈ l,IOk i) (hw : ¬ (0 <= wait /\ wait <= 7)) : Spec gT 16 [.sl 11 (insP l),.sl 1 (u8P more),.int .i64 wait] [] [] fun r S'=>r = .tup [.val (.pointer none),mdP mdZ] /\ S' = [mdB mdZ]:=by
 have el : (insP l).length = l.length:=List.length_map ..
 refine Spec.enterN gTok P16 100 Tryz.func16 rfl (by kernel_rfl) ?_
 refine fun hm=>?_
 refine SW.loopX gTok P16 (by kernel_rfl) (α:={k : Nat // k <= l.length}) (fun k=>[(1,.sl 1 (u8P more)),(2,.int .i64 wait),(7,.ptr 0 0),(8,.wref 1),(17,.sl 11 (insP l)),(18,.int .i64 (insP l).length),(19,.int .i64 k.1)]) (fun k=>[mdB mdZ,⟨.dyn,5,1,.w,true,u8P (flashL (l.take k.1))⟩]) (fun k=>l.length - k.1) ⟨0,Nat.zero_le _⟩ 60 [some 0,none] ?_ ?_
 ·repeat' first | exact trivial | exact rfl | exact Iff.rfl | refine And.intro ?_ ?_
 rintro ⟨k,hk⟩
 refine And.intro (fun h=>?_) (fun h=>?_)
 ·have h' : (k : Int) < ((insP l).length : Nat):=h
  rw [el] at h'
  obtain ⟨i,hi2⟩ : ∃ i,l[k]? = some i:=⟨_,List.getElem?_eq_getElem (by omega)⟩
  have hio:=hi i (List.mem_of_getElem? hi2)
  have hs:=flashL_snoc hi2
  have hfl:=flashL_len (l.take k)
  rw [List.length_take] at hfl
  have efl : (u8P (flashL (l.take k))).length = (flashL (l.take k)).length:=List.length_map ..
  refine ⟨IN,l,inP,rfl,show (0 : Int) <= (k : Int) by omega,show (k : Int) < (l.length : Int) by omega,fun j hj=>?_⟩
  obtain rfl : i = j:=Option.some.inj (hi2.symm.trans hj)
  by_cases hr : rightV i
  ·rw [if_pos hr] at hs
   have hb4:=byL_bd i
   have ebl : (u8P (byL i)).length = (byL i).length:=List.length_map ..
   refine ⟨[],no_rl,(bytes_yes i hr hio).use (by repeat' first|exact trivial|exact rfl|exact Iff.rfl|exact Or.inl rfl|refine And.intro ?_ ?_) rfl rfl ?_⟩
   refine And.intro (fun _=>?_) (fun h=>absurd rfl h)
   refine ⟨show (u8P (flashL (l.take k))).length + (u8P (byL i)).length <= maxLen by rw [efl,ebl]; unfold maxLen; omega,show ((u8P (flashL (l.take k))).length + (u8P (byL i)).length) * 1 <= 140737488355328 by rw [efl,ebl]; omega,?_⟩
   refine .inl ⟨inR_i64 (show _ <= (k : Int) + 1 /\ (k : Int) + 1 <= _ by omega),⟨⟨k + 1,by omega⟩,[some 0,some 3],show l.length - (k + 1) < l.length - k by omega,?_⟩⟩
   repeat' first | exact trivial | exact rfl | exact Iff.rfl | refine And.intro ?_ ?_
   all_goals exact (show u8P (flashL (l.take k)) ++ u8P (byL i) = u8P (flashL (l.take (k + 1))) by rw [hs,u8Q_app])
  ·rw [if_neg hr,List.append_nil] at hs
   refine ⟨[],no_rl,(bytes_no i hr hio).use (by repeat' first|exact trivial|exact rfl|exact Iff.rfl|exact Or.inl rfl|refine And.intro ?_ ?_) rfl rfl ?_⟩
   refine And.intro (fun h=>absurd h (show ¬ (10 : Int) = 0 by decide)) (fun _=>?_)
   refine .inl ⟨inR_i64 (show _ <= (k : Int) + 1 /\ (k : Int) + 1 <= _ by omega),⟨⟨k + 1,by omega⟩,[some 0,some 1],show l.length - (k + 1) < l.length - k by omega,?_⟩⟩
   repeat' first | exact trivial | exact rfl | exact Iff.rfl | refine And.intro ?_ ?_
   all_goals exact (show u8P (flashL (l.take k)) = u8P (flashL (l.take (k + 1))) by rw [hs])
 ·have h' : ¬ (k : Int) < ((insP l).length : Nat):=h
  rw [el] at h'
  have hkk : l.take k = l:=List.take_of_length_le (by omega)
  have hfl:=flashL_len l
  have efl : (u8P (flashL l)).length = (flashL l).length:=List.length_map ..
  have emo : (u8P more).length = more.length:=List.length_map ..
  have eF : u8P (flashL (l.take k)) ++ u8P more = u8P (flashL l ++ more):=by rw [hkk,u8Q_app]
  have hFl : (flashL l ++ more).length <= 65536:=by rw [List.length_append]; omega
  refine ⟨show (u8P (flashL (l.take k))).length + (u8P more).length <= maxLen by rw [hkk,efl,emo]; unfold maxLen; omega,show ((u8P (flashL (l.take k))).length + (u8P more).length) * 1 <= 140737488355328 by rw [hkk,efl,emo]; omega,?_⟩
  rw [eF]
  generalize flashL l ++ more = F at hFl ⊢
  have eFl : (u8P F).length = F.length:=List.length_map ..
  have hc:=clone_u8 F hFl
  refine ⟨[],no_rl,Spec.enterN gTok P49 100 Tryz.func49 rfl (by kernel_rfl) ?_⟩
  refine fun hm2=>?_
  refine And.intro (fun h=>absurd (show (65536 : Int) < ((u8P F).length : Nat) from h) (by rw [eFl]; omega)) (fun _=>?_)
  refine ⟨[],no_rl,hc.useF [2] rfl (And.intro rfl trivial) rfl rfl ?_⟩
  refine pmakeN_ok gTok ?_
  refine ⟨65536,rfl,rfl,rfl,rfl,by decide,by decide,?_⟩
  rw [show List.replicate 65536 (PV.norm (.lit .u8 0)) = ramL fun _=>0 from ramL_zero]
  refine And.intro ?_ ?_
  ·refine Exists.intro [some 0,some 1,some 2,some 3,some 4] (Exists.intro [(2,.ptr 4 0),(3,.int .i64 0)] (Exists.intro [mdB mdZ,⟨.dyn,5,1,.w,false,[]⟩,⟨.dyn,5,1,.r,true,u8P F⟩,ramB fun _=>0,⟨.loc,150,1,.w,true,[.sl 1 (u8P F),.wref 3]⟩] (And.intro ?_ (And.intro (Nat.le_of_ble_eq_true rfl) ?_))))
   ·repeat' first | exact trivial | exact rfl | exact Iff.rfl | refine And.intro ?_ ?_
   refine And.intro (fun h=>absurd rfl h) (fun _=>?_)
   refine ⟨[],no_rl,Spec.enterN gTok P50 100 Tryz.func50 rfl (by kernel_rfl) ?_⟩
   refine And.intro (fun _=>?_) (fun h0=>?_)
   ·refine Exists.intro [some 0,some 1,some 2,some 3,some 4] (Exists.intro [(4,.val (.pointer none)),(5,.int .i64 11)] (Exists.intro [mdB mdZ,⟨.dyn,5,1,.w,false,[]⟩,⟨.dyn,5,1,.r,true,u8P F⟩,ramB fun _=>0,⟨.loc,150,1,.w,true,[.sl 1 (u8P F),.wref 3]⟩] (And.intro ?_ (And.intro (Nat.le_of_ble_eq_true rfl) ?_))))
    ·repeat' first | exact trivial | exact rfl | exact Iff.rfl | exact not_false | refine And.intro ?_ ?_
    refine And.intro (fun _=>?_) (fun h=>absurd (show ¬ (11 : Int) = 0 by decide) h)
    refine Exists.intro [some 0] (Exists.intro [(6,.val (.pointer none)),(7,.ptr 0 0)] (Exists.intro [mdB mdZ] (And.intro ?_ (And.intro (Nat.le_of_ble_eq_true rfl) ?_))))
    ·repeat' first | exact trivial | exact rfl | exact Iff.rfl | exact not_false | refine And.intro ?_ ?_
    exact ⟨rfl,rfl⟩
   ·have h7 : 7 < wait:=by have : ¬ wait < 0:=h0; omega
    refine And.intro (fun _=>?_) (fun h=>absurd h7 h)
    refine Exists.intro [some 0,some 1,some 2,some 3,some 4] (Exists.intro [(4,.val (.pointer none)),(5,.int .i64 11)] (Exists.intro [mdB mdZ,⟨.dyn,5,1,.w,false,[]⟩,⟨.dyn,5,1,.r,true,u8P F⟩,ramB fun _=>0,⟨.loc,150,1,.w,true,[.sl 1 (u8P F),.wref 3]⟩] (And.intro ?_ (And.intro (Nat.le_of_ble_eq_true rfl) ?_))))
    ·repeat' first | exact trivial | exact rfl | exact Iff.rfl | exact not_false | refine And.intro ?_ ?_
    refine And.intro (fun _=>?_) (fun h=>absurd (show ¬ (11 : Int) = 0 by decide) h)
    refine Exists.intro [some 0] (Exists.intro [(6,.val (.pointer none)),(7,.ptr 0 0)] (Exists.intro [mdB mdZ] (And.intro ?_ (And.intro (Nat.le_of_ble_eq_true rfl) ?_))))
    ·repeat' first | exact trivial | exact rfl | exact Iff.rfl | exact not_false | refine And.intro ?_ ?_
    exact ⟨rfl,rfl⟩
  ·refine And.intro ?_ ?_
   ·refine pmakeN_ok gTok ?_
    refine ⟨65536,rfl,rfl,rfl,rfl,by decide,by decide,?_⟩
    rw [show List.replicate 65536 (PV.norm (.lit .u8 0)) = ramL fun _=>0 from ramL_zero]
    refine ⟨[],no_rl,hc.useF [2] rfl (And.intro rfl trivial) rfl rfl ?_⟩
    exact rfl
   ·first | exact trivial | ((conv=>whnf); exact trivial)
end Go.Proofs.YtnbngokbamifbaaGreatDoor.Pw
set_option linter.unusedVariables false
namespace Go.Proofs.YtnbngokbamifbaaGreatDoor.Pw
open Go Go.RowKit
theorem getD_midC (p b q : List Int) (k : Nat) (h : k < b.length) : (p ++ b ++ q).getD (p.length + k) 0 = b.getD k 0:=by
 rw [List.getD_eq_getElem?_getD,List.getD_eq_getElem?_getD,List.append_assoc,List.getElem?_append_right (by omega),Nat.add_sub_cancel_left,List.getElem?_append_left h]
theorem byL_okAC (i : IN) : BOk (byL i):=by
 intro z hz
 unfold byL at hz
 split at hz <;> simp only [List.mem_append,List.mem_cons,List.not_mem_nil,or_false,false_or] at hz <;> omega
theorem at_midC (p q : List Int) (i : IN) (h : rightV i) (hg : i.regs <= 9223372036854775807) : atI (p ++ byL i ++ q) p.length = i /\ atE (p ++ byL i ++ q) p.length = 0:=by
 have fst:=of_word i h hg
 have bk:=back i h hg
 have wb:=word_bd i
 have tw:=top_wide i h
 have tn:=top_narrow i h
 have f1:=h.1
 unfold U32 at wb
 have g:=getD_midC p (byL i) q
 have el0 : (p ++ byL i ++ q).length = p.length + (byL i).length + q.length:=by rw [List.length_append,List.length_append]
 generalize hb0 : byL i = b at g el0 ⊢
 by_cases h48 : 48 <= i.form
 ·have eb : b = [wordV i / 65536 % 256,wordV i / 16777216 % 256,wordV i % 256,wordV i / 256 % 256]:=by rw [← hb0]; unfold byL; rw [if_pos h48]; rfl
  subst eb
  have el : (p ++ [wordV i / 65536 % 256,wordV i / 16777216 % 256,wordV i % 256,wordV i / 256 % 256] ++ q).length = p.length + 4 + q.length:=el0
  generalize p ++ [wordV i / 65536 % 256,wordV i / 16777216 % 256,wordV i % 256,wordV i / 256 % 256] ++ q = l at g el ⊢
  have g0:=g 0 (by simp)
  have g1:=g 1 (by simp)
  have g2:=g 2 (by simp)
  have g3:=g 3 (by simp)
  have k0 : hN l p.length = wordV i / 65536:=by
   unfold hN
   rw [Nat.add_zero] at g0
   rw [g0,g1]
   show wordV i / 65536 % 256 + wordV i / 16777216 % 256 * 256 = _
   omega
  have k2 : hN l (p.length + 2) = wordV i % 65536:=by
   unfold hN
   rw [g2,g3]
   show wordV i % 256 + wordV i / 256 % 256 * 256 = _
   omega
  have kW : hW l p.length = wordV i:=by unfold hW; rw [k0,k2]; omega
  have hb : ¬ ¬ beginsV (hN l p.length):=by
   have:=tw h48
   rw [k0]; unfold beginsV; omega
  have e : (48 <= i.form) = True:=eq_true h48
  rw [e] at fst
  unfold atI atE
  rw [if_neg (by omega),if_neg hb,if_neg (by omega),if_neg (by omega),if_neg hb,if_neg (by omega),kW,ofI_is fst,ofE_is fst,bk]
  exact ⟨rfl,rfl⟩
 ·have eb : b = [wordV i % 256,wordV i / 256 % 256]:=by rw [← hb0]; unfold byL; rw [if_neg h48]; rfl
  subst eb
  have el : (p ++ [wordV i % 256,wordV i / 256 % 256] ++ q).length = p.length + 2 + q.length:=el0
  generalize p ++ [wordV i % 256,wordV i / 256 % 256] ++ q = l at g el ⊢
  have tn':=tn h48
  have g0:=g 0 (by simp)
  have g1:=g 1 (by simp)
  have k0 : hN l p.length = wordV i:=by
   unfold hN
   rw [Nat.add_zero] at g0
   rw [g0,g1]
   show wordV i % 256 + wordV i / 256 % 256 * 256 = _
   omega
  have hb : ¬ beginsV (hN l p.length):=by rw [k0]; unfold beginsV; omega
  have e : (48 <= i.form) = False:=eq_false h48
  rw [e] at fst
  unfold atI atE
  rw [if_neg (by omega),if_pos hb,if_neg (by omega),if_pos hb,k0,ofI_is fst,ofE_is fst,bk]
  exact ⟨rfl,rfl⟩
theorem fch_at {fl : List Int} {n : Nat} (hn : n % 2 = 0) (hl : fl.length <= 65536) (h : atE fl n = 0) : fchE fl (134217728 + (n : Int)) = 0 /\ fchI fl (134217728 + (n : Int)) = atI fl n:=by
 have e0 : offF (134217728 + (n : Int)) = n:=by unfold offF; omega
 have h2 : ¬ (134217728 + (n : Int)) % 2 ≠ 0:=by omega
 unfold atE at h
 split at h
 ·cases h
 ·rename_i h1
  have f1 : inFl fl (134217728 + (n : Int)) 2:=⟨by omega,by omega⟩
  have k1 : hfE fl (134217728 + (n : Int)) = 0:=by unfold hfE; rw [if_neg h2,if_pos f1]
  have k2 : hfV fl (134217728 + (n : Int)) = hN fl n:=by unfold hfV; rw [if_neg h2,if_pos f1,e0]
  unfold fchE fchI atI
  rw [k1,k2,if_neg (show ¬ (0 : Int) ≠ 0 by decide),if_neg (show ¬ (0 : Int) ≠ 0 by decide),if_neg h1]
  split at h
  ·rename_i hb
   rw [if_pos hb,if_pos hb,if_pos hb]
   exact ⟨h,rfl⟩
  ·rename_i hb
   rw [if_neg hb,if_neg hb,if_neg hb]
   split at h
   ·cases h
   ·rename_i h4
    have ew : IntKind.u32.wrap (134217728 + (n : Int) + 2) = 134217728 + ((n + 2 : Nat) : Int):=by rw [IntKind.wrap_u32']; omega
    have e1 : offF (134217728 + ((n + 2 : Nat) : Int)) = n + 2:=by unfold offF; omega
    have h3 : ¬ (134217728 + ((n + 2 : Nat) : Int)) % 2 ≠ 0:=by omega
    have f2 : inFl fl (134217728 + ((n + 2 : Nat) : Int)) 2:=⟨by omega,by omega⟩
    have k3 : hfE fl (134217728 + ((n + 2 : Nat) : Int)) = 0:=by unfold hfE; rw [if_neg h3,if_pos f2]
    have k4 : hfV fl (134217728 + ((n + 2 : Nat) : Int)) = hN fl (n + 2):=by unfold hfV; rw [if_neg h3,if_pos f2,e1]
    have kh : half2 fl (134217728 + (n : Int)) = hW fl n:=by unfold half2; rw [k2,ew,k4]; rfl
    rw [ew,k3,if_neg (show ¬ (0 : Int) ≠ 0 by decide),if_neg (show ¬ (0 : Int) ≠ 0 by decide),if_neg h4,kh]
    exact ⟨h,rfl⟩
theorem fch_mid (p q : List Int) (i : IN) (h : rightV i) (hi : IOk i) (hp : p.length % 2 = 0) (hl : (p ++ byL i ++ q).length <= 65536) : fchE (p ++ byL i ++ q) (134217728 + (p.length : Int)) = 0 /\ fchI (p ++ byL i ++ q) (134217728 + (p.length : Int)) = i:=by
 have hI:=hi i.regs (by simp [inLs])
 obtain ⟨h1,h2⟩:=at_midC p q i h hI.2
 obtain ⟨h3,h4⟩:=fch_at hp hl h2
 exact ⟨h3,h4.trans h1⟩
theorem updN_bd {w : Nat -> Int} (h : ∀ k,U32 (w k)) (j : Nat) {x : Int} (hx : U32 x) : ∀ k,U32 (updN w j x k):=fun k=>by
 unfold updN; split
 ·exact hx
 ·exact h k
theorem stW_bd {w : Nat -> Int} (h : ∀ k,U32 (w k)) (a : Int) {x : Int} (hx : U32 x) : ∀ k,U32 (stW w a x k):=by
 unfold stW; split
 ·exact updN_bd h _ hx
 ·exact h
theorem pushG_w {x : XS} (hx : XOk x) {w : Nat -> Int} (h : ∀ k,U32 (w k)) (a : Int) : ∀ r k,U32 ((pushG x w a r).1 k)
 | 0,k=>h k
 | r + 1,k=>by
  have ih:=pushG_w hx h a r
  rw [pushG]
  split
  ·exact ih k
  ·split
   ·exact ih k
   ·split
    ·exact ih k
    ·exact stW_bd ih _ (getX_bd hx _) k
theorem doW_bd {m : MS} (hm : MOk m) {x : XS} (hx : XOk x) : ∀ k,U32 (doW m x k):=by
 unfold doW
 split
 ·unfold accW
  split
  ·exact stW_bd hm.w _ (getX_bd hx _)
  ·exact hm.w
 ·split
  ·exact pushG_w hx hm.w _ 15
  ·exact hm.w
open Classical in
theorem stpM_ok {m : MS} (hm : MSOk m) (hc : m.cyc <= 999999999999900) : MSOk (stpM m) /\ m.cyc <= (stpM m).cyc /\ (stpM m).cyc <= m.cyc + 34 /\ (stpE m = 0 -> m.cyc < (stpM m).cyc) /\ (stpM m).wait = m.wait /\ (stpM m).fl = m.fl:=by
 unfold stpM
 split
 ·rename_i hk
  exact ⟨hm,Int.le_refl _,by omega,fun h=>absurd h (by unfold stpE; rw [if_pos hk]; decide),rfl,rfl⟩
 rename_i hk
 split
 ·rename_i hf
  exact ⟨⟨⟨hm.mem.w,hm.mem.fl,hm.mem.len⟩,hm.s,hm.wait,hm.cyc⟩,Int.le_refl _,by show m.cyc <= _; omega,fun h=>absurd h (by unfold stpE; rw [if_neg hk,if_pos hf]; decide),rfl,rfl⟩
 rename_i hf
 obtain ⟨hr,hio⟩:=fch_right (Classical.not_not.1 hf)
 have hx:=startX_ok hm.s hr hio
 have hy:=doX_y hm.mem (startX_y hm.s (fchI m.fl (m.s.R 15))) hx
 have hw:=doW_bd hm.mem hx
 split
 ·rename_i hd
  exact ⟨⟨⟨hw,hm.mem.fl,hm.mem.len⟩,hm.s,hm.wait,hm.cyc⟩,Int.le_refl _,by show m.cyc <= _; omega,fun h=>absurd h (by unfold stpE; rw [if_neg hk,if_neg hf,if_pos hd]; decide),rfl,rfl⟩
 ·have hrg:=rightC_regs hr hio
  have hb : 1 <= stpBase m /\ stpBase m <= 20:=by unfold stpBase; exact base_bd _ _ hy.a hy.b hrg.1 hrg.2
  have hmi : 0 <= stpMiss m /\ stpMiss m <= 2:=by unfold stpMiss; exact fetM_bd _ _ _ _
  have hmw:=mul_bd hmi hm.wait
  have hcy:=hm.cyc
  have e : (stpOk m).cyc = m.cyc + (stpBase m + stpMiss m * m.wait):=rfl
  exact ⟨⟨⟨hw,hm.mem.fl,hm.mem.len⟩,hy.s,hm.wait,by show 0 <= (stpOk m).cyc /\ (stpOk m).cyc <= _; rw [e]; omega⟩,by rw [e]; omega,by rw [e]; omega,fun _=>by rw [e]; omega,rfl,rfl⟩
theorem rs0_ok : RSOk rs0:=⟨fun _=>z_u32,⟨Int.le_refl _,Int.zero_le_ofNat 1⟩,⟨Int.le_refl _,Int.zero_le_ofNat 1⟩,⟨Int.le_refl _,Int.zero_le_ofNat 1⟩,⟨Int.le_refl _,Int.zero_le_ofNat 1⟩⟩
theorem clampS_ok {s : RS} (h : ∀ k,U32 (s.R k)) (hn : 0 <= s.N) (hz : 0 <= s.Z) (hc : 0 <= s.C) (hv : 0 <= s.V) : RSOk (clampS s):=⟨h,by show 0 <= min s.N 1 /\ min s.N 1 <= 1; omega,by show 0 <= min s.Z 1 /\ min s.Z 1 <= 1; omega,by show 0 <= min s.C 1 /\ min s.C 1 <= 1; omega,by show 0 <= min s.V 1 /\ min s.V 1 <= 1; omega⟩
theorem ms0_ok {fl : List Int} {wait : Int} (hb : BOk fl) (hl : fl.length <= 65536) (hw : 0 <= wait /\ wait <= 7) : MSOk (ms0 fl wait):=⟨⟨fun _=>z_u32,hb,hl⟩,rs0_ok,hw,by show 0 <= (0 : Int) /\ (0 : Int) <= _; decide⟩
theorem setM_ok {m : MS} (hm : MSOk m) {s : RS} (h : RSOk (clampS s)) : MSOk (setM m s):=⟨⟨hm.mem.w,hm.mem.fl,hm.mem.len⟩,h,hm.wait,hm.cyc⟩
end Go.Proofs.YtnbngokbamifbaaGreatDoor.Pw
set_option linter.unusedVariables false
namespace Go.Proofs.YtnbngokbamifbaaGreatDoor.Pw
open Go Go.RowKit
def ia1 : IN:=⟨8,0,0,0,0,5,0,0,0,0,0⟩
def ia2 : IN:=⟨31,0,0,14,0,0,0,0,0,0,0⟩
theorem right_ia1 : rightV ia1:=by
 show rightR _ (ruW (shapeV 8))
 rw [show shapeV 8 = 4 by decide,show ruW 4 = {r0U with rd:=1,i1:=255,i2:=1} from rfl]
 refine ⟨by decide,.inl (by decide),.inr (.inr (.inr (by decide))),.inr (.inr (.inr (by decide))),.inr (.inr (.inr (by decide))),.inl (by decide),.inl rfl,.inr (by decide),.inl rfl,.inr ⟨Bool.false_ne_true,rfl,.inl (by decide)⟩,?_⟩
 refine ⟨by decide,by decide,by decide,by decide,?_⟩
 show shapeV 8 = 18 \/ shapeV 8 = 19 \/ shapeV 8 = 20 -> _
 rw [show shapeV 8 = 4 by decide]
 exact fun h=>absurd h (by decide)
theorem right_ia2 : rightV ia2:=by
 show rightR _ (ruW (shapeV 31))
 rw [show shapeV 31 = 7 by decide,show ruW 7 = {r0U with rm:=2} from rfl]
 refine ⟨by decide,.inr (.inr (.inr (by decide))),.inr (.inr (.inr (by decide))),.inr (.inl (by decide)),.inr (.inr (.inr (by decide))),.inl (by decide),.inl rfl,.inl (by decide),.inl rfl,.inr ⟨Bool.false_ne_true,rfl,.inl (by decide)⟩,?_⟩
 refine ⟨by decide,by decide,by decide,by decide,?_⟩
 show shapeV 31 = 18 \/ shapeV 31 = 19 \/ shapeV 31 = 20 -> _
 rw [show shapeV 31 = 7 by decide]
 exact fun h=>absurd h (by decide)
def aF : List Int:=byL ia1 ++ byL ia2
def aS : RS:=⟨upd (upd (fun _=>0) 14 4294967295) 15 134217728,0,0,0,0⟩
def am1 : MS:=setM (ms0 aF 0) aS
theorem len_ia (i : IN) (h : i.form < 48) : (byL i).length = 2:=by unfold byL; rw [if_neg (by omega)]; rfl
theorem aF_len : aF.length = 4:=by unfold aF; rw [List.length_append,len_ia ia1 (by decide),len_ia ia2 (by decide)]
theorem aF_ok : BOk aF:=fun z hz=>(List.mem_append.1 hz).elim (byL_okAC _ z) (byL_okAC _ z)
theorem a_flash : flashL [ia1,ia2] ++ [] = aF:=by
 unfold flashL aF
 rw [List.flatMap_cons,List.flatMap_cons,List.flatMap_nil,if_pos right_ia1,if_pos right_ia2,List.append_nil,List.append_nil]
theorem am1_ok : MSOk am1:=setM_ok (ms0_ok aF_ok (by rw [aF_len]; decide) (by decide)) (clampS_ok (upd_bd (upd_bd (fun _=>z_u32) ⟨by decide,by decide⟩) ⟨by decide,by decide⟩) (by decide) (by decide) (by decide) (by decide))
theorem fch_ia1 : fchE aF 134217728 = 0 /\ fchI aF 134217728 = ia1:=by
 have:=fch_mid [] (byL ia2) ia1 right_ia1 (lit_ok _ (by decide)) rfl (by show aF.length <= _; rw [aF_len]; decide)
 exact this
theorem fch_ia2 : fchE aF 134217730 = 0 /\ fchI aF 134217730 = ia2:=by
 have:=fch_mid (byL ia1) [] ia2 right_ia2 (lit_ok _ (by decide)) (by rw [len_ia ia1 (by decide)]) (by rw [List.append_nil]; show aF.length <= _; rw [aF_len]; decide)
 rw [List.append_nil,len_ia ia1 (by decide)] at this
 exact this
open Classical in
theorem a_step1 : stpE am1 = 0 /\ (stpM am1).kind = 0 /\ (stpM am1).s.R 0 = 5 /\ (stpM am1).s.R 15 = 134217730 /\ (stpM am1).s.R 14 = 4294967295 /\ (stpM am1).cyc = 1 /\ (stpM am1).fl = aF /\ (stpM am1).wait = 0:=by
 have r15 : am1.s.R 15 = 134217728:=rfl
 have hk : ¬ am1.kind ≠ 0:=by decide
 have hf : ¬ fchE am1.fl (am1.s.R 15) ≠ 0:=by rw [r15]; exact fun h=>h fch_ia1.1
 have hI : fchI am1.fl (am1.s.R 15) = ia1:=by rw [r15]; exact fch_ia1.2
 have hd : stpD am1 = 0:=by unfold stpD; rw [hI]; rfl
 have eE : stpE am1 = 0:=by unfold stpE; rw [if_neg hk,if_neg hf,if_neg (by rw [hd]; decide)]
 have eM : stpM am1 = stpOk am1:=by unfold stpM; rw [if_neg hk,if_neg hf,if_neg (by rw [hd]; decide)]
 have eX : stpX am1 = doX am1 (startX am1.s ia1):=by unfold stpX; rw [hI]
 have eB : stpBase am1 = 1:=by unfold stpBase; rw [hI]; exact baseV_0 (by decide)
 rw [eM]
 refine ⟨eE,?_,?_,?_,?_,?_,rfl,rfl⟩
 ·show (stpX am1).kind = 0; rw [eX]; rfl
 ·show (stpX am1).s.R 0 = 5; rw [eX]; rfl
 ·show (stpX am1).s.R 15 = _; rw [eX]; rfl
 ·show (stpX am1).s.R 14 = _; rw [eX]; rfl
 ·show am1.cyc + (stpBase am1 + stpMiss am1 * am1.wait) = 1
  rw [eB,show am1.wait = 0 from rfl,Int.mul_zero]; rfl
open Classical in
theorem a_step2 (m : MS) (hk : m.kind = 0) (h15 : m.s.R 15 = 134217730) (h14 : m.s.R 14 = 4294967295) (hfl : m.fl = aF) (hw : m.wait = 0) : stpE m = 0 /\ (stpM m).kind = 1 /\ (stpM m).code = 0 /\ (stpM m).cyc = m.cyc + 3 /\ (stpM m).s.R 0 = m.s.R 0:=by
 have hk' : ¬ m.kind ≠ 0:=fun h=>h hk
 have hf : ¬ fchE m.fl (m.s.R 15) ≠ 0:=by rw [h15,hfl]; exact fun h=>h fch_ia2.1
 have hI : fchI m.fl (m.s.R 15) = ia2:=by rw [h15,hfl]; exact fch_ia2.2
 have hd : stpD m = 0:=by unfold stpD; rw [hI]; rfl
 have eE : stpE m = 0:=by unfold stpE; rw [if_neg hk',if_neg hf,if_neg (by rw [hd]; decide)]
 have eM : stpM m = stpOk m:=by unfold stpM; rw [if_neg hk',if_neg hf,if_neg (by rw [hd]; decide)]
 have g : getX (startX m.s ia2) 14 = 4294967295:=h14
 have eX : stpX m = { startX m.s ia2 with kind:=1,code:=0 }:=by
  have e1 : stpX m = backX (startX m.s ia2) (getX (startX m.s ia2) 14):=by unfold stpX; rw [hI]; rfl
  rw [e1,g]; unfold backX; rw [if_pos (by decide)]
 have eB : stpBase m = 3:=by unfold stpBase; rw [hI]; exact baseV_2 (by decide)
 rw [eM]
 refine ⟨eE,?_,?_,?_,?_⟩
 ·show (stpX m).kind = 1; rw [eX]
 ·show (stpX m).code = 0; rw [eX]
 ·show m.cyc + (stpBase m + stpMiss m * m.wait) = m.cyc + 3
  rw [eB,hw,Int.mul_zero]; rfl
 ·show (stpX m).s.R 0 = _; rw [eX]; rfl
theorem anc1_pure (a d w c n : Int) : PureF gT 47 [evP a d w c n] (.tup []):=by
 refine Spec.enter gTok P47 100 Tryz.func47 rfl (by kernel_rfl) ?_
 (refine retE ?_; repeat' first|exact trivial|exact rfl|exact Iff.rfl|exact Or.inl rfl|refine And.intro ?_ ?_)
set_option maxHeartbeats 8000000 in
set_option maxRecDepth 100000 in
theorem anchor07_pure : PureF gT 13 [] .tt:=by
 have hb:=built_ok [ia1,ia2] [] 0 (by decide) (by decide) (fun i hi=>by
  rcases List.mem_cons.1 hi with rfl | hi
  ·exact lit_ok _ (by decide)
  ·rcases List.mem_cons.1 hi with rfl | hi
   ·exact lit_ok _ (by decide)
   ·cases hi) (by decide)
 rw [a_flash] at hb
 refine Spec.enter gTok P13 100 Tryz.func13 rfl (by kernel_rfl) ?_
 refine ⟨[],no_rl,Spec.lend (args':=[.sl 11 (insP [ia1,ia2]),.sl 1 (u8P []),.int .i64 0]) [0] rfl (And.intro (Or.inl rfl) (And.intro rfl (And.intro rfl trivial))) rfl (hb.useNews rfl (And.intro rfl (And.intro rfl (And.intro rfl trivial))) rfl ?_)⟩
 refine ⟨[],no_rl,(set_ok (ms0 aF 0) aS).useQ [1,2,3] rfl rfl (by repeat' first|exact trivial|exact rfl|exact Iff.rfl|refine And.intro ?_ ?_) ⟨⟨rfl,rfl⟩,⟨rfl,rfl⟩,⟨rfl,rfl⟩,?_⟩⟩
 refine ⟨[],no_rl,Spec.enter gTok P18 100 Tryz.func18 rfl (by kernel_rfl) ?_⟩
 refine SW.rounds gTok P18 (by kernel_rfl) (N:=60) 4 ?_
 obtain ⟨e1,k1,r0,r15,r14,c1,f1,w1⟩:=a_step1
 have hm2 : MSOk (stpM am1):=(stpM_ok am1_ok (by decide)).1
 obtain ⟨e2,k2,cd2,c2,q0⟩:=a_step2 (stpM am1) k1 r15 r14 f1 w1
 rw [c1] at c2
 rw [r0] at q0
 refine And.intro (fun _=>?_) (fun h=>absurd (show am1.kind = 0 from rfl) h)
 refine And.intro (fun h=>absurd (show 9 <= am1.cyc from h) (by decide)) (fun _=>?_)
 refine ⟨[],no_rl,(step_ok am1 am1_ok).useQ [1,2,3] rfl rfl (by exact ⟨trivial,trivial⟩) ⟨⟨rfl,rfl⟩,⟨rfl,rfl⟩,⟨rfl,rfl⟩,?_⟩⟩
 refine And.intro (fun h=>absurd e1 h) (fun _=>?_)
 refine ⟨[],no_rl,(anc1_pure (evA am1) (evD am1) (evW am1) (evC am1) (evN am1)).use (by repeat' first|exact trivial|exact rfl|exact Iff.rfl|exact Or.inl rfl|refine And.intro ?_ ?_) rfl rfl ?_⟩
 refine And.intro (fun _=>?_) (fun h=>absurd k1 h)
 refine And.intro (fun h=>absurd (show 9 <= (stpM am1).cyc from h) (by rw [c1]; decide)) (fun _=>?_)
 refine ⟨[],no_rl,(step_ok (stpM am1) hm2).useQ [1,2,3] rfl rfl (by exact ⟨trivial,trivial⟩) ⟨⟨rfl,rfl⟩,⟨rfl,rfl⟩,⟨rfl,rfl⟩,?_⟩⟩
 refine And.intro (fun h=>absurd e2 h) (fun _=>?_)
 refine ⟨[],no_rl,(anc1_pure (evA (stpM am1)) (evD (stpM am1)) (evW (stpM am1)) (evC (stpM am1)) (evN (stpM am1))).use (by repeat' first|exact trivial|exact rfl|exact Iff.rfl|exact Or.inl rfl|refine And.intro ?_ ?_) rfl rfl ?_⟩
 refine And.intro (fun h=>absurd (show (stpM (stpM am1)).kind = 0 from h) (by rw [k2]; decide)) (fun _=>?_)
 refine And.intro (fun h=>absurd (show (stpM (stpM am1)).kind = 3 from h) (by rw [k2]; decide)) (fun _=>?_)
 refine Exists.intro _ (And.intro (PLe.refl _) ?_)
 refine ⟨[],no_rl,(halt_ok (stpM (stpM am1))).useQ [1,2,3] rfl rfl (by exact ⟨trivial,trivial⟩) ⟨⟨rfl,rfl⟩,⟨rfl,rfl⟩,⟨rfl,rfl⟩,?_⟩⟩
 refine And.intro (fun _=>?_) (fun h=>absurd (show (stpM (stpM am1)).kind = 1 /\ (stpM (stpM am1)).code = 0 /\ True from ⟨k2,cd2,trivial⟩) h)
 refine ⟨[],no_rl,(cycles_ok (stpM (stpM am1))).useQ [1,2,3] rfl rfl (by exact ⟨trivial,trivial⟩) ⟨⟨rfl,rfl⟩,⟨rfl,rfl⟩,⟨rfl,rfl⟩,?_⟩⟩
 refine And.intro (fun _=>?_) (fun h=>absurd (show (stpM (stpM am1)).cyc = 4 from c2) h)
 refine ⟨[],no_rl,(state_ok (stpM (stpM am1))).useQ [1,2,3] rfl rfl (by exact ⟨trivial,trivial⟩) ⟨⟨rfl,rfl⟩,⟨rfl,rfl⟩,⟨rfl,rfl⟩,?_⟩⟩
 refine retE ?_
 exact q0
end Go.Proofs.YtnbngokbamifbaaGreatDoor.Pw
set_option linter.unusedVariables false
namespace Go.Proofs.YtnbngokbamifbaaGreatDoor.Pw
open Go Go.RowKit
structure RSIn (s : RS) : Prop where
 r : ∀ k,U32 (s.R k)
 n : 0 <= s.N
 z : 0 <= s.Z
 c : 0 <= s.C
 v : 0 <= s.V
theorem RSIn.ok {s : RS} (h : RSIn s) : RSOk (clampS s):=clampS_ok h.r h.n h.z h.c h.v
end Go.Proofs.YtnbngokbamifbaaGreatDoor.Pw
set_option linter.unusedVariables false
namespace Go.Proofs.YtnbngokbamifbaaGreatDoor.Pw
open Go Go.RowKit
theorem flashL_ok : ∀ l : List IN,BOk (flashL l)
 | []=>by intro z hz; simp [flashL] at hz
 | i :: l=>by
  have ih:=flashL_ok l
  unfold flashL at ih ⊢
  rw [List.flatMap_cons]
  intro z hz
  rcases List.mem_append.1 hz with h | h
  ·split at h
   ·exact byL_okAC i z h
   ·cases h
  ·exact ih z h
structure RunI (wait : Int) where
 m : MS
 n : Int
 ok : MSOk m
 low : m.cyc <= 4000
 kind : m.kind = 0 \/ m.kind = 1 \/ m.kind = 2
 wait : m.wait = wait
 n0 : 0 <= n
 n1 : n <= m.cyc
abbrev cellB (t : TypeId) (cs : List PV) : PBlk:=⟨.loc,t,1,.w,true,cs⟩
abbrev stD (o : Nat) (m : MS) : List PBlk:=[ramB m.w,cellB 150 [.sl 1 (u8P m.fl),.wref o],cellB 120 (.ptr (o + 1) 0 :: (machB m).cs.tail)]
abbrev stR2 (wait : Int) (s : RS) (F : List Int) (c d : MS) (n sum : Int) (ok : Prop) : List PBlk :=
 [cellB 3 [.int .i64 wait],cellB 42 (rsFs s)] ++ stD 2 c ++ [mdB (md0 F wait),mdB (md0 F wait)] ++ stD 7 d ++ [mdB (md0 F wait),cellB 47 [.ptr 9 0],mdB (md0 F wait),cellB 3 [.int .i64 n],cellB 3 [.int .i64 sum],cellB 4 [.bool ok]]
theorem stpE_0 {m : MS} (h : stpE m = 0) : m.kind = 0 /\ fchE m.fl (m.s.R 15) = 0 /\ stpM m = stpOk m /\ evC m = stpBase m /\ evN m = stpMiss m:=by
 have h0:=h
 unfold stpE at h
 split at h
 ·cases h
 rename_i h1
 split at h
 ·cases h
 rename_i h2
 split at h
 ·cases h
 rename_i h3
 refine ⟨Classical.not_not.1 h1,Classical.not_not.1 h2,?_,?_,?_⟩
 ·unfold stpM; rw [if_neg h1,if_neg h2,if_neg h3]
 ·unfold evC; rw [if_neg (fun h=>h h0)]
 ·unfold evN; rw [if_neg (fun h=>h h0)]
theorem step_kind {m : MS} (hm : MSOk m) (h : stpE m = 0) : (stpM m).kind = 0 \/ (stpM m).kind = 1 \/ (stpM m).kind = 2:=by
 obtain ⟨_,hf,e,_⟩:=stpE_0 h
 obtain ⟨hr,hio⟩:=fch_right hf
 rw [e]
 exact (doX_y hm.mem (startX_y hm.s (fchI m.fl (m.s.R 15))) (startX_ok hm.s hr hio)).k
theorem step_sum {m : MS} (h : stpE m = 0) : m.cyc + (evC m + evN m * m.wait) = (stpM m).cyc:=by
 obtain ⟨_,_,e,e1,e2⟩:=stpE_0 h
 rw [e,e1,e2]
 rfl
open Classical in
theorem step_bd {m : MS} (hm : MSOk m) : 0 <= evC m /\ evC m <= 20 /\ 0 <= evN m * m.wait /\ evN m * m.wait <= 14:=by
 by_cases h : stpE m = 0
 ·obtain ⟨_,hf,_,e1,e2⟩:=stpE_0 h
  obtain ⟨hr,hio⟩:=fch_right hf
  have hrg:=rightC_regs hr hio
  have hy:=doX_y hm.mem (startX_y hm.s (fchI m.fl (m.s.R 15))) (startX_ok hm.s hr hio)
  have hb : 1 <= stpBase m /\ stpBase m <= 20:=by unfold stpBase; exact base_bd _ _ hy.a hy.b hrg.1 hrg.2
  have hmw:=mul_bd (n:=stpMiss m) (by unfold stpMiss; exact fetM_bd _ _ _ _) hm.wait
  rw [e1,e2]
  omega
 ·have e1 : evC m = 0:=by unfold evC; rw [if_pos h]
  have e2 : evN m = 0:=by unfold evN; rw [if_pos h]
  rw [e1,e2,Int.zero_mul]
  decide
theorem step_no {m : MS} (hk : m.kind = 0) (h : stpE m ≠ 0) : stpE m = 10 /\ (stpM m).cyc = m.cyc /\ (stpM m).kind = 3:=by
 have kE : stpE m = if m.kind ≠ 0 then 71 else if fchE m.fl (m.s.R 15) ≠ 0 then 10 else if stpD m ≠ 0 then 10 else 0:=rfl
 have kM : stpM m = if m.kind ≠ 0 then m else if fchE m.fl (m.s.R 15) ≠ 0 then faultM m (fchE m.fl (m.s.R 15)) else if stpD m ≠ 0 then faultM (withW m (doW m (startX m.s (fchI m.fl (m.s.R 15))))) (stpD m) else stpOk m:=rfl
 rw [if_neg (fun x=>x hk)] at kE kM
 by_cases h2 : fchE m.fl (m.s.R 15) ≠ 0
 ·rw [if_pos h2] at kE kM
  rw [kE,kM]
  exact ⟨rfl,rfl,rfl⟩
 rw [if_neg h2] at kE kM
 by_cases h3 : stpD m ≠ 0
 ·rw [if_pos h3] at kE kM
  rw [kE,kM]
  exact ⟨rfl,rfl,rfl⟩
 rw [if_neg h3] at kE
 exact absurd kE h
set_option maxHeartbeats 4000000 in
set_option maxRecDepth 100000 in
theorem run_halted (m : MS) (fuel : Int) (hk : m.kind = 1 \/ m.kind = 2) : Spec gT 18 [.ptr 2 0,.int .i64 fuel,.clo 24 []] (stM m) [] fun y S'=>y = .int .i64 0 /\ S' = stM m:=by
 refine Spec.leS (Spec.enter gTok P18 100 Tryz.func18 rfl (by kernel_rfl) ?_)
 refine SW.loopX gTok P18 (by kernel_rfl) (α:=Unit) (fun _=>[(0,.ptr 2 0),(1,.int .i64 fuel),(2,.clo 24 []),(6,.int .i64 0)]) (fun _=>stM m) (fun _=>0) () 100 [some 0,some 1,some 2] ?_ ?_
 ·repeat' first | exact trivial | exact rfl | exact Iff.rfl | exact not_false | refine And.intro ?_ ?_
 rintro ⟨⟩
 refine And.intro (fun h0=>absurd (show m.kind = 0 from h0) (by omega)) (fun _=>?_)
 refine And.intro (fun h0=>absurd (show m.kind = 3 from h0) (by omega)) (fun _=>?_)
 exact retS (by repeat' first|exact trivial|exact rfl|exact Iff.rfl|refine And.intro ?_ ?_) (by first|exact leSt_same rfl|(repeat' first|exact trivial|exact rfl|exact Iff.rfl|exact not_false|refine And.intro ?_ ?_))
set_option maxHeartbeats 16000000 in
set_option maxRecDepth 100000 in
theorem CoreRuns_pure (l : List IN) (hi : ∀ i ∈ l,IOk i) (wait : Int) (s : RS) (hs : RSIn s) (fuel : Int) : PureF gT 5 [.sl 11 (insP l),.int .i64 wait,rsP s,.int .i64 fuel] .tt:=by
 have el : (insP l).length = l.length:=List.length_map ..
 refine Spec.enter gTok P5 100 Tryz.func5 rfl (by kernel_rfl) ?_
 refine ⟨[],no_rl,anchor07_pure.use (by repeat' first|exact trivial|exact rfl|exact Iff.rfl|exact Or.inl rfl|refine And.intro ?_ ?_) rfl rfl ?_⟩
 refine fun hm=>?_
 refine And.intro (fun _=>?_) (fun h40=>?_)
 ·(refine retE ?_; repeat' first|exact trivial|exact rfl|exact Iff.rfl|exact Or.inl rfl|refine And.intro ?_ ?_)
 refine And.intro (fun _=>?_) (fun h3000=>?_)
 ·(refine retE ?_; repeat' first|exact trivial|exact rfl|exact Iff.rfl|exact Or.inl rfl|refine And.intro ?_ ?_)
 have h40' : ¬ (40 : Int) < ((insP l).length : Nat):=h40
 rw [el] at h40'
 have h3' : ¬ (3000 : Int) < fuel:=h3000
 by_cases hw : 0 <= wait /\ wait <= 7
 ·have hb:=built_ok l [] wait (by omega) (by decide) hi hw
  rw [List.append_nil] at hb
  have hF:=flashL_ok l
  have hFl:=flashL_len l
  have hm0 : MSOk (setM (ms0 (flashL l) wait) s):=setM_ok (ms0_ok hF (by omega) hw) hs.ok
  generalize flashL l = F at hb hF hFl hm0
  refine ⟨[],no_rl,hb.useNews rfl (by repeat' first|exact trivial|exact rfl|exact Iff.rfl|exact Or.inl rfl|refine And.intro ?_ ?_) rfl ?_⟩
  refine ⟨[],no_rl,hb.useNews rfl (by repeat' first|exact trivial|exact rfl|exact Iff.rfl|exact Or.inl rfl|refine And.intro ?_ ?_) rfl ?_⟩
  refine And.intro (fun h=>absurd h (Int.not_lt.2 hw.1)) (fun _=>?_)
  refine And.intro (fun h=>absurd h (Int.not_lt.2 hw.2)) (fun _=>?_)
  refine ⟨[],no_rl,(set_ok (ms0 F wait) s).useQ [2,3,4] rfl rfl (by repeat' first|exact trivial|exact rfl|exact Iff.rfl|refine And.intro ?_ ?_) ⟨⟨rfl,rfl⟩,⟨rfl,rfl⟩,⟨rfl,rfl⟩,?_⟩⟩
  refine ⟨[],no_rl,(set_ok (ms0 F wait) s).useQ [7,8,9] rfl rfl (by repeat' first|exact trivial|exact rfl|exact Iff.rfl|refine And.intro ?_ ?_) ⟨⟨rfl,rfl⟩,⟨rfl,rfl⟩,⟨rfl,rfl⟩,?_⟩⟩
  refine ⟨[],no_rl,?_⟩
  refine Spec.enter gTok P18 100 Tryz.func18 rfl (by kernel_rfl) ?_
  refine SW.loopX gTok P18 (by kernel_rfl) (α:=RunI wait) (fun _=>[(0,.ptr 4 0),(1,.int .i64 fuel),(2,.clo 19 [.ptr 11 0,.ptr 15 0,.ptr 14 0,.ptr 0 0,.ptr 13 0]),(6,.int .i64 0)]) (fun x=>stR2 wait s F x.m x.m x.n x.m.cyc True) (fun x=>(fuel - x.m.cyc).toNat) ⟨setM (ms0 F wait) s,0,hm0,show (0 : Int) <= 4000 by decide,.inl rfl,rfl,Int.le_refl _,Int.le_refl 0⟩ 100 [some 0,some 1,some 2,some 3,some 4,some 5,some 6,some 7,some 8,some 9,some 10,some 11,some 12,some 13,some 14,some 15] ?_ ?_
  ·repeat' first | exact trivial | exact rfl | exact Iff.rfl | exact not_false | refine And.intro ?_ ?_
   all_goals trace_state
   all_goals sorry
  rintro ⟨m,n,hm,hc,hk,hwt,hn0,hn1⟩
  refine And.intro (fun hk0=>?_) (fun hk1=>?_)
  ·have hk0' : m.kind = 0:=hk0
   refine And.intro (fun hf=>?_) (fun hf=>?_)
   ·refine Exists.intro _ (And.intro (PLe.refl _) ?_)
    refine And.intro (fun h=>absurd trivial h) (fun _=>?_)
    refine ⟨[],no_rl,(cycles_ok m).useQ [2,3,4] rfl rfl (by exact ⟨trivial,trivial⟩) ⟨⟨rfl,rfl⟩,⟨rfl,rfl⟩,⟨rfl,rfl⟩,?_⟩⟩
    refine And.intro (fun h=>absurd rfl h) (fun _=>?_)
    refine ⟨[],no_rl,(halt_ok m).useQ [2,3,4] rfl rfl (by exact ⟨trivial,trivial⟩) ⟨⟨rfl,rfl⟩,⟨rfl,rfl⟩,⟨rfl,rfl⟩,?_⟩⟩
    refine And.intro (fun _=>?_) (fun h=>absurd hk0' h)
    refine ⟨[],no_rl,(cycles_ok m).useQ [2,3,4] rfl rfl (by exact ⟨trivial,trivial⟩) ⟨⟨rfl,rfl⟩,⟨rfl,rfl⟩,⟨rfl,rfl⟩,?_⟩⟩
    refine And.intro (fun _=>?_) (fun h=>absurd hf h)
    refine ⟨[],no_rl,(state_ok m).useQ [7,8,9] rfl rfl (by exact ⟨trivial,trivial⟩) ⟨⟨rfl,rfl⟩,⟨rfl,rfl⟩,⟨rfl,rfl⟩,?_⟩⟩
    refine ⟨[],no_rl,(state_ok m).useQ [2,3,4] rfl rfl (by exact ⟨trivial,trivial⟩) ⟨⟨rfl,rfl⟩,⟨rfl,rfl⟩,⟨rfl,rfl⟩,?_⟩⟩
    (refine retE ?_; repeat' first|exact trivial|exact rfl|exact Iff.rfl|exact Or.inl rfl|refine And.intro ?_ ?_)
   ·have hf' : ¬ fuel <= m.cyc:=hf
    refine ⟨[],no_rl,(step_ok m hm).useQ [2,3,4] rfl rfl (by exact ⟨trivial,trivial⟩) ⟨⟨rfl,rfl⟩,⟨rfl,rfl⟩,⟨rfl,rfl⟩,?_⟩⟩
    refine And.intro (fun he=>?_) (fun he=>?_)
    ·refine Exists.intro _ (And.intro (PLe.refl _) ?_)
     obtain ⟨he10,hcy,hk3⟩:=step_no hk0' he
     refine And.intro (fun h=>absurd trivial h) (fun _=>?_)
     refine ⟨[],no_rl,(cycles_ok (stpM m)).useQ [2,3,4] rfl rfl (by exact ⟨trivial,trivial⟩) ⟨⟨rfl,rfl⟩,⟨rfl,rfl⟩,⟨rfl,rfl⟩,?_⟩⟩
     refine And.intro (fun h=>absurd hcy.symm h) (fun _=>?_)
     refine And.intro (fun h=>absurd (show stpE m = 70 from h) (by omega)) (fun _=>?_)
     refine And.intro (fun h=>absurd (show stpE m = 0 from h) he) (fun _=>?_)
     refine ⟨[],no_rl,(step_ok m hm).useQ [7,8,9] rfl rfl (by exact ⟨trivial,trivial⟩) ⟨⟨rfl,rfl⟩,⟨rfl,rfl⟩,⟨rfl,rfl⟩,?_⟩⟩
     refine And.intro (fun _=>?_) (fun h=>absurd he10 h)
     refine And.intro (fun _=>?_) (fun h=>absurd he10 h)
     refine ⟨[],no_rl,(halt_ok (stpM m)).useQ [2,3,4] rfl rfl (by exact ⟨trivial,trivial⟩) ⟨⟨rfl,rfl⟩,⟨rfl,rfl⟩,⟨rfl,rfl⟩,?_⟩⟩
     refine ⟨[],no_rl,(halt_ok (stpM m)).useQ [7,8,9] rfl rfl (by exact ⟨trivial,trivial⟩) ⟨⟨rfl,rfl⟩,⟨rfl,rfl⟩,⟨rfl,rfl⟩,?_⟩⟩
     refine And.intro (fun _=>?_) (fun h=>absurd ⟨rfl,rfl,trivial⟩ h)
     refine ⟨[],no_rl,(halt_ok (stpM m)).useQ [2,3,4] rfl rfl (by exact ⟨trivial,trivial⟩) ⟨⟨rfl,rfl⟩,⟨rfl,rfl⟩,⟨rfl,rfl⟩,?_⟩⟩
     exact retE hk3
    ·refine ⟨[],no_rl,?_⟩
     refine Spec.enter gTok P19 100 Tryz.func19 rfl (by kernel_rfl) ?_
     refine ⟨[],no_rl,(step_ok m hm).useQ [7,8,9] rfl rfl (by exact ⟨trivial,trivial⟩) ⟨⟨rfl,rfl⟩,⟨rfl,rfl⟩,⟨rfl,rfl⟩,?_⟩⟩
     have he' : stpE m = 0:=Classical.not_not.1 he
     have hsum:=step_sum he'
     have hbd:=step_bd hm
     obtain ⟨hM,hc1,hc2,hc3,hw2,_⟩:=stpM_ok hm (by omega)
     have hc3':=hc3 he'
     have hkk:=step_kind hm he'
     rw [hwt] at hsum hbd
     have hmc:=hm.cyc
     refine And.intro (fun _=>?_) (fun h=>absurd trivial h)
     refine And.intro (fun _=>?_) (fun h=>absurd he' h)
     refine .inl ⟨inR_i64 (show _ <= evN m * wait /\ evN m * wait <= _ by omega),?_⟩
     refine .inl ⟨inR_i64 (show _ <= evC m + evN m * wait /\ evC m + evN m * wait <= _ by omega),?_⟩
     refine .inl ⟨inR_i64 (show _ <= m.cyc + (evC m + evN m * wait) /\ m.cyc + (evC m + evN m * wait) <= _ by omega),?_⟩
     refine .inl ⟨inR_i64 (show _ <= n + 1 /\ n + 1 <= _ by omega),?_⟩
     refine Exists.intro _ (And.intro (PLe.refl _) ?_)
     refine ⟨⟨stpM m,n + 1,hM,by omega,hkk,hw2.trans hwt,by omega,by omega⟩,[some 0,some 1,some 2,some 3,some 4,some 5,some 6,some 7,some 8,some 9,some 10,some 11,some 12,some 13,some 14,some 15],show (fuel - (stpM m).cyc).toNat < (fuel - m.cyc).toNat by omega,?_⟩
     repeat' first | exact trivial | exact rfl | exact Iff.rfl | exact not_false | refine And.intro ?_ ?_
     ·exact hsum
     ·exact ⟨fun _=>trivial,fun _=>⟨rfl,rfl,rfl,rfl,rfl,trivial⟩⟩
  ·refine And.intro (fun h3=>?_) (fun h3=>?_)
   ·exact absurd (show m.kind = 3 from h3) (by omega)
   ·have hk1' : ¬ m.kind = 0:=hk1
    have hE : stpE m = 71:=by unfold stpE; rw [if_pos hk1']
    have hM : stpM m = m:=by unfold stpM; rw [if_pos hk1']
    refine Exists.intro _ (And.intro (PLe.refl _) ?_)
    refine And.intro (fun h=>absurd trivial h) (fun _=>?_)
    refine ⟨[],no_rl,(cycles_ok m).useQ [2,3,4] rfl rfl (by exact ⟨trivial,trivial⟩) ⟨⟨rfl,rfl⟩,⟨rfl,rfl⟩,⟨rfl,rfl⟩,?_⟩⟩
    refine And.intro (fun h=>absurd rfl h) (fun _=>?_)
    have hst:=step_ok m hm
    rw [hM] at hst
    refine ⟨[],no_rl,(hst).useQ [2,3,4] rfl rfl (by repeat' first|exact trivial|exact rfl|exact Iff.rfl|refine And.intro ?_ ?_) ⟨⟨rfl,rfl⟩,⟨rfl,rfl⟩,⟨rfl,rfl⟩,?_⟩⟩
    refine And.intro (fun _=>?_) (fun h=>absurd hE h)
    refine ⟨[],no_rl,(halt_ok m).useQ [2,3,4] rfl rfl (by exact ⟨trivial,trivial⟩) ⟨⟨rfl,rfl⟩,⟨rfl,rfl⟩,⟨rfl,rfl⟩,?_⟩⟩
    have hru:=run_halted m fuel (by omega)
    refine And.intro (fun _=>?_) (fun h=>?_)
    ·refine ⟨[],no_rl,(hru).useQ [2,3,4] rfl rfl (by repeat' first|exact trivial|exact rfl|exact Iff.rfl|refine And.intro ?_ ?_) ⟨⟨rfl,rfl⟩,⟨rfl,rfl⟩,⟨rfl,rfl⟩,?_⟩⟩
     (refine retE ?_; repeat' first|exact trivial|exact rfl|exact Iff.rfl|exact Or.inl rfl|refine And.intro ?_ ?_)
    ·refine ⟨[],no_rl,(halt_ok m).useQ [2,3,4] rfl rfl (by exact ⟨trivial,trivial⟩) ⟨⟨rfl,rfl⟩,⟨rfl,rfl⟩,⟨rfl,rfl⟩,?_⟩⟩
     refine And.intro (fun _=>?_) (fun h2=>absurd (show m.kind = 2 by have h' : ¬ m.kind = 1:=h; omega) h2)
     refine ⟨[],no_rl,(hru).useQ [2,3,4] rfl rfl (by repeat' first|exact trivial|exact rfl|exact Iff.rfl|refine And.intro ?_ ?_) ⟨⟨rfl,rfl⟩,⟨rfl,rfl⟩,⟨rfl,rfl⟩,?_⟩⟩
     (refine retE ?_; repeat' first|exact trivial|exact rfl|exact Iff.rfl|exact Or.inl rfl|refine And.intro ?_ ?_)
 ·have hb:=built_no l [] wait (by omega) (by decide) hi hw
  refine ⟨[],no_rl,hb.useNews rfl (by repeat' first|exact trivial|exact rfl|exact Iff.rfl|exact Or.inl rfl|refine And.intro ?_ ?_) rfl ?_⟩
  refine ⟨[],no_rl,hb.useNews rfl (by repeat' first|exact trivial|exact rfl|exact Iff.rfl|exact Or.inl rfl|refine And.intro ?_ ?_) rfl ?_⟩
  refine And.intro (fun h=>?_) (fun h=>?_)
  ·(refine retE ?_; repeat' first|exact trivial|exact rfl|exact Iff.rfl|exact Or.inl rfl|refine And.intro ?_ ?_)
  ·have h' : ¬ wait < 0:=h
   exact retE (leB_tt (show 7 < wait by omega))
end Go.Proofs.YtnbngokbamifbaaGreatDoor.Pw
set_option linter.unusedVariables false
namespace Go.Proofs.YtnbngokbamifbaaGreatDoor.Pw
open Go Go.RowKit
def SArr (n : Nat) (S : PV -> Prop) (x : PV) : Prop:=∃ xs : List PV,xs.length = n /\ (∀ y ∈ xs,S y) /\ x = .agg xs
theorem isL_singles {w : World} {I : Nat -> Prop} {β : Places} : ∀ {xs : List PV} {cs : List Value},xs.length = cs.length -> (∀ (i : Nat) (y : PV) (c : Value),xs[i]? = some y -> cs[i]? = some c -> y.Is w I β c) -> IsL w I xs β cs:=fun {xs cs} hl h =>
 IsL.of hl fun i c hc=>by
  have hlt : i < cs.length:=by rw [← hl]; exact (List.getElem?_eq_some_iff.1 hc).1
  exact ⟨cs[i],List.getElem?_eq_getElem hlt,h i c _ hc (List.getElem?_eq_getElem hlt)⟩
theorem opArr {P : Program} {t e : TypeId} {S : PV -> Prop} {n : Nat} (he : Op P e S) (ht : P.underlying t = some (.array n e)) (hce : P.cellsOf e = 1) (hc : P.cellsOf t = n) (h1 : ∀ y,S y -> y.cells = [y]) : Op P t (SArr n S):=fun {H} ec w base held fuel cs x h hwt=>by
 obtain ⟨xs,m,_,rfl,hl,hxl,hx⟩:=DataW.trod_array ht h
 rw [hc] at hl
 have each : ∀ i,i < n -> ∃ y,S y /\ ∃ c,cs[i]? = some c /\ y.Is w (In w) no c /\ c.oneCell' = true:=fun i hi=>by
  have hxi:=hx i hi
  rw [hce,Nat.mul_one,List.getElem?_eq_getElem (by omega)] at hxi
  obtain ⟨y,hS,_,hy,hyl,hy1⟩:=he ec w base held m _ _ hxi fun k hk=>hwt k (by
   simp only [DataW.weights,ht]
   exact weights_all (List.mem_map.2 ⟨xs[i],List.getElem_mem _,rfl⟩) hk)
  have hci : i < cs.length:=by omega
  have e1 : (cs.drop i).take 1 = [cs[i]]:=by
   rw [List.drop_eq_getElem_cons hci]; rfl
  rw [e1,h1 y hS] at hy
  simp only [IsL,and_true] at hy
  exact ⟨y,hS,cs[i],List.getElem?_eq_getElem hci,hy,hy1 _ (by rw [e1]; simp)⟩
 obtain ⟨ys,hys,hp⟩:=choose_list n each
 refine ⟨.agg ys,⟨ys,hys,fun y hy=>?_,rfl⟩,nofun,isL_singles (by show ys.length = cs.length; omega) fun i y c hy hci=>?_,by rw [hl,hc],fun c hcc=>?_⟩
 ·obtain ⟨i,hi⟩:=List.getElem?_of_mem hy
  exact (hp i y hi).1
 ·obtain ⟨_,c2,hc2,h2,_⟩:=hp i y hy
  rw [hci] at hc2; cases hc2; exact h2
 ·obtain ⟨i,hi⟩:=List.getElem?_of_mem hcc
  have hlt : i < ys.length:=by have:=(List.getElem?_eq_some_iff.1 hi).1; omega
  obtain ⟨_,c2,hc2,_,h2⟩:=hp i ys[i] (List.getElem?_eq_getElem hlt)
  rw [hi] at hc2; cases hc2; exact h2
def SState (x : PV) : Prop:=∃ s : RS,RSIn s /\ x = rsP s
theorem state_dec (x : PV) (h : SAgg [SArr 16 (SInt .u32),SInt .u32,SInt .u32,SInt .u32,SInt .u32] x) : SState x:=by
 obtain ⟨xs,h,rfl⟩:=h
 obtain ⟨_,_,rfl,⟨rs,hr,hall,rfl⟩,h_1⟩:=all2_cons h
 obtain ⟨_,_,rfl,⟨n,bn,rfl⟩,h_2⟩:=all2_cons h_1
 obtain ⟨_,_,rfl,⟨z,bz,rfl⟩,h_3⟩:=all2_cons h_2
 obtain ⟨_,_,rfl,⟨c,bc,rfl⟩,h_4⟩:=all2_cons h_3
 obtain ⟨_,_,rfl,⟨v,bv,rfl⟩,h_5⟩:=all2_cons h_4
 obtain rfl:=all2_nil h_5
 obtain ⟨zs,hz,rfl⟩:=decode (S:=SInt .u32) (enc:=PV.int .u32) (ok:=U32) (fun x ⟨z,hz,e⟩=>⟨z,inR_u32c hz,e⟩) rs hall
 rw [List.length_map] at hr
 refine ⟨⟨fun k=>zs.getD k 0,n,z,c,v⟩,⟨fun k=>?_,(inR_u32c bn).1,(inR_u32c bz).1,(inR_u32c bc).1,(inR_u32c bv).1⟩,?_⟩
 ·show U32 (zs.getD k 0)
  rw [List.getD_eq_getElem?_getD]
  cases e : zs[k]? with
  | none=>exact z_u32
  | some y=>exact hz y (List.mem_of_getElem? e)
 ·match zs,hr with
  | [a0,a1,a2,a3,a4,a5,a6,a7,a8,a9,a10,a11,a12,a13,a14,a15],_=>rfl
theorem opState_ : Op Tryz.prog 42 (SAgg [SArr 16 (SInt .u32),SInt .u32,SInt .u32,SInt .u32,SInt .u32]) :=
 opAgg (Ss:=[SArr 16 (SInt .u32),SInt .u32,SInt .u32,SInt .u32,SInt .u32]) Tryz.underlying42
  ⟨rfl,opArr opU32c Tryz.underlying40 (by kernel_rfl) (by kernel_rfl) SInt.cell,(show _ = _ by kernel_rfl),opU32c,(show _ = _ by kernel_rfl),opU32c,(show _ = _ by kernel_rfl),opU32c,(show _ = _ by kernel_rfl),opU32c,(show _ = _ by kernel_rfl)⟩
theorem opState : Op Tryz.prog 42 SState:=opState_.weak state_dec
theorem opState_agg (y : PV) (h : SState y) : ∃ xs,y = .agg xs:=by
 obtain ⟨s,_,rfl⟩:=h; exact ⟨_,rfl⟩
end Go.Proofs.YtnbngokbamifbaaGreatDoor.Pw
set_option linter.unusedVariables false
namespace Go.Proofs.YtnbngokbamifbaaGreatDoor.Pw
open Go Go.RowKit
theorem opIns : Op Tryz.prog 46 (SLs 11 88 inP IOk) :=
 opList (opSlice opIN 11 88 (by kernel_rfl) Tryz.underlying46 (by kernel_rfl) (by decide) (by kernel_rfl)) fun x ⟨a,h,e⟩=>⟨a,h,e⟩
theorem CoreRuns_pure' (x : PV) (sx : SLs 11 88 inP IOk x) (y : PV) (sy : SInt .i64 y) (z : PV) (sz : SState z) (u : PV) (su : SInt .i64 u) : PureF gT 5 [x,y,z,u] .tt:=by
 obtain ⟨l,_,hl,rfl⟩:=sx
 obtain ⟨w,hw,rfl⟩:=sy
 obtain ⟨r,hr,rfl⟩:=sz
 obtain ⟨n,hn,rfl⟩:=su
 exact CoreRuns_pure l hl w r hr n
end Go.Proofs.YtnbngokbamifbaaGreatDoor.Pw

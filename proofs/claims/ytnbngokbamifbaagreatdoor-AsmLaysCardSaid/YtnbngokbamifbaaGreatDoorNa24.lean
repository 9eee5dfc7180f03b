/- What a law is proved with. -/
import Derived.Test.YtnbngokbamifbaaGreatDoorNa23
import Derived.Test.YtnbngokbamifbaaGreatDoorNa12
import Derived.Test.YtnbngokbamifbaaGreatDoorRows
import Derived.Test.YtnbngokbamifbaaGreatDoorNa22
import Derived.ProofKit
import Derived.LaidMore
import Derived.OpenShut
import Derived.Stop.Joined
import Derived.Lib.LaidTab
import Derived.Test.YtnbngokbamifbaaGreatDoorNa14
set_option linter.unusedVariables false
set_option linter.unusedSimpArgs false
set_option linter.unusedVariables false
namespace Go.Proofs.YtnbngokbamifbaaGreatDoor.Pw
open Go Go.RowKit
theorem lkM_bd {L : List (Int × Int)} {B : Int} (hB : 0 <= B) (h : ∀ p ∈ L,0 <= p.2 /\ p.2 <= B) (k : Int) : 0 <= lkM L k /\ lkM L k <= B:=by
 unfold lkM
 have key : ∀ (L : List (Int × Int)) (a : Int),(∀ p ∈ L,0 <= p.2 /\ p.2 <= B) -> 0 <= a /\ a <= B -> 0 <= L.foldl (fun a x=>if x.1 = k then x.2 else a) a /\ L.foldl (fun a x=>if x.1 = k then x.2 else a) a <= B:=by
  intro L
  induction L with
  | nil=>intro a _ h; exact h
  | cons p L ih =>
   intro a h ha
   rw [List.foldl_cons]
   refine ih _ (fun q hq=>h q (by simp [hq])) ?_
   split
   ·exact h p (by simp)
   ·exact ha
 exact key L 0 h ⟨Int.le_refl 0,hB⟩
theorem marksT_bd {l : List AI} {W : List Bool} (hW : W.length = l.length) (hI : ∀ x ∈ l,ItOk x) (hl : l.length <= 10000) {i : Nat} (hi : i <= l.length) : ∀ p ∈ marksT l W i,0 <= p.2 /\ p.2 <= 1000000:=fun p hp=>by
 obtain ⟨j,x,hj,_,_,rfl⟩:=marksT_mem hp
 have:=atA_bd hW hI j (by omega)
 show 0 <= atA l W j /\ atA l W j <= 1000000
 omega
def chgN (l : List AI) (W : List Bool) (i : Nat) : Int:=((W.take i).count false : Nat) - (((nextA l W).take i).count false : Nat)
theorem count_step {V : List Bool} {i : Nat} {v : Bool} (h : V[i]? = some v) : (V.take (i + 1)).count false = (V.take i).count false + (if v then 0 else 1):=by
 rw [List.take_add_one,h,List.count_append]
 cases v <;> simp
theorem chg_step {l : List AI} {W : List Bool} {i : Nat} {v w : Bool} (hv : (nextA l W)[i]? = some v) (hw : W[i]? = some w) : chgN l W (i + 1) = chgN l W i + ((if w then 0 else 1) - (if v then 0 else 1)):=by
 unfold chgN
 rw [count_step hv,count_step hw]
 cases v <;> cases w <;> simp <;> omega
theorem chg_bd {l : List AI} {W : List Bool} (i : Nat) : -(i : Int) <= chgN l W i /\ chgN l W i <= i:=by
 unfold chgN
 have h1 : (W.take i).count false <= i:=Nat.le_trans List.count_le_length (by rw [List.length_take]; omega)
 have h2 : ((nextA l W).take i).count false <= i:=Nat.le_trans List.count_le_length (by rw [List.length_take]; omega)
 omega
theorem chg_end {l : List AI} {W : List Bool} (hl : W.length = l.length) {i : Nat} (hi : l.length <= i) : chgN l W i = (narrowN W : Int) - (narrowN (nextA l W) : Int):=by
 unfold chgN narrowN
 rw [List.take_of_length_le (by omega),List.take_of_length_le (by rw [nextA_len hl]; omega)]
set_option maxHeartbeats 4000000 in
set_option maxRecDepth 10000 in
theorem widen_runs {l : List AI} {W : List Bool} {e : Int} {L : List (Int × Int)} (hW : W.length = l.length) (hr : ∀ x ∈ l,rightA x) (hc : ∀ x ∈ l,x.kind = 2 -> cntA l x.label = 1) (hl : l.length <= 10000) (hL : ∀ p ∈ L,0 <= p.2 /\ p.2 <= 1000000) :
  RunsA 39 [.ptr 5 0] (sLy l W (atsA l W) (szsA l W) e (L ++ marksT l W l.length)) (.int .i64 ((narrowN W : Int) - (narrowN (nextA l W) : Int))) (sLy l (nextA l W) (atsA l W) (szsA l W) e (L ++ marksT l W l.length)):=by
 have hI : ∀ x ∈ l,ItOk x:=fun x hx=>rightA_it (hr x hx)
 have el : (l.map aiP).length = l.length:=List.length_map ..
 have hV:=nextA_len hW
 have hO : OffB (L ++ marksT l W l.length):=lkM_bd (by decide) fun p hp=>(List.mem_append.1 hp).elim (hL p) (marksT_bd hW hI hl (Nat.le_refl _) p)
 refine Spec.leS (Spec.enter gTok P39 100 Tryz.func39 rfl (by kernel_rfl) ?_)
 refine fun hm=>?_
 refine SW.loopX gTok P39 (by kernel_rfl) (fun i : Nat=>[(0,.ptr 5 0),(3,.int .i64 (chgN l W i)),(9,.sl 15 (l.map aiP)),(10,.int .i64 (l.map aiP).length),(11,.int .i64 i)]) (fun i=>sLy l (mixL (nextA l W) W i) (atsA l W) (szsA l W) e (L ++ marksT l W l.length)) (fun i=>l.length - i) 0 60 [some 0,some 1,some 2,some 3,some 4,some 5] ?_ fun i=>?_
 ·repeat' first | exact trivial | exact rfl | exact Iff.rfl | refine And.intro ?_ ?_
  all_goals exact (show intsP (wI W) = intsP (wI (mixL (nextA l W) W 0)) by rw [mix_none])
 refine And.intro (fun h=>?_) (fun h=>?_)
 ·have h' : (i : Int) < ((l.map aiP).length : Nat):=h
  rw [el] at h'
  refine ⟨AI,l,aiP,rfl,show (0 : Int) <= (i : Int) by omega,show (i : Int) < (l.length : Int) by omega,fun x hx=>?_⟩
  have hx' : l[i]? = some x:=hx
  have hw' : W[i]? = some W[i]:=List.getElem?_eq_getElem (by omega)
  have hxm:=List.mem_of_getElem? hx'
  have hrx:=hr x hxm
  have b1:=atA_bd hW hI i (by omega)
  have hv':=nextA_get hx' hw'
  have cs:=chg_step hv' hw'
  have cb:=chg_bd (l:=l) (W:=W) i
  have hml:=mix_len (hV.trans hW.symm) i
  have hmg:=mix_at (hV.trans hW.symm) hw'
  refine And.intro (fun hk=>?_) (fun hk=>?_)
  ·have hk' : x.kind = 2:=hk
   have hq:=(rightA_2 hk').1 hrx
   have hrc:=reaches_runs (W:=mixL (nextA l W) W i) (at_:=atsA l W) (sz:=szsA l W) (e:=e) (L:=L ++ marksT l W l.length) hx' hq.2.2.2 hq.2.2.1.1 (atsA_get (by omega)) (by omega) hO
   rw [lk_far L (hc x hxm hk')] at hrc
   generalize hfr : farA l W i x = fr at *
   have hnb : nextB l W i x W[i] = (W[i] || !shortA x.cond fr):=by unfold nextB; rw [decide_eq_true hk',hfr]; simp
   generalize W[i] = w at *
   refine ⟨show (0 : Int) <= (i : Int) by omega,show (i : Int) < ((intsP (wI (mixL (nextA l W) W i))).length : Nat) by rw [intsP_len,wI_len,hml]; omega,Int,wI (mixL (nextA l W) W i),PV.int .i64,rfl,show (i : Int).toNat < (wI (mixL (nextA l W) W i)).length by rw [wI_len,hml]; omega,fun v hv=>?_⟩
   obtain rfl : (if w then 1 else 0) = v:=Option.some.inj ((wI_get hmg).symm.trans hv)
   refine And.intro (fun h0=>?_) (fun h0=>?_)
   ·have hw0 : w = false:=by cases w <;> simp at h0 ⊢
    subst hw0
    refine ⟨[],no_rl,hrc.useS rfl rfl rfl rfl (by repeat' first|exact trivial|exact rfl|exact Iff.rfl|refine And.intro ?_ ?_) (And.intro (by repeat' first|exact trivial|exact rfl|exact Iff.rfl|refine And.intro ?_ ?_) (And.intro (by repeat' first|exact trivial|exact rfl|exact Iff.rfl|refine And.intro ?_ ?_) (And.intro (by repeat' first|exact trivial|exact rfl|exact Iff.rfl|refine And.intro ?_ ?_) (And.intro (by repeat' first|exact trivial|exact rfl|exact Iff.rfl|refine And.intro ?_ ?_) (And.intro (by repeat' first|exact trivial|exact rfl|exact Iff.rfl|refine And.intro ?_ ?_) (And.intro (by repeat' first|exact trivial|exact rfl|exact Iff.rfl|refine And.intro ?_ ?_) ?_))))))⟩
    refine And.intro (fun hns=>?_) (fun hns=>?_)
    ·have hns' : ¬ shortA x.cond fr = true:=hns
     have hvt : nextB l W i x false = true:=by rw [hnb]; simpa using hns'
     rw [hvt] at hv' cs
     have e1 : chgN l W (i + 1) = chgN l W i + 1:=by rw [cs]; simp
     refine ⟨show (0 : Int) <= (i : Int) by omega,show (i : Int) < ((intsP (wI (mixL (nextA l W) W i))).length : Nat) by rw [intsP_len,wI_len,hml]; omega,show (i : Int).toNat < (intsP (wI (mixL (nextA l W) W i))).length by rw [intsP_len,wI_len,hml]; omega,?_⟩
     refine .inl ⟨inR_i64 (show _ <= chgN l W i + 1 /\ chgN l W i + 1 <= _ by omega),?_⟩
     refine .inl ⟨inR_i64 (show _ <= (i : Int) + 1 /\ (i : Int) + 1 <= _ by omega),⟨i + 1,[some 0,some 1,some 2,some 3,some 4,some 5],by omega,?_⟩⟩
     repeat' first | exact trivial | exact rfl | exact Iff.rfl | refine And.intro ?_ ?_
     all_goals first | exact (show chgN l W i + 1 = chgN l W (i + 1) by rw [e1]) | exact (show (intsP (wI (mixL (nextA l W) W i))).set i (.int .i64 1) = intsP (wI (mixL (nextA l W) W (i + 1))) by rw [← mix_set (hV.trans hW.symm) hv']; unfold wI intsP; rw [List.map_set,List.map_set]; rfl)
    ·have hns' : shortA x.cond fr = true:=Classical.not_not.1 hns
     have hsame : nextB l W i x false = false:=by rw [hnb]; simp [hns']
     rw [hsame] at hv' cs
     have e1 : chgN l W (i + 1) = chgN l W i:=by rw [cs]; omega
     have e2:=mix_same (hV.trans hW.symm) hw' hv'
     refine .inl ⟨inR_i64 (show _ <= (i : Int) + 1 /\ (i : Int) + 1 <= _ by omega),⟨i + 1,[some 0,some 1,some 2,some 3,some 4,some 5],by omega,?_⟩⟩
     repeat' first | exact trivial | exact rfl | exact Iff.rfl | refine And.intro ?_ ?_
     all_goals first | exact (show chgN l W i = chgN l W (i + 1) by rw [e1]) | exact (show intsP (wI (mixL (nextA l W) W i)) = intsP (wI (mixL (nextA l W) W (i + 1))) by rw [e2])
   ·have hw0 : w = true:=by cases w <;> simp at h0 ⊢
    subst hw0
    have hsame : nextB l W i x true = true:=by rw [hnb]; rfl
    rw [hsame] at hv' cs
    have e1 : chgN l W (i + 1) = chgN l W i:=by rw [cs]; omega
    have e2:=mix_same (hV.trans hW.symm) hw' hv'
    refine .inl ⟨inR_i64 (show _ <= (i : Int) + 1 /\ (i : Int) + 1 <= _ by omega),⟨i + 1,[some 0,some 1,some 2,some 3,some 4,some 5],by omega,?_⟩⟩
    repeat' first | exact trivial | exact rfl | exact Iff.rfl | refine And.intro ?_ ?_
    all_goals first | exact (show chgN l W i = chgN l W (i + 1) by rw [e1]) | exact (show intsP (wI (mixL (nextA l W) W i)) = intsP (wI (mixL (nextA l W) W (i + 1))) by rw [e2])
  ·have hk' : ¬ x.kind = 2:=hk
   have hsame : nextB l W i x W[i] = W[i]:=by unfold nextB; rw [decide_eq_false hk']; simp
   rw [hsame] at hv' cs
   have e1 : chgN l W (i + 1) = chgN l W i:=by rw [cs]; omega
   have e2:=mix_same (hV.trans hW.symm) hw' hv'
   refine .inl ⟨inR_i64 (show _ <= (i : Int) + 1 /\ (i : Int) + 1 <= _ by omega),⟨i + 1,[some 0,some 1,some 2,some 3,some 4,some 5],by omega,?_⟩⟩
   repeat' first | exact trivial | exact rfl | exact Iff.rfl | refine And.intro ?_ ?_
   all_goals first | exact (show chgN l W i = chgN l W (i + 1) by rw [e1]) | exact (show intsP (wI (mixL (nextA l W) W i)) = intsP (wI (mixL (nextA l W) W (i + 1))) by rw [e2])
 ·have h' : ¬ (i : Int) < ((l.map aiP).length : Nat):=h
  rw [el] at h'
  rw [mix_all (hV.trans hW.symm) (show W.length <= i by omega),chg_end hW (show l.length <= i by omega)]
  (refine retS (by repeat' first | exact trivial | exact rfl | exact Iff.rfl | refine And.intro ?_ ?_) ?_; repeat' first|exact trivial|exact rfl|exact Iff.rfl|refine And.intro ?_ ?_)
end Go.Proofs.YtnbngokbamifbaaGreatDoor.Pw
namespace Go.Proofs.YtnbngokbamifbaaGreatDoor.Pw
open Go Go.RowKit
theorem Op.argS {P : Program} {t : TypeId} {S : PV -> Prop} (h : Op P t S) (hS : ∀ y,S y -> ∃ xs,y = .agg xs) {H : Type} {ec : TypeId × Value -> H} {w : World} {base : Nat} {held : Bool} {vs : Array Value} {d : DataW H} {p : List MemPlace} (ht : DataW.Trod ec P w base (fun _=>true) held t (.agg vs) d p) (hwt : ∀ n ∈ d.weights P t,n <= reachBytes) :
  ∃ y,S y /\ y.Is w (In w) no (.agg vs):=by
 obtain ⟨fuel,ht⟩:=ht
 obtain ⟨y,hy,_,hi,_⟩:=h ec w base held fuel _ _ ht hwt
 refine ⟨y,hy,?_⟩
 obtain ⟨xs,rfl⟩:=hS y hy
 simp only [PV.Is]
 exact ⟨vs,rfl,hi⟩
end Go.Proofs.YtnbngokbamifbaaGreatDoor.Pw
namespace Go.Proofs.YtnbngokbamifbaaGreatDoor.codeLaid
open Go.ChangeShapes Go.WideShapes Go.ChangeAt Go.RowKit Go.Deep
def laidList : List (String × DataW Unit):=[("remontoire/imm.factors",Rows.laid_remontoire_imm_factors),("remontoire/inst.shapes",Rows.laid_remontoire_inst_shapes)]
def fuel : Nat:=3000
theorem door_met (os : Os) (args : Array Value) : laidMetH Tryz.prog laidList ((World.doorLaid Tryz.prog fuel os).forCall (fun _ _=>0) ⟨#[],args,[]⟩).memory :=
 laidMetH_of_parts3 (fuel:=8) (laidMet_of_run' 8 (by kernel_rfl) (by kernel_rfl)) (by kernel_rfl) (by kernel_rfl)
end Go.Proofs.YtnbngokbamifbaaGreatDoor.codeLaid
namespace Go.Proofs.YtnbngokbamifbaaGreatDoor.Pw
open Go Go.RowKit
theorem immCode {W : World} (h : laidMetH Tryz.prog codeLaid.laidList W) : ImmOk gT (In W) W :=
 immOk_laid (laid:=codeLaid.laidList) (by kernel_rfl) h fun x hx=>by
  have hx' : x ∈ [(1,facP),(0,shP)]:=hx
  simp only [List.mem_cons,List.not_mem_nil,or_false] at hx'
  rcases hx' with rfl | rfl
  ·exact ⟨"remontoire/imm.factors",_,221,List.mem_cons_self,by kernel_rfl,by kernel_rfl,by kernel_rfl,nofun⟩
  ·exact ⟨"remontoire/inst.shapes",_,237,List.mem_cons_of_mem _ List.mem_cons_self,by kernel_rfl,by kernel_rfl,by kernel_rfl,nofun⟩
theorem inR_i64c {z : Int} (h : InR .i64 z) : I64 z:=by unfold InR Ev.kmin Ev.kmax at h; simp only [IntKind.signed,IntKind.bits] at h; unfold I64; simpa using h
theorem opI64c : Op Tryz.prog 3 (SInt .i64):=opInt Tryz.underlying3 (by kernel_rfl)
theorem opIN_ : Op Tryz.prog 76 (SAgg (List.replicate 11 (SInt .i64))) :=
 opAgg (Ss:=List.replicate 11 (SInt .i64)) Tryz.underlying76
  ⟨rfl,opInt Tryz.underlying74 (by kernel_rfl),(show _ = _ by kernel_rfl),opI64c,(show _ = _ by kernel_rfl),opI64c,(show _ = _ by kernel_rfl),opI64c,(show _ = _ by kernel_rfl),opI64c,(show _ = _ by kernel_rfl),opI64c,(show _ = _ by kernel_rfl),opI64c,(show _ = _ by kernel_rfl),opI64c,(show _ = _ by kernel_rfl),opI64c,(show _ = _ by kernel_rfl),opI64c,(show _ = _ by kernel_rfl),opI64c,(show _ = _ by kernel_rfl)⟩
theorem in_dec (x : PV) (h : SAgg (List.replicate 11 (SInt .i64)) x) : ∃ i : IN,IOk i /\ x = inP i:=by
 obtain ⟨xs,h,rfl⟩:=h
 obtain ⟨_,_,rfl,⟨a0,b0,rfl⟩,h_1⟩:=all2_cons (S:=SInt .i64) (Ss:=List.replicate 10 (SInt .i64)) h
 obtain ⟨_,_,rfl,⟨a1,b1,rfl⟩,h_2⟩:=all2_cons (S:=SInt .i64) (Ss:=List.replicate 9 (SInt .i64)) h_1
 obtain ⟨_,_,rfl,⟨a2,b2,rfl⟩,h_3⟩:=all2_cons (S:=SInt .i64) (Ss:=List.replicate 8 (SInt .i64)) h_2
 obtain ⟨_,_,rfl,⟨a3,b3,rfl⟩,h_4⟩:=all2_cons (S:=SInt .i64) (Ss:=List.replicate 7 (SInt .i64)) h_3
 obtain ⟨_,_,rfl,⟨a4,b4,rfl⟩,h_5⟩:=all2_cons (S:=SInt .i64) (Ss:=List.replicate 6 (SInt .i64)) h_4
 obtain ⟨_,_,rfl,⟨a5,b5,rfl⟩,h_6⟩:=all2_cons (S:=SInt .i64) (Ss:=List.replicate 5 (SInt .i64)) h_5
 obtain ⟨_,_,rfl,⟨a6,b6,rfl⟩,h_7⟩:=all2_cons (S:=SInt .i64) (Ss:=List.replicate 4 (SInt .i64)) h_6
 obtain ⟨_,_,rfl,⟨a7,b7,rfl⟩,h_8⟩:=all2_cons (S:=SInt .i64) (Ss:=List.replicate 3 (SInt .i64)) h_7
 obtain ⟨_,_,rfl,⟨a8,b8,rfl⟩,h_9⟩:=all2_cons (S:=SInt .i64) (Ss:=List.replicate 2 (SInt .i64)) h_8
 obtain ⟨_,_,rfl,⟨a9,b9,rfl⟩,h_10⟩:=all2_cons (S:=SInt .i64) (Ss:=List.replicate 1 (SInt .i64)) h_9
 obtain ⟨_,_,rfl,⟨a10,b10,rfl⟩,h_11⟩:=all2_cons (S:=SInt .i64) (Ss:=List.replicate 0 (SInt .i64)) h_10
 obtain rfl:=all2_nil h_11
 refine ⟨⟨a0,a1,a2,a3,a4,a5,a6,a7,a8,a9,a10⟩,fun x hx=>?_,rfl⟩
 simp only [inLs,List.mem_cons,List.not_mem_nil,or_false] at hx
 rcases hx with rfl | rfl | rfl | rfl | rfl | rfl | rfl | rfl | rfl | rfl | rfl
 ·exact inR_i64c b0
 ·exact inR_i64c b1
 ·exact inR_i64c b2
 ·exact inR_i64c b3
 ·exact inR_i64c b4
 ·exact inR_i64c b5
 ·exact inR_i64c b6
 ·exact inR_i64c b7
 ·exact inR_i64c b8
 ·exact inR_i64c b9
 ·exact inR_i64c b10
def SIN (x : PV) : Prop:=∃ i : IN,IOk i /\ x = inP i
theorem opIN : Op Tryz.prog 76 SIN:=opIN_.weak in_dec
end Go.Proofs.YtnbngokbamifbaaGreatDoor.Pw
namespace Go.Proofs.YtnbngokbamifbaaGreatDoor.Pw
open Go Go.RowKit
def spanF (l : List (Nat × Nat × Nat × Nat)) : Nat:=l.foldl (fun m x=>max m (x.2.2.1 + x.2.2.2)) 0
theorem spanF_le : ∀ (l : List (Nat × Nat × Nat × Nat)) (m : Nat),m <= l.foldl (fun m x=>max m (x.2.2.1 + x.2.2.2)) m /\ ∀ x ∈ l,x.2.2.1 + x.2.2.2 <= l.foldl (fun m x=>max m (x.2.2.1 + x.2.2.2)) m
 | [],m=>⟨Nat.le_refl _,fun x hx=>by cases hx⟩
 | y :: l,m=>by
  have h:=spanF_le l (max m (y.2.2.1 + y.2.2.2))
  rw [List.foldl_cons]
  refine ⟨by omega,fun x hx=>?_⟩
  rcases List.mem_cons.1 hx with rfl | hx
  ·omega
  ·exact h.2 x hx
theorem orF_lt (i : IN) (k : Nat) : ∀ (l : List (Nat × Nat × Nat × Nat)) (V : Nat),V < 2 ^ k -> (∀ x ∈ l,x.2.2.1 + x.2.2.2 <= k) -> l.foldl (fun w x=>w ||| B (getV i x.1) x.2.1 x.2.2.2 x.2.2.1) V < 2 ^ k
 | [],V,h,_=>h
 | x :: l,V,h,hl=>by
  rw [List.foldl_cons]
  refine orF_lt i k l _ (Nat.or_lt_two_pow h ?_) fun y hy=>hl y (List.mem_cons_of_mem _ hy)
  have b:=bitsV_bd (getV i x.1) x.2.1 x.2.2.2
  have e:=pow_cast x.2.2.2
  have h1 : (bitsV (getV i x.1) x.2.1 x.2.2.2).toNat < 2 ^ x.2.2.2:=by omega
  unfold B
  rw [Nat.shiftLeft_eq]
  calc (bitsV (getV i x.1) x.2.1 x.2.2.2).toNat * 2 ^ x.2.2.1 < 2 ^ x.2.2.2 * 2 ^ x.2.2.1:=Nat.mul_lt_mul_of_pos_right h1 (Nat.two_pow_pos _)
   _ = 2 ^ (x.2.2.2 + x.2.2.1):=(Nat.pow_add ..).symm
   _ <= 2 ^ k:=Nat.pow_le_pow_right (by omega) (by have:=hl x (List.mem_cons_self ..); omega)
theorem or_top_same (a b k : Nat) (h : b < 2 ^ k) : a ||| b < (a / 2 ^ k + 1) * 2 ^ k:=by
 have e : (a ||| b) / 2 ^ k = a / 2 ^ k:=by
  apply Nat.eq_of_testBit_eq
  intro p
  rw [Nat.testBit_div_two_pow,Nat.testBit_div_two_pow,Nat.testBit_or,Nat.testBit_lt_two_pow (x:=b) (Nat.lt_of_lt_of_le h (Nat.pow_le_pow_right (by decide) (by omega))),Bool.or_false]
 have hp:=Nat.two_pow_pos k
 have h1:=Nat.lt_mul_div_succ (a ||| b) hp
 rw [e,Nat.mul_comm] at h1
 exact h1
theorem narrow_tab : ((List.range 47).all fun k=>decide ((fbN (k + 1) / 2 ^ spanF (fdN (k + 1)) + 1) * 2 ^ spanF (fdN (k + 1)) <= 59392)) = true:=by decide +kernel
theorem wide_tab : ((List.range 53).all fun k=>decide (3892314112 <= fbN (k + 48))) = true:=by decide +kernel
theorem top_narrow (i : IN) (h : rightV i) (hn : ¬ 48 <= i.form) : wordV i < 59392:=by
 have f1:=h.1
 have ef : ((i.form.toNat : Nat) : Int) = i.form:=by omega
 have t:=of_decide_eq_true (List.all_eq_true.1 narrow_tab (i.form.toNat - 1) (List.mem_range.2 (by omega)))
 rw [show i.form.toNat - 1 + 1 = i.form.toNat by omega] at t
 unfold fbN fdN at t
 rw [ef] at t
 have l:=orF_lt (turnI i) (spanF (fieldsV (shapeV i.form))) (fieldsV (shapeV i.form)) 0 (Nat.two_pow_pos _) fun x hx=>(spanF_le _ 0).2 x hx
 have o:=or_top_same (fbV i.form).toNat _ _ l
 have e : wordV i = (((fbV i.form).toNat ||| orF (turnI i) (fieldsV (shapeV i.form)) : Nat) : Int):=word_or i
 rw [e]
 have o2 : ((fbV i.form).toNat ||| orF (turnI i) (fieldsV (shapeV i.form))) < 59392:=Nat.lt_of_lt_of_le o t
 omega
theorem word_bd (i : IN) : U32 (wordV i):=by
 have:=or4_lt (show (fbV i.form).toNat < 4294967296 by have:=fb_bd i.form; omega) (orV_lt i)
 rw [word_or]; unfold U32; omega
theorem top_wide (i : IN) (h : rightV i) (hn : 48 <= i.form) : 3892314112 <= wordV i:=by
 have f1:=h.1
 have ef : ((i.form.toNat : Nat) : Int) = i.form:=by omega
 have t:=of_decide_eq_true (List.all_eq_true.1 wide_tab (i.form.toNat - 48) (List.mem_range.2 (by omega)))
 rw [show i.form.toNat - 48 + 48 = i.form.toNat by omega] at t
 unfold fbN at t
 rw [ef] at t
 have l : (fbV i.form).toNat <= (fbV i.form).toNat ||| orF (turnI i) (fieldsV (shapeV i.form)):=Nat.left_le_or
 rw [word_or]; omega
end Go.Proofs.YtnbngokbamifbaaGreatDoor.Pw
namespace Go.Proofs.YtnbngokbamifbaaGreatDoor.Pw
open Go Go.RowKit
def u8P (l : List Int) : List PV:=l.map (PV.int .u8)
def byL (i : IN) : List Int:=(if 48 <= i.form then [wordV i / 65536 % 256,wordV i / 16777216 % 256] else []) ++ [wordV i % 256,wordV i / 256 % 256]
theorem r24 : Ev.pow2 .u32 24 = 16777216:=by decide
set_option maxHeartbeats 4000000 in
set_option maxRecDepth 100000 in
theorem bytes_yes (i : IN) (h : rightV i) (hI : IOk i) : PureF gT 48 [inP i] (.tup [.sl 1 (u8P (byL i)),.int .i64 0]):=by
 have e0:=IntKind.wrap_u8' (wordV i)
 have e1:=IntKind.wrap_u8' (wordV i / Ev.pow2 .u32 8)
 have e2:=IntKind.wrap_u8' (wordV i / Ev.pow2 .u32 16)
 have e3:=IntKind.wrap_u8' (wordV i / Ev.pow2 .u32 24)
 have p8 : Ev.pow2 .u32 8 = 256:=by decide
 have p16 : Ev.pow2 .u32 16 = 65536:=by decide
 refine Spec.enter gTok P48 100 Tryz.func48 rfl (by kernel_rfl) ?_
 refine ⟨[],no_rl,(word_yes i h hI).use (by repeat' first|exact trivial|exact rfl|exact Iff.rfl|refine And.intro ?_ ?_) rfl rfl ?_⟩
 refine And.intro (fun h=>absurd rfl h) (fun _=>?_)
 refine .inr ?_
 refine ⟨by decide,.inr ?_⟩
 refine ⟨[],no_rl,(form_wide i.form).use (by repeat' first|exact trivial|exact rfl|exact Iff.rfl|refine And.intro ?_ ?_) rfl rfl ?_⟩
 refine And.intro (fun hn=>?_) (fun hn=>?_)
 ·have hn' : ¬ 48 <= i.form:=fun e=>hn ⟨e,h.1.2⟩
  refine retE ?_
  refine And.intro ?_ (And.intro rfl trivial)
  show [PV.int .u8 (IntKind.u8.wrap (wordV i)),.int .u8 (IntKind.u8.wrap (wordV i / Ev.pow2 .u32 8))] = u8P (byL i)
  rw [e0,e1,p8]
  unfold byL u8P; rw [if_neg hn']; rfl
 ·have hn' : 48 <= i.form:=(Classical.not_not.1 hn).1
  refine ⟨by decide,.inr ?_⟩
  refine ⟨by decide,.inr ?_⟩
  refine retE ?_
  refine And.intro ?_ (And.intro rfl trivial)
  show [PV.int .u8 (IntKind.u8.wrap (wordV i / Ev.pow2 .u32 16)),.int .u8 (IntKind.u8.wrap (wordV i / Ev.pow2 .u32 24)),PV.int .u8 (IntKind.u8.wrap (wordV i)),.int .u8 (IntKind.u8.wrap (wordV i / Ev.pow2 .u32 8))] = u8P (byL i)
  rw [e0,e1,e2,e3,p8,p16,r24]
  unfold byL u8P; rw [if_pos hn']; rfl
end Go.Proofs.YtnbngokbamifbaaGreatDoor.Pw
set_option linter.unusedVariables false
namespace Go.Proofs.YtnbngokbamifbaaGreatDoor.Pw
open Go Go.RowKit
def nopI : IN:=⟨44,0,0,0,0,0,0,0,0,0,0⟩
def instsA (x : AI) (w : Bool) (n s : Int) : List IN:=if x.kind = 1 then [x.inst] else if x.kind = 2 then [branA x.cond w n] else List.replicate (s / 2).toNat nopI
def nB (k : Nat) : PBlk:=⟨.dyn,76,11,.w,true,insP (List.replicate k nopI)⟩
set_option maxHeartbeats 4000000 in
set_option maxRecDepth 10000 in
theorem insts_runs {l : List AI} {W : List Bool} {at_ sz : List Int} {e : Int} {L : List (Int × Int)} {i : Nat} {x : AI} {w : Bool} {a s : Int} (hx : l[i]? = some x) (hw : W[i]? = some w) (hr : rightA x) (hat : at_[i]? = some a) (ha : 0 <= a /\ a <= 1000000) (hs : sz[i]? = some s) (hsb : 0 <= s /\ s <= 16) (hL : OffB L) :
  RunsA 73 [.ptr 5 0,.int .i64 i] (sLy l W at_ sz e L) (.sl 11 (insP (instsA x w (lkM L x.label - a - 4) s))) (sLy l W at_ sz e L):=by
 have hl:=(List.getElem?_eq_some_iff.1 hx).1
 have hsl:=(List.getElem?_eq_some_iff.1 hs).1
 refine Spec.leS (Spec.enter gTok P73 100 Tryz.func73 rfl (by kernel_rfl) ?_)
 refine ⟨AI,l,aiP,rfl,show (0 : Int) <= (i : Int) by omega,show (i : Int) < (l.length : Int) by omega,fun x' hx'=>?_⟩
 obtain rfl : x = x':=Option.some.inj (hx.symm.trans hx')
 refine And.intro (fun k1=>?_) (fun k1=>?_)
 ·have k1' : x.kind = 1:=k1
  refine retS ?_ (by repeat' first|exact trivial|exact rfl|exact Iff.rfl|refine And.intro ?_ ?_)
  exact (show [inP x.inst] = insP (instsA x w (lkM L x.label - a - 4) s) by unfold instsA; rw [if_pos k1']; rfl)
 refine And.intro (fun k2=>?_) (fun k2=>?_)
 ·have k1' : ¬ x.kind = 1:=k1
  have k2' : x.kind = 2:=k2
  have hq:=(rightA_2 k2').1 hr
  have hb:=branch_runs (W:=W) (sz:=sz) (e:=e) hx hw hq.2.2.2 hq.2.2.1.1 hat ha hL
  refine ⟨[],no_rl,hb.useS rfl rfl rfl rfl (by repeat' first|exact trivial|exact rfl|exact Iff.rfl|refine And.intro ?_ ?_) (And.intro (by repeat' first|exact trivial|exact rfl|exact Iff.rfl|refine And.intro ?_ ?_) (And.intro (by repeat' first|exact trivial|exact rfl|exact Iff.rfl|refine And.intro ?_ ?_) (And.intro (by repeat' first|exact trivial|exact rfl|exact Iff.rfl|refine And.intro ?_ ?_) (And.intro (by repeat' first|exact trivial|exact rfl|exact Iff.rfl|refine And.intro ?_ ?_) (And.intro (by repeat' first|exact trivial|exact rfl|exact Iff.rfl|refine And.intro ?_ ?_) (And.intro (by repeat' first|exact trivial|exact rfl|exact Iff.rfl|refine And.intro ?_ ?_) ?_))))))⟩
  refine retS ?_ (by repeat' first|exact trivial|exact rfl|exact Iff.rfl|refine And.intro ?_ ?_)
  exact (show [inP (branA x.cond w (lkM L x.label - a - 4))] = insP (instsA x w (lkM L x.label - a - 4) s) by unfold instsA; rw [if_neg k1',if_pos k2']; rfl)
 have k1' : ¬ x.kind = 1:=k1
 have k2' : ¬ x.kind = 2:=k2
 have ei : instsA x w (lkM L x.label - a - 4) s = List.replicate (s / 2).toNat nopI:=by unfold instsA; rw [if_neg k1',if_neg k2']
 rw [ei]
 refine ⟨show (0 : Int) <= (i : Int) by omega,show (i : Int) < ((intsP sz).length : Nat) by rw [intsP_len]; omega,Int,sz,PV.int .i64,rfl,show (i : Int).toNat < sz.length by omega,fun v hv=>?_⟩
 obtain rfl : s = v:=Option.some.inj (hs.symm.trans hv)
 refine And.intro (show (2 : Int) ≠ 0 by decide) (.inl ⟨hsb.1,show s <= 9223372036854775807 by omega,show (0 : Int) < 2 by decide,?_⟩)
 refine SW.loopX gTok P73 (by kernel_rfl) (α:={k : Nat // (k : Int) <= s / 2}) (fun k=>[(6,.wref 6),(34,.int .i64 (s / 2)),(35,.int .i64 k.1)]) (fun k=>[zR,dI (intsP (wI W)),dI (intsP at_),dI (intsP sz),mpB L,yB l e,nB k.1]) (fun k=>8 - k.1) ⟨0,show ((0 : Nat) : Int) <= s / 2 by omega⟩ 60 [some 0,some 1,some 2,some 3,some 4,some 5,none] ?_ ?_
 ·repeat' first | exact trivial | exact rfl | exact Iff.rfl | refine And.intro ?_ ?_
 rintro ⟨k,hk⟩
 refine And.intro (fun h=>?_) (fun h=>?_)
 ·have h' : (k : Int) < s / 2:=h
  have ek : (insP (List.replicate k nopI)).length = k:=by unfold insP; rw [List.length_map,List.length_replicate]
  refine ⟨show (insP (List.replicate k nopI)).length + 1 <= maxLen by unfold maxLen; omega,show ((insP (List.replicate k nopI)).length + 1) * 88 <= 140737488355328 by omega,?_⟩
  refine .inl ⟨inR_i64 (show _ <= (k : Int) + 1 /\ (k : Int) + 1 <= _ by omega),⟨⟨k + 1,show ((k + 1 : Nat) : Int) <= s / 2 by omega⟩,[some 0,some 1,some 2,some 3,some 4,some 5,some 8],show 8 - (k + 1) < 8 - k by omega,?_⟩⟩
  repeat' first | exact trivial | exact rfl | exact Iff.rfl | refine And.intro ?_ ?_
  all_goals exact (show insP (List.replicate k nopI) ++ [inP nopI] = insP (List.replicate (k + 1) nopI) by rw [List.replicate_succ']; unfold insP; rw [List.map_append]; rfl)
 ·have h' : ¬ (k : Int) < s / 2:=h
  have ek : (s / 2).toNat = k:=by omega
  rw [ek]
  refine retS ?_ (by repeat' first|exact trivial|exact rfl|exact Iff.rfl|refine And.intro ?_ ?_)
  exact (show insP (List.replicate k nopI) = insP (List.replicate k nopI) from rfl)
def insI (l : List AI) (W : List Bool) (i : Nat) : List IN:=match l[i]?,W[i]? with
 | some x,some w=>instsA x w (farA l W i x) (bytesA x w (atA l W i))
 | _,_=>[]
theorem insI_eq {l : List AI} {W : List Bool} {i : Nat} {x : AI} {w : Bool} (hx : l[i]? = some x) (hw : W[i]? = some w) : insI l W i = instsA x w (farA l W i x) (bytesA x w (atA l W i)):=by unfold insI; rw [hx,hw]
theorem insI_len (l : List AI) (W : List Bool) (hr : ∀ x ∈ l,rightA x) (hW : W.length = l.length) (i : Nat) : (insI l W i).length <= 8:=by
 unfold insI
 split
 ·rename_i x w hx hw
  have hi:=(List.getElem?_eq_some_iff.1 hx).1
  have b1:=atA_bd hW (fun x hx=>rightA_it (hr x hx)) i (by omega)
  have b2:=bytesA_bd (rightA_it (hr x (List.mem_of_getElem? hx))) w ⟨b1.1,b1.2.2⟩
  unfold instsA
  split
  ·simp
  split
  ·simp
  ·rw [List.length_replicate]; omega
 ·simp
def bytI (l : List IN) : List Int:=l.flatMap byL
theorem bytI_app (l m : List IN) : bytI (l ++ m) = bytI l ++ bytI m:=List.flatMap_append ..
theorem byL_le (i : IN) : (byL i).length <= 4:=by unfold byL; split <;> simp
theorem bytI_len : ∀ l : List IN,(bytI l).length <= 4 * l.length
 | []=>by simp [bytI]
 | i :: l=>by
  have h1:=byL_le i
  have h2:=bytI_len l
  show (byL i ++ bytI l).length <= _
  rw [List.length_append,List.length_cons]; omega
def bytT (l : List AI) (W : List Bool) : Nat -> List Int
 | 0=>[]
 | i + 1=>bytT l W i ++ bytI (insI l W i)
theorem bytT_len {l : List AI} {W : List Bool} (hr : ∀ x ∈ l,rightA x) (hW : W.length = l.length) : ∀ i,(bytT l W i).length <= 32 * i
 | 0=>Nat.le_refl _
 | i + 1=>by
  have h1:=bytT_len hr hW i
  have h2:=bytI_len (insI l W i)
  have h3:=insI_len l W hr hW i
  rw [bytT,List.length_append]; omega
theorem bytT_end {l : List AI} {W : List Bool} : ∀ {i : Nat},l.length <= i -> bytT l W i = bytT l W l.length
 | 0,h=>by rw [show l.length = 0 by omega]
 | i + 1,h=>by
  rcases Nat.eq_or_lt_of_le h with e | e
  ·rw [e]
  ·have h0 : insI l W i = []:=by unfold insI; rw [List.getElem?_eq_none (by omega)]
   rw [bytT,bytT_end (by omega),h0]
   simp [bytI]
def oB (cs : List PV) : PBlk:=⟨.dyn,5,1,.w,true,cs⟩
theorem u8P_app (l m : List Int) : u8P (l ++ m) = u8P l ++ u8P m:=List.map_append ..
theorem u8P_len (l : List Int) : (u8P l).length = l.length:=List.length_map ..
set_option maxHeartbeats 4000000 in
set_option maxRecDepth 10000 in
theorem write_runs {l : List AI} {W : List Bool} {e : Int} {L : List (Int × Int)} (hW : W.length = l.length) (hr : ∀ x ∈ l,rightA x) (hc : ∀ x ∈ l,x.kind = 2 -> cntA l x.label = 1) (hl : l.length <= 10000) (hL : ∀ p ∈ L,0 <= p.2 /\ p.2 <= 1000000) (hir : ∀ i,∀ y ∈ insI l W i,rightV y /\ IOk y) :
  RunsA 40 [.ptr 5 0] (sLy l W (atsA l W) (szsA l W) e (L ++ marksT l W l.length)) (.tup [.sl 1 (u8P (bytT l W l.length)),.int .i64 0]) (sLy l W (atsA l W) (szsA l W) e (L ++ marksT l W l.length)):=by
 have hI : ∀ x ∈ l,ItOk x:=fun x hx=>rightA_it (hr x hx)
 have el : (l.map aiP).length = l.length:=List.length_map ..
 have hO : OffB (L ++ marksT l W l.length):=lkM_bd (by decide) fun p hp=>(List.mem_append.1 hp).elim (hL p) (marksT_bd hW hI hl (Nat.le_refl _) p)
 refine Spec.leS (Spec.enter gTok P40 100 Tryz.func40 rfl (by kernel_rfl) ?_)
 refine fun hm=>?_
 refine SW.loopX gTok P40 (by kernel_rfl) (fun i : Nat=>[(0,.ptr 5 0),(4,.wref 6),(14,.int .i64 (l.map aiP).length),(15,.int .i64 i)]) (fun i=>[zR,dI (intsP (wI W)),dI (intsP (atsA l W)),dI (intsP (szsA l W)),mpB (L ++ marksT l W l.length),yB l e,oB (u8P (bytT l W i))]) (fun i=>l.length - i) 0 60 [some 0,some 1,some 2,some 3,some 4,some 5,none] ?_ fun i=>?_
 ·repeat' first | exact trivial | exact rfl | exact Iff.rfl | refine And.intro ?_ ?_
 refine And.intro (fun h=>?_) (fun h=>?_)
 ·have h' : (i : Int) < ((l.map aiP).length : Nat):=h
  rw [el] at h'
  have hx' : l[i]? = some l[i]:=List.getElem?_eq_getElem (by omega)
  have hw' : W[i]? = some W[i]:=List.getElem?_eq_getElem (by omega)
  have hrx:=hr l[i] (List.getElem_mem _)
  have b1:=atA_bd hW hI i (by omega)
  have es:=atA_succ hW hx' hw'
  have b2:=bytesA_bd (hI l[i] (List.getElem_mem _)) W[i] ⟨b1.1,b1.2.2⟩
  have hin:=insts_runs (W:=W) (sz:=szsA l W) (e:=e) (L:=L ++ marksT l W l.length) hx' hw' hrx (atsA_get (l:=l) (W:=W) (by omega)) (by omega) (szsA_get (l:=l) (W:=W) (by omega)) (by omega) hO
  have e1 : insP (instsA l[i] W[i] (lkM (L ++ marksT l W l.length) l[i].label - atA l W i - 4) (atA l W (i + 1) - atA l W i)) = insP (insI l W i):=by
   rw [insI_eq hx' hw',es,show atA l W i + bytesA l[i] W[i] (atA l W i) - atA l W i = bytesA l[i] W[i] (atA l W i) by omega]
   unfold instsA
   split
   ·rfl
   split
   ·rename_i hk
    rw [lk_far L (hc l[i] (List.getElem_mem _) hk)]
   ·rfl
  rw [e1] at hin
  have hil:=insI_len l W hr hW i
  have hi2:=hir i
  have hbt:=bytT_len hr hW i
  have ebt : bytT l W (i + 1) = bytT l W i ++ bytI (insI l W i):=rfl
  generalize insI l W i = li at hin hil hi2 ebt ⊢
  have eli : (insP li).length = li.length:=List.length_map ..
  refine ⟨[],no_rl,hin.useS rfl rfl rfl rfl (by repeat' first|exact trivial|exact rfl|exact Iff.rfl|refine And.intro ?_ ?_) (And.intro (by repeat' first|exact trivial|exact rfl|exact Iff.rfl|refine And.intro ?_ ?_) (And.intro (by repeat' first|exact trivial|exact rfl|exact Iff.rfl|refine And.intro ?_ ?_) (And.intro (by repeat' first|exact trivial|exact rfl|exact Iff.rfl|refine And.intro ?_ ?_) (And.intro (by repeat' first|exact trivial|exact rfl|exact Iff.rfl|refine And.intro ?_ ?_) (And.intro (by repeat' first|exact trivial|exact rfl|exact Iff.rfl|refine And.intro ?_ ?_) (And.intro (by repeat' first|exact trivial|exact rfl|exact Iff.rfl|refine And.intro ?_ ?_) ?_))))))⟩
  refine fun hm2=>?_
  refine SW.loopX gTok P40 (by kernel_rfl) (fun k : Nat=>[(0,.ptr 5 0),(4,.wref 6),(14,.int .i64 (l.map aiP).length),(15,.int .i64 i),(20,.sl 11 (insP li)),(21,.int .i64 (insP li).length),(22,.int .i64 k)]) (fun k=>[zR,dI (intsP (wI W)),dI (intsP (atsA l W)),dI (intsP (szsA l W)),mpB (L ++ marksT l W l.length),yB l e,oB (u8P (bytT l W i ++ bytI (li.take k)))]) (fun k=>li.length - k) 0 60 [some 0,some 1,some 2,some 3,some 4,some 5,some 6] ?_ fun k=>?_
  ·repeat' first | exact trivial | exact rfl | exact Iff.rfl | refine And.intro ?_ ?_
   all_goals exact (show u8P (bytT l W i) = u8P (bytT l W i ++ bytI (li.take 0)) by rw [List.take_zero]; simp [bytI])
  refine And.intro (fun h=>?_) (fun h=>?_)
  ·have hk' : (k : Int) < ((insP li).length : Nat):=h
   rw [eli] at hk'
   refine ⟨IN,li,inP,rfl,show (0 : Int) <= (k : Int) by omega,show (k : Int) < (li.length : Int) by omega,fun y hy=>?_⟩
   have hy' : li[k]? = some y:=hy
   obtain ⟨ry,iy⟩:=hi2 y (List.mem_of_getElem? hy')
   have etk : bytI (li.take (k + 1)) = bytI (li.take k) ++ byL y:=by rw [List.take_add_one,hy',bytI_app]; simp [bytI]
   have hb1:=bytI_len (li.take k)
   rw [List.length_take] at hb1
   have hb2:=byL_le y
   refine ⟨[],no_rl,(bytes_yes y ry iy).use (by repeat' first|exact trivial|exact rfl|exact Iff.rfl|refine And.intro ?_ ?_) rfl rfl ?_⟩
   refine And.intro (fun h=>absurd rfl h) (fun _=>?_)
   have elen : (u8P (bytT l W i ++ bytI (li.take k))).length + (u8P (byL y)).length <= 1000000:=by rw [u8P_len,u8P_len,List.length_append]; omega
   refine ⟨show (u8P (bytT l W i ++ bytI (li.take k))).length + (u8P (byL y)).length <= maxLen by unfold maxLen; omega,show ((u8P (bytT l W i ++ bytI (li.take k))).length + (u8P (byL y)).length) * 1 <= 140737488355328 by omega,?_⟩
   refine .inl ⟨inR_i64 (show _ <= (k : Int) + 1 /\ (k : Int) + 1 <= _ by omega),⟨k + 1,[some 0,some 1,some 2,some 3,some 4,some 5,some 8],by omega,?_⟩⟩
   repeat' first | exact trivial | exact rfl | exact Iff.rfl | refine And.intro ?_ ?_
   all_goals exact (show u8P (bytT l W i ++ bytI (li.take k)) ++ u8P (byL y) = u8P (bytT l W i ++ bytI (li.take (k + 1))) by rw [etk,← u8P_app,List.append_assoc])
  ·have hk' : ¬ (k : Int) < ((insP li).length : Nat):=h
   rw [eli] at hk'
   refine .inl ⟨inR_i64 (show _ <= (i : Int) + 1 /\ (i : Int) + 1 <= _ by omega),⟨i + 1,[some 0,some 1,some 2,some 3,some 4,some 5,some 6],by omega,?_⟩⟩
   repeat' first | exact trivial | exact rfl | exact Iff.rfl | refine And.intro ?_ ?_
   all_goals exact (show u8P (bytT l W i ++ bytI (li.take k)) = u8P (bytT l W (i + 1)) by rw [ebt,List.take_of_length_le (by omega)])
 ·have h' : ¬ (i : Int) < ((l.map aiP).length : Nat):=h
  rw [el] at h'
  have eb : bytT l W i = bytT l W l.length:=bytT_end (by omega)
  refine retS ?_ (by repeat' first|exact trivial|exact rfl|exact Iff.rfl|refine And.intro ?_ ?_)
  refine And.intro (show u8P (bytT l W i) = u8P (bytT l W l.length) by rw [eb]) (And.intro rfl trivial)
end Go.Proofs.YtnbngokbamifbaaGreatDoor.Pw
set_option linter.unusedVariables false
namespace Go.Proofs.YtnbngokbamifbaaGreatDoor.Pw
open Go Go.RowKit
def insT (l : List AI) (W : List Bool) : Nat -> List IN
 | 0=>[]
 | i + 1=>insT l W i ++ insI l W i
theorem bytT_ins (l : List AI) (W : List Bool) : ∀ n,bytT l W n = bytI (insT l W n)
 | 0=>rfl
 | n + 1=>by rw [bytT,insT,bytT_ins l W n]; unfold bytI; rw [List.flatMap_append]
theorem insT_len {l : List AI} {W : List Bool} (hr : ∀ x ∈ l,rightA x) (hW : W.length = l.length) : ∀ i,(insT l W i).length <= 8 * i
 | 0=>Nat.le_refl _
 | i + 1=>by
  have h1:=insT_len hr hW i
  have h2:=insI_len l W hr hW i
  rw [insT,List.length_append]; omega
def inB8 (cs : List IN) : PBlk:=⟨.dyn,92,11,.w,true,insP cs⟩
theorem insP_snoc (a : List IN) (i : IN) : insP a ++ [inP i] = insP (a ++ [i]):=by unfold insP; rw [List.map_append]; rfl
theorem insP_len (a : List IN) : (insP a).length = a.length:=List.length_map ..
set_option maxHeartbeats 8000000 in
set_option maxRecDepth 10000 in
theorem dinsts_pure {l : List AI} {W : List Bool} (hW : W.length = l.length) (hr : ∀ x ∈ l,rightA x) (hl : l.length <= 10000) :
  PureF gT 45 [.sl 15 (l.map aiP),.sl 1 (bP W),.sl 1 (intsP (offA l W))] (.sl 11 (insP (insT l W l.length))):=by
 have hI : ∀ x ∈ l,ItOk x:=fun x hx=>rightA_it (hr x hx)
 have el : (l.map aiP).length = l.length:=List.length_map ..
 have hol:=offA_len l W
 refine Spec.enter gTok P45 100 Tryz.func45 rfl (by kernel_rfl) ?_
 refine SW.loopX gTok P45 (by kernel_rfl) (α:={i : Nat // i <= l.length}) (fun i=>[(0,.sl 15 (l.map aiP)),(1,.sl 1 (bP W)),(2,.sl 1 (intsP (offA l W))),(7,.wref 0),(8,.int .i64 i.1)]) (fun i=>[inB8 (insT l W i.1)]) (fun i=>l.length - i.1) ⟨0,Nat.zero_le _⟩ 60 [none] ?_ ?_
 ·repeat' first | exact trivial | exact rfl | exact Iff.rfl | refine And.intro ?_ ?_
 rintro ⟨i,hi⟩
 refine fun hm=>?_
 refine And.intro (fun h=>?_) (fun h=>?_)
 ·have h' : (i : Int) < ((l.map aiP).length : Nat):=h
  rw [el] at h'
  obtain ⟨x,hx⟩ : ∃ x,l[i]? = some x:=⟨_,List.getElem?_eq_getElem (by omega)⟩
  obtain ⟨w,hw⟩ : ∃ w,W[i]? = some w:=⟨_,List.getElem?_eq_getElem (by omega)⟩
  have hxm:=List.mem_of_getElem? hx
  have bi0 : (0 : Int) <= (i : Int):=by omega
  have bi1 : (i : Int) < (l.length : Int):=by omega
  have biw : (i : Int) < (W.length : Int):=by omega
  have bio : (i : Int) < ((offA l W).length : Int):=by omega
  have bio2 : (i : Int) + 1 < ((offA l W).length : Int):=by omega
  have bi2 : (0 : Int) <= (i : Int) + 1:=by omega
  have bir:=inR_i64 (show _ <= (i : Int) + 1 /\ (i : Int) + 1 <= _ by omega)
  have bmu : l.length - (i + 1) < l.length - i:=by omega
  have hlen:=insT_len hr hW i
  have ei : insT l W (i + 1) = insT l W i ++ instsA x w (farA l W i x) (bytesA x w (atA l W i)):=by rw [insT,insI_eq hx hw]
  have es:=atA_succ hW hx hw
  have hb:=bytesA_bd (hI x hxm) w (a:=atA l W i) (by have:=atA_bd hW hI i hi; omega)
  have ai:=atA_bd hW hI i hi
  have g0:=offA_get (l:=l) (W:=W) (i:=i) hi
  have g1:=offA_get (l:=l) (W:=W) (i:=i + 1) (by omega)
  have hfar:=dfar_pure hW hI hl hx
  have hbr:=dbranch_pure x.cond (farA l W i x) w
  generalize insT l W i = T at hlen ei ⊢
  have b1 : ∀ k : Nat,k <= 1000 -> (insP T).length + k <= maxLen:=fun k hk=>by rw [insP_len]; unfold maxLen; omega
  have b2 : ∀ k : Nat,k <= 1000 -> ((insP T).length + k) * 88 <= 140737488355328:=fun k hk=>by rw [insP_len]; omega
  refine ⟨AI,l,aiP,rfl,bi0,bi1,fun x' hx2=>?_⟩; obtain rfl : x = x':=Option.some.inj (hx.symm.trans hx2)
  refine And.intro (fun k1=>?_) (fun k1=>?_)
  ·have k1' : x.kind = 1:=k1
   refine ⟨AI,l,aiP,rfl,bi0,bi1,fun x' hx2=>?_⟩; obtain rfl : x = x':=Option.some.inj (hx.symm.trans hx2)
   refine ⟨b1 1 (by decide),b2 1 (by decide),?_⟩
   refine ⟨AI,l,aiP,rfl,bi0,bi1,fun x' hx2=>?_⟩; obtain rfl : x = x':=Option.some.inj (hx.symm.trans hx2)
   refine And.intro (fun h=>absurd (show x.kind = 2 from h) (by omega)) (fun _=>?_)
   refine ⟨AI,l,aiP,rfl,bi0,bi1,fun x' hx2=>?_⟩; obtain rfl : x = x':=Option.some.inj (hx.symm.trans hx2)
   refine And.intro (fun h=>absurd (show x.kind = 4 from h) (by omega)) (fun _=>?_)
   refine .inl ⟨bir,⟨⟨i + 1,by omega⟩,[some 2],bmu,?_⟩⟩
   repeat' first | exact trivial | exact rfl | exact Iff.rfl | refine And.intro ?_ ?_
   all_goals exact (show insP T ++ [inP x.inst] = insP (insT l W (i + 1)) by rw [ei,insP_snoc]; unfold instsA; rw [if_pos k1'])
  have k1' : ¬ x.kind = 1:=k1
  refine ⟨AI,l,aiP,rfl,bi0,bi1,fun x' hx2=>?_⟩; obtain rfl : x = x':=Option.some.inj (hx.symm.trans hx2)
  refine And.intro (fun k2=>?_) (fun k2=>?_)
  ·have k2' : x.kind = 2:=k2
   have hfin : insP T ++ [inP (branA x.cond w (farA l W i x))] = insP (insT l W (i + 1)):=by rw [ei,insP_snoc]; unfold instsA; rw [if_neg k1',if_pos k2']
   refine ⟨AI,l,aiP,rfl,bi0,bi1,fun x' hx2=>?_⟩; obtain rfl : x = x':=Option.some.inj (hx.symm.trans hx2)
   refine ⟨Bool,W,bE,rfl,bi0,biw,fun w' hw2=>?_⟩; obtain rfl : w = w':=Option.some.inj (hw.symm.trans hw2)
   generalize branA x.cond w (farA l W i x) = z at hbr hfin
   cases w
   all_goals
    refine ⟨[],no_rl,hfar.use (And.intro rfl (And.intro rfl (And.intro rfl trivial))) rfl rfl ?_⟩
    refine ⟨[],no_rl,hbr.use (by repeat' first|exact trivial|exact rfl|exact Iff.rfl|refine And.intro ?_ ?_) rfl rfl ?_⟩
    refine ⟨b1 1 (by decide),b2 1 (by decide),?_⟩
    refine ⟨AI,l,aiP,rfl,bi0,bi1,fun x' hx2=>?_⟩; obtain rfl : x = x':=Option.some.inj (hx.symm.trans hx2)
    refine And.intro (fun h=>absurd (show x.kind = 4 from h) (by omega)) (fun _=>?_)
    refine .inl ⟨bir,⟨⟨i + 1,by omega⟩,[some 2],bmu,?_⟩⟩
    repeat' first | exact trivial | exact rfl | exact Iff.rfl | refine And.intro ?_ ?_
    all_goals exact hfin
  have k2' : ¬ x.kind = 2:=k2
  refine ⟨AI,l,aiP,rfl,bi0,bi1,fun x' hx2=>?_⟩; obtain rfl : x = x':=Option.some.inj (hx.symm.trans hx2)
  refine And.intro (fun k4=>?_) (fun k4=>?_)
  ·have k4' : x.kind = 4:=k4
   have eb : bytesA x w (atA l W i) = (x.to_ - atA l W i % x.to_) % x.to_:=by unfold bytesA; rw [if_neg k1',if_neg k2',if_pos k4']
   have ein : ∀ k : Nat,(2 * k : Int) = bytesA x w (atA l W i) -> insT l W (i + 1) = T ++ List.replicate k nopI:=fun k hk=>by rw [ei]; unfold instsA; rw [if_neg k1',if_neg k2',← hk,show (2 * (k : Int) / 2).toNat = k by omega]
   have hle : ∀ k : Nat,(2 * k : Int) <= bytesA x w (atA l W i) -> k <= 8:=fun k hk=>by omega
   generalize bytesA x w (atA l W i) = s at es hb ein hle
   generalize atA l W (i + 1) = an at es g1
   generalize atA l W i = a0 at es g0 ai
   refine ⟨Int,offA l W,PV.int .i64,rfl,bi0,bio,fun v hv=>?_⟩; obtain rfl : a0 = v:=Option.some.inj (g0.symm.trans hv)
   refine SW.loopX gTok P45 (by kernel_rfl) (α:={k : Nat // (2 * k : Int) <= s}) (fun k=>[(0,.sl 15 (l.map aiP)),(1,.sl 1 (bP W)),(2,.sl 1 (intsP (offA l W))),(7,.wref 0),(8,.int .i64 i),(9,.int .i64 (a0 + 2 * k.1))]) (fun k=>[inB8 (T ++ List.replicate k.1 nopI)]) (fun k=>8 - k.1) ⟨0,by omega⟩ 60 [some 0] ?_ ?_
   ·repeat' first | exact trivial | exact rfl | exact Iff.rfl | refine And.intro ?_ ?_
    all_goals first | exact (show a0 = a0 + 2 * ((0 : Nat) : Int) by omega) | exact (show insP T = insP (T ++ List.replicate 0 nopI) by rw [List.replicate_zero,List.append_nil])
   rintro ⟨k,hk⟩
   have hk8:=hle k hk
   refine .inl ⟨bir,?_⟩
   refine ⟨Int,offA l W,PV.int .i64,rfl,bi2,bio2,fun v hv=>?_⟩
   have hv' : (offA l W)[i + 1]? = some v:=by rw [← hv]; congr 1
   obtain rfl : an = v:=Option.some.inj (g1.symm.trans hv')
   refine And.intro (fun hlt=>?_) (fun hlt=>?_)
   ·have hlt' : a0 + 2 * (k : Int) < an:=hlt
    have eT : (insP (T ++ List.replicate k nopI)).length = T.length + k:=by rw [insP_len,List.length_append,List.length_replicate]
    refine ⟨show (insP (T ++ List.replicate k nopI)).length + 1 <= maxLen by rw [eT]; unfold maxLen; omega,show ((insP (T ++ List.replicate k nopI)).length + 1) * 88 <= 140737488355328 by rw [eT]; omega,?_⟩
    refine .inl ⟨inR_i64 (show _ <= a0 + 2 * (k : Int) + 2 /\ a0 + 2 * (k : Int) + 2 <= _ by omega),⟨⟨k + 1,by omega⟩,[some 2],show 8 - (k + 1) < 8 - k by omega,?_⟩⟩
    repeat' first | exact trivial | exact rfl | exact Iff.rfl | refine And.intro ?_ ?_
    all_goals first | exact (show a0 + 2 * (k : Int) + 2 = a0 + 2 * ((k + 1 : Nat) : Int) by omega) | exact (show insP (T ++ List.replicate k nopI) ++ [inP nopI] = insP (T ++ List.replicate (k + 1) nopI) by rw [insP_snoc,List.replicate_succ',List.append_assoc])
   ·have hlt' : ¬ a0 + 2 * (k : Int) < an:=hlt
    refine .inl ⟨bir,⟨⟨i + 1,by omega⟩,[some 0],bmu,?_⟩⟩
    repeat' first | exact trivial | exact rfl | exact Iff.rfl | refine And.intro ?_ ?_
    all_goals exact (show insP (T ++ List.replicate k nopI) = insP (insT l W (i + 1)) by rw [ein k (by omega)])
  ·have k4' : ¬ x.kind = 4:=k4
   refine .inl ⟨bir,⟨⟨i + 1,by omega⟩,[some 0],bmu,?_⟩⟩
   repeat' first | exact trivial | exact rfl | exact Iff.rfl | refine And.intro ?_ ?_
   all_goals exact (show insP T = insP (insT l W (i + 1)) by rw [ei]; unfold instsA bytesA; rw [if_neg k1',if_neg k2',if_neg k1',if_neg k2',if_neg k4']; simp)
 ·have h' : ¬ (i : Int) < ((l.map aiP).length : Nat):=h
  rw [el] at h'
  obtain rfl : i = l.length:=by omega
  exact retE (by repeat' first|exact trivial|exact rfl|exact Iff.rfl|refine And.intro ?_ ?_)
end Go.Proofs.YtnbngokbamifbaaGreatDoor.Pw
set_option linter.unusedVariables false
namespace Go.Proofs.YtnbngokbamifbaaGreatDoor.Pw
open Go Go.RowKit
theorem right_jump {f s i0 i1 i2 : Int} {cb : Bool} (hs : shapeV f = s) (hr : ruW s = {r0U with cond:=cb,i0:=i0,i1:=i1,i2:=i2}) (hf : (1 <= f /\ f <= 100) /\ f ≠ 1 /\ f ≠ 2 /\ f ≠ 3 /\ f ≠ 29 /\ f ≠ 95 /\ f ≠ 96) (h18 : s ≠ 18 /\ s ≠ 19 /\ s ≠ 20) {n c : Int} (hn : spanV i0 i1 i2 n) (hc : c = 0 \/ (cb = true /\ 0 < c /\ c <= 13)) : rightV ⟨f,0,0,0,0,n,0,0,0,c,0⟩:=by
 show rightR _ (ruW (shapeV f))
 rw [hs,hr]
 have z : (0 : Int) ≠ 1 /\ (0 : Int) ≠ 2 /\ (0 : Int) ≠ 3 /\ (0 : Int) = 0:=by decide
 refine ⟨hf.1,.inr (.inr (.inr z)),.inr (.inr (.inr z)),.inr (.inr (.inr z)),.inr (.inr (.inr z)),.inl ⟨rfl,rfl⟩,hc,hn,.inl rfl,.inr ⟨Bool.false_ne_true,rfl,.inl ⟨rfl,rfl⟩⟩,?_⟩
 obtain ⟨_,a1,a2,a3,a4,a5,a6⟩:=hf
 refine ⟨fun e=>absurd e a1,fun e=>e.elim (fun e=>absurd e a2) (fun e=>absurd e a3),fun e=>absurd e a4,fun e=>e.elim (fun e=>absurd e a5) (fun e=>absurd e a6),?_⟩
 show shapeV f = 18 \/ shapeV f = 19 \/ shapeV f = 20 -> _
 rw [hs]
 exact fun h=>absurd h (by omega)
theorem span_even {a b n : Int} (h : a <= n /\ n <= b) (he : n % 2 = 0) : spanV a b 2 n:=.inr ⟨by decide,h.1,h.2,Int.tmod_eq_zero_of_dvd (Int.dvd_of_emod_eq_zero he)⟩
theorem branA_right {c n : Int} {w : Bool} (hc : -1 <= c /\ c <= 13) (he : n % 2 = 0) (hb : -1000000 <= n /\ n <= 1000000) (hs : w = false -> shortA c n = true) : rightV (branA c w n):=by
 unfold branA
 cases w with
 | true =>
  by_cases h : c < 0
  ·rw [if_pos h,show max c 0 = 0 by omega]
   exact right_jump (f:=100) (s:=34) (i0:=-16777216) (i1:=16777214) (i2:=2) (cb:=false) (by decide) rfl (by decide) (by decide) (span_even (by omega) he) (.inl rfl)
  ·rw [if_neg h,show max c 0 = c by omega]
   exact right_jump (f:=99) (s:=33) (i0:=-1048576) (i1:=1048574) (i2:=2) (cb:=true) (by decide) rfl (by decide) (by decide) (span_even (by omega) he) ((Classical.em (c = 0)).elim .inl fun h0=>.inr ⟨rfl,by omega,by omega⟩)
 | false =>
  have hs:=hs rfl
  unfold shortA at hs
  by_cases h : c < 0
  ·rw [if_pos h] at hs
   have hs:=of_decide_eq_true hs
   rw [if_pos h,show max c 0 = 0 by omega]
   exact right_jump (f:=47) (s:=16) (i0:=-2048) (i1:=2046) (i2:=2) (cb:=false) (by decide) rfl (by decide) (by decide) (span_even (by omega) he) (.inl rfl)
  ·rw [if_neg h] at hs
   have hs:=of_decide_eq_true hs
   rw [if_neg h,show max c 0 = c by omega]
   exact right_jump (f:=46) (s:=15) (i0:=-256) (i1:=254) (i2:=2) (cb:=true) (by decide) rfl (by decide) (by decide) (span_even (by omega) he) ((Classical.em (c = 0)).elim .inl fun h0=>.inr ⟨rfl,by omega,by omega⟩)
theorem nop_right : rightV nopI:=right_jump (f:=44) (s:=13) (i0:=0) (i1:=0) (i2:=0) (cb:=false) (by decide) rfl (by decide) (by decide) (.inl ⟨rfl,rfl⟩) (.inl rfl)
theorem IOk_mk {f n c : Int} (hf : I64 f) (hn : I64 n) (hc : I64 c) : IOk ⟨f,0,0,0,0,n,0,0,0,c,0⟩:=by
 have z : I64 0:=by unfold I64; omega
 intro x hx
 simp only [inLs,List.mem_cons,List.not_mem_nil,or_false] at hx
 rcases hx with rfl | rfl | rfl | rfl | rfl | rfl | rfl | rfl | rfl | rfl | rfl <;> assumption
theorem farA_bd {l : List AI} {W : List Bool} (hW : W.length = l.length) (hI : ∀ x ∈ l,ItOk x) (hl : l.length <= 10000) {i : Nat} (hi : i <= l.length) (x : AI) : farA l W i x % 2 = 0 /\ -1000000 <= farA l W i x /\ farA l W i x <= 1000000:=by
 unfold farA
 split
 ·rename_i k hk
  have hkl : k < l.length:=(List.findIdx?_eq_some_iff_getElem.1 hk).1
  have b1:=atA_bd hW hI i hi
  have b2:=atA_bd hW hI k (by omega)
  omega
 ·omega
theorem insI_right {l : List AI} {W : List Bool} (hW : W.length = l.length) (hr : ∀ x ∈ l,rightA x) (hio : ∀ x ∈ l,IOk x.inst) (hl : l.length <= 10000) (hn : nextA l W = W) (i : Nat) : ∀ y ∈ insI l W i,rightV y /\ IOk y:=by
 intro y hy
 unfold insI at hy
 split at hy
 ·rename_i x w hx hw
  have hi:=(List.getElem?_eq_some_iff.1 hx).1
  have hxm:=List.mem_of_getElem? hx
  have hrx:=hr x hxm
  have hf:=farA_bd hW (fun x hx=>rightA_it (hr x hx)) hl (Nat.le_of_lt hi) x
  unfold instsA at hy
  split at hy
  ·rename_i k1
   rw [List.mem_singleton] at hy
   subst hy
   exact ⟨((rightA_1 k1).1 hrx).2.1,hio x hxm⟩
  split at hy
  ·rename_i k2
   rw [List.mem_singleton] at hy
   subst hy
   have hq:=(rightA_2 k2).1 hrx
   have hg:=nextA_get hx hw
   rw [hn,hw] at hg
   have hnb : w = nextB l W i x w:=Option.some.inj hg
   refine ⟨branA_right hq.2.2.1 hf.1 hf.2 (fun e=>?_),?_⟩
   ·subst e
    unfold nextB at hnb
    rw [decide_eq_true k2] at hnb
    simpa using hnb.symm
   ·unfold branA
    exact IOk_mk (by unfold I64; split <;> split <;> omega) (by unfold I64; omega) (by unfold I64; omega)
  ·have : y = nopI:=List.eq_of_mem_replicate hy
   subst this
   exact ⟨nop_right,IOk_mk (by unfold I64; omega) (by unfold I64; omega) (by unfold I64; omega)⟩
 ·simp at hy
end Go.Proofs.YtnbngokbamifbaaGreatDoor.Pw
set_option linter.unusedVariables false
namespace Go.Proofs.YtnbngokbamifbaaGreatDoor.Pw
open Go Go.RowKit
def laidP (b at_ sz : List Int) (r : Int) : PV:=.agg [.sl 1 (u8P b),.sl 1 (intsP at_),.sl 1 (intsP sz),.int .i64 r]
def noLaid : PV:=laidP [] [] [] 0
def goA (l : List AI) : Option (Option (List Bool × Int)):=layA l (l.length + 1) (List.replicate l.length false) 1
def outA (l : List AI) : Option (Option (List Bool × Int)) -> PV
 | some (some (W,r))=>.tup [laidP (bytT l W l.length) (atsA l W) (szsA l W) r,.int .i64 0]
 | _=>.tup [noLaid,.int .i64 82]
noncomputable def layR (l : List AI) : PV:=if checkA l ≠ 0 then .tup [noLaid,.int .i64 (checkA l)] else outA l (goA l)
structure LyA where
 W : List Bool
 at_ : List Int
 sz : List Int
 e : Int
 L : List (Int × Int)
 r : Int
 n : Nat
structure LyOk (l : List AI) (x : LyA) : Prop where
 W : x.W.length = l.length
 at_ : x.at_.length = l.length
 sz : x.sz.length = l.length
 L : ∀ p ∈ x.L,0 <= p.2 /\ p.2 <= 1000000
 len : x.L.length <= 10000 * x.r.toNat
 r : 1 <= x.r /\ x.r + x.n = l.length + 2
 n : narrowN x.W < x.n
 go : goA l = layA l x.n x.W x.r
theorem narrowN_all (n : Nat) : narrowN (List.replicate n false) = n:=by unfold narrowN; simp
theorem wI_all (n : Nat) : wI (List.replicate n false) = List.replicate n 0:=by unfold wI; simp
theorem checkA_ok {l : List AI} (h : checkA l = 0) : (∀ x ∈ l,rightA x) /\ ∀ x ∈ l,x.kind = 2 -> cntA l x.label = 1:=by
 unfold checkA at h
 split at h
 ·cases h
 ·rename_i h1
  split at h
  ·cases h
  ·rename_i h2
   refine ⟨fun x hx=>Classical.byContradiction fun hn=>h1 ⟨x,hx,hn⟩,fun x hx hk=>Classical.byContradiction fun hn=>h2 ⟨x,hx,.inl ⟨hk,hn⟩⟩⟩
def zsB (l : List AI) : PBlk:=dI (List.replicate (l.map aiP).length (.int .i64 0))
noncomputable def layC (l : List AI) : PSt:=⟨Tryz.f10.ntmps,layF [(2,.ptr 0 0),(3,.lit .i64 0),(5,.ptr 5 0)] .nil,[zR,zsB l,zsB l,zsB l,mpB [],yB l 0],0,[]⟩
set_option maxHeartbeats 8000000 in
set_option maxRecDepth 10000 in
theorem lay_pure (l : List AI) (hl : l.length <= 10000) (hio : ∀ x ∈ l,IOk x.inst /\ I64 x.to_) : PureF gT 10 [.sl 15 (l.map aiP)] (layR l):=by
 have el : (l.map aiP).length = l.length:=List.length_map ..
 have hch:=check_pure l hl fun x hx=>⟨(hio x hx).1 x.inst.imm (by simp [inLs]),(hio x hx).2⟩
 unfold layR
 obtain ⟨cv,hcv⟩ : ∃ c,checkA l = c:=⟨_,rfl⟩
 have hok:=@checkA_ok l
 rw [hcv] at hch hok ⊢
 refine Spec.enter gTok P10 100 Tryz.func10 rfl (by kernel_rfl) ?_
 refine ⟨[],no_rl,hch.use (by repeat' first|exact trivial|exact rfl|exact Iff.rfl|refine And.intro ?_ ?_) rfl rfl ?_⟩
 refine And.intro (fun hne=>?_) (fun hne=>?_)
 ·have hne' : ¬ cv = 0:=hne
  rw [if_pos hne']
  (refine retE ?_; repeat' first|exact trivial|exact rfl|exact Iff.rfl|refine And.intro ?_ ?_)
 have h0 : cv = 0:=Classical.not_not.1 hne
 rw [if_neg (not_not_intro h0)]
 obtain ⟨hr,hc⟩:=hok h0
 refine fun hm1=>?_
 refine fun hm2=>?_
 refine fun hm3=>?_
 have eN : 8 * (l.map aiP).length <= 281474976710656:=by omega
 have eM : (l.map aiP).length <= maxLen:=hm1
 repeat' (first | exact trivial | (refine pmakeN_ok gTok ?_; refine ⟨(l.map aiP).length,rfl,rfl,rfl,rfl,eN,eM,?_⟩) | (refine pmakeMap_ok ?_) | (refine Exists.intro (layC l) (And.intro ?_ (And.intro ?_ (And.intro ?_ ?_)))) | exact (Sub.refl : Sub gT (layC l) (layC l)) | (refine subK_ok gTok.ok (π:=[some 0,some 1,some 2,some 3,some 4,some 5]) ?_; (repeat' first | exact trivial | exact rfl | exact Iff.rfl | refine And.intro ?_ ?_); done) | (refine subK_ok gTok.ok (π:=[some 0,some 1,some 2,some 4,some 3,some 5]) ?_; (repeat' first | exact trivial | exact rfl | exact Iff.rfl | refine And.intro ?_ ?_); done) | (refine subK_ok gTok.ok (π:=[some 0,some 1,some 3,some 2,some 4,some 5]) ?_; (repeat' first | exact trivial | exact rfl | exact Iff.rfl | refine And.intro ?_ ?_); done) | (refine subK_ok gTok.ok (π:=[some 0,some 1,some 3,some 4,some 2,some 5]) ?_; (repeat' first | exact trivial | exact rfl | exact Iff.rfl | refine And.intro ?_ ?_); done) | (refine subK_ok gTok.ok (π:=[some 0,some 1,some 4,some 2,some 3,some 5]) ?_; (repeat' first | exact trivial | exact rfl | exact Iff.rfl | refine And.intro ?_ ?_); done) | (refine subK_ok gTok.ok (π:=[some 0,some 1,some 4,some 3,some 2,some 5]) ?_; (repeat' first | exact trivial | exact rfl | exact Iff.rfl | refine And.intro ?_ ?_); done) | (refine subK_ok gTok.ok (π:=[some 0,some 2,some 1,some 3,some 4,some 5]) ?_; (repeat' first | exact trivial | exact rfl | exact Iff.rfl | refine And.intro ?_ ?_); done) | (refine subK_ok gTok.ok (π:=[some 0,some 2,some 1,some 4,some 3,some 5]) ?_; (repeat' first | exact trivial | exact rfl | exact Iff.rfl | refine And.intro ?_ ?_); done) | (refine subK_ok gTok.ok (π:=[some 0,some 2,some 3,some 1,some 4,some 5]) ?_; (repeat' first | exact trivial | exact rfl | exact Iff.rfl | refine And.intro ?_ ?_); done) | (refine subK_ok gTok.ok (π:=[some 0,some 2,some 3,some 4,some 1,some 5]) ?_; (repeat' first | exact trivial | exact rfl | exact Iff.rfl | refine And.intro ?_ ?_); done) | (refine subK_ok gTok.ok (π:=[some 0,some 2,some 4,some 1,some 3,some 5]) ?_; (repeat' first | exact trivial | exact rfl | exact Iff.rfl | refine And.intro ?_ ?_); done) | (refine subK_ok gTok.ok (π:=[some 0,some 2,some 4,some 3,some 1,some 5]) ?_; (repeat' first | exact trivial | exact rfl | exact Iff.rfl | refine And.intro ?_ ?_); done) | (refine subK_ok gTok.ok (π:=[some 0,some 3,some 1,some 2,some 4,some 5]) ?_; (repeat' first | exact trivial | exact rfl | exact Iff.rfl | refine And.intro ?_ ?_); done) | (refine subK_ok gTok.ok (π:=[some 0,some 3,some 1,some 4,some 2,some 5]) ?_; (repeat' first | exact trivial | exact rfl | exact Iff.rfl | refine And.intro ?_ ?_); done) | (refine subK_ok gTok.ok (π:=[some 0,some 3,some 2,some 1,some 4,some 5]) ?_; (repeat' first | exact trivial | exact rfl | exact Iff.rfl | refine And.intro ?_ ?_); done) | (refine subK_ok gTok.ok (π:=[some 0,some 3,some 2,some 4,some 1,some 5]) ?_; (repeat' first | exact trivial | exact rfl | exact Iff.rfl | refine And.intro ?_ ?_); done) | (refine subK_ok gTok.ok (π:=[some 0,some 3,some 4,some 1,some 2,some 5]) ?_; (repeat' first | exact trivial | exact rfl | exact Iff.rfl | refine And.intro ?_ ?_); done) | (refine subK_ok gTok.ok (π:=[some 0,some 3,some 4,some 2,some 1,some 5]) ?_; (repeat' first | exact trivial | exact rfl | exact Iff.rfl | refine And.intro ?_ ?_); done) | (refine subK_ok gTok.ok (π:=[some 0,some 4,some 1,some 2,some 3,some 5]) ?_; (repeat' first | exact trivial | exact rfl | exact Iff.rfl | refine And.intro ?_ ?_); done) | (refine subK_ok gTok.ok (π:=[some 0,some 4,some 1,some 3,some 2,some 5]) ?_; (repeat' first | exact trivial | exact rfl | exact Iff.rfl | refine And.intro ?_ ?_); done) | (refine subK_ok gTok.ok (π:=[some 0,some 4,some 2,some 1,some 3,some 5]) ?_; (repeat' first | exact trivial | exact rfl | exact Iff.rfl | refine And.intro ?_ ?_); done) | (refine subK_ok gTok.ok (π:=[some 0,some 4,some 2,some 3,some 1,some 5]) ?_; (repeat' first | exact trivial | exact rfl | exact Iff.rfl | refine And.intro ?_ ?_); done) | (refine subK_ok gTok.ok (π:=[some 0,some 4,some 3,some 1,some 2,some 5]) ?_; (repeat' first | exact trivial | exact rfl | exact Iff.rfl | refine And.intro ?_ ?_); done) | (refine subK_ok gTok.ok (π:=[some 0,some 4,some 3,some 2,some 1,some 5]) ?_; (repeat' first | exact trivial | exact rfl | exact Iff.rfl | refine And.intro ?_ ?_); done) | refine And.intro ?_ ?_)
 obtain ⟨res,hres⟩ : ∃ res,outA l (goA l) = res:=⟨_,rfl⟩
 rw [hres]
 refine SW.loopX gTok P10 (by kernel_rfl) (α:={x : LyA // LyOk l x}) (fun x=>[(2,.ptr 0 0),(5,.ptr 5 0),(6,.int .i64 x.1.r)]) (fun x=>sLy l x.1.W x.1.at_ x.1.sz x.1.e x.1.L) (fun x=>x.1.n) ⟨⟨List.replicate l.length false,List.replicate l.length 0,List.replicate l.length 0,0,[],1,l.length + 1⟩,⟨by simp,by simp,by simp,by simp,by simp,⟨Int.le_refl _,by show (1 : Int) + ((l.length + 1 : Nat) : Int) = _; omega⟩,by show narrowN (List.replicate l.length false) < l.length + 1; rw [narrowN_all]; omega,rfl⟩⟩ 60 [some 0,some 1,some 2,some 3,some 4,some 5] ?_ ?_
 ·repeat' first | exact trivial | exact rfl | exact Iff.rfl | refine And.intro ?_ ?_
  all_goals first | exact (show List.replicate (l.map aiP).length (PV.int .i64 0) = intsP (wI (List.replicate l.length false)) by rw [wI_all,el]; unfold intsP; rw [List.map_replicate]) | exact (show List.replicate (l.map aiP).length (PV.int .i64 0) = intsP (List.replicate l.length 0) by rw [el]; unfold intsP; rw [List.map_replicate])
 rintro ⟨⟨W,at0,sz0,e0,L,r,n⟩,hx⟩
 obtain ⟨hW,ha0,hs0,hL,hLl,hr1,hn,hgo⟩:=hx
 simp only at hW ha0 hs0 hL hLl hr1 hn hgo
 obtain ⟨n,rfl⟩ : ∃ m,n = m + 1:=⟨n - 1,by omega⟩
 have hlay:=lay_runs (e0:=e0) hW ha0 hs0 hr hl (show L.length <= 1000000000 by omega)
 have hwid:=widen_runs (e:=endA l W 0) hW hr hc hl hL
 rw [layA] at hgo
 have hLn : ∀ p ∈ L ++ marksT l W l.length,0 <= p.2 /\ p.2 <= 1000000:=fun p hp=>(List.mem_append.1 hp).elim (hL p) (marksT_bd hW (fun x hx=>rightA_it (hr x hx)) hl (Nat.le_refl _) p)
 have hml:=marksT_len l W l.length
 have hnl:=nextA_len hW
 refine ⟨[],no_rl,hlay.useS rfl rfl rfl rfl (by repeat' first|exact trivial|exact rfl|exact Iff.rfl|refine And.intro ?_ ?_) (And.intro (by repeat' first|exact trivial|exact rfl|exact Iff.rfl|refine And.intro ?_ ?_) (And.intro (by repeat' first|exact trivial|exact rfl|exact Iff.rfl|refine And.intro ?_ ?_) (And.intro (by repeat' first|exact trivial|exact rfl|exact Iff.rfl|refine And.intro ?_ ?_) (And.intro (by repeat' first|exact trivial|exact rfl|exact Iff.rfl|refine And.intro ?_ ?_) (And.intro (by repeat' first|exact trivial|exact rfl|exact Iff.rfl|refine And.intro ?_ ?_) (And.intro (by repeat' first|exact trivial|exact rfl|exact Iff.rfl|refine And.intro ?_ ?_) ?_))))))⟩
 refine And.intro (fun hbig=>?_) (fun hbig=>?_)
 ·have hbig' : 65536 < endA l W 0:=hbig
  rw [if_pos hbig'] at hgo
  rw [← hres,hgo]
  (refine retE ?_; repeat' first|exact trivial|exact rfl|exact Iff.rfl|refine And.intro ?_ ?_)
 have hbig' : ¬ 65536 < endA l W 0:=hbig
 rw [if_neg hbig'] at hgo
 refine ⟨[],no_rl,hwid.useS rfl rfl rfl rfl (by repeat' first|exact trivial|exact rfl|exact Iff.rfl|refine And.intro ?_ ?_) (And.intro (by repeat' first|exact trivial|exact rfl|exact Iff.rfl|refine And.intro ?_ ?_) (And.intro (by repeat' first|exact trivial|exact rfl|exact Iff.rfl|refine And.intro ?_ ?_) (And.intro (by repeat' first|exact trivial|exact rfl|exact Iff.rfl|refine And.intro ?_ ?_) (And.intro (by repeat' first|exact trivial|exact rfl|exact Iff.rfl|refine And.intro ?_ ?_) (And.intro (by repeat' first|exact trivial|exact rfl|exact Iff.rfl|refine And.intro ?_ ?_) (And.intro (by repeat' first|exact trivial|exact rfl|exact Iff.rfl|refine And.intro ?_ ?_) ?_))))))⟩
 refine And.intro (fun hm4=>?_) (fun hm4=>?_)
 ·have hm4' : 0 < (narrowN W : Int) - (narrowN (nextA l W) : Int):=hm4
  have hne : nextA l W ≠ W:=fun e=>by rw [e] at hm4'; omega
  rw [if_neg hne] at hgo
  refine .inl ⟨inR_i64 (show _ <= r + 1 /\ r + 1 <= _ by omega),⟨⟨⟨nextA l W,atsA l W,szsA l W,endA l W 0,L ++ marksT l W l.length,r + 1,n⟩,⟨hnl,atsA_len l W,szsA_len l W,hLn,by simp only [List.length_append]; omega,by simp only; omega,by simp only; omega,hgo⟩⟩,[some 0,some 1,some 2,some 3,some 4,some 5],show n < n + 1 by omega,?_⟩⟩
  repeat' first | exact trivial | exact rfl | exact Iff.rfl | refine And.intro ?_ ?_
 ·have hm4' : ¬ 0 < (narrowN W : Int) - (narrowN (nextA l W) : Int):=hm4
  have heq : nextA l W = W:=Classical.byContradiction fun hne=>by have:=nextA_less hW hne; omega
  rw [if_pos heq] at hgo
  have hwr:=write_runs (e:=endA l W 0) hW hr hc hl hL (insI_right hW hr (fun x hx=>(hio x hx).1) hl heq)
  rw [heq]
  refine ⟨[],no_rl,hwr.useS rfl rfl rfl rfl (by repeat' first|exact trivial|exact rfl|exact Iff.rfl|refine And.intro ?_ ?_) (And.intro (by repeat' first|exact trivial|exact rfl|exact Iff.rfl|refine And.intro ?_ ?_) (And.intro (by repeat' first|exact trivial|exact rfl|exact Iff.rfl|refine And.intro ?_ ?_) (And.intro (by repeat' first|exact trivial|exact rfl|exact Iff.rfl|refine And.intro ?_ ?_) (And.intro (by repeat' first|exact trivial|exact rfl|exact Iff.rfl|refine And.intro ?_ ?_) (And.intro (by repeat' first|exact trivial|exact rfl|exact Iff.rfl|refine And.intro ?_ ?_) (And.intro (by repeat' first|exact trivial|exact rfl|exact Iff.rfl|refine And.intro ?_ ?_) ?_))))))⟩
  refine And.intro (fun hne=>absurd rfl hne) (fun _=>?_)
  rw [← hres,hgo]
  (refine retE ?_; repeat' first|exact trivial|exact rfl|exact Iff.rfl|refine And.intro ?_ ?_)
end Go.Proofs.YtnbngokbamifbaaGreatDoor.Pw

/- What this claim is proved with: no condition. -/
import Derived.Test.YtnbhdacpogplgaaGreatDoorPn12
import Derived.Test.YtnbhdacpogplgaaGreatDoorPn13
import Derived.Test.YtnbhdacpogplgaaGreatDoorPn17
import Derived.Test.YtnbhdacpogplgaaGreatDoorPn18
import Derived.Test.YtnbhdacpogplgaaGreatDoorPn19
import Derived.Test.YtnbhdacpogplgaaGreatDoorPn9
import Derived.Test.YtnbhdacpogplgaaGreatDoorRows
import Derived.ProofKit
import Derived.LaidMore
import Derived.OpenShut
import Derived.Stop.Joined
import Derived.Lib.LaidTab
import Derived.Test.YtnbhdacpogplgaaGreatDoorPn11
import Derived.Test.YtnbhdacpogplgaaGreatDoorPnAluB
import Derived.Test.YtnbhdacpogplgaaGreatDoorPnImmB
import Derived.Test.YtnbhdacpogplgaaGreatDoorPnPop32
import Derived.Test.YtnbhdacpogplgaaGreatDoorPnTermF
import Derived.Test.YtnbhdacpogplgaaGreatDoorPnTermO
import Derived.Test.YtnbhdacpogplgaaGreatDoorPnTermP
import Derived.Test.YtnbhdacpogplgaaGreatDoorPnTermM
import Derived.Test.YtnbhdacpogplgaaGreatDoorPnTermH
import Derived.Test.YtnbhdacpogplgaaGreatDoorPn10
import Derived.Test.YtnbhdacpogplgaaGreatDoorPnAluA
import Derived.Laws.Externs
import Derived.Lib.ItoaNum
set_option maxRecDepth 100000
set_option maxHeartbeats 8000000
set_option linter.unusedVariables false
set_option linter.unusedSimpArgs false
namespace Go.Proofs.YtnbhdacpogplgaaGreatDoor.Pw
open Go Go.RowKit
theorem eY {f:Int} (h:1<=f/\f<=100):17<=af f↔48<=f:=by
 have h1:((List.range 100).all fun k=>decide (17<=af ((k+1:Nat):Int)↔48<=k+1))=true:=by decide +kernel
 have h2:=of_decide_eq_true (List.all_eq_true.1 h1 (f.toNat - 1) (List.mem_range.2 (by omega)))
 rw[show (((f.toNat - 1+1:Nat)):Int)=f by omega] at h2
 omega
theorem vM {s:Int} (h:1<=s/\s<=16):s=1\/s=2\/s=3\/s=4\/s=5\/s=6\/s=7\/s=8\/s=9\/s=10\/s=11\/s=12\/s=13\/s=14\/s=15\/s=16:=by omega
theorem vN {s:Int} (h:17<=s/\s<=34):s=17\/s=18\/s=19\/s=20\/s=21\/s=22\/s=23\/s=24\/s=25\/s=26\/s=27\/s=28\/s=29\/s=30\/s=31\/s=32\/s=33\/s=34:=by omega
theorem ql (f w:Int) (hF:1<=f/\f<=100) (hn:¬ 48<=f) (hw:cb w):ai gT 51 [.int .i64 f,.int .u32 w] (bJ (aF f w)):=by
 have R6:=eY hF
 have hb:=h_ hF
 rcases vM (s:=af f) (by omega) with hs|hs|hs|hs|hs|hs|hs|hs|hs|hs|hs|hs|hs|hs|hs|hs
 ·rw[RH hs]; exact uq f w hF hs hw
 ·rw[RI hs]; exact ur f w hF hs hw
 ·rw[RJ hs]; exact uu f w hF hs hw
 ·rw[RK hs]; exact uv f w hF hs hw
 ·rw[RL hs]; exact uw f w hF hs hw
 ·rw[RM hs]; exact ux f w hF hs hw
 ·rw[RN hs]; exact uy f w hF hs hw
 ·rw[RO hs]; exact uz f w hF hs hw
 ·rw[RP hs]; exact uA f w hF hs hw
 ·rw[Of hs]; exact sq f w hF hs hw
 ·rw[Og hs]; exact sr f w hF hs hw
 ·rw[Oh hs]; exact ss f w hF hs hw
 ·rw[Oi hs]; exact su f w hF hs hw
 ·rw[Oj hs]; exact sv f w hF hs hw
 ·rw[Ol hs]; exact sw f w hF hs hw
 ·rw[Om hs]; exact sA f w hF hs hw
 
theorem uF (f w:Int) (hF:1<=f/\f<=100) (hn:48<=f) (hw:cb w):ai gT 52 [.int .i64 f,.int .u32 w] (bJ (aF f w)):=by
 have R6:=eY hF
 have hb:=h_ hF
 rcases vN (s:=af f) (by omega) with hs|hs|hs|hs|hs|hs|hs|hs|hs|hs|hs|hs|hs|hs|hs|hs|hs|hs
 ·rw[On hs]; exact wY f w hF hs hw
 ·rw[Oo hs]; exact wZ f w hF hs hw
 ·rw[Oq hs]; exact w5 f w hF hs hw
 ·rw[Ot hs]; exact w6 f w hF hs hw
 ·rw[Ou hs]; exact w8 f w hF hs hw
 ·rw[Ov hs]; exact w_ f w hF hs hw
 ·rw[Ow hs]; exact xb f w hF hs hw
 ·rw[Ox hs]; exact xd f w hF hs hw
 ·rw[Oy hs]; exact xe f w hF hs hw
 ·rw[Oz hs]; exact xf f w hF hs hw
 ·rw[OA hs]; exact xg f w hF hs hw
 ·rw[OB hs]; exact xh f w hF hs hw
 ·rw[OC hs]; exact xi f w hF hs hw
 ·rw[OD hs]; exact xj f w hF hs hw
 ·rw[OE hs]; exact xk f w hF hs hw
 ·rw[OF hs]; exact xl f w hF hs hw
 ·rw[OG hs]; exact xm f w hF hs hw
 ·rw[OH hs]; exact xn f w hF hs hw
 
def LB (i:IN):Int:=((cK (cI i) (ao (af i.form)):Nat):Int)
theorem uG (i:IN) (hr:bC i) (hn:¬ 48<=i.form) (hg:i.aq<=9223372036854775807):ai gT 104 [bJ i] (.int .u32 (LB i)):=by
 have R6:=eY hr.1
 have hb:=h_ hr.1
 unfold LB
 unfold bC at hr
 rw[ay (by omega)]
 rcases vM (s:=af i.form) (by omega) with hs|hs|hs|hs|hs|hs|hs|hs|hs|hs|hs|hs|hs|hs|hs|hs
 ·rw[hs] at hr ⊢; exact Aq i hs hr hg
 ·rw[hs] at hr ⊢; exact Ar i hs hr hg
 ·rw[hs] at hr ⊢; exact As i hs hr hg
 ·rw[hs] at hr ⊢; exact At i hs hr hg
 ·rw[hs] at hr ⊢; exact Au i hs hr hg
 ·rw[hs] at hr ⊢; exact Av i hs hr hg
 ·rw[hs] at hr ⊢; exact Aw i hs hr hg
 ·rw[hs] at hr ⊢; exact Ax i hs hr hg
 ·rw[hs] at hr ⊢; exact Ay i hs hr hg
 ·rw[hs] at hr ⊢; exact xo i hs hr hg
 ·rw[hs] at hr ⊢; exact xp i hs hr hg
 ·rw[hs] at hr ⊢; exact xq i hs hr hg
 ·rw[hs] at hr ⊢; exact xr i hs hr hg
 ·rw[hs] at hr ⊢; exact xu i hs hr hg
 ·rw[hs] at hr ⊢; exact xv i hs hr hg
 ·rw[hs] at hr ⊢; exact xw i hs hr hg
 
theorem AM (i:IN) (hr:bC i) (hn:48<=i.form) (hg:i.aq<=9223372036854775807):ai gT 103 [bJ i] (.int .u32 (LB i)):=by
 have R6:=eY hr.1
 have hb:=h_ hr.1
 unfold LB
 unfold bC at hr
 rcases vN (s:=af i.form) (by omega) with hs|hs|hs|hs|hs|hs|hs|hs|hs|hs|hs|hs|hs|hs|hs|hs|hs|hs
 ·rw[ay (by omega)]; rw[hs] at hr ⊢; exact Df i hs hr hg
 ·rw[ay (by omega)]; rw[hs] at hr ⊢; exact Dg i hs hr hg
 ·rw[ay (by omega)]; rw[hs] at hr ⊢; exact Dh i hs hr hg
 ·rw[ay (by omega)]; rw[hs] at hr ⊢; exact Di i hs hr hg
 ·rw[ay (by omega)]; rw[hs] at hr ⊢; exact Dj i hs hr hg
 ·rw[ay (by omega)]; rw[hs] at hr ⊢; exact Dk i hs hr hg
 ·rw[ay (by omega)]; rw[hs] at hr ⊢; exact Dl i hs hr hg
 ·rw[ay (by omega)]; rw[hs] at hr ⊢; exact Dm i hs hr hg
 ·rw[ay (by omega)]; rw[hs] at hr ⊢; exact Dn i hs hr hg
 ·rw[ay (by omega)]; rw[hs] at hr ⊢; exact Dp i hs hr hg
 ·rw[ay (by omega)]; rw[hs] at hr ⊢; exact Dq i hs hr hg
 ·rw[ay (by omega)]; rw[hs] at hr ⊢; exact Dr i hs hr hg
 ·rw[ay (by omega)]; rw[hs] at hr ⊢; exact Ds i hs hr hg
 ·rw[ay (by omega)]; rw[hs] at hr ⊢; exact Dt i hs hr hg
 ·rw[ay (by omega)]; rw[hs] at hr ⊢; exact Du i hs hr hg
 ·rw[ay (by omega)]; rw[hs] at hr ⊢; exact Dv i hs hr hg
 ·rw[ay (by omega)]; rw[hs] at hr ⊢; exact Dw i hs hr hg
 ·rw[hs] at hr ⊢; exact Dx i hs hr hg
theorem AN (i:IN):cK (cI i) (ao (af i.form)) < 4294967296:=by
 have h:=zS (cI i) (ao (af i.form)) (wM _)
 rw[sn] at h
 exact Nat.lt_of_le_of_lt Nat.right_le_or h
theorem vO (i:IN):bits .or .u32 (l8 i.form) (LB i)=bZ i:=by
 have b:=zQ i.form
 have l:=AN i
 rw[vA]
 unfold LB
 rw[u32_or _ _ b.1 b.2 (by omega) (by omega),Int.toNat_natCast]
theorem oW (i:IN) (hr:bC i) (hg:i.aq<=9223372036854775807):ai gT 53 [bJ i] (.int .u32 (bZ i)):=by
 refine Spec.enter aw Vt 100 Tryz.func53 rfl (by kernel_rfl) ?_
 refine (kP i.form).u ?_
 refine⟨fun h=>?_,fun h=>?_⟩
 ·refine (dO i.form).u ?_
  refine (AM i hr h.1 hg).u ?_
  refine al ?_
  exact vO i
 ·refine (dO i.form).u ?_
  refine (uG i hr (fun e=>h ⟨e,hr.1.2⟩) hg).u ?_
  refine al ?_
  exact vO i
theorem AO:∀ k:Fin 35,(ao ((k.1:Nat):Int)).all (fun x=>decide (x.2.1+x.2.2.2<=25))=true:=by decide
theorem sE (s:Int):∀ x∈ao s,x.2.1+x.2.2.2<=25:=by
 have h:(ao s).all (fun x=>decide (x.2.1+x.2.2.2<=25))=true:=by
  by_cases h:s < 1\/34 < s
  ·rw[ft s h]; rfl
  ·have h1:=AO ⟨s.toNat,by omega⟩
   rwa [show (((⟨s.toNat,by omega⟩:Fin 35).1:Nat):Int)=s by simp only[]; omega] at h1
 exact fun x hx=>of_decide_eq_true (List.all_eq_true.1 h x hx)
theorem DM (w:Int) (a n l:Nat) (h:l+n<=25):0<=aa w a n*2 ^ l/\aa w a n*2 ^ l<=33554432:=by
 have b:=ae w a n
 have p1:=bx l
 have p2:=bx n
 have q1:=Nat.two_pow_pos l
 have e:((aa w a n).toNat:Int)=aa w a n:=Int.toNat_of_nonneg b.1
 have h1:(aa w a n).toNat < 2 ^ n:=by omega
 have h2:(aa w a n).toNat*2 ^ l<=2 ^ n*2 ^ l:=Nat.mul_le_mul_right _ (Nat.le_of_lt h1)
 have h3:2 ^ n*2 ^ l<=2 ^ 25:=by rw[← Nat.pow_add]; exact Nat.pow_le_pow_right (by omega) (by omega)
 have e2:aa w a n*2 ^ l=(((aa w a n).toNat*2 ^ l:Nat):Int):=by rw[Int.natCast_mul,e,p1]
 rw[e2]
 have h4:(2:Nat) ^ 25=33554432:=by decide
 omega
theorem AP (w:Int):∀ (l:List (Nat × Nat × Nat × Nat)) (a:Int),(∀ x∈l,x.2.1+x.2.2.2<=25)->a<=l.foldl (fun a x=>a+aa w x.2.2.1 x.2.2.2*2 ^ x.2.1) a/\l.foldl (fun a x=>a+aa w x.2.2.1 x.2.2.2*2 ^ x.2.1) a<=a+l.length*33554432
 | [],a,_=>by simp
 | x::l,a,h=>by
  have ih:=AP w l (a+aa w x.2.2.1 x.2.2.2*2 ^ x.2.1) fun y hy=>h y (List.mem_cons_of_mem _ hy)
  have t:=DM w x.2.2.1 x.2.2.2 x.2.1 (h x (List.mem_cons_self ..))
  rw[List.foldl_cons,List.length_cons]
  omega
theorem OQ (s w:Int) (f:Nat):0<=xV s w f/\xV s w f<=234881024:=by
 have h:=AP w ((ao s).filter fun x=>decide (x.1=f)) 0 fun x hx=>sE s x (List.mem_filter.1 hx).1
 have l1:((ao s).filter fun x=>decide (x.1=f)).length<=7:=Nat.le_trans (List.length_filter_le ..) (ug s)
 unfold xV
 omega
theorem ki (x:Int) (w:Nat) (hw:w<=25):x - 33554432<=bO x w/\bO x w<=x:=by
 have p:(2:Int) ^ w<=33554432/\0 < (2:Int) ^ w:=by
  have h1:(2 ^ w:Nat)<=2 ^ 25:=Nat.pow_le_pow_right (by omega) hw
  have h3:=bx w
  have:=Nat.two_pow_pos w
  have h4:(2:Nat) ^ 25=33554432:=by decide
  omega
 unfold bO; split<;>omega
theorem DN (s f x:Int) (hx:0<=x/\x<=234881024):-1099511627776<=lP s f x/\lP s f x<=1099511627776:=by
 have a:=ki x 9 (by decide)
 have b:=ki x 12 (by decide)
 have c:=ki x 21 (by decide)
 have t:=zP x 2 (by decide)
 have d:=ki (aV x 2) 25 (by decide)
 unfold lP
 (repeat' split)<;>omega
theorem DO (f w:Int):∀ k,k < 10->-1099511627776<=jx (aF f w) k/\jx (aF f w) k<=1099511627776:=by
 intro k hk
 have x:=fun n=>OQ (af f) w n
 match k,hk with
 | 0,_=>have:=x 0; exact⟨by show _<=xV (af f) w 0; omega,by show xV (af f) w 0<=_; omega⟩
 | 1,_=>have:=x 1; exact⟨by show _<=xV (af f) w 1; omega,by show xV (af f) w 1<=_; omega⟩
 | 2,_ =>
  have:=x 2
  have b:=ae w 0 4
  have e:-1099511627776<=MK (af f) w (xV (af f) w 2)/\MK (af f) w (xV (af f) w 2)<=1099511627776:=by unfold MK; split<;>omega
  exact e
 | 3,_=>have:=x 3; exact⟨by show _<=xV (af f) w 3; omega,by show xV (af f) w 3<=_; omega⟩
 | 4,_=>exact DN (af f) f (xV (af f) w 4) (x 4)
 | 5,_=>have:=x 5; exact⟨by show _<=xV (af f) w 5; omega,by show xV (af f) w 5<=_; omega⟩
 | 6,_ =>
  have:=x 6
  have e:-1099511627776<=EV (af f) (xV (af f) w 5) (xV (af f) w 6)/\EV (af f) (xV (af f) w 5) (xV (af f) w 6)<=1099511627776:=by unfold EV; split<;>omega
  exact e
 | 7,_=>have:=x 7; exact⟨by show _<=xV (af f) w 7; omega,by show xV (af f) w 7<=_; omega⟩
 | 8,_=>have:=x 8; exact⟨by show _<=xV (af f) w 8; omega,by show xV (af f) w 8<=_; omega⟩
 | 9,_=>have:=x 9; exact⟨by show _<=xV (af f) w 9; omega,by show xV (af f) w 9<=_; omega⟩
def na (w f:Int):Prop:=bC (aF f w)/\bZ (aF f w)=w
theorem AQ {w f:Int} (h:na w f):bits .and .u32 w (l8 f)=l8 f:=by
 have b:=zQ f
 have e:=h.2
 rw[vA] at e
 have l:(l8 (aF f w).form).toNat=(l8 f).toNat:=rfl
 rw[l] at e
 have lt:=ia (show (l8 f).toNat < 4294967296 by omega) (AN (aF f w))
 obtain⟨a,ha⟩:∃ a,a=(l8 f).toNat:=⟨_,rfl⟩
 obtain⟨o,ho⟩:∃ o,o=cK (cI (aF f w)) (ao (af (aF f w).form)):=⟨_,rfl⟩
 rw[← ha,← ho] at e lt
 have ea:l8 f=(a:Int):=by omega
 rw[ea,← e,u32_and _ _ (by omega) (by omega) (by omega) (by omega),Int.toNat_natCast,Int.toNat_natCast]
 congr 1
 apply Nat.eq_of_testBit_eq
 intro p
 rw[Nat.testBit_and,Nat.testBit_or]
 cases a.testBit p<;>simp
def cY (wide:Prop) (f:Int):Prop:=(wide/\48<=f/\f<=100)\/(¬ wide/\1<=f/\f<=47)
def fE (w:Int) (wide:Prop) (f:Int):Prop:=cY wide f/\na w f/\∀ g,cY wide g->g < f->¬ na w g
theorem xG {w:Int} {wide:Prop} {f g:Int} (hf:fE w wide f) (hg:fE w wide g):f=g:=by
 by_cases h:f < g
 ·exact absurd hf.2.1 (hg.2.2 f hf.1 h)
 by_cases h2:g < f
 ·exact absurd hg.2.1 (hf.2.2 g hg.1 h2)
 omega
noncomputable def yg (w:Int) (wide:Prop):IN:=open Classical in if h:∃ f,fE w wide f then aF h.choose w else iZ
noncomputable def AR (w:Int) (wide:Prop):Int:=open Classical in if ∃ f,fE w wide f then 0 else 40
theorem qm {w:Int} {wide:Prop} {f:Int} (h:fE w wide f):yg w wide=aF f w:=by
 have e:∃ f,fE w wide f:=⟨f,h⟩
 unfold yg
 rw[dif_pos e,xG e.choose_spec h]
theorem uH {w:Int} {wide:Prop} {f:Int} (h:fE w wide f):AR w wide=0:=if_pos ⟨f,h⟩
theorem K3 {w:Int} {wide:Prop} (h:∀ f,cY wide f->¬ na w f):yg w wide=iZ:=dif_neg fun ⟨f,hf⟩=>h f hf.1 hf.2.1
theorem K4 {w:Int} {wide:Prop} (h:∀ f,cY wide f->¬ na w f):AR w wide=40:=if_neg fun ⟨f,hf⟩=>h f hf.1 hf.2.1
theorem DP (i:IN) (h:bC i) (hg:i.aq<=9223372036854775807):fE (bZ i) (48<=i.form) i.form:=by
 have hb:=back i h hg
 have ta:na (bZ i) i.form:=by unfold na; rw[hb]; exact⟨h,rfl⟩
 have f1:=h.1
 refine⟨by unfold cY; omega,ta,fun g Wc bA hh=>?_⟩
 have e:=wQ (a:=aF g (bZ i)) (b:=i) hh.1 h (by show 48<=g↔48<=i.form; unfold cY at Wc; omega) hh.2
 have:g=i.form:=e
 omega
theorem vP {f w:Int} (hf:gM f):Py (aF f w):=by
 intro x hx
 have b:=DO f w
 simp only[uB,List.mem_cons,List.not_mem_nil,or_false] at hx
 have key:∀ k,k < 10->gM (jx (aF f w) k):=fun k hk=>by have:=b k hk; unfold gM; omega
 rcases hx with rfl|rfl|rfl|rfl|rfl|rfl|rfl|rfl|rfl|rfl|rfl
 ·exact hf
 ·exact key 0 (by decide)
 ·exact key 1 (by decide)
 ·exact key 2 (by decide)
 ·exact key 3 (by decide)
 ·exact key 4 (by decide)
 ·exact key 5 (by decide)
 ·exact key 6 (by decide)
 ·exact key 7 (by decide)
 ·exact key 8 (by decide)
 ·exact key 9 (by decide)
theorem vQ (w:Int) (wide:Prop) (hw:cb w):ai gT 26 [.int .u32 w,.bool wide] (.tup [bJ (yg w wide),.int .i64 (AR w wide)]):=by
 refine Spec.enter aw Ta 100 Tryz.func26 rfl (by kernel_rfl) ?_
 refine SW.mU aw Ta (by kernel_rfl) (α:={k:Nat // k<=100/\∀ g:Int,cY wide g->g < k+1->¬ na w g}) (fun k=>[(6,.int .i64 (k.1+1:Nat))]) (fun k=>100 - k.1) ⟨0,by omega,fun g hg bA=>by unfold cY at hg; omega⟩ 100 ?_ ?_
 ·repeat' first|exact Iff.rfl|exact trivial|exact rfl|refine And.intro ?_ ?_
 rintro⟨k,hk,vb⟩
 refine⟨fun h=>?_,fun h=>?_⟩
 ·have vR:((k+1:Nat):Int)<=100:=h
  have hF:1<=((k+1:Nat):Int)/\((k+1:Nat):Int)<=100:=⟨by omega,vR⟩
  have hf:gM ((k+1:Nat):Int):=by unfold gM; omega
  have next:¬ (cY wide ((k+1:Nat):Int)/\na w ((k+1:Nat):Int))->∀ g:Int,cY wide g->g < ((k+1:Nat):Int)+1->¬ na w g:=fun hn g hg bA hh=>by
   by_cases e:g=((k+1:Nat):Int)
   ·subst e; exact hn ⟨hg,hh⟩
   ·exact vb g hg (by omega) hh
  refine (kP ((k+1:Nat):Int)).u ?_
  refine⟨fun bR=>?_,fun heq=>?_⟩
  ·refine .inl ⟨aA (show _<=((k+1:Nat):Int)+1/\((k+1:Nat):Int)+1<=_ by omega),⟨⟨k+1,by omega,next fun hh=>bR ?_⟩,show 100 - (k+1) < 100 - k by omega,?_⟩⟩
   ·unfold cY at hh; exact⟨fun h2=>hh.1.elim (fun e=>e.1) (fun e=>absurd h2.1 (by omega)),fun h2=>hh.1.elim (fun e=>e.2) (fun e=>absurd h2 e.1)⟩
   repeat' first|exact Iff.rfl|exact trivial|exact rfl|refine And.intro ?_ ?_
  have heq:=Classical.not_not.1 heq
  refine (dO ((k+1:Nat):Int)).u ?_
  refine (dO ((k+1:Nat):Int)).u ?_
  refine⟨fun hm=>?_,fun hm=>?_⟩
  ·refine .inl ⟨aA (show _<=((k+1:Nat):Int)+1/\((k+1:Nat):Int)+1<=_ by omega),⟨⟨k+1,by omega,next fun hh=>hm (AQ hh.2)⟩,show 100 - (k+1) < 100 - k by omega,?_⟩⟩
   repeat' first|exact Iff.rfl|exact trivial|exact rfl|refine And.intro ?_ ?_
  have yZ:cY wide ((k+1:Nat):Int):=by
   unfold cY
   by_cases hW:wide
   ·exact .inl ⟨hW,heq.2 hW⟩
   ·refine .inr ⟨hW,by omega,?_⟩
    by_cases LC:48<=((k+1:Nat):Int)
    ·exact absurd (heq.1 ⟨LC,vR⟩) hW
    ·omega
  have hI:=vP (w:=w) hf
  have hR:=jv (aF ((k+1:Nat):Int) w) (hI (aF ((k+1:Nat):Int) w).av (by simp[uB]))
  by_cases hW:wide
  ·have LC:=(heq.2 hW).1
   refine (n8 ((k+1:Nat):Int) w ((eY hF).2 LC) hw).u ?_
   refine⟨fun _=>?_,fun hn=>absurd hW hn⟩
   refine (uF ((k+1:Nat):Int) w hF LC hw).u ?_
   refine hR.u ?_
   refine⟨fun hr=>?_,fun hr=>?_⟩
   ·refine (oW (aF ((k+1:Nat):Int) w) hr (hI (aF ((k+1:Nat):Int) w).aq (by simp[uB])).2).u ?_
    refine⟨fun hp=>?_,fun hp=>?_⟩
    ·have AS:fE w wide ((k+1:Nat):Int):=⟨yZ,⟨hr,hp⟩,fun g hg bA=>vb g hg (by omega)⟩
     rw[qm AS,uH AS]
     exact rA
    ·refine .inl ⟨aA (show _<=((k+1:Nat):Int)+1/\((k+1:Nat):Int)+1<=_ by omega),⟨⟨k+1,by omega,next fun hh=>hp hh.2.2⟩,show 100 - (k+1) < 100 - k by omega,?_⟩⟩
     repeat' first|exact Iff.rfl|exact trivial|exact rfl|refine And.intro ?_ ?_
   ·refine .inl ⟨aA (show _<=((k+1:Nat):Int)+1/\((k+1:Nat):Int)+1<=_ by omega),⟨⟨k+1,by omega,next fun hh=>hr hh.2.1⟩,show 100 - (k+1) < 100 - k by omega,?_⟩⟩
    repeat' first|exact Iff.rfl|exact trivial|exact rfl|refine And.intro ?_ ?_
  ·have LC:¬ 48<=((k+1:Nat):Int):=fun e=>hW (heq.1 ⟨e,vR⟩)
   refine (ql ((k+1:Nat):Int) w hF LC hw).u ?_
   refine⟨fun h=>absurd h hW,fun _=>?_⟩
   refine hR.u ?_
   refine⟨fun hr=>?_,fun hr=>?_⟩
   ·refine (oW (aF ((k+1:Nat):Int) w) hr (hI (aF ((k+1:Nat):Int) w).aq (by simp[uB])).2).u ?_
    refine⟨fun hp=>?_,fun hp=>?_⟩
    ·have AS:fE w wide ((k+1:Nat):Int):=⟨yZ,⟨hr,hp⟩,fun g hg bA=>vb g hg (by omega)⟩
     rw[qm AS,uH AS]
     exact rA
    ·refine .inl ⟨aA (show _<=((k+1:Nat):Int)+1/\((k+1:Nat):Int)+1<=_ by omega),⟨⟨k+1,by omega,next fun hh=>hp hh.2.2⟩,show 100 - (k+1) < 100 - k by omega,?_⟩⟩
     repeat' first|exact Iff.rfl|exact trivial|exact rfl|refine And.intro ?_ ?_
   ·refine .inl ⟨aA (show _<=((k+1:Nat):Int)+1/\((k+1:Nat):Int)+1<=_ by omega),⟨⟨k+1,by omega,next fun hh=>hr hh.2.1⟩,show 100 - (k+1) < 100 - k by omega,?_⟩⟩
    repeat' first|exact Iff.rfl|exact trivial|exact rfl|refine And.intro ?_ ?_
 ·have vR:¬ ((k+1:Nat):Int)<=100:=h
  have cr:∀ f,cY wide f->¬ na w f:=fun f hf=>vb f hf (by unfold cY at hf; omega)
  rw[K3 cr,K4 cr]
  exact rA
def eC (h:Int):Prop:=29<=h % 65536 / 2048
theorem sF (h:Int) (hh:cb h):ai gT 25 [.int .u32 h] (.bool (eC h)):=by
 have e:bits .and .u32 h 65535=h % 65536:=rX h 16 hh.1 hh.2 (by decide)
 refine Spec.enter aw Va 100 Tryz.func25 rfl (by kernel_rfl) ?_
 refine⟨by decide,?_⟩
 refine al ?_
 show 29<=bits .and .u32 h 65535 / Ev.aC .u32 11↔eC h
 rw[e,RQ]; exact Iff.rfl
def br (f:Int):Int:=if 48<=f/\f<=100 then 4 else if 1<=f/\f<=47 then 2 else 0
theorem xH (f:Int):ai gT 33 [.int .i64 f] (.int .i64 (br f)):=by
 refine Spec.enter aw Vv 100 Tryz.func33 rfl (by kernel_rfl) ?_
 refine (kb f).u ?_
 refine⟨fun h=>?_,fun h=>?_⟩
 ·exact al (show (0:Int)=br f by unfold br; rw[if_neg (by omega),if_neg (by omega)])
 refine (kP f).u ?_
 refine⟨fun h2=>?_,fun h2=>?_⟩
 ·exact al (show (4:Int)=br f by unfold br; rw[if_pos h2])
 ·exact al (show (2:Int)=br f by unfold br; rw[if_neg h2,if_pos (by omega)])
theorem lv (i:IN):ai gT 12 [bJ i] (.int .i64 (br i.form)):=by
 refine Spec.enter aw Vu 100 Tryz.func12 rfl (by kernel_rfl) ?_
 refine (xH i.form).u ?_
 exact al rfl
theorem Op.Wd {P:Program} {t:TypeId} {S:PV->Prop} (h:Op P t S) (hS:∀ y,S y->∃ xs,y = .agg xs) {H:Type} {ec:TypeId × Value->H} {w:World} {base:Nat} {held:Bool} {vs:Array Value} {d:DataW H} {p:List MemPlace} (ht:DataW.Trod ec P w base (fun _=>true) held t (.agg vs) d p) (zr:∀ n∈d.weights P t,n<=reachBytes) :
  ∃ y,S y/\y.Is w (In w) no (.agg vs):=by
 obtain⟨fuel,ht⟩:=ht
 obtain⟨y,hy,_,hi,_⟩:=h ec w base held fuel _ _ ht zr
 refine⟨y,hy,?_⟩
 obtain⟨xs,rfl⟩:=hS y hy
 simp only[PV.Is]
 exact⟨vs,rfl,hi⟩
end Go.Proofs.YtnbhdacpogplgaaGreatDoor.Pw
namespace Go.Proofs.YtnbhdacpogplgaaGreatDoor.AU
open Go.ChangeShapes Go.WideShapes Go.ChangeAt Go.RowKit Go.Deep
end Go.Proofs.YtnbhdacpogplgaaGreatDoor.AU
namespace Go.Proofs.YtnbhdacpogplgaaGreatDoor.Pw
open Go Go.RowKit
def kr (l:List Int):List PV:=l.map (PV.int .u8)
def tc (l:List Int):Prop:=∀ z∈l,0<=z/\z<=255
theorem nc (a b:Int) (k:Nat) (hk:k<=24) (ha:0<=a/\a < 2 ^ k) (hb:0<=b/\b*2 ^ k<=4294967295):bits .or .u32 a (b*2 ^ k)=a+b*2 ^ k/\bits .or .u32 (b*2 ^ k) a=b*2 ^ k+a:=by
 have p:=mW k (by omega)
 have p2:(2:Int) ^ k<=16777216:=by
  have h1:(2 ^ k:Nat)<=2 ^ 24:=Nat.pow_le_pow_right (by omega) hk
  have h3:=bx k
  have h4:(2:Nat) ^ 24=16777216:=by decide
  omega
 obtain⟨x,rfl⟩:∃ x:Nat,a=x:=⟨a.toNat,by omega⟩
 obtain⟨y,rfl⟩:∃ y:Nat,b=y:=⟨b.toNat,by omega⟩
 have e:((y:Int)*2 ^ k)=((2 ^ k*y:Nat):Int):=by rw[Int.natCast_mul,bx,Int.mul_comm]
 rw[e] at hb ⊢
 have hx:x < 2 ^ k:=by have:=bx k; omega
 have h:=Gd y x k hx
 constructor
 ·rw[u32_or _ _ (by omega) (by omega) (by omega) (by omega),Int.toNat_natCast,Int.toNat_natCast,Nat.or_comm,← h]; omega
 ·rw[u32_or _ _ (by omega) (by omega) (by omega) (by omega),Int.toNat_natCast,Int.toNat_natCast,← h]; omega
def hN (l:List Int) (n:Nat):Int:=l.getD n 0+l.getD (n+1) 0*256
theorem vS {l:List Int} (h:tc l) (n:Nat):0<=l.getD n 0/\l.getD n 0<=255:=by
 rw[List.getD_eq_getElem?_getD]
 cases e:l[n]? with
 | none=>exact⟨Int.le_refl 0,by decide⟩
 | some z=>exact h z (List.mem_of_getElem? e)
theorem oX {l:List Int} (h:tc l) (n:Nat):0<=hN l n/\hN l n<=65535:=by
 have a:=vS h n
 have b:=vS h (n+1)
 unfold hN; omega
theorem getD_some {l:List Int} {n:Nat} {z:Int} (h:l[n]?=some z):l.getD n 0=z:=by rw[List.getD_eq_getElem?_getD,h]; rfl
theorem lx (l:List Int) (n:Nat) (hl:tc l) (hm:l.length<=maxLen) (hn:n+1 < l.length):ai gT 24 [.sl 1 (kr l),.int .i64 n] (.int .u32 (hN l n)):=by
 have jg:l.length<=2 ^ 63 - 1:=hm
 have e8:Ev.aC .u32 8=2 ^ 8:=by decide
 obtain⟨a,ha⟩:∃ a,l[n]?=some a:=⟨_,List.getElem?_eq_getElem (by omega)⟩
 obtain⟨b,hb⟩:∃ b,l[n+1]?=some b:=⟨_,List.getElem?_eq_getElem (by omega)⟩
 have ab:=hl a (List.mem_of_getElem? ha)
 have bb:=hl b (List.mem_of_getElem? hb)
 have ea:=getD_some ha
 have eb:=getD_some hb
 refine Spec.enter aw U_ 100 Tryz.func24 rfl (by kernel_rfl) ?_
 repeat' (first
  | (refine⟨Int,l,PV.int .u8,rfl,show (0:Int)<=(n:Int) by omega,show (n:Int) < (l.length:Int) by omega,fun z hz=>?_⟩
     obtain rfl:a=z:=Option.some.inj (ha.symm.trans hz))
  | (refine⟨Int,l,PV.int .u8,rfl,show (0:Int)<=(n:Int)+1 by omega,show (n:Int)+1 < (l.length:Int) by omega,fun z hz=>?_⟩
     obtain rfl:b=z:=Option.some.inj (hb.symm.trans hz))
  | refine Or.inl (And.intro (aA (show _<=(n:Int)+1/\(n:Int)+1<=_ by omega)) ?_)
  | refine Or.inl (And.intro (ah (show 0<=a/\a<=_ by omega)) ?_)
  | refine Or.inl (And.intro (ah (show 0<=b/\b<=_ by omega)) ?_)
  | refine And.intro (show (0:Int)<=8 by decide) (Or.inl (And.intro (ah (show 0<=b*Ev.aC .u32 8/\b*Ev.aC .u32 8<=_ by rw[e8]; omega)) ?_))
  | exact rfl
  | exact trivial
  | (refine al ?_
     show bits .or .u32 a (b*Ev.aC .u32 8)=hN l n
     rw[e8,(nc a b 8 (by decide) (by omega) (by omega)).1,hN,ea,eb]
     rfl)
  | refine And.intro ?_ ?_)
def hW (l:List Int) (n:Nat):Int:=hN l n*65536+hN l (n+2)
noncomputable def yh (l:List Int) (n:Nat):IN:=open Classical in
 if l.length < n+2 then iZ else if ¬ eC (hN l n) then yg (hN l n) False else if l.length < n+4 then iZ else yg (hW l n) True
noncomputable def yi (l:List Int) (n:Nat):Int:=open Classical in
 if l.length < n+2 then 41 else if ¬ eC (hN l n) then AR (hN l n) False else if l.length < n+4 then 41 else AR (hW l n) True
theorem OR (l:List Int) (hl:tc l) (n:Nat):bits .or .u32 (hN l n*Ev.aC .u32 16) (hN l (n+2))=hW l n:=by
 have a:=oX hl n
 have b:=oX hl (n+2)
 have e:Ev.aC .u32 16=2 ^ 16:=by decide
 rw[e,(nc (hN l (n+2)) (hN l n) 16 (by decide) (by omega) (by omega)).2]
 rfl
theorem OS (l:List Int) (hl:tc l) (n:Nat):cb (hW l n):=by
 have a:=oX hl n
 have b:=oX hl (n+2)
 unfold hW cb; omega
theorem K5 (l:List Int) (n:Int) (hm:l.length<=maxLen) (hI:gM n) (h:n < 0\/l.length < n):ai gT 8 [.sl 1 (kr l),.int .i64 n] (.tup [bJ iZ,.int .i64 11]):=by
 have el:(kr l).length=l.length:=List.length_map ..
 refine Spec.enter aw P8 100 Tryz.func8 rfl (by kernel_rfl) ?_
 refine⟨fun h0=>?_,fun h0=>?_⟩
 ·exact rA
 ·intro _
  refine⟨fun h1=>?_,fun h1=>?_⟩
  ·exact rA
  ·refine absurd ?_ h1
   show (((kr l).length:Nat):Int) < n
   have:¬ n < 0:=h0
   omega
theorem OT (l:List Int) (n:Nat) (hl:tc l) (hm:l.length<=maxLen) (hn:n<=l.length):ai gT 8 [.sl 1 (kr l),.int .i64 n] (.tup [bJ (yh l n),.int .i64 (yi l n)]):=by
 have el:(kr l).length=l.length:=List.length_map ..
 have jg:l.length<=2 ^ 63 - 1:=hm
 have h1:=oX hl n
 have h2:=oX hl (n+2)
 refine Spec.enter aw P8 100 Tryz.func8 rfl (by kernel_rfl) ?_
 refine⟨fun h0=>absurd (show (n:Int) < 0 from h0) (by omega),fun _=>?_⟩
 intro _
 refine⟨fun h0=>absurd (show (((kr l).length:Nat):Int) < (n:Int) from h0) (by omega),fun _=>?_⟩
 intro _
 refine li ?_ (show _<=(((kr l).length:Nat):Int) - (n:Int)/\(((kr l).length:Nat):Int) - (n:Int)<=_ by omega)
 refine⟨fun hs=>?_,fun hs=>?_⟩
 ·have R7:(((kr l).length:Nat):Int) - (n:Int) < 2:=hs
  have c:l.length < n+2:=by omega
  rw[show yh l n=iZ from if_pos c,show yi l n=41 from if_pos c]
  exact rA
 have R7:¬ (((kr l).length:Nat):Int) - (n:Int) < 2:=hs
 have c:¬ l.length < n+2:=by omega
 refine (lx l n hl hm (by omega)).u ?_
 refine (sF (hN l n) (by unfold cb; omega)).u ?_
 refine⟨fun hb=>?_,fun hb=>?_⟩
 ·have bV:¬ eC (hN l n):=hb
  refine⟨[],aE,(vQ (hN l n) False (by unfold cb; omega)).use (And.intro rfl (And.intro (show ¬ False from id) trivial)) rfl rfl ?_⟩
  rw[show yh l n=yg (hN l n) False by unfold yh; rw[if_neg c,if_pos bV],show yi l n=AR (hN l n) False by unfold yi; rw[if_neg c,if_pos bV]]
  exact rA
 have bV:¬ ¬ eC (hN l n):=hb
 intro _
 refine li ?_ (show _<=(((kr l).length:Nat):Int) - (n:Int)/\(((kr l).length:Nat):Int) - (n:Int)<=_ by omega)
 refine⟨fun hs=>?_,fun hs=>?_⟩
 ·have R7:(((kr l).length:Nat):Int) - (n:Int) < 4:=hs
  have c2:l.length < n+4:=by omega
  rw[show yh l n=iZ by unfold yh; rw[if_neg c,if_neg bV,if_pos c2],show yi l n=41 by unfold yi; rw[if_neg c,if_neg bV,if_pos c2]]
  exact rA
 have R7:¬ (((kr l).length:Nat):Int) - (n:Int) < 4:=hs
 have c2:¬ l.length < n+4:=by omega
 have We:Ev.aC .u32 16=65536:=by decide
 refine⟨by decide,.inl ⟨ah (by rw[We]; omega),?_⟩⟩
 refine li ?_ (show _<=(n:Int)+2/\(n:Int)+2<=_ by omega)
 refine (lx l (n+2) hl hm (by omega)).u ?_
 refine⟨[],aE,(vQ (hW l n) True (OS l hl n)).use (And.intro (OR l hl n) (And.intro (show True from trivial) trivial)) rfl rfl ?_⟩
 rw[show yh l n=yg (hW l n) True by unfold yh; rw[if_neg c,if_neg bV,if_neg c2],show yi l n=AR (hW l n) True by unfold yi; rw[if_neg c,if_neg bV,if_neg c2]]
 exact rA
def DQ:PV->Bool
 | .agg _|.tup _|.clo ..|.ref ..|.pti ..|.dpt ..|.ep ..|.gp ..|.gpi ..|.val _=>false
 | _=>true
theorem AW {x:PV} (h:DQ x=true):pQ x x:=by
 cases x<;>first|(cases h; done)|exact rfl|exact trivial|exact Iff.rfl|(unfold pQ; simp)
theorem nd:∀ {l:List PV},l.all DQ=true->iC pQ l l
 | [],_=>trivial
 | x::l,h=>by
  simp only[List.all_cons,Bool.and_eq_true] at h
  exact⟨AW h.1,nd h.2⟩
theorem cP {b:aj} (hl:b.live=true) (hc:(bif b.k.nM then b.cs.all DQ else true)=true):dG b b:=by
 obtain⟨k,ty,n,m,live,cs⟩:=b
 simp only at hl
 subst hl
 have hm:(Nat.beq ty ty && Nat.beq n n && Md.beq m m && true && true && BK.beq k k)=true:=by
  simp only[Nat.beq_refl,Bool.and_true,Bool.true_and,Bool.and_eq_true]
  exact⟨by cases m<;>rfl,by cases k<;>rfl⟩
 show (bif (Nat.beq ty ty && Nat.beq n n && Md.beq m m && true && true && BK.beq k k) then _ else False)
 rw[hm,cond_true]
 cases k
 ·exact nd hc
 ·exact nd hc
 ·exact rfl
 ·exact rfl
def okB (b:aj):Bool:=b.live && (bif b.k.nM then b.cs.all DQ else true)
theorem kT {b:aj} (h:okB b=true):dG b b:=by
 unfold okB at h
 simp only[Bool.and_eq_true] at h
 exact cP h.1 h.2
theorem oY:∀ {S:List aj},S.all okB=true->nW S S
 | [],_=>trivial
 | b::S,h=>by
  simp only[List.all_cons,Bool.and_eq_true] at h
  exact⟨kT h.1,oY h.2⟩
theorem oZ:∀ {S T:List aj} {k:List aj->Prop},S.all okB=true->k T->CF (S++T) S k
 | [],_,_,_,h=>h
 | b::S,T,k,ho,h=>by
  simp only[List.all_cons,Bool.and_eq_true] at ho
  exact⟨kT ho.1,oZ (S:=S) ho.2 h⟩
theorem Spec.R8 {G:Gx} {f:FuncId} {args aR:List PV} {r0:PV} {S0 S1 st T:List aj} {K:PV->List aj->Prop} (h:Spec G f aR S0 [] fun r S'=>r=r0/\S'=S1)
  (hc:(gD S0 S1 && S0.all (rE S0.length) && (ct aR).all (fun l=>Nat.blt l S0.length) && r0.bW.all (fun l=>Nat.blt l S0.length) && S0.all okB)=true) (hle:iC kq args aR) (x9:st=S0++T) (hK:rC S1 fun S1=>wH S1 T (K r0)):Spec G f args st [] K:=by
 simp only[Bool.and_eq_true] at hc
 obtain⟨⟨⟨⟨h1,h2⟩,h3⟩,h4⟩,h5⟩:=hc
 subst x9
 exact h.Mz h1 h2 h3 h4 hle (oZ h5 hK)
def LD (π:dN) (st:List aj):List Nat->List aj->Prop->Prop
 | [],[],k=>k
 | l::σ,b'::S,k=>(aP st[l]? fun b=>okB b=true/\n9 π b' fun ji=>b=ji)/\LD π st σ S k
 | _,_,_=>False
theorem vT {π:dN} {st:List aj}:∀ {σ:List Nat} {S:List aj} {k:Prop},LD π st σ S k->Pz π st σ S k
 | [],[],_,h=>h
 | l::σ,b'::S,k,h=>by
  refine⟨?_,vT h.2⟩
  obtain⟨b,hb,ho,hr⟩:=an h.1
  rw[hb]
  show n9 π b' fun ji=>dG b ji
  obtain⟨k0,ty,n,m,live,cs⟩:=b'
  cases k0
  ·obtain⟨ds,h1,h2⟩:=an hr
   show aP (dE π cs) _
   rw[h1]; subst h2; exact kT ho
  ·obtain⟨ds,h1,h2⟩:=an hr
   show aP (dE π cs) _
   rw[h1]; subst h2; exact kT ho
  ·have e:b=⟨.dyn,ty,n,m,live,cs⟩:=hr
   subst e; exact kT ho
  ·have e:b=⟨.mp,ty,n,m,live,cs⟩:=hr
   subst e; exact kT ho
 | [],_::_,_,h=>h.elim
 | _::_,[],_,h=>h.elim
theorem Spec.R9 {G:Gx} {f:FuncId} {args aR:List PV} {r0:PV} {S0 S1 st:List aj} {K:PV->List aj->Prop} (σ:List Nat) (h:Spec G f aR S0 [] fun r S'=>r=r0/\S'=S1) (hc:(gD S0 S1 && ig σ)=true) (tT:r0.bW = []) (hle:AA (σ.map some) args aR) (hK:LD (σ.map some) st σ S0 (Lz (σ.map some) σ S1 st (K r0))):Spec G f args st [] K:=by
 simp only[Bool.and_eq_true] at hc
 exact Spec.xA σ h hc.1 tT hc.2 hle (vT hK)
theorem vU {π:dN} {st:List aj}:∀ {σ:List Nat} {S:List aj} {k:Prop},LD π st σ S True->k->LD π st σ S k
 | [],[],_,_,h=>h
 | _::_,_::_,_,h,hk=>⟨h.1,vU h.2 hk⟩
 | [],_::_,_,h,_=>h.elim
 | _::_,[],_,h,_=>h.elim
theorem Spec.e {P:Nat->Prop} {G:Gx} {f:FuncId} {args aR:List PV} {r0:PV} {S0 S1 st:List aj} {K:List Nat->PV->List aj->Prop} (h:Spec G f aR S0 [] fun r S'=>r=r0/\S'=S1) (hK:rC S1 fun S1=>wH S1 (st.drop S0.length) (K [] r0)) (hle:iC kq args aR:=by repeat' first|exact trivial|exact rfl|exact Iff.rfl|refine And.intro ?_ ?_) (x9:st=S0++st.drop S0.length:=by rfl)
  (hc:(gD S0 S1 && S0.all (rE S0.length) && (ct aR).all (fun l=>Nat.blt l S0.length) && r0.bW.all (fun l=>Nat.blt l S0.length) && S0.all okB)=true:=by rfl):∃ rl:List Nat,(∀ l,l∈rl->P l)/\Spec G f args st rl (K rl):=⟨[],fun _ hl=>(by cases hl),h.R8 hc hle x9 hK⟩
theorem Spec.q {P:Nat->Prop} {G:Gx} {f:FuncId} {args aR:List PV} {r0:PV} {S0 S1 st:List aj} {K:List Nat->PV->List aj->Prop} (h:Spec G f aR S0 [] fun r S'=>r=r0/\S'=S1) (σ:List Nat) (hK:Lz (σ.map some) σ S1 st (K [] r0)) (hle:AA (σ.map some) args aR:=by repeat' first|exact trivial|exact rfl|exact Iff.rfl|refine And.intro ?_ ?_) (ha:LD (σ.map some) st σ S0 True:=by repeat' first|exact trivial|exact⟨rfl,rfl⟩|refine And.intro ?_ ?_) (hc:(gD S0 S1 && ig σ)=true:=by rfl) (tT:r0.bW = []:=by rfl):∃ rl:List Nat,(∀ l,l∈rl->P l)/\Spec G f args st rl (K rl):=⟨[],fun _ hl=>(by cases hl),h.R9 σ hc tT hle (vU ha hK)⟩
theorem rS {r r0:PV} {S' S1:List aj} (h:kq r r0:=by repeat' first|exact trivial|exact rfl|exact Iff.rfl|refine And.intro ?_ ?_) (hs:nW S' S1:=by first|exact oY rfl|(repeat' first|exact trivial|exact rfl|exact Iff.rfl|exact not_false|refine And.intro ?_ ?_)):∃ r',oH r r'/\(fun x S'=>x=r0/\nW S' S1) r' S':=Ro h hs
theorem o1 (x:Int) (hx:cb x):ai gT 64 [.int .u32 x] (.int .i64 (Lib.bitLen x.toNat)) :=
 ai.of_same (pZ Tryz.func64 rfl (by kernel_rfl)) [.int .u32 x] (.int .i64 (Lib.bitLen x.toNat)) (fun w I β aS h=>vB (l:=[(.u32,x)]) h) (fun w I β=>kO ..) (fun w=>(CK x w hx.1 hx.2).mono fun e w' ⟨h1,h2⟩=>⟨h1,h2.symm⟩)
theorem AX (x:Int) (h0:0<=x) (h1:x<=65535):ai gT 63 [.int .u32 x] (.int .i64 (cG x)) :=
 ai.rG (pZ Tryz.func63 rfl (by kernel_rfl)) [.int .u32 x] (.int .i64 (cG x)) (fun w I β aS h=>vB (l:=[(.u32,x)]) h) (fun w I β=>kO ..) (fun w=>xE x w h0 h1)
theorem wrap_u32 (z:Int):cb (IntKind.u32.wrap z):=by
 have:=IntKind.wrap_u32' z
 unfold cb; omega
def divC (a b:Int):Int:=if b=0\/(Lib.bitLen a.toNat:Int) - Lib.bitLen b.toNat < 0 then 2 else 3+((Lib.bitLen a.toNat:Int) - Lib.bitLen b.toNat) / 4
theorem nf {x:Int} (h:x<=4294967295):Lib.bitLen x.toNat<=32:=Rm.rR x.toNat (by omega)
theorem xI (a b:Int) (ha:cb a) (hb:cb b):ai gT 29 [.int .u32 a,.int .u32 b] (.int .i64 (divC a b)):=by
 have h1:=nf ha.2
 have h2:=nf hb.2
 refine Spec.enter aw VC 100 Tryz.func29 rfl (by kernel_rfl) ?_
 refine (o1 a ha).u ?_
 refine (o1 b hb).u ?_
 refine li ?_
 refine⟨fun h=>?_,fun h=>And.intro (fun h3=>?_) (fun h3=>?_)⟩
 ·refine al ?_
  exact (show (2:Int)=divC a b by unfold divC; rw[if_pos (.inl h)])
 ·refine al ?_
  exact (show (2:Int)=divC a b by unfold divC; rw[if_pos (.inr h3)])
 ·refine⟨by decide,.inl ⟨by omega,show (Lib.bitLen a.toNat:Int) - Lib.bitLen b.toNat<=9223372036854775807 by omega,by decide,?_⟩⟩
  refine li ?_
  refine al ?_
  exact (show (3:Int)+_=divC a b by unfold divC; rw[if_neg (by omega)])
def xJ (aq:Int):Prop:=bits .and .i64 (aq / Ev.aC .i64 15) 1=1
instance (r:Int):Decidable (xJ r):=by unfold xJ; infer_instance
def i_ (i:IN):Int:=if i.form=43/\xJ i.aq then 1+cG i.aq+2 else 1+cG i.aq
theorem ng (i:IN) (h0:0<=i.aq) (h1:i.aq<=65535):ai gT 28 [bJ i] (.int .i64 (i_ i)):=by
 have hb:=oT i.aq h0 h1
 refine Spec.enter aw VB 100 Tryz.func28 rfl (by kernel_rfl) ?_
 refine lu ?_ (show 0<=i.aq/\i.aq<=_ by omega)
 refine (AX i.aq h0 h1).u ?_
 refine li ?_ (show _<=1+cG i.aq/\1+cG i.aq<=_ by omega)
 refine⟨fun h=>?_,fun h=>?_⟩
 ·refine⟨by decide,?_⟩
  refine⟨fun ht=>?_,fun ht=>?_⟩
  ·refine li ?_ (show _<=1+cG i.aq+2/\1+cG i.aq+2<=_ by omega)
   exact al (show 1+cG i.aq+2=i_ i by unfold i_; rw[if_pos ⟨h,ht⟩])
  ·exact al (show 1+cG i.aq=i_ i by unfold i_; rw[if_neg (fun q=>ht q.2)])
 ·exact al (show 1+cG i.aq=i_ i by unfold i_; rw[if_neg (fun q=>h q.1)])
def bc (f:Int):Int :=
 if f=46\/f=99 then 1 else if f=47\/f=100\/f=31 then 2 else if f=32\/f=34\/f=36\/f=38\/f=85\/f=87\/f=33\/f=35\/f=37\/f=84\/f=86\/f=93\/f=94 then 3 else if f=42\/f=43 then 4 else if f=97 then 5 else 0
def dL (i:IN) (t:Prop) [Decidable t] (a b:Int):Int:=if bc i.form=1 then (if t then 3 else 1) else if bc i.form=2 then 3 else if bc i.form=3 then 2 else if bc i.form=4 then i_ i else if bc i.form=5 then divC a b else 1
theorem DS {i:IN} {t:Prop} [Decidable t] {a b:Int} (h:bc i.form=0):dL i t a b=1:=by unfold dL; rw[if_neg (by omega),if_neg (by omega),if_neg (by omega),if_neg (by omega),if_neg (by omega)]
theorem vV {i:IN} {t:Prop} [Decidable t] {a b:Int} (h:bc i.form=1):dL i t a b=(if t then 3 else 1):=by unfold dL; rw[if_pos h]
theorem qn {i:IN} {t:Prop} [Decidable t] {a b:Int} (h:bc i.form=2):dL i t a b=3:=by unfold dL; rw[if_neg (by omega),if_pos h]
theorem cV {i:IN} {t:Prop} [Decidable t] {a b:Int} (h:bc i.form=3):dL i t a b=2:=by unfold dL; rw[if_neg (by omega),if_neg (by omega),if_pos h]
theorem vW {i:IN} {t:Prop} [Decidable t] {a b:Int} (h:bc i.form=4):dL i t a b=i_ i:=by unfold dL; rw[if_neg (by omega),if_neg (by omega),if_neg (by omega),if_pos h]
theorem DT {i:IN} {t:Prop} [Decidable t] {a b:Int} (h:bc i.form=5):dL i t a b=divC a b:=by unfold dL; rw[if_neg (by omega),if_neg (by omega),if_neg (by omega),if_neg (by omega),if_pos h]
theorem xK (i:IN) (t:Prop) [Decidable t] (a b:Int) (hr:bC i) (hi:gM i.av) (h0:0<=i.aq) (h1:i.aq<=65535) (ha:cb a) (hb:cb b):ai gT 10 [bJ i,.bool t,.int .u32 a,.int .u32 b] (.tup [.int .i64 (dL i t a b),.int .i64 0]):=by
 refine Spec.enter aw Tc 100 Tryz.func10 rfl (by kernel_rfl) ?_
 refine (jv i hi).u ?_
 refine⟨fun h=>absurd hr h,fun _=>?_⟩
 refine⟨fun TP=>?_,fun TP=>?_⟩
 ·have hc:bc i.form=1:=by rw[show i.form=46 from TP]; rfl
  rw[vV hc]
  refine⟨fun h=>?_,fun h=>?_⟩
  ·rw[if_neg (show ¬ t from h)]
   exact al (And.intro rfl (And.intro rfl trivial))
  ·rw[if_pos (Classical.not_not.1 (show ¬ ¬ t from h))]
   exact al (And.intro rfl (And.intro rfl trivial))
 refine⟨fun TQ=>?_,fun TQ=>?_⟩
 ·have hc:bc i.form=1:=by rw[show i.form=99 from TQ]; rfl
  rw[vV hc]
  refine⟨fun h=>?_,fun h=>?_⟩
  ·rw[if_neg (show ¬ t from h)]
   exact al (And.intro rfl (And.intro rfl trivial))
  ·rw[if_pos (Classical.not_not.1 (show ¬ ¬ t from h))]
   exact al (And.intro rfl (And.intro rfl trivial))
 refine⟨fun TR=>?_,fun TR=>?_⟩
 ·have hc:bc i.form=2:=by rw[show i.form=47 from TR]; rfl
  rw[qn hc]
  exact al (And.intro rfl (And.intro rfl trivial))
 refine⟨fun OU=>?_,fun OU=>?_⟩
 ·have hc:bc i.form=2:=by rw[show i.form=100 from OU]; rfl
  rw[qn hc]
  exact al (And.intro rfl (And.intro rfl trivial))
 refine⟨fun TS=>?_,fun TS=>?_⟩
 ·have hc:bc i.form=2:=by rw[show i.form=31 from TS]; rfl
  rw[qn hc]
  exact al (And.intro rfl (And.intro rfl trivial))
 refine⟨fun Lx=>?_,fun Lx=>?_⟩
 ·have hc:bc i.form=3:=by rw[show i.form=32 from Lx]; rfl
  rw[cV hc]
  exact al (And.intro rfl (And.intro rfl trivial))
 refine⟨fun TT=>?_,fun TT=>?_⟩
 ·have hc:bc i.form=3:=by rw[show i.form=34 from TT]; rfl
  rw[cV hc]
  exact al (And.intro rfl (And.intro rfl trivial))
 refine⟨fun TU=>?_,fun TU=>?_⟩
 ·have hc:bc i.form=3:=by rw[show i.form=36 from TU]; rfl
  rw[cV hc]
  exact al (And.intro rfl (And.intro rfl trivial))
 refine⟨fun TV=>?_,fun TV=>?_⟩
 ·have hc:bc i.form=3:=by rw[show i.form=38 from TV]; rfl
  rw[cV hc]
  exact al (And.intro rfl (And.intro rfl trivial))
 refine⟨fun TW=>?_,fun TW=>?_⟩
 ·have hc:bc i.form=3:=by rw[show i.form=85 from TW]; rfl
  rw[cV hc]
  exact al (And.intro rfl (And.intro rfl trivial))
 refine⟨fun TX=>?_,fun TX=>?_⟩
 ·have hc:bc i.form=3:=by rw[show i.form=87 from TX]; rfl
  rw[cV hc]
  exact al (And.intro rfl (And.intro rfl trivial))
 refine⟨fun TY=>?_,fun TY=>?_⟩
 ·have hc:bc i.form=3:=by rw[show i.form=33 from TY]; rfl
  rw[cV hc]
  exact al (And.intro rfl (And.intro rfl trivial))
 refine⟨fun TZ=>?_,fun TZ=>?_⟩
 ·have hc:bc i.form=3:=by rw[show i.form=35 from TZ]; rfl
  rw[cV hc]
  exact al (And.intro rfl (And.intro rfl trivial))
 refine⟨fun T0=>?_,fun T0=>?_⟩
 ·have hc:bc i.form=3:=by rw[show i.form=37 from T0]; rfl
  rw[cV hc]
  exact al (And.intro rfl (And.intro rfl trivial))
 refine⟨fun T1=>?_,fun T1=>?_⟩
 ·have hc:bc i.form=3:=by rw[show i.form=84 from T1]; rfl
  rw[cV hc]
  exact al (And.intro rfl (And.intro rfl trivial))
 refine⟨fun T2=>?_,fun T2=>?_⟩
 ·have hc:bc i.form=3:=by rw[show i.form=86 from T2]; rfl
  rw[cV hc]
  exact al (And.intro rfl (And.intro rfl trivial))
 refine⟨fun T3=>?_,fun T3=>?_⟩
 ·have hc:bc i.form=3:=by rw[show i.form=93 from T3]; rfl
  rw[cV hc]
  exact al (And.intro rfl (And.intro rfl trivial))
 refine⟨fun T4=>?_,fun T4=>?_⟩
 ·have hc:bc i.form=3:=by rw[show i.form=94 from T4]; rfl
  rw[cV hc]
  exact al (And.intro rfl (And.intro rfl trivial))
 refine⟨fun T5=>?_,fun T5=>?_⟩
 ·have hc:bc i.form=4:=by rw[show i.form=42 from T5]; rfl
  rw[vW hc]
  refine (ng i h0 h1).u ?_
  exact al (And.intro rfl (And.intro rfl trivial))
 refine⟨fun LF=>?_,fun LF=>?_⟩
 ·have hc:bc i.form=4:=by rw[show i.form=43 from LF]; rfl
  rw[vW hc]
  refine (ng i h0 h1).u ?_
  exact al (And.intro rfl (And.intro rfl trivial))
 refine⟨fun vX=>?_,fun vX=>?_⟩
 ·have hc:bc i.form=5:=by rw[show i.form=97 from vX]; rfl
  rw[DT hc]
  refine (xI a b ha hb).u ?_
  exact al (And.intro rfl (And.intro rfl trivial))
 ·have hc:bc i.form=0:=by unfold bc; rw[if_neg (by omega),if_neg (by omega),if_neg (by omega),if_neg (by omega),if_neg (by omega)]
  rw[DS hc]
  exact al (And.intro rfl (And.intro rfl trivial))
def dn (a:Int):Int:=a / 16
def DU (full:Prop) (line:Int):PV:=.agg [.bool full,.int .u32 line]
theorem uI (n:Int):ai gT 30 [.int .i64 n] (.bool (n=2\/n=4)):=by
 refine Spec.enter aw Vx 100 Tryz.func30 rfl (by kernel_rfl) ?_
 refine⟨fun h=>?_,fun h=>?_⟩
 ·exact al (show n=2\/n=4 from .inl h)
 ·exact al (show n=4↔(n=2\/n=4) from ⟨.inr,fun q=>q.elim (fun e=>absurd e h) id⟩)
theorem o4 (a:Int) (ha:cb a):ai gT 32 [.int .u32 a] (.int .u32 (dn a)):=by
 refine Spec.enter aw Vy 100 Tryz.func32 rfl (by kernel_rfl) ?_
 refine And.intro (show (16:Int)≠0 by decide) (.inl ⟨ha.1,show a<=4294967295 from ha.2,show (0:Int) < 16 by decide,?_⟩)
 exact al rfl
def dH (full:Prop) [Decidable full] (line l:Int):Int:=if full/\line=l then 0 else 1
theorem o5 (full:Prop) [Decidable full] (line l:Int):ai gT 31 [DU full line,.int .u32 l] (.tup [DU True l,.int .i64 (dH full line l)]):=by
 refine Spec.enter aw Vz 100 Tryz.func31 rfl (by kernel_rfl) ?_
 refine⟨fun h=>?_,fun h=>?_⟩
 ·refine⟨fun hl=>?_,fun hl=>?_⟩
  ·have e:dH full line l=0:=by unfold dH; rw[if_pos ⟨h,hl⟩]
   rw[e]
   exact al (And.intro (And.intro (iff_true_intro h) (And.intro hl trivial)) (And.intro rfl trivial))
  ·have e:dH full line l=1:=by unfold dH; rw[if_neg (fun q=>hl q.2)]
   rw[e]
   exact al (And.intro (And.intro trivial (And.intro rfl trivial)) (And.intro rfl trivial))
 ·have e:dH full line l=1:=by unfold dH; rw[if_neg (fun q=>h q.1)]
  rw[e]
  exact al (And.intro (And.intro trivial (And.intro rfl trivial)) (And.intro rfl trivial))
def sG (at_ n:Int):Int:=if n=2 then dn at_ else dn (IntKind.u32.wrap (at_+2))
def n_ (full:Prop) [Decidable full] (line at_ n:Int):Int:=if n=2 then dH full line (dn at_) else dH full line (dn at_)+dH True (dn at_) (dn (IntKind.u32.wrap (at_+2)))
theorem sH (full:Prop) [Decidable full] (line l:Int):0<=dH full line l/\dH full line l<=1:=by unfold dH; split<;>omega
theorem nh (full:Prop) [Decidable full] (line at_ n:Int) (ha:cb at_) (hn:n=2\/n=4):ai gT 11 [DU full line,.int .u32 at_,.int .i64 n] (.tup [DU True (sG at_ n),.int .i64 (n_ full line at_ n)]):=by
 have b1:=sH full line (dn at_)
 have b2:=sH True (dn at_) (dn (IntKind.u32.wrap (at_+2)))
 refine Spec.enter aw Vw 100 Tryz.func11 rfl (by kernel_rfl) ?_
 refine (uI n).u ?_
 refine⟨fun h=>absurd hn h,fun _=>?_⟩
 refine (o4 at_ ha).u ?_
 refine (o5 full line (dn at_)).u ?_
 refine⟨fun h=>?_,fun h=>?_⟩
 ·have e1:sG at_ n=dn at_:=by unfold sG; rw[if_pos h]
  have e2:n_ full line at_ n=dH full line (dn at_):=by unfold n_; rw[if_pos h]
  rw[e1,e2]
  exact rA
 ·have e1:sG at_ n=dn (IntKind.u32.wrap (at_+2)):=by unfold sG; rw[if_neg h]
  have e2:n_ full line at_ n=dH full line (dn at_)+dH True (dn at_) (dn (IntKind.u32.wrap (at_+2))):=by unfold n_; rw[if_neg h]
  rw[e1,e2]
  refine .inr ?_
  refine (o4 (IntKind.u32.wrap (at_+2)) (wrap_u32 _)).u ?_
  refine (o5 True (dn at_) (dn (IntKind.u32.wrap (at_+2)))).u ?_
  refine li ?_
  exact rA
def kU (op:Int):Int:=if op<=2 then 0 else if op<=4 then 1 else 2
def cD:T->List PV
 | .leaf ..=>[]
 | .one _ _ a=>[.agg [.int .i64 a.op,.int .u32 a.num,.sl 3 (cD a)]]
 | .two _ _ a b=>[.agg [.int .i64 a.op,.int .u32 a.num,.sl 3 (cD a)],.agg [.int .i64 b.op,.int .u32 b.num,.sl 3 (cD b)]]
def fF (t:T):PV:=.agg [.int .i64 t.op,.int .u32 t.num,.sl 3 (cD t)]
def dI:T->List T
 | .leaf ..=>[]
 | .one _ _ a=>[a]
 | .two _ _ a b=>[a,b]
theorem ni (t:T):cD t=(dI t).map fF:=by cases t<;>rfl
inductive C where
 | mk (kind fj fG word size:Int) (a b:T) (l:List C)
namespace C
def kind:C->Int|.mk k _ _ _ _ _ _ _=>k
def fj:C->Int|.mk _ c _ _ _ _ _ _=>c
def fG:C->Int|.mk _ _ m _ _ _ _ _=>m
def word:C->Int|.mk _ _ _ w _ _ _ _=>w
def size:C->Int|.mk _ _ _ _ s _ _ _=>s
def a:C->T|.mk _ _ _ _ _ a _ _=>a
def b:C->T|.mk _ _ _ _ _ _ b _=>b
def l:C->List C|.mk _ _ _ _ _ _ _ l=>l
end C
theorem C.ind {p:C->Prop} (h:∀ k cy mi wo si a b l,(∀ x∈l,p x)->p (.mk k cy mi wo si a b l)):∀ c,p c
 | .mk k cy mi wo si a b l=>h k cy mi wo si a b l fun x _=>C.ind h x
mutual
def ja:C->List PV
 | .mk _ _ _ _ _ _ _ l=>qo l
def qo:List C->List PV
 | []=>[]
 | c::l=>.agg [.int .i64 c.kind,.int .i64 c.fj,.int .i64 c.fG,.int .i64 c.word,.int .i64 c.size,.int .i64 c.a.op,.int .u32 c.a.num,.sl 3 (cD c.a),.int .i64 c.b.op,.int .u32 c.b.num,.sl 3 (cD c.b),.sl 12 (ja c)]::qo l
end
def DW (c:C):List PV:=[.int .i64 c.kind,.int .i64 c.fj,.int .i64 c.fG,.int .i64 c.word,.int .i64 c.size,.int .i64 c.a.op,.int .u32 c.a.num,.sl 3 (cD c.a),.int .i64 c.b.op,.int .u32 c.b.num,.sl 3 (cD c.b),.sl 12 (ja c)]
def bj (c:C):PV:=.agg (DW c)
theorem kV:∀ l:List C,qo l=l.map bj
 | []=>rfl
 | c::l=>by rw[qo,kV l]; rfl
theorem dT (c:C):ja c=c.l.map bj:=by cases c; exact kV _
structure R where
 ws:List Int
 fuel:Int
 sum:Int
 AY:Int
 e:Int
namespace R
structure Ok (r:R):Prop where
 len:r.ws.length=254
 ws:∀ v∈r.ws,0<=v/\v<=4294967295
 fuel:-9223372036854775808<=r.fuel/\r.fuel<=9223372036854775807
 sum:0<=r.sum/\r.sum<=18446744073709551615
def fin (r:R):Bool:=decide (r.AY≠0\/r.e≠0)
def add (r:R) (n:Int):R:={ r with sum:=min (r.sum+n) 18446744073709551615 }
def val (r:R) (t:T):Int:=(t.iY r.ws).getD 0
def T6 (r:R) (t:T):R:={ r with AY:=if (t.iY r.ws).isSome then r.AY else 2 }
theorem Ok.words {r:R} (h:r.Ok):qk r.ws:=⟨by rw[h.len]; omega,h.ws⟩
theorem Ok.add {r:R} (h:r.Ok) {n:Int} (hn:0<=n):(r.add n).Ok:=⟨h.len,h.ws,h.fuel,by have:=h.sum; simp only[R.add]; omega⟩
theorem Ok.T6 {r:R} (h:r.Ok) (t:T):(r.T6 t).Ok:=⟨h.len,h.ws,h.fuel,h.sum⟩
theorem Ok.val {r:R} (h:r.Ok) {t:T} (ht:t.Wf):0<=r.val t/\r.val t<=4294967295:=by
 unfold R.val
 cases hv:t.iY r.ws with
 | none=>simp
 | some v=>exact T.kh h.words ht hv
end R
open Go Go.RowKit
def xL (n lo hi:Int) (t:Bool):Bool:=if t then decide (lo<=n/\n<=hi) else decide (n=0)
def d_:T->Bool
 | .leaf o n=>decide (o≠2\/n < 254)
 | .one o n a=>decide (o≠2\/n < 254) && d_ a
 | .two o n a b=>decide (o≠2\/n < 254) && (d_ a && d_ b)
def cq (t:T) (there:Bool):Bool:=if there then t.shaped && d_ t else decide (t.op=0/\t.num=0/\t.kids=0)
def uJ (k:Int):Int:=if k=3 then 2 else if k=4\/k=5 then 1 else 0
def AZ (k:Int):Int:=if k=2 then 2147483647 else if k=3 then 2 else if k=4\/k=5 then 1 else 0
def sI (k cy mi wo si:Int):Bool:=xL cy 0 2147483647 (decide (k=1)) && (xL mi 0 2147483647 (decide (k=1)) && (xL wo 4 253 (decide (k=4)) && xL si 0 1024 (decide (k=5))))
mutual
def fZ:C->Bool
 | .mk k cy mi wo si a b l=>decide (1<=k/\k<=6) && (sI k cy mi wo si && (decide (uJ k<=(l.length:Nat)/\((l.length:Nat):Int)<=AZ k) && (cq a (decide (3<=k)) && (cq b (decide (k=4\/k=6)) && xM l))))
def xM:List C->Bool
 | []=>true
 | c::l=>fZ c && xM l
end
mutual
def C.Wf:C->Prop
 | .mk _ _ _ _ _ a b l=>a.Wf/\b.Wf/\R' l
def R':List C->Prop
 | []=>True
 | c::l=>c.Wf/\R' l
end
namespace R
def nj (r:R):R:={ r with fuel:=r.fuel - 1 }
theorem Ok.AY {r:R} (h:r.Ok) (t:Int):({ r with AY:=t }:R).Ok:=⟨h.len,h.ws,h.fuel,h.sum⟩
theorem Ok.err {r:R} (h:r.Ok) (t:Int):({ r with e:=t }:R).Ok:=⟨h.len,h.ws,h.fuel,h.sum⟩
theorem Ok.set {r:R} (h:r.Ok) (n:Nat) {v:Int} (hv:0<=v/\v<=4294967295):({ r with ws:=r.ws.set n v }:R).Ok:=⟨by simp[h.len],fun x hx=>by
 rcases List.mem_or_eq_of_mem_set hx with hx|rfl
 ·exact h.ws x hx
 ·exact hv,h.fuel,h.sum⟩
end R
def R.put (r:R) (n:Nat) (v:Int):R:={ r with ws:=r.ws.set n v }
open Go Go.RowKit
theorem C.nk {p:C->Prop} (h:∀ c:C,(∀ x∈c.l,p x)->p c):∀ c,p c:=C.ind fun k cy mi wo si a b l ih=>h (.mk k cy mi wo si a b l) ih
theorem DX (c:C):fZ c=true↔(1<=c.kind/\c.kind<=6)/\sI c.kind c.fj c.fG c.word c.size=true/\(uJ c.kind<=(c.l.length:Nat)/\((c.l.length:Nat):Int)<=AZ c.kind)/\cq c.a (decide (3<=c.kind))=true/\cq c.b (decide (c.kind=4\/c.kind=6))=true/\xM c.l=true:=by
 cases c with
 | mk k cy mi wo si a b l=>simp only[fZ,Bool.and_eq_true,decide_eq_true_eq,C.kind,C.fj,C.fG,C.word,C.size,C.a,C.b,C.l]; exact Iff.rfl
theorem C.R_ (c:C):c.Wf↔c.a.Wf/\c.b.Wf/\R' c.l:=by cases c; rfl
theorem R.Ok.nj {r:R} (h:r.Ok) (h0:¬ r.fuel<=0):r.nj.Ok:=⟨h.len,h.ws,by have:=h.fuel; simp only[R.nj]; omega,h.sum⟩
def OV (ws:List Int):List Int:=ws.take 254++List.replicate (254 - ws.length) 0
def r0 (ws:List Int) (fuel:Int):R:=⟨OV ws,fuel,0,0,0⟩
def f_:T:=.leaf 0 0
def bh (cy mi:Int):C:=.mk 1 cy mi 0 0 f_ f_ []
theorem gw (cy mi:Int):ai gT 14 [.int .i64 cy,.int .i64 mi] (bj (bh cy mi)):=by
 refine Spec.enter aw VD 100 Tryz.func14 rfl (by kernel_rfl) ?_
 exact rA
def R.er (r:R):R:={ r with fuel:=0,e:=0 }
mutual
def BQ:C->List C
 | .mk k cy mi wo si a b l=>if k=2 then eH l else [.mk k cy mi wo si a b l]
def eH:List C->List C
 | []=>[]
 | c::l=>BQ c++eH l
end
theorem ij (c:C):BQ c=if c.kind=2 then eH c.l else [c]:=by cases c; rfl
theorem nm:∀ {l:List C},(∀ c∈l,∀ x∈BQ c,x.kind≠2)->∀ x∈eH l,x.kind≠2
 | [],_,x,hx=>by simp[eH] at hx
 | c::l,h,x,hx=>by
  rw[eH] at hx
  rcases List.mem_append.1 hx with hx|hx
  ·exact h c (by simp) x hx
  ·exact nm (fun y hy=>h y (by simp[hy])) x hx
theorem A0:∀ c:C,∀ x∈BQ c,x.kind≠2:=C.nk fun c ih x hx=>by
 rw[ij] at hx
 split at hx
 ·exact nm ih x hx
 ·rename_i h
  rw[List.mem_singleton] at hx
  rw[hx]; exact h
def ca (out:List C) (c:C):List C :=
 match out.getLast? with
 | some d=>if c.kind=1/\d.kind=1 then out.dropLast++[bh (d.fj+c.fj) (d.fG+c.fG)] else out++[c]
 | none=>out++[c]
def aZ (c:C):Bool:=!(decide (c.kind=1) && (decide (c.fj=0) && decide (c.fG=0)))
def fH (l:List C):List C:=((eH l).foldl ca []).filter aZ
def c_ (l:List C):C:=match fH l with
 | [c]=>c
 | o=>.mk 2 0 0 0 0 f_ f_ o
theorem kW {out:List C} {c:C} {p:C->Prop} (ho:∀ x∈out,p x) (hc:p c) (hf:∀ d∈out,c.kind=1->d.kind=1->p (bh (d.fj+c.fj) (d.fG+c.fG))):∀ x∈ca out c,p x:=by
 have app:∀ x∈out++[c],p x:=fun x hx=>by
  rcases List.mem_append.1 hx with hx|hx
  ·exact ho x hx
  ·rw[List.mem_singleton] at hx; rw[hx]; exact hc
 unfold ca
 cases he:out.getLast? with
 | none=>exact app
 | some d =>
  simp only
  by_cases hk:c.kind=1/\d.kind=1
  ·rw[if_pos hk]
   intro x hx
   rcases List.mem_append.1 hx with hx|hx
   ·exact ho x (List.dropLast_subset _ hx)
   ·rw[List.mem_singleton] at hx; rw[hx]
    exact hf d (List.mem_of_getLast? he) hk.1 hk.2
  ·rw[if_neg hk]; exact app
theorem xN (out:List C) (c:C):(ca out c).length<=out.length+1:=by
 unfold ca
 split
 ·split
  ·simp only[List.length_append,List.length_dropLast,List.length_cons,List.length_nil]; omega
  ·simp
 ·simp
end Go.Proofs.YtnbhdacpogplgaaGreatDoor.Pw

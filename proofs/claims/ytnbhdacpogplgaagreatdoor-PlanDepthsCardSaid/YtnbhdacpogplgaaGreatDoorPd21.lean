/- What this claim is proved with: no condition. -/
import Derived.Test.YtnbhdacpogplgaaGreatDoorPd13
import Derived.Test.YtnbhdacpogplgaaGreatDoorPd14
import Derived.Test.YtnbhdacpogplgaaGreatDoorPd18
import Derived.Test.YtnbhdacpogplgaaGreatDoorPd19
import Derived.Test.YtnbhdacpogplgaaGreatDoorPd20
import Derived.Test.YtnbhdacpogplgaaGreatDoorPd9
import Derived.Test.YtnbhdacpogplgaaGreatDoorRows
import Derived.ProofKit
import Derived.LaidMore
import Derived.OpenShut
import Derived.Stop.Joined
import Derived.Lib.LaidTab
import Derived.Test.YtnbhdacpogplgaaGreatDoorPd11
import Derived.Test.YtnbhdacpogplgaaGreatDoorPdAluB
import Derived.Test.YtnbhdacpogplgaaGreatDoorPdImmB
import Derived.Test.YtnbhdacpogplgaaGreatDoorPdPop32
import Derived.Test.YtnbhdacpogplgaaGreatDoorPdTermF
import Derived.Test.YtnbhdacpogplgaaGreatDoorPdTermO
import Derived.Test.YtnbhdacpogplgaaGreatDoorPdTermP
import Derived.Test.YtnbhdacpogplgaaGreatDoorPdTermM
import Derived.Test.YtnbhdacpogplgaaGreatDoorPdTermH
import Derived.Test.YtnbhdacpogplgaaGreatDoorPd10
import Derived.Test.YtnbhdacpogplgaaGreatDoorPdAluA
import Derived.Laws.Externs
import Derived.Lib.ItoaNum
set_option maxRecDepth 100000
set_option maxHeartbeats 8000000
set_option linter.unusedVariables false
set_option linter.unusedSimpArgs false
namespace Go.Proofs.YtnbhdacpogplgaaGreatDoor.Pw
open Go Go.RowKit
theorem gD {f:Int} (h:1<=f/\f<=100):17<=af f↔48<=f:=by
 have h1:((List.range 100).all fun k=>decide (17<=af ((k+1:Nat):Int)↔48<=k+1))=true:=by decide +kernel
 have h2:=of_decide_eq_true (List.all_eq_true.1 h1 (f.toNat - 1) (List.mem_range.2 (by omega)))
 rw[show (((f.toNat - 1+1:Nat)):Int)=f by omega] at h2
 omega
theorem zR {s:Int} (h:1<=s/\s<=16):s=1\/s=2\/s=3\/s=4\/s=5\/s=6\/s=7\/s=8\/s=9\/s=10\/s=11\/s=12\/s=13\/s=14\/s=15\/s=16:=by omega
theorem zS {s:Int} (h:17<=s/\s<=34):s=17\/s=18\/s=19\/s=20\/s=21\/s=22\/s=23\/s=24\/s=25\/s=26\/s=27\/s=28\/s=29\/s=30\/s=31\/s=32\/s=33\/s=34:=by omega
theorem tV (f w:Int) (hF:1<=f/\f<=100) (hn:¬ 48<=f) (hw:cA w):ai gT 51 [.int .i64 f,.int .u32 w] (bX (aJ f w)):=by
 have Yh:=gD hF
 have hb:=j5 hF
 rcases zR (s:=af f) (by omega) with hs|hs|hs|hs|hs|hs|hs|hs|hs|hs|hs|hs|hs|hs|hs|hs
 ·rw[XV hs]; exact yf f w hF hs hw
 ·rw[XW hs]; exact yg f w hF hs hw
 ·rw[XX hs]; exact yh f w hF hs hw
 ·rw[XY hs]; exact yi f w hF hs hw
 ·rw[XZ hs]; exact yj f w hF hs hw
 ·rw[X0 hs]; exact yk f w hF hs hw
 ·rw[X1 hs]; exact yl f w hF hs hw
 ·rw[X2 hs]; exact ym f w hF hs hw
 ·rw[X3 hs]; exact yn f w hF hs hw
 ·rw[T7 hs]; exact vP f w hF hs hw
 ·rw[T8 hs]; exact vQ f w hF hs hw
 ·rw[T9 hs]; exact vR f w hF hs hw
 ·rw[T' hs]; exact vS f w hF hs hw
 ·rw[T_ hs]; exact vT f w hF hs hw
 ·rw[Ua hs]; exact vU f w hF hs hw
 ·rw[Ub hs]; exact vV f w hF hs hw
 
theorem yt (f w:Int) (hF:1<=f/\f<=100) (hn:48<=f) (hw:cA w):ai gT 52 [.int .i64 f,.int .u32 w] (bX (aJ f w)):=by
 have Yh:=gD hF
 have hb:=j5 hF
 rcases zS (s:=af f) (by omega) with hs|hs|hs|hs|hs|hs|hs|hs|hs|hs|hs|hs|hs|hs|hs|hs|hs|hs
 ·rw[Uc hs]; exact A6 f w hF hs hw
 ·rw[Ud hs]; exact A7 f w hF hs hw
 ·rw[Ue hs]; exact A8 f w hF hs hw
 ·rw[Uf hs]; exact A9 f w hF hs hw
 ·rw[Ug hs]; exact A_ f w hF hs hw
 ·rw[Uh hs]; exact Bb f w hF hs hw
 ·rw[Ui hs]; exact Bd f w hF hs hw
 ·rw[Uj hs]; exact Be f w hF hs hw
 ·rw[Uk hs]; exact Bf f w hF hs hw
 ·rw[Ul hs]; exact Bg f w hF hs hw
 ·rw[Um hs]; exact Bh f w hF hs hw
 ·rw[Un hs]; exact Bi f w hF hs hw
 ·rw[Uo hs]; exact Bj f w hF hs hw
 ·rw[Up hs]; exact Bk f w hF hs hw
 ·rw[Uq hs]; exact Bl f w hF hs hw
 ·rw[Ur hs]; exact Bm f w hF hs hw
 ·rw[Us hs]; exact Bn f w hF hs hw
 ·rw[Ut hs]; exact Bo f w hF hs hw
 
def Q9 (i:IN):Int:=((dv (dq i) (ar (af i.form)):Nat):Int)
theorem yu (i:IN) (hr:bD i) (hn:¬ 48<=i.form) (hg:i.an<=9223372036854775807):ai gT 104 [bX i] (.int .u32 (Q9 i)):=by
 have Yh:=gD hr.1
 have hb:=j5 hr.1
 unfold Q9
 unfold bD at hr
 rw[aA (by omega)]
 rcases zR (s:=af i.form) (by omega) with hs|hs|hs|hs|hs|hs|hs|hs|hs|hs|hs|hs|hs|hs|hs|hs
 ·rw[hs] at hr ⊢; exact EI i hs hr hg
 ·rw[hs] at hr ⊢; exact EJ i hs hr hg
 ·rw[hs] at hr ⊢; exact EK i hs hr hg
 ·rw[hs] at hr ⊢; exact EM i hs hr hg
 ·rw[hs] at hr ⊢; exact EN i hs hr hg
 ·rw[hs] at hr ⊢; exact EO i hs hr hg
 ·rw[hs] at hr ⊢; exact EP i hs hr hg
 ·rw[hs] at hr ⊢; exact ER i hs hr hg
 ·rw[hs] at hr ⊢; exact ES i hs hr hg
 ·rw[hs] at hr ⊢; exact Bp i hs hr hg
 ·rw[hs] at hr ⊢; exact Bq i hs hr hg
 ·rw[hs] at hr ⊢; exact Br i hs hr hg
 ·rw[hs] at hr ⊢; exact Bs i hs hr hg
 ·rw[hs] at hr ⊢; exact Bt i hs hr hg
 ·rw[hs] at hr ⊢; exact Bu i hs hr hg
 ·rw[hs] at hr ⊢; exact Bv i hs hr hg
 
theorem E6 (i:IN) (hr:bD i) (hn:48<=i.form) (hg:i.an<=9223372036854775807):ai gT 103 [bX i] (.int .u32 (Q9 i)):=by
 have Yh:=gD hr.1
 have hb:=j5 hr.1
 unfold Q9
 unfold bD at hr
 rcases zS (s:=af i.form) (by omega) with hs|hs|hs|hs|hs|hs|hs|hs|hs|hs|hs|hs|hs|hs|hs|hs|hs|hs
 ·rw[aA (by omega)]; rw[hs] at hr ⊢; exact Il i hs hr hg
 ·rw[aA (by omega)]; rw[hs] at hr ⊢; exact Im i hs hr hg
 ·rw[aA (by omega)]; rw[hs] at hr ⊢; exact Io i hs hr hg
 ·rw[aA (by omega)]; rw[hs] at hr ⊢; exact Ip i hs hr hg
 ·rw[aA (by omega)]; rw[hs] at hr ⊢; exact Iq i hs hr hg
 ·rw[aA (by omega)]; rw[hs] at hr ⊢; exact Ir i hs hr hg
 ·rw[aA (by omega)]; rw[hs] at hr ⊢; exact It i hs hr hg
 ·rw[aA (by omega)]; rw[hs] at hr ⊢; exact Iu i hs hr hg
 ·rw[aA (by omega)]; rw[hs] at hr ⊢; exact Iv i hs hr hg
 ·rw[aA (by omega)]; rw[hs] at hr ⊢; exact Iw i hs hr hg
 ·rw[aA (by omega)]; rw[hs] at hr ⊢; exact Ix i hs hr hg
 ·rw[aA (by omega)]; rw[hs] at hr ⊢; exact Iy i hs hr hg
 ·rw[aA (by omega)]; rw[hs] at hr ⊢; exact Iz i hs hr hg
 ·rw[aA (by omega)]; rw[hs] at hr ⊢; exact IA i hs hr hg
 ·rw[aA (by omega)]; rw[hs] at hr ⊢; exact IB i hs hr hg
 ·rw[aA (by omega)]; rw[hs] at hr ⊢; exact IC i hs hr hg
 ·rw[aA (by omega)]; rw[hs] at hr ⊢; exact ID i hs hr hg
 ·rw[hs] at hr ⊢; exact IE i hs hr hg
theorem E7 (i:IN):dv (dq i) (ar (af i.form)) < 4294967296:=by
 have h:=Ea (dq i) (ar (af i.form)) (AS _)
 rw[vN] at h
 exact Nat.lt_of_le_of_lt Nat.right_le_or h
theorem zT (i:IN):bits .or .u32 (oZ i.form) (Q9 i)=cl i:=by
 have b:=D' i.form
 have l:=E7 i
 rw[zG]
 unfold Q9
 rw[u32_or _ _ b.1 b.2 (by omega) (by omega),Int.toNat_natCast]
theorem sk (i:IN) (hr:bD i) (hg:i.an<=9223372036854775807):ai gT 53 [bX i] (.int .u32 (cl i)):=by
 refine Spec.enter al P53 100 Tryz.func53 rfl (by kernel_rfl) ?_
 refine (nm i.form).u ?_
 refine⟨fun h=>?_,fun h=>?_⟩
 ·refine (fy i.form).u ?_
  refine (E6 i hr h.1 hg).u ?_
  refine aj ?_
  exact zT i
 ·refine (fy i.form).u ?_
  refine (yu i hr (fun e=>h ⟨e,hr.1.2⟩) hg).u ?_
  refine aj ?_
  exact zT i
theorem E8:∀ k:Fin 35,(ar ((k.1:Nat):Int)).all (fun x=>decide (x.2.1+x.2.2.2<=25))=true:=by decide
theorem v3 (s:Int):∀ x∈ar s,x.2.1+x.2.2.2<=25:=by
 have h:(ar s).all (fun x=>decide (x.2.1+x.2.2.2<=25))=true:=by
  by_cases h:s < 1\/34 < s
  ·rw[h_ s h]; rfl
  ·have h1:=E8 ⟨s.toNat,by omega⟩
   rwa [show (((⟨s.toNat,by omega⟩:Fin 35).1:Nat):Int)=s by simp only[]; omega] at h1
 exact fun x hx=>of_decide_eq_true (List.all_eq_true.1 h x hx)
theorem IV (w:Int) (a n l:Nat) (h:l+n<=25):0<=aa w a n*2 ^ l/\aa w a n*2 ^ l<=33554432:=by
 have b:=ae w a n
 have p1:=bM l
 have p2:=bM n
 have q1:=Nat.two_pow_pos l
 have e:((aa w a n).toNat:Int)=aa w a n:=Int.toNat_of_nonneg b.1
 have h1:(aa w a n).toNat < 2 ^ n:=by omega
 have h2:(aa w a n).toNat*2 ^ l<=2 ^ n*2 ^ l:=Nat.mul_le_mul_right _ (Nat.le_of_lt h1)
 have h3:2 ^ n*2 ^ l<=2 ^ 25:=by rw[← Nat.pow_add]; exact Nat.pow_le_pow_right (by omega) (by omega)
 have e2:aa w a n*2 ^ l=(((aa w a n).toNat*2 ^ l:Nat):Int):=by rw[Int.natCast_mul,e,p1]
 rw[e2]
 have h4:(2:Nat) ^ 25=33554432:=by decide
 omega
theorem E9 (w:Int):∀ (l:List (Nat × Nat × Nat × Nat)) (a:Int),(∀ x∈l,x.2.1+x.2.2.2<=25)->a<=l.foldl (fun a x=>a+aa w x.2.2.1 x.2.2.2*2 ^ x.2.1) a/\l.foldl (fun a x=>a+aa w x.2.2.1 x.2.2.2*2 ^ x.2.1) a<=a+l.length*33554432
 | [],a,_=>by simp
 | x::l,a,h=>by
  have ih:=E9 w l (a+aa w x.2.2.1 x.2.2.2*2 ^ x.2.1) fun y hy=>h y (List.mem_cons_of_mem _ hy)
  have t:=IV w x.2.2.1 x.2.2.2 x.2.1 (h x (List.mem_cons_self ..))
  rw[List.foldl_cons,List.length_cons]
  omega
theorem UC (s w:Int) (f:Nat):0<=xV s w f/\xV s w f<=234881024:=by
 have h:=E9 w ((ar s).filter fun x=>decide (x.1=f)) 0 fun x hx=>v3 s x (List.mem_filter.1 hx).1
 have l1:((ar s).filter fun x=>decide (x.1=f)).length<=7:=Nat.le_trans (List.length_filter_le ..) (x_ s)
 unfold xV
 omega
theorem my (x:Int) (w:Nat) (hw:w<=25):x - 33554432<=cg x w/\cg x w<=x:=by
 have p:(2:Int) ^ w<=33554432/\0 < (2:Int) ^ w:=by
  have h1:(2 ^ w:Nat)<=2 ^ 25:=Nat.pow_le_pow_right (by omega) hw
  have h3:=bM w
  have:=Nat.two_pow_pos w
  have h4:(2:Nat) ^ 25=33554432:=by decide
  omega
 unfold cg; split<;>omega
theorem IW (s f x:Int) (hx:0<=x/\x<=234881024):-1099511627776<=oI s f x/\oI s f x<=1099511627776:=by
 have a:=my x 9 (by decide)
 have b:=my x 12 (by decide)
 have c:=my x 21 (by decide)
 have t:=D9 x 2 (by decide)
 have d:=my (bc x 2) 25 (by decide)
 unfold oI
 (repeat' split)<;>omega
theorem IX (f w:Int):∀ k,k < 10->-1099511627776<=ly (aJ f w) k/\ly (aJ f w) k<=1099511627776:=by
 intro k hk
 have x:=fun n=>UC (af f) w n
 match k,hk with
 | 0,_=>have:=x 0; exact⟨by show _<=xV (af f) w 0; omega,by show xV (af f) w 0<=_; omega⟩
 | 1,_=>have:=x 1; exact⟨by show _<=xV (af f) w 1; omega,by show xV (af f) w 1<=_; omega⟩
 | 2,_ =>
  have:=x 2
  have b:=ae w 0 4
  have e:-1099511627776<=So (af f) w (xV (af f) w 2)/\So (af f) w (xV (af f) w 2)<=1099511627776:=by unfold So; split<;>omega
  exact e
 | 3,_=>have:=x 3; exact⟨by show _<=xV (af f) w 3; omega,by show xV (af f) w 3<=_; omega⟩
 | 4,_=>exact IW (af f) f (xV (af f) w 4) (x 4)
 | 5,_=>have:=x 5; exact⟨by show _<=xV (af f) w 5; omega,by show xV (af f) w 5<=_; omega⟩
 | 6,_ =>
  have:=x 6
  have e:-1099511627776<=J8 (af f) (xV (af f) w 5) (xV (af f) w 6)/\J8 (af f) (xV (af f) w 5) (xV (af f) w 6)<=1099511627776:=by unfold J8; split<;>omega
  exact e
 | 7,_=>have:=x 7; exact⟨by show _<=xV (af f) w 7; omega,by show xV (af f) w 7<=_; omega⟩
 | 8,_=>have:=x 8; exact⟨by show _<=xV (af f) w 8; omega,by show xV (af f) w 8<=_; omega⟩
 | 9,_=>have:=x 9; exact⟨by show _<=xV (af f) w 9; omega,by show xV (af f) w 9<=_; omega⟩
def qe (w f:Int):Prop:=bD (aJ f w)/\cl (aJ f w)=w
theorem E' {w f:Int} (h:qe w f):bits .and .u32 w (oZ f)=oZ f:=by
 have b:=D' f
 have e:=h.2
 rw[zG] at e
 have l:(oZ (aJ f w).form).toNat=(oZ f).toNat:=rfl
 rw[l] at e
 have lt:=j6 (show (oZ f).toNat < 4294967296 by omega) (E7 (aJ f w))
 obtain⟨a,ha⟩:∃ a,a=(oZ f).toNat:=⟨_,rfl⟩
 obtain⟨o,ho⟩:∃ o,o=dv (dq (aJ f w)) (ar (af (aJ f w).form)):=⟨_,rfl⟩
 rw[← ha,← ho] at e lt
 have ea:oZ f=(a:Int):=by omega
 rw[ea,← e,u32_and _ _ (by omega) (by omega) (by omega) (by omega),Int.toNat_natCast,Int.toNat_natCast]
 congr 1
 apply Nat.eq_of_testBit_eq
 intro p
 rw[Nat.testBit_and,Nat.testBit_or]
 cases a.testBit p<;>simp
def dL (wide:Prop) (f:Int):Prop:=(wide/\48<=f/\f<=100)\/(¬ wide/\1<=f/\f<=47)
def im (w:Int) (wide:Prop) (f:Int):Prop:=dL wide f/\qe w f/\∀ g,dL wide g->g < f->¬ qe w g
theorem BF {w:Int} {wide:Prop} {f g:Int} (hf:im w wide f) (hg:im w wide g):f=g:=by
 by_cases h:f < g
 ·exact absurd hf.2.1 (hg.2.2 f hf.1 h)
 by_cases h2:g < f
 ·exact absurd hg.2.1 (hf.2.2 g hg.1 h2)
 omega
noncomputable def CA (w:Int) (wide:Prop):IN:=open Classical in if h:∃ f,im w wide f then aJ h.choose w else iZ
noncomputable def E_ (w:Int) (wide:Prop):Int:=open Classical in if ∃ f,im w wide f then 0 else 40
theorem tW {w:Int} {wide:Prop} {f:Int} (h:im w wide f):CA w wide=aJ f w:=by
 have e:∃ f,im w wide f:=⟨f,h⟩
 unfold CA
 rw[dif_pos e,BF e.choose_spec h]
theorem yv {w:Int} {wide:Prop} {f:Int} (h:im w wide f):E_ w wide=0:=if_pos ⟨f,h⟩
theorem Qh {w:Int} {wide:Prop} (h:∀ f,dL wide f->¬ qe w f):CA w wide=iZ:=dif_neg fun ⟨f,hf⟩=>h f hf.1 hf.2.1
theorem Qi {w:Int} {wide:Prop} (h:∀ f,dL wide f->¬ qe w f):E_ w wide=40:=if_neg fun ⟨f,hf⟩=>h f hf.1 hf.2.1
theorem IY (i:IN) (h:bD i) (hg:i.an<=9223372036854775807):im (cl i) (48<=i.form) i.form:=by
 have hb:=back i h hg
 have xj:qe (cl i) i.form:=by unfold qe; rw[hb]; exact⟨h,rfl⟩
 have f1:=h.1
 refine⟨by unfold dL; omega,xj,fun g hgf bG hh=>?_⟩
 have e:=r9 (a:=aJ g (cl i)) (b:=i) hh.1 h (by show 48<=g↔48<=i.form; unfold dL at hgf; omega) hh.2
 have:g=i.form:=e
 omega
theorem zU {f w:Int} (hf:ck f):Kc (aJ f w):=by
 intro x hx
 have b:=IX f w
 simp only[yo,List.mem_cons,List.not_mem_nil,or_false] at hx
 have key:∀ k,k < 10->ck (ly (aJ f w) k):=fun k hk=>by have:=b k hk; unfold ck; omega
 rcases hx with rfl|rfl|rfl|rfl|rfl|rfl|rfl|rfl|rfl|rfl|rfl
 ·exact hf
 ·exact key 0 (by decide)
 ·exact key 1 (by decide)
 ·exact key 2 (by decide)
 ·exact key 3 (by decide)
 ·exact key 4 (by decide)
 ·exact key 5 (by decide)
 ·exact key 6 (by decide)
 ·exact key 7 (by decide)
 ·exact key 8 (by decide)
 ·exact key 9 (by decide)
theorem zV (w:Int) (wide:Prop) (hw:cA w):ai gT 26 [.int .u32 w,.bool wide] (.tup [bX (CA w wide),.int .i64 (E_ w wide)]):=by
 refine Spec.enter al ZE 100 Tryz.func26 rfl (by kernel_rfl) ?_
 refine SW.hU al ZE (by kernel_rfl) (α:={k:Nat // k<=100/\∀ g:Int,dL wide g->g < k+1->¬ qe w g}) (fun k=>[(6,.int .i64 (k.1+1:Nat))]) (fun k=>100 - k.1) ⟨0,by omega,fun g hg bG=>by unfold dL at hg; omega⟩ 100 ?_ ?_
 ·repeat' first|exact Iff.rfl|exact trivial|exact rfl|refine And.intro ?_ ?_
 rintro⟨k,hk,zf⟩
 refine⟨fun h=>?_,fun h=>?_⟩
 ·have zW:((k+1:Nat):Int)<=100:=h
  have hF:1<=((k+1:Nat):Int)/\((k+1:Nat):Int)<=100:=⟨by omega,zW⟩
  have hf:ck ((k+1:Nat):Int):=by unfold ck; omega
  have next:¬ (dL wide ((k+1:Nat):Int)/\qe w ((k+1:Nat):Int))->∀ g:Int,dL wide g->g < ((k+1:Nat):Int)+1->¬ qe w g:=fun hn g hg bG hh=>by
   by_cases e:g=((k+1:Nat):Int)
   ·subst e; exact hn ⟨hg,hh⟩
   ·exact zf g hg (by omega) hh
  refine (nm ((k+1:Nat):Int)).u ?_
  refine⟨fun bZ=>?_,fun heq=>?_⟩
  ·refine .inl ⟨ay (show _<=((k+1:Nat):Int)+1/\((k+1:Nat):Int)+1<=_ by omega),⟨⟨k+1,by omega,next fun hh=>bZ ?_⟩,show 100 - (k+1) < 100 - k by omega,?_⟩⟩
   ·unfold dL at hh; exact⟨fun h2=>hh.1.elim (fun e=>e.1) (fun e=>absurd h2.1 (by omega)),fun h2=>hh.1.elim (fun e=>e.2) (fun e=>absurd h2 e.1)⟩
   repeat' first|exact Iff.rfl|exact trivial|exact rfl|refine And.intro ?_ ?_
  have heq:=Classical.not_not.1 heq
  refine (fy ((k+1:Nat):Int)).u ?_
  refine (fy ((k+1:Nat):Int)).u ?_
  refine⟨fun hm=>?_,fun hm=>?_⟩
  ·refine .inl ⟨ay (show _<=((k+1:Nat):Int)+1/\((k+1:Nat):Int)+1<=_ by omega),⟨⟨k+1,by omega,next fun hh=>hm (E' hh.2)⟩,show 100 - (k+1) < 100 - k by omega,?_⟩⟩
   repeat' first|exact Iff.rfl|exact trivial|exact rfl|refine And.intro ?_ ?_
  have Df:dL wide ((k+1:Nat):Int):=by
   unfold dL
   by_cases hW:wide
   ·exact .inl ⟨hW,heq.2 hW⟩
   ·refine .inr ⟨hW,by omega,?_⟩
    by_cases Q_:48<=((k+1:Nat):Int)
    ·exact absurd (heq.1 ⟨Q_,zW⟩) hW
    ·omega
  have hI:=zU (w:=w) hf
  have hR:=lx (aJ ((k+1:Nat):Int) w) (hI (aJ ((k+1:Nat):Int) w).aw (by simp[yo]))
  by_cases hW:wide
  ·have Q_:=(heq.2 hW).1
   refine (q_ ((k+1:Nat):Int) w ((gD hF).2 Q_) hw).u ?_
   refine⟨fun _=>?_,fun hn=>absurd hW hn⟩
   refine (yt ((k+1:Nat):Int) w hF Q_ hw).u ?_
   refine hR.u ?_
   refine⟨fun hr=>?_,fun hr=>?_⟩
   ·refine (sk (aJ ((k+1:Nat):Int) w) hr (hI (aJ ((k+1:Nat):Int) w).an (by simp[yo])).2).u ?_
    refine⟨fun hp=>?_,fun hp=>?_⟩
    ·have Fa:im w wide ((k+1:Nat):Int):=⟨Df,⟨hr,hp⟩,fun g hg bG=>zf g hg (by omega)⟩
     rw[tW Fa,yv Fa]
     exact rA
    ·refine .inl ⟨ay (show _<=((k+1:Nat):Int)+1/\((k+1:Nat):Int)+1<=_ by omega),⟨⟨k+1,by omega,next fun hh=>hp hh.2.2⟩,show 100 - (k+1) < 100 - k by omega,?_⟩⟩
     repeat' first|exact Iff.rfl|exact trivial|exact rfl|refine And.intro ?_ ?_
   ·refine .inl ⟨ay (show _<=((k+1:Nat):Int)+1/\((k+1:Nat):Int)+1<=_ by omega),⟨⟨k+1,by omega,next fun hh=>hr hh.2.1⟩,show 100 - (k+1) < 100 - k by omega,?_⟩⟩
    repeat' first|exact Iff.rfl|exact trivial|exact rfl|refine And.intro ?_ ?_
  ·have Q_:¬ 48<=((k+1:Nat):Int):=fun e=>hW (heq.1 ⟨e,zW⟩)
   refine (tV ((k+1:Nat):Int) w hF Q_ hw).u ?_
   refine⟨fun h=>absurd h hW,fun _=>?_⟩
   refine hR.u ?_
   refine⟨fun hr=>?_,fun hr=>?_⟩
   ·refine (sk (aJ ((k+1:Nat):Int) w) hr (hI (aJ ((k+1:Nat):Int) w).an (by simp[yo])).2).u ?_
    refine⟨fun hp=>?_,fun hp=>?_⟩
    ·have Fa:im w wide ((k+1:Nat):Int):=⟨Df,⟨hr,hp⟩,fun g hg bG=>zf g hg (by omega)⟩
     rw[tW Fa,yv Fa]
     exact rA
    ·refine .inl ⟨ay (show _<=((k+1:Nat):Int)+1/\((k+1:Nat):Int)+1<=_ by omega),⟨⟨k+1,by omega,next fun hh=>hp hh.2.2⟩,show 100 - (k+1) < 100 - k by omega,?_⟩⟩
     repeat' first|exact Iff.rfl|exact trivial|exact rfl|refine And.intro ?_ ?_
   ·refine .inl ⟨ay (show _<=((k+1:Nat):Int)+1/\((k+1:Nat):Int)+1<=_ by omega),⟨⟨k+1,by omega,next fun hh=>hr hh.2.1⟩,show 100 - (k+1) < 100 - k by omega,?_⟩⟩
    repeat' first|exact Iff.rfl|exact trivial|exact rfl|refine And.intro ?_ ?_
 ·have zW:¬ ((k+1:Nat):Int)<=100:=h
  have cZ:∀ f,dL wide f->¬ qe w f:=fun f hf=>zf f hf (by unfold dL at hf; omega)
  rw[Qh cZ,Qi cZ]
  exact rA
def fY (h:Int):Prop:=29<=h % 65536 / 2048
theorem v5 (h:Int) (hh:cA h):ai gT 25 [.int .u32 h] (.bool (fY h)):=by
 have e:bits .and .u32 h 65535=h % 65536:=vA h 16 hh.1 hh.2 (by decide)
 refine Spec.enter al P25 100 Tryz.func25 rfl (by kernel_rfl) ?_
 refine⟨by decide,?_⟩
 refine aj ?_
 show 29<=bits .and .u32 h 65535 / Ev.aG .u32 11↔fY h
 rw[e,X4]; exact Iff.rfl
def aY (f:Int):Int:=if 48<=f/\f<=100 then 4 else if 1<=f/\f<=47 then 2 else 0
theorem BG (f:Int):ai gT 33 [.int .i64 f] (.int .i64 (aY f)):=by
 refine Spec.enter al P33 100 Tryz.func33 rfl (by kernel_rfl) ?_
 refine (mo f).u ?_
 refine⟨fun h=>?_,fun h=>?_⟩
 ·exact aj (show (0:Int)=aY f by unfold aY; rw[if_neg (by omega),if_neg (by omega)])
 refine (nm f).u ?_
 refine⟨fun h2=>?_,fun h2=>?_⟩
 ·exact aj (show (4:Int)=aY f by unfold aY; rw[if_pos h2])
 ·exact aj (show (2:Int)=aY f by unfold aY; rw[if_neg h2,if_pos (by omega)])
theorem eE (i:IN):ai gT 12 [bX i] (.int .i64 (aY i.form)):=by
 refine Spec.enter al P12 100 Tryz.func12 rfl (by kernel_rfl) ?_
 refine (BG i.form).u ?_
 exact aj rfl
theorem Op.argS {P:Program} {t:TypeId} {S:PV->Prop} (h:Op P t S) (hS:∀ y,S y->∃ xs,y = .agg xs) {H:Type} {ec:TypeId × Value->H} {w:World} {base:Nat} {held:Bool} {vs:Array Value} {d:DataW H} {p:List MemPlace} (ht:DataW.Trod ec P w base (fun _=>true) held t (.agg vs) d p) (rQ:∀ n∈d.weights P t,n<=reachBytes) :
  ∃ y,S y/\y.Is w (In w) no (.agg vs):=by
 obtain⟨fuel,ht⟩:=ht
 obtain⟨y,hy,_,hi,_⟩:=h ec w base held fuel _ _ ht rQ
 refine⟨y,hy,?_⟩
 obtain⟨xs,rfl⟩:=hS y hy
 simp only[PV.Is]
 exact⟨vs,rfl,hi⟩
end Go.Proofs.YtnbhdacpogplgaaGreatDoor.Pw
namespace Go.Proofs.YtnbhdacpogplgaaGreatDoor.Fb
open Go.ChangeShapes Go.WideShapes Go.ChangeAt Go.RowKit Go.Deep
end Go.Proofs.YtnbhdacpogplgaaGreatDoor.Fb
namespace Go.Proofs.YtnbhdacpogplgaaGreatDoor.Pw
open Go Go.RowKit
theorem once {a b:IN} (ha:bD a) (hb:bD b) (ga:a.an<=9223372036854775807) (gb:b.an<=9223372036854775807) (hs:aY a.form=aY b.form):cl a=cl b↔a=b:=by
 constructor
 ·intro e
  have fa:=ha.1
  have fb:=hb.1
  have hw:48<=a.form↔48<=b.form:=by
   unfold aY at hs
   by_cases h1:48<=a.form<;>by_cases h2:48<=b.form
   ·exact⟨fun _=>h2,fun _=>h1⟩
   ·rw[if_pos ⟨h1,fa.2⟩,if_neg (by omega),if_pos (by omega)] at hs; omega
   ·rw[if_neg (by omega),if_pos (by omega),if_pos ⟨h2,fb.2⟩] at hs; omega
   ·exact⟨fun h=>absurd h h1,fun h=>absurd h h2⟩
  have hf:=r9 ha hb hw e
  rw[← back a ha ga,← back b hb gb,hf,e]
 ·intro e; rw[e]
def mz (l:List Int):List PV:=l.map (PV.int .u8)
def oK (l:List Int):Prop:=∀ z∈l,0<=z/\z<=255
theorem qf (a b:Int) (k:Nat) (hk:k<=24) (ha:0<=a/\a < 2 ^ k) (hb:0<=b/\b*2 ^ k<=4294967295):bits .or .u32 a (b*2 ^ k)=a+b*2 ^ k/\bits .or .u32 (b*2 ^ k) a=b*2 ^ k+a:=by
 have p:=pX k (by omega)
 have p2:(2:Int) ^ k<=16777216:=by
  have h1:(2 ^ k:Nat)<=2 ^ 24:=Nat.pow_le_pow_right (by omega) hk
  have h3:=bM k
  have h4:(2:Nat) ^ 24=16777216:=by decide
  omega
 obtain⟨x,rfl⟩:∃ x:Nat,a=x:=⟨a.toNat,by omega⟩
 obtain⟨y,rfl⟩:∃ y:Nat,b=y:=⟨b.toNat,by omega⟩
 have e:((y:Int)*2 ^ k)=((2 ^ k*y:Nat):Int):=by rw[Int.natCast_mul,bM,Int.mul_comm]
 rw[e] at hb ⊢
 have hx:x < 2 ^ k:=by have:=bM k; omega
 have h:=Lt y x k hx
 constructor
 ·rw[u32_or _ _ (by omega) (by omega) (by omega) (by omega),Int.toNat_natCast,Int.toNat_natCast,Nat.or_comm,← h]; omega
 ·rw[u32_or _ _ (by omega) (by omega) (by omega) (by omega),Int.toNat_natCast,Int.toNat_natCast,← h]; omega
def hN (l:List Int) (n:Nat):Int:=l.getD n 0+l.getD (n+1) 0*256
theorem zX {l:List Int} (h:oK l) (n:Nat):0<=l.getD n 0/\l.getD n 0<=255:=by
 rw[List.getD_eq_getElem?_getD]
 cases e:l[n]? with
 | none=>exact⟨Int.le_refl 0,by decide⟩
 | some z=>exact h z (List.mem_of_getElem? e)
theorem sn {l:List Int} (h:oK l) (n:Nat):0<=hN l n/\hN l n<=65535:=by
 have a:=zX h n
 have b:=zX h (n+1)
 unfold hN; omega
theorem getD_some {l:List Int} {n:Nat} {z:Int} (h:l[n]?=some z):l.getD n 0=z:=by rw[List.getD_eq_getElem?_getD,h]; rfl
theorem n7 (l:List Int) (n:Nat) (hl:oK l) (hm:l.length<=maxLen) (hn:n+1 < l.length):ai gT 24 [.sl 1 (mz l),.int .i64 n] (.int .u32 (hN l n)):=by
 have k7:l.length<=2 ^ 63 - 1:=hm
 have e8:Ev.aG .u32 8=2 ^ 8:=by decide
 obtain⟨a,ha⟩:∃ a,l[n]?=some a:=⟨_,List.getElem?_eq_getElem (by omega)⟩
 obtain⟨b,hb⟩:∃ b,l[n+1]?=some b:=⟨_,List.getElem?_eq_getElem (by omega)⟩
 have ab:=hl a (List.mem_of_getElem? ha)
 have bb:=hl b (List.mem_of_getElem? hb)
 have ea:=getD_some ha
 have eb:=getD_some hb
 refine Spec.enter al P24 100 Tryz.func24 rfl (by kernel_rfl) ?_
 repeat' (first
  | (refine⟨Int,l,PV.int .u8,rfl,show (0:Int)<=(n:Int) by omega,show (n:Int) < (l.length:Int) by omega,fun z hz=>?_⟩
     obtain rfl:a=z:=Option.some.inj (ha.symm.trans hz))
  | (refine⟨Int,l,PV.int .u8,rfl,show (0:Int)<=(n:Int)+1 by omega,show (n:Int)+1 < (l.length:Int) by omega,fun z hz=>?_⟩
     obtain rfl:b=z:=Option.some.inj (hb.symm.trans hz))
  | refine Or.inl (And.intro (ay (show _<=(n:Int)+1/\(n:Int)+1<=_ by omega)) ?_)
  | refine Or.inl (And.intro (ah (show 0<=a/\a<=_ by omega)) ?_)
  | refine Or.inl (And.intro (ah (show 0<=b/\b<=_ by omega)) ?_)
  | refine And.intro (show (0:Int)<=8 by decide) (Or.inl (And.intro (ah (show 0<=b*Ev.aG .u32 8/\b*Ev.aG .u32 8<=_ by rw[e8]; omega)) ?_))
  | exact rfl
  | exact trivial
  | (refine aj ?_
     show bits .or .u32 a (b*Ev.aG .u32 8)=hN l n
     rw[e8,(qf a b 8 (by decide) (by omega) (by omega)).1,hN,ea,eb]
     rfl)
  | refine And.intro ?_ ?_)
def hW (l:List Int) (n:Nat):Int:=hN l n*65536+hN l (n+2)
noncomputable def CB (l:List Int) (n:Nat):IN:=open Classical in
 if l.length < n+2 then iZ else if ¬ fY (hN l n) then CA (hN l n) False else if l.length < n+4 then iZ else CA (hW l n) True
noncomputable def CC (l:List Int) (n:Nat):Int:=open Classical in
 if l.length < n+2 then 41 else if ¬ fY (hN l n) then E_ (hN l n) False else if l.length < n+4 then 41 else E_ (hW l n) True
theorem UD (l:List Int) (hl:oK l) (n:Nat):bits .or .u32 (hN l n*Ev.aG .u32 16) (hN l (n+2))=hW l n:=by
 have a:=sn hl n
 have b:=sn hl (n+2)
 have e:Ev.aG .u32 16=2 ^ 16:=by decide
 rw[e,(qf (hN l (n+2)) (hN l n) 16 (by decide) (by omega) (by omega)).2]
 rfl
theorem UE (l:List Int) (hl:oK l) (n:Nat):cA (hW l n):=by
 have a:=sn hl n
 have b:=sn hl (n+2)
 unfold hW cA; omega
theorem Qj (l:List Int) (n:Int) (hm:l.length<=maxLen) (hI:ck n) (h:n < 0\/l.length < n):ai gT 8 [.sl 1 (mz l),.int .i64 n] (.tup [bX iZ,.int .i64 11]):=by
 have el:(mz l).length=l.length:=List.length_map ..
 refine Spec.enter al P8 100 Tryz.func8 rfl (by kernel_rfl) ?_
 refine⟨fun h0=>?_,fun h0=>?_⟩
 ·exact rA
 ·intro _
  refine⟨fun h1=>?_,fun h1=>?_⟩
  ·exact rA
  ·refine absurd ?_ h1
   show (((mz l).length:Nat):Int) < n
   have:¬ n < 0:=h0
   omega
theorem UF (l:List Int) (n:Nat) (hl:oK l) (hm:l.length<=maxLen) (hn:n<=l.length):ai gT 8 [.sl 1 (mz l),.int .i64 n] (.tup [bX (CB l n),.int .i64 (CC l n)]):=by
 have el:(mz l).length=l.length:=List.length_map ..
 have k7:l.length<=2 ^ 63 - 1:=hm
 have h1:=sn hl n
 have h2:=sn hl (n+2)
 refine Spec.enter al P8 100 Tryz.func8 rfl (by kernel_rfl) ?_
 refine⟨fun h0=>absurd (show (n:Int) < 0 from h0) (by omega),fun _=>?_⟩
 intro _
 refine⟨fun h0=>absurd (show (((mz l).length:Nat):Int) < (n:Int) from h0) (by omega),fun _=>?_⟩
 intro _
 refine li ?_ (show _<=(((mz l).length:Nat):Int) - (n:Int)/\(((mz l).length:Nat):Int) - (n:Int)<=_ by omega)
 refine⟨fun hs=>?_,fun hs=>?_⟩
 ·have Yi:(((mz l).length:Nat):Int) - (n:Int) < 2:=hs
  have c:l.length < n+2:=by omega
  rw[show CB l n=iZ from if_pos c,show CC l n=41 from if_pos c]
  exact rA
 have Yi:¬ (((mz l).length:Nat):Int) - (n:Int) < 2:=hs
 have c:¬ l.length < n+2:=by omega
 refine (n7 l n hl hm (by omega)).u ?_
 refine (v5 (hN l n) (by unfold cA; omega)).u ?_
 refine⟨fun hb=>?_,fun hb=>?_⟩
 ·have cv:¬ fY (hN l n):=hb
  refine⟨[],av,(zV (hN l n) False (by unfold cA; omega)).use (And.intro rfl (And.intro (show ¬ False from id) trivial)) rfl rfl ?_⟩
  rw[show CB l n=CA (hN l n) False by unfold CB; rw[if_neg c,if_pos cv],show CC l n=E_ (hN l n) False by unfold CC; rw[if_neg c,if_pos cv]]
  exact rA
 have cv:¬ ¬ fY (hN l n):=hb
 intro _
 refine li ?_ (show _<=(((mz l).length:Nat):Int) - (n:Int)/\(((mz l).length:Nat):Int) - (n:Int)<=_ by omega)
 refine⟨fun hs=>?_,fun hs=>?_⟩
 ·have Yi:(((mz l).length:Nat):Int) - (n:Int) < 4:=hs
  have c2:l.length < n+4:=by omega
  rw[show CB l n=iZ by unfold CB; rw[if_neg c,if_neg cv,if_pos c2],show CC l n=41 by unfold CC; rw[if_neg c,if_neg cv,if_pos c2]]
  exact rA
 have Yi:¬ (((mz l).length:Nat):Int) - (n:Int) < 4:=hs
 have c2:¬ l.length < n+4:=by omega
 have e16:Ev.aG .u32 16=65536:=by decide
 refine⟨by decide,.inl ⟨ah (by rw[e16]; omega),?_⟩⟩
 refine li ?_ (show _<=(n:Int)+2/\(n:Int)+2<=_ by omega)
 refine (n7 l (n+2) hl hm (by omega)).u ?_
 refine⟨[],av,(zV (hW l n) True (UE l hl n)).use (And.intro (UD l hl n) (And.intro (show True from trivial) trivial)) rfl rfl ?_⟩
 rw[show CB l n=CA (hW l n) True by unfold CB; rw[if_neg c,if_neg cv,if_neg c2],show CC l n=E_ (hW l n) True by unfold CC; rw[if_neg c,if_neg cv,if_neg c2]]
 exact rA
def IZ:PV->Bool
 | .agg _|.tup _|.clo ..|.ref ..|.pti ..|.dpt ..|.ep ..|.gp ..|.gpi ..|.val _=>false
 | _=>true
theorem Fc {x:PV} (h:IZ x=true):pI x x:=by
 cases x<;>first|(cases h; done)|exact rfl|exact trivial|exact Iff.rfl|(unfold pI; simp)
theorem qg:∀ {l:List PV},l.all IZ=true->kp pI l l
 | [],_=>trivial
 | x::l,h=>by
  simp only[List.all_cons,Bool.and_eq_true] at h
  exact⟨Fc h.1,qg h.2⟩
theorem da {b:ak} (hl:b.live=true) (hc:(bif b.k.qL then b.cs.all IZ else true)=true):dR b b:=by
 obtain⟨k,ty,n,m,live,cs⟩:=b
 simp only at hl
 subst hl
 have hm:(Nat.beq ty ty && Nat.beq n n && Md.beq m m && true && true && BK.beq k k)=true:=by
  simp only[Nat.beq_refl,Bool.and_true,Bool.true_and,Bool.and_eq_true]
  exact⟨by cases m<;>rfl,by cases k<;>rfl⟩
 show (bif (Nat.beq ty ty && Nat.beq n n && Md.beq m m && true && true && BK.beq k k) then _ else False)
 rw[hm,cond_true]
 cases k
 ·exact qg hc
 ·exact qg hc
 ·exact rfl
 ·exact rfl
def okB (b:ak):Bool:=b.live && (bif b.k.qL then b.cs.all IZ else true)
theorem nt {b:ak} (h:okB b=true):dR b b:=by
 unfold okB at h
 simp only[Bool.and_eq_true] at h
 exact da h.1 h.2
theorem so:∀ {S:List ak},S.all okB=true->qV S S
 | [],_=>trivial
 | b::S,h=>by
  simp only[List.all_cons,Bool.and_eq_true] at h
  exact⟨nt h.1,so h.2⟩
theorem sq:∀ {S T:List ak} {k:List ak->Prop},S.all okB=true->k T->Hw (S++T) S k
 | [],_,_,_,h=>h
 | b::S,T,k,ho,h=>by
  simp only[List.all_cons,Bool.and_eq_true] at ho
  exact⟨nt ho.1,sq (S:=S) ho.2 h⟩
theorem Spec.Yj {G:Gx} {f:FuncId} {args aX:List PV} {r0:PV} {S0 S1 st T:List ak} {K:PV->List ak->Prop} (h:Spec G f aX S0 [] fun r S'=>r=r0/\S'=S1)
  (hc:(jB S0 S1 && S0.all (vh S0.length) && (c8 aX).all (fun l=>Nat.blt l S0.length) && r0.cr.all (fun l=>Nat.blt l S0.length) && S0.all okB)=true) (hle:kp mT args aX) (Cq:st=S0++T) (hK:vg S1 fun S1=>AN S1 T (K r0)):Spec G f args st [] K:=by
 simp only[Bool.and_eq_true] at hc
 obtain⟨⟨⟨⟨h1,h2⟩,h3⟩,h4⟩,h5⟩:=hc
 subst Cq
 exact h.Sc h1 h2 h3 h4 hle (sq h5 hK)
def Ra (π:fx) (st:List ak):List Nat->List ak->Prop->Prop
 | [],[],k=>k
 | l::σ,b'::S,k=>(aV st[l]? fun b=>okB b=true/\rb π b' fun k9=>b=k9)/\Ra π st σ S k
 | _,_,_=>False
theorem zY {π:fx} {st:List ak}:∀ {σ:List Nat} {S:List ak} {k:Prop},Ra π st σ S k->VG π st σ S k
 | [],[],_,h=>h
 | l::σ,b'::S,k,h=>by
  refine⟨?_,zY h.2⟩
  obtain⟨b,hb,ho,hr⟩:=aq h.1
  rw[hb]
  show rb π b' fun k9=>dR b k9
  obtain⟨k0,ty,n,m,live,cs⟩:=b'
  cases k0
  ·obtain⟨ds,h1,h2⟩:=aq hr
   show aV (eS π cs) _
   rw[h1]; subst h2; exact nt ho
  ·obtain⟨ds,h1,h2⟩:=aq hr
   show aV (eS π cs) _
   rw[h1]; subst h2; exact nt ho
  ·have e:b=⟨.dyn,ty,n,m,live,cs⟩:=hr
   subst e; exact nt ho
  ·have e:b=⟨.mp,ty,n,m,live,cs⟩:=hr
   subst e; exact nt ho
 | [],_::_,_,h=>h.elim
 | _::_,[],_,h=>h.elim
theorem Spec.Yk {G:Gx} {f:FuncId} {args aX:List PV} {r0:PV} {S0 S1 st:List ak} {K:PV->List ak->Prop} (σ:List Nat) (h:Spec G f aX S0 [] fun r S'=>r=r0/\S'=S1) (hc:(jB S0 S1 && j' σ)=true) (xQ:r0.cr = []) (hle:EU (σ.map some) args aX) (hK:Ra (σ.map some) st σ S0 (Q7 (σ.map some) σ S1 st (K r0))):Spec G f args st [] K:=by
 simp only[Bool.and_eq_true] at hc
 exact Spec.vW σ h hc.1 xQ hc.2 hle (zY hK)
theorem zZ {π:fx} {st:List ak}:∀ {σ:List Nat} {S:List ak} {k:Prop},Ra π st σ S True->k->Ra π st σ S k
 | [],[],_,_,h=>h
 | _::_,_::_,_,h,hk=>⟨h.1,zZ h.2 hk⟩
 | [],_::_,_,h,_=>h.elim
 | _::_,[],_,h,_=>h.elim
theorem Spec.e {P:Nat->Prop} {G:Gx} {f:FuncId} {args aX:List PV} {r0:PV} {S0 S1 st:List ak} {K:List Nat->PV->List ak->Prop} (h:Spec G f aX S0 [] fun r S'=>r=r0/\S'=S1) (hK:vg S1 fun S1=>AN S1 (st.drop S0.length) (K [] r0)) (hle:kp mT args aX:=by repeat' first|exact trivial|exact rfl|exact Iff.rfl|refine And.intro ?_ ?_) (Cq:st=S0++st.drop S0.length:=by rfl)
  (hc:(jB S0 S1 && S0.all (vh S0.length) && (c8 aX).all (fun l=>Nat.blt l S0.length) && r0.cr.all (fun l=>Nat.blt l S0.length) && S0.all okB)=true:=by rfl):∃ rl:List Nat,(∀ l,l∈rl->P l)/\Spec G f args st rl (K rl):=⟨[],fun _ hl=>(by cases hl),h.Yj hc hle Cq hK⟩
theorem Spec.q {P:Nat->Prop} {G:Gx} {f:FuncId} {args aX:List PV} {r0:PV} {S0 S1 st:List ak} {K:List Nat->PV->List ak->Prop} (h:Spec G f aX S0 [] fun r S'=>r=r0/\S'=S1) (σ:List Nat) (hK:Q7 (σ.map some) σ S1 st (K [] r0)) (hle:EU (σ.map some) args aX:=by repeat' first|exact trivial|exact rfl|exact Iff.rfl|refine And.intro ?_ ?_) (ha:Ra (σ.map some) st σ S0 True:=by repeat' first|exact trivial|exact⟨rfl,rfl⟩|refine And.intro ?_ ?_) (hc:(jB S0 S1 && j' σ)=true:=by rfl) (xQ:r0.cr = []:=by rfl):∃ rl:List Nat,(∀ l,l∈rl->P l)/\Spec G f args st rl (K rl):=⟨[],fun _ hl=>(by cases hl),h.Yk σ hc xQ hle (zZ ha hK)⟩
theorem rS {r r0:PV} {S' S1:List ak} (h:mT r r0:=by repeat' first|exact trivial|exact rfl|exact Iff.rfl|refine And.intro ?_ ?_) (hs:qV S' S1:=by first|exact so rfl|(repeat' first|exact trivial|exact rfl|exact Iff.rfl|exact not_false|refine And.intro ?_ ?_)):∃ r',pJ r r'/\(fun x S'=>x=r0/\qV S' S1) r' S':=Se h hs
theorem sr (x:Int) (hx:cA x):ai gT 64 [.int .u32 x] (.int .i64 (Lib.bitLen x.toNat)) :=
 ai.of_same (tE Tryz.func64 rfl (by kernel_rfl)) [.int .u32 x] (.int .i64 (Lib.bitLen x.toNat)) (fun w I β aZ h=>zH (l:=[(.u32,x)]) h) (fun w I β=>nk ..) (fun w=>(HC x w hx.1 hx.2).mono fun e w' ⟨h1,h2⟩=>⟨h1,h2.symm⟩)
theorem v7 (x:Int) (h0:0<=x) (h1:x<=65535):ai gT 63 [.int .u32 x] (.int .i64 (aL x)) :=
 ai.vj (tE Tryz.func63 rfl (by kernel_rfl)) [.int .u32 x] (.int .i64 (aL x)) (fun w I β aZ h=>zH (l:=[(.u32,x)]) h) (fun w I β=>nk ..) (fun w=>BC x w h0 h1)
theorem wrap_u32 (z:Int):cA (IntKind.u32.wrap z):=by
 have:=IntKind.wrap_u32' z
 unfold cA; omega
def divC (a b:Int):Int:=if b=0\/(Lib.bitLen a.toNat:Int) - Lib.bitLen b.toNat < 0 then 2 else 3+((Lib.bitLen a.toNat:Int) - Lib.bitLen b.toNat) / 4
theorem qh {x:Int} (h:x<=4294967295):Lib.bitLen x.toNat<=32:=Rm.vv x.toNat (by omega)
theorem BH (a b:Int) (ha:cA a) (hb:cA b):ai gT 29 [.int .u32 a,.int .u32 b] (.int .i64 (divC a b)):=by
 have h1:=qh ha.2
 have h2:=qh hb.2
 refine Spec.enter al P29 100 Tryz.func29 rfl (by kernel_rfl) ?_
 refine (sr a ha).u ?_
 refine (sr b hb).u ?_
 refine li ?_
 refine⟨fun h=>?_,fun h=>And.intro (fun h3=>?_) (fun h3=>?_)⟩
 ·refine aj ?_
  exact (show (2:Int)=divC a b by unfold divC; rw[if_pos (.inl h)])
 ·refine aj ?_
  exact (show (2:Int)=divC a b by unfold divC; rw[if_pos (.inr h3)])
 ·refine⟨by decide,.inl ⟨by omega,show (Lib.bitLen a.toNat:Int) - Lib.bitLen b.toNat<=9223372036854775807 by omega,by decide,?_⟩⟩
  refine li ?_
  refine aj ?_
  exact (show (3:Int)+_=divC a b by unfold divC; rw[if_neg (by omega)])
def BI (an:Int):Prop:=bits .and .i64 (an / Ev.aG .i64 15) 1=1
instance (r:Int):Decidable (BI r):=by unfold BI; infer_instance
def kS (i:IN):Int:=if i.form=43/\BI i.an then 1+aL i.an+2 else 1+aL i.an
theorem qi (i:IN) (h0:0<=i.an) (h1:i.an<=65535):ai gT 28 [bX i] (.int .i64 (kS i)):=by
 have hb:=dD i.an h0 h1
 refine Spec.enter al P28 100 Tryz.func28 rfl (by kernel_rfl) ?_
 refine lu ?_ (show 0<=i.an/\i.an<=_ by omega)
 refine (v7 i.an h0 h1).u ?_
 refine li ?_ (show _<=1+aL i.an/\1+aL i.an<=_ by omega)
 refine⟨fun h=>?_,fun h=>?_⟩
 ·refine⟨by decide,?_⟩
  refine⟨fun ht=>?_,fun ht=>?_⟩
  ·refine li ?_ (show _<=1+aL i.an+2/\1+aL i.an+2<=_ by omega)
   exact aj (show 1+aL i.an+2=kS i by unfold kS; rw[if_pos ⟨h,ht⟩])
  ·exact aj (show 1+aL i.an=kS i by unfold kS; rw[if_neg (fun q=>ht q.2)])
 ·exact aj (show 1+aL i.an=kS i by unfold kS; rw[if_neg (fun q=>h q.1)])
def bp (f:Int):Int :=
 if f=46\/f=99 then 1 else if f=47\/f=100\/f=31 then 2 else if f=32\/f=34\/f=36\/f=38\/f=85\/f=87\/f=33\/f=35\/f=37\/f=84\/f=86\/f=93\/f=94 then 3 else if f=42\/f=43 then 4 else if f=97 then 5 else 0
def fi (i:IN) (t:Prop) [Decidable t] (a b:Int):Int:=if bp i.form=1 then (if t then 3 else 1) else if bp i.form=2 then 3 else if bp i.form=3 then 2 else if bp i.form=4 then kS i else if bp i.form=5 then divC a b else 1
theorem I1 {i:IN} {t:Prop} [Decidable t] {a b:Int} (h:bp i.form=0):fi i t a b=1:=by unfold fi; rw[if_neg (by omega),if_neg (by omega),if_neg (by omega),if_neg (by omega),if_neg (by omega)]
theorem z3 {i:IN} {t:Prop} [Decidable t] {a b:Int} (h:bp i.form=1):fi i t a b=(if t then 3 else 1):=by unfold fi; rw[if_pos h]
theorem tX {i:IN} {t:Prop} [Decidable t] {a b:Int} (h:bp i.form=2):fi i t a b=3:=by unfold fi; rw[if_neg (by omega),if_pos h]
theorem dF {i:IN} {t:Prop} [Decidable t] {a b:Int} (h:bp i.form=3):fi i t a b=2:=by unfold fi; rw[if_neg (by omega),if_neg (by omega),if_pos h]
theorem z4 {i:IN} {t:Prop} [Decidable t] {a b:Int} (h:bp i.form=4):fi i t a b=kS i:=by unfold fi; rw[if_neg (by omega),if_neg (by omega),if_neg (by omega),if_pos h]
theorem I4 {i:IN} {t:Prop} [Decidable t] {a b:Int} (h:bp i.form=5):fi i t a b=divC a b:=by unfold fi; rw[if_neg (by omega),if_neg (by omega),if_neg (by omega),if_neg (by omega),if_pos h]
theorem BJ (i:IN) (t:Prop) [Decidable t] (a b:Int) (hr:bD i) (hi:ck i.aw) (h0:0<=i.an) (h1:i.an<=65535) (ha:cA a) (hb:cA b):ai gT 10 [bX i,.bool t,.int .u32 a,.int .u32 b] (.tup [.int .i64 (fi i t a b),.int .i64 0]):=by
 refine Spec.enter al ZG 100 Tryz.func10 rfl (by kernel_rfl) ?_
 refine (lx i hi).u ?_
 refine⟨fun h=>absurd hr h,fun _=>?_⟩
 refine⟨fun h46=>?_,fun h46=>?_⟩
 ·have hc:bp i.form=1:=by rw[show i.form=46 from h46]; rfl
  rw[z3 hc]
  refine⟨fun h=>?_,fun h=>?_⟩
  ·rw[if_neg (show ¬ t from h)]
   exact aj (And.intro rfl (And.intro rfl trivial))
  ·rw[if_pos (Classical.not_not.1 (show ¬ ¬ t from h))]
   exact aj (And.intro rfl (And.intro rfl trivial))
 refine⟨fun h99=>?_,fun h99=>?_⟩
 ·have hc:bp i.form=1:=by rw[show i.form=99 from h99]; rfl
  rw[z3 hc]
  refine⟨fun h=>?_,fun h=>?_⟩
  ·rw[if_neg (show ¬ t from h)]
   exact aj (And.intro rfl (And.intro rfl trivial))
  ·rw[if_pos (Classical.not_not.1 (show ¬ ¬ t from h))]
   exact aj (And.intro rfl (And.intro rfl trivial))
 refine⟨fun h47=>?_,fun h47=>?_⟩
 ·have hc:bp i.form=2:=by rw[show i.form=47 from h47]; rfl
  rw[tX hc]
  exact aj (And.intro rfl (And.intro rfl trivial))
 refine⟨fun UG=>?_,fun UG=>?_⟩
 ·have hc:bp i.form=2:=by rw[show i.form=100 from UG]; rfl
  rw[tX hc]
  exact aj (And.intro rfl (And.intro rfl trivial))
 refine⟨fun h31=>?_,fun h31=>?_⟩
 ·have hc:bp i.form=2:=by rw[show i.form=31 from h31]; rfl
  rw[tX hc]
  exact aj (And.intro rfl (And.intro rfl trivial))
 refine⟨fun Q5=>?_,fun Q5=>?_⟩
 ·have hc:bp i.form=3:=by rw[show i.form=32 from Q5]; rfl
  rw[dF hc]
  exact aj (And.intro rfl (And.intro rfl trivial))
 refine⟨fun h34=>?_,fun h34=>?_⟩
 ·have hc:bp i.form=3:=by rw[show i.form=34 from h34]; rfl
  rw[dF hc]
  exact aj (And.intro rfl (And.intro rfl trivial))
 refine⟨fun h36=>?_,fun h36=>?_⟩
 ·have hc:bp i.form=3:=by rw[show i.form=36 from h36]; rfl
  rw[dF hc]
  exact aj (And.intro rfl (And.intro rfl trivial))
 refine⟨fun h38=>?_,fun h38=>?_⟩
 ·have hc:bp i.form=3:=by rw[show i.form=38 from h38]; rfl
  rw[dF hc]
  exact aj (And.intro rfl (And.intro rfl trivial))
 refine⟨fun h85=>?_,fun h85=>?_⟩
 ·have hc:bp i.form=3:=by rw[show i.form=85 from h85]; rfl
  rw[dF hc]
  exact aj (And.intro rfl (And.intro rfl trivial))
 refine⟨fun h87=>?_,fun h87=>?_⟩
 ·have hc:bp i.form=3:=by rw[show i.form=87 from h87]; rfl
  rw[dF hc]
  exact aj (And.intro rfl (And.intro rfl trivial))
 refine⟨fun h33=>?_,fun h33=>?_⟩
 ·have hc:bp i.form=3:=by rw[show i.form=33 from h33]; rfl
  rw[dF hc]
  exact aj (And.intro rfl (And.intro rfl trivial))
 refine⟨fun h35=>?_,fun h35=>?_⟩
 ·have hc:bp i.form=3:=by rw[show i.form=35 from h35]; rfl
  rw[dF hc]
  exact aj (And.intro rfl (And.intro rfl trivial))
 refine⟨fun h37=>?_,fun h37=>?_⟩
 ·have hc:bp i.form=3:=by rw[show i.form=37 from h37]; rfl
  rw[dF hc]
  exact aj (And.intro rfl (And.intro rfl trivial))
 refine⟨fun h84=>?_,fun h84=>?_⟩
 ·have hc:bp i.form=3:=by rw[show i.form=84 from h84]; rfl
  rw[dF hc]
  exact aj (And.intro rfl (And.intro rfl trivial))
 refine⟨fun h86=>?_,fun h86=>?_⟩
 ·have hc:bp i.form=3:=by rw[show i.form=86 from h86]; rfl
  rw[dF hc]
  exact aj (And.intro rfl (And.intro rfl trivial))
 refine⟨fun h93=>?_,fun h93=>?_⟩
 ·have hc:bp i.form=3:=by rw[show i.form=93 from h93]; rfl
  rw[dF hc]
  exact aj (And.intro rfl (And.intro rfl trivial))
 refine⟨fun h94=>?_,fun h94=>?_⟩
 ·have hc:bp i.form=3:=by rw[show i.form=94 from h94]; rfl
  rw[dF hc]
  exact aj (And.intro rfl (And.intro rfl trivial))
 refine⟨fun h42=>?_,fun h42=>?_⟩
 ·have hc:bp i.form=4:=by rw[show i.form=42 from h42]; rfl
  rw[z4 hc]
  refine (qi i h0 h1).u ?_
  exact aj (And.intro rfl (And.intro rfl trivial))
 refine⟨fun h43=>?_,fun h43=>?_⟩
 ·have hc:bp i.form=4:=by rw[show i.form=43 from h43]; rfl
  rw[z4 hc]
  refine (qi i h0 h1).u ?_
  exact aj (And.intro rfl (And.intro rfl trivial))
 refine⟨fun Gz=>?_,fun Gz=>?_⟩
 ·have hc:bp i.form=5:=by rw[show i.form=97 from Gz]; rfl
  rw[I4 hc]
  refine (BH a b ha hb).u ?_
  exact aj (And.intro rfl (And.intro rfl trivial))
 ·have hc:bp i.form=0:=by unfold bp; rw[if_neg (by omega),if_neg (by omega),if_neg (by omega),if_neg (by omega),if_neg (by omega)]
  rw[I1 hc]
  exact aj (And.intro rfl (And.intro rfl trivial))
def eF (a:Int):Int:=a / 16
def I5 (full:Prop) (line:Int):PV:=.agg [.bool full,.int .u32 line]
theorem yw (n:Int):ai gT 30 [.int .i64 n] (.bool (n=2\/n=4)):=by
 refine Spec.enter al P30 100 Tryz.func30 rfl (by kernel_rfl) ?_
 refine⟨fun h=>?_,fun h=>?_⟩
 ·exact aj (show n=2\/n=4 from .inl h)
 ·exact aj (show n=4↔(n=2\/n=4) from ⟨.inr,fun q=>q.elim (fun e=>absurd e h) id⟩)
theorem ss (a:Int) (ha:cA a):ai gT 32 [.int .u32 a] (.int .u32 (eF a)):=by
 refine Spec.enter al P32 100 Tryz.func32 rfl (by kernel_rfl) ?_
 refine And.intro (show (16:Int)≠0 by decide) (.inl ⟨ha.1,show a<=4294967295 from ha.2,show (0:Int) < 16 by decide,?_⟩)
 exact aj rfl
def eU (full:Prop) [Decidable full] (line l:Int):Int:=if full/\line=l then 0 else 1
theorem su (full:Prop) [Decidable full] (line l:Int):ai gT 31 [I5 full line,.int .u32 l] (.tup [I5 True l,.int .i64 (eU full line l)]):=by
 refine Spec.enter al P31 100 Tryz.func31 rfl (by kernel_rfl) ?_
 refine⟨fun h=>?_,fun h=>?_⟩
 ·refine⟨fun hl=>?_,fun hl=>?_⟩
  ·have e:eU full line l=0:=by unfold eU; rw[if_pos ⟨h,hl⟩]
   rw[e]
   exact aj (And.intro (And.intro (iff_true_intro h) (And.intro hl trivial)) (And.intro rfl trivial))
  ·have e:eU full line l=1:=by unfold eU; rw[if_neg (fun q=>hl q.2)]
   rw[e]
   exact aj (And.intro (And.intro trivial (And.intro rfl trivial)) (And.intro rfl trivial))
 ·have e:eU full line l=1:=by unfold eU; rw[if_neg (fun q=>h q.1)]
  rw[e]
  exact aj (And.intro (And.intro trivial (And.intro rfl trivial)) (And.intro rfl trivial))
def v8 (at_ n:Int):Int:=if n=2 then eF at_ else eF (IntKind.u32.wrap (at_+2))
def qj (full:Prop) [Decidable full] (line at_ n:Int):Int:=if n=2 then eU full line (eF at_) else eU full line (eF at_)+eU True (eF at_) (eF (IntKind.u32.wrap (at_+2)))
theorem v9 (full:Prop) [Decidable full] (line l:Int):0<=eU full line l/\eU full line l<=1:=by unfold eU; split<;>omega
theorem lE (full:Prop) [Decidable full] (line at_ n:Int) (ha:cA at_) (hn:n=2\/n=4):ai gT 11 [I5 full line,.int .u32 at_,.int .i64 n] (.tup [I5 True (v8 at_ n),.int .i64 (qj full line at_ n)]):=by
 have b1:=v9 full line (eF at_)
 have b2:=v9 True (eF at_) (eF (IntKind.u32.wrap (at_+2)))
 refine Spec.enter al P11 100 Tryz.func11 rfl (by kernel_rfl) ?_
 refine (yw n).u ?_
 refine⟨fun h=>absurd hn h,fun _=>?_⟩
 refine (ss at_ ha).u ?_
 refine (su full line (eF at_)).u ?_
 refine⟨fun h=>?_,fun h=>?_⟩
 ·have e1:v8 at_ n=eF at_:=by unfold v8; rw[if_pos h]
  have e2:qj full line at_ n=eU full line (eF at_):=by unfold qj; rw[if_pos h]
  rw[e1,e2]
  exact rA
 ·have e1:v8 at_ n=eF (IntKind.u32.wrap (at_+2)):=by unfold v8; rw[if_neg h]
  have e2:qj full line at_ n=eU full line (eF at_)+eU True (eF at_) (eF (IntKind.u32.wrap (at_+2))):=by unfold qj; rw[if_neg h]
  rw[e1,e2]
  refine .inr ?_
  refine (ss (IntKind.u32.wrap (at_+2)) (wrap_u32 _)).u ?_
  refine (su True (eF at_) (eF (IntKind.u32.wrap (at_+2)))).u ?_
  refine li ?_
  exact rA
def nu (op:Int):Int:=if op<=2 then 0 else if op<=4 then 1 else 2
def cb:T->List PV
 | .leaf ..=>[]
 | .one _ _ a=>[.agg [.int .i64 a.op,.int .u32 a.num,.sl 3 (cb a)]]
 | .two _ _ a b=>[.agg [.int .i64 a.op,.int .u32 a.num,.sl 3 (cb a)],.agg [.int .i64 b.op,.int .u32 b.num,.sl 3 (cb b)]]
def gF (t:T):PV:=.agg [.int .i64 t.op,.int .u32 t.num,.sl 3 (cb t)]
def eV:T->List T
 | .leaf ..=>[]
 | .one _ _ a=>[a]
 | .two _ _ a b=>[a,b]
theorem qk (t:T):cb t=(eV t).map gF:=by cases t<;>rfl
def Qk (ws:List Int):List PV:=ws.map (PV.int .u32)
inductive C where
 | mk (kind fj fC word size:Int) (a b:T) (l:List C)
namespace C
def kind:C->Int|.mk k _ _ _ _ _ _ _=>k
def fj:C->Int|.mk _ c _ _ _ _ _ _=>c
def fC:C->Int|.mk _ _ m _ _ _ _ _=>m
def word:C->Int|.mk _ _ _ w _ _ _ _=>w
def size:C->Int|.mk _ _ _ _ s _ _ _=>s
def a:C->T|.mk _ _ _ _ _ a _ _=>a
def b:C->T|.mk _ _ _ _ _ _ b _=>b
def l:C->List C|.mk _ _ _ _ _ _ _ l=>l
end C
theorem C.ind {p:C->Prop} (h:∀ k cy mi wo si a b l,(∀ x∈l,p x)->p (.mk k cy mi wo si a b l)):∀ c,p c
 | .mk k cy mi wo si a b l=>h k cy mi wo si a b l fun x _=>C.ind h x
mutual
def gG:C->List PV
 | .mk _ _ _ _ _ _ _ l=>tY l
def tY:List C->List PV
 | []=>[]
 | c::l=>.agg [.int .i64 c.kind,.int .i64 c.fj,.int .i64 c.fC,.int .i64 c.word,.int .i64 c.size,.int .i64 c.a.op,.int .u32 c.a.num,.sl 3 (cb c.a),.int .i64 c.b.op,.int .u32 c.b.num,.sl 3 (cb c.b),.sl 12 (gG c)]::tY l
end
def Fe (c:C):List PV:=[.int .i64 c.kind,.int .i64 c.fj,.int .i64 c.fC,.int .i64 c.word,.int .i64 c.size,.int .i64 c.a.op,.int .u32 c.a.num,.sl 3 (cb c.a),.int .i64 c.b.op,.int .u32 c.b.num,.sl 3 (cb c.b),.sl 12 (gG c)]
def bo (c:C):PV:=.agg (Fe c)
theorem nv:∀ l:List C,tY l=l.map bo
 | []=>rfl
 | c::l=>by rw[tY,nv l]; rfl
theorem dh (c:C):gG c=c.l.map bo:=by cases c; exact nv _
structure R where
 ws:List Int
 fuel:Int
 sum:Int
 Ff:Int
 e:Int
namespace R
structure Ok (r:R):Prop where
 len:r.ws.length=254
 ws:∀ v∈r.ws,0<=v/\v<=4294967295
 fuel:-9223372036854775808<=r.fuel/\r.fuel<=9223372036854775807
 sum:0<=r.sum/\r.sum<=18446744073709551615
def fin (r:R):Bool:=decide (r.Ff≠0\/r.e≠0)
def add (r:R) (n:Int):R:={ r with sum:=min (r.sum+n) 18446744073709551615 }
def val (r:R) (t:T):Int:=(t.kR r.ws).getD 0
def evl (r:R) (t:T):R:={ r with Ff:=if (t.kR r.ws).isSome then r.Ff else 2 }
theorem Ok.words {r:R} (h:r.Ok):tU r.ws:=⟨by rw[h.len]; omega,h.ws⟩
theorem Ok.add {r:R} (h:r.Ok) {n:Int} (hn:0<=n):(r.add n).Ok:=⟨h.len,h.ws,h.fuel,by have:=h.sum; simp only[R.add]; omega⟩
theorem Ok.evl {r:R} (h:r.Ok) (t:T):(r.evl t).Ok:=⟨h.len,h.ws,h.fuel,h.sum⟩
theorem Ok.val {r:R} (h:r.Ok) {t:T} (ht:t.Wf):0<=r.val t/\r.val t<=4294967295:=by
 unfold R.val
 cases hv:t.kR r.ws with
 | none=>simp
 | some v=>exact T.mw h.words ht hv
end R
def wB (ws:List Int):ak:=⟨.dyn,24,1,.w,true,Qk ws⟩
open Go Go.RowKit
def BL (n lo hi:Int) (t:Bool):Bool:=if t then decide (lo<=n/\n<=hi) else decide (n=0)
def ft:T->Bool
 | .leaf o n=>decide (o≠2\/n < 254)
 | .one o n a=>decide (o≠2\/n < 254) && ft a
 | .two o n a b=>decide (o≠2\/n < 254) && (ft a && ft b)
def cQ (t:T) (there:Bool):Bool:=if there then t.shaped && ft t else decide (t.op=0/\t.num=0/\t.kids=0)
def yx (k:Int):Int:=if k=3 then 2 else if k=4\/k=5 then 1 else 0
def Fg (k:Int):Int:=if k=2 then 2147483647 else if k=3 then 2 else if k=4\/k=5 then 1 else 0
def v_ (k cy mi wo si:Int):Bool:=BL cy 0 2147483647 (decide (k=1)) && (BL mi 0 2147483647 (decide (k=1)) && (BL wo 4 253 (decide (k=4)) && BL si 0 1024 (decide (k=5))))
mutual
def iS:C->Bool
 | .mk k cy mi wo si a b l=>decide (1<=k/\k<=6) && (v_ k cy mi wo si && (decide (yx k<=(l.length:Nat)/\((l.length:Nat):Int)<=Fg k) && (cQ a (decide (3<=k)) && (cQ b (decide (k=4\/k=6)) && BM l))))
def BM:List C->Bool
 | []=>true
 | c::l=>iS c && BM l
end
mutual
def C.Wf:C->Prop
 | .mk _ _ _ _ _ a b l=>a.Wf/\b.Wf/\Yl l
def Yl:List C->Prop
 | []=>True
 | c::l=>c.Wf/\Yl l
end
namespace R
def ql (r:R):R:={ r with fuel:=r.fuel - 1 }
theorem Ok.Ff {r:R} (h:r.Ok) (t:Int):({ r with Ff:=t }:R).Ok:=⟨h.len,h.ws,h.fuel,h.sum⟩
theorem Ok.err {r:R} (h:r.Ok) (t:Int):({ r with e:=t }:R).Ok:=⟨h.len,h.ws,h.fuel,h.sum⟩
theorem Ok.set {r:R} (h:r.Ok) (n:Nat) {v:Int} (hv:0<=v/\v<=4294967295):({ r with ws:=r.ws.set n v }:R).Ok:=⟨by simp[h.len],fun x hx=>by
 rcases List.mem_or_eq_of_mem_set hx with hx|rfl
 ·exact h.ws x hx
 ·exact hv,h.fuel,h.sum⟩
end R
def R.put (r:R) (n:Nat) (v:Int):R:={ r with ws:=r.ws.set n v }
open Go Go.RowKit
theorem C.nw {p:C->Prop} (h:∀ c:C,(∀ x∈c.l,p x)->p c):∀ c,p c:=C.ind fun k cy mi wo si a b l ih=>h (.mk k cy mi wo si a b l) ih
theorem I6 (c:C):iS c=true↔(1<=c.kind/\c.kind<=6)/\v_ c.kind c.fj c.fC c.word c.size=true/\(yx c.kind<=(c.l.length:Nat)/\((c.l.length:Nat):Int)<=Fg c.kind)/\cQ c.a (decide (3<=c.kind))=true/\cQ c.b (decide (c.kind=4\/c.kind=6))=true/\BM c.l=true:=by
 cases c with
 | mk k cy mi wo si a b l=>simp only[iS,Bool.and_eq_true,decide_eq_true_eq,C.kind,C.fj,C.fC,C.word,C.size,C.a,C.b,C.l]; exact Iff.rfl
theorem C.Ym (c:C):c.Wf↔c.a.Wf/\c.b.Wf/\Yl c.l:=by cases c; rfl
theorem R.Ok.ql {r:R} (h:r.Ok) (h0:¬ r.fuel<=0):r.ql.Ok:=⟨h.len,h.ws,by have:=h.fuel; simp only[R.ql]; omega,h.sum⟩
def UH (ws:List Int):List Int:=ws.take 254++List.replicate (254 - ws.length) 0
def r0 (ws:List Int) (fuel:Int):R:=⟨UH ws,fuel,0,0,0⟩
def gI:T:=.leaf 0 0
def aE (cy mi:Int):C:=.mk 1 cy mi 0 0 gI gI []
theorem bu (cy mi:Int):ai gT 14 [.int .i64 cy,.int .i64 mi] (bo (aE cy mi)):=by
 refine Spec.enter al P14 100 Tryz.func14 rfl (by kernel_rfl) ?_
 exact rA
def R.er (r:R):R:={ r with fuel:=0,e:=0 }
end Go.Proofs.YtnbhdacpogplgaaGreatDoor.Pw

/- What this claim is proved with: no condition. -/
import Derived.Test.YtnbhdacpogplgaaGreatDoorPv10
import Derived.Test.YtnbhdacpogplgaaGreatDoorPv11
import Derived.Test.YtnbhdacpogplgaaGreatDoorPv14
import Derived.Test.YtnbhdacpogplgaaGreatDoorPv15
import Derived.Test.YtnbhdacpogplgaaGreatDoorPv6
import Derived.Test.YtnbhdacpogplgaaGreatDoorRows
import Derived.ProofKit
import Derived.LaidMore
import Derived.OpenShut
import Derived.Stop.Joined
import Derived.Lib.LaidTab
import Derived.Test.YtnbhdacpogplgaaGreatDoorPv8
import Derived.Test.YtnbhdacpogplgaaGreatDoorPvAluB
import Derived.Test.YtnbhdacpogplgaaGreatDoorPvImmB
import Derived.Test.YtnbhdacpogplgaaGreatDoorPvPop32
import Derived.Test.YtnbhdacpogplgaaGreatDoorPvTermF
import Derived.Test.YtnbhdacpogplgaaGreatDoorPvTermO
import Derived.Test.YtnbhdacpogplgaaGreatDoorPvTermP
import Derived.Test.YtnbhdacpogplgaaGreatDoorPvTermM
import Derived.Test.YtnbhdacpogplgaaGreatDoorPvTermH
import Derived.Test.YtnbhdacpogplgaaGreatDoorPv7
import Derived.Test.YtnbhdacpogplgaaGreatDoorPvAluA
import Derived.Laws.Externs
import Derived.Lib.ItoaNum
set_option maxRecDepth 100000
set_option maxHeartbeats 8000000
set_option linter.unusedVariables false
set_option linter.unusedSimpArgs false
namespace Go.Proofs.YtnbhdacpogplgaaGreatDoor.Pw
open Go Go.RowKit
theorem kx {f:Int} (h:1<=f/\f<=100):17<=af f↔48<=f:=by
 have h1:((List.range 100).all fun k=>decide (17<=af ((k+1:Nat):Int)↔48<=k+1))=true:=by decide +kernel
 have h2:=of_decide_eq_true (List.all_eq_true.1 h1 (f.toNat - 1) (List.mem_range.2 (by omega)))
 rw[show (((f.toNat - 1+1:Nat)):Int)=f by omega] at h2
 omega
theorem GZ {s:Int} (h:1<=s/\s<=16):s=1\/s=2\/s=3\/s=4\/s=5\/s=6\/s=7\/s=8\/s=9\/s=10\/s=11\/s=12\/s=13\/s=14\/s=15\/s=16:=by omega
theorem G0 {s:Int} (h:17<=s/\s<=34):s=17\/s=18\/s=19\/s=20\/s=21\/s=22\/s=23\/s=24\/s=25\/s=26\/s=27\/s=28\/s=29\/s=30\/s=31\/s=32\/s=33\/s=34:=by omega
theorem Aq (f w:Int) (hF:1<=f/\f<=100) (hn:¬ 48<=f) (hw:dH w):aj gT 51 [.int .i64 f,.int .u32 w] (cZ (aV f w)):=by
 have Ze:=kx hF
 have hb:=nU hF
 rcases GZ (s:=af f) (by omega) with hs|hs|hs|hs|hs|hs|hs|hs|hs|hs|hs|hs|hs|hs|hs|hs
 ·rw[rd_1 hs]; exact EU f w hF hs hw
 ·rw[rd_2 hs]; exact EV f w hF hs hw
 ·rw[rd_3 hs]; exact EW f w hF hs hw
 ·rw[rd_4 hs]; exact EX f w hF hs hw
 ·rw[rd_5 hs]; exact EY f w hF hs hw
 ·rw[rd_6 hs]; exact EZ f w hF hs hw
 ·rw[rd_7 hs]; exact E0 f w hF hs hw
 ·rw[rd_8 hs]; exact E1 f w hF hs hw
 ·rw[rd_9 hs]; exact E3 f w hF hs hw
 ·rw[rd_10 hs]; exact Cq f w hF hs hw
 ·rw[rd_11 hs]; exact Cr f w hF hs hw
 ·rw[rd_12 hs]; exact Cs f w hF hs hw
 ·rw[rd_13 hs]; exact Ct f w hF hs hw
 ·rw[rd_14 hs]; exact Cu f w hF hs hw
 ·rw[rd_15 hs]; exact Cv f w hF hs hw
 ·rw[rd_16 hs]; exact Cw f w hF hs hw
 
theorem E8 (f w:Int) (hF:1<=f/\f<=100) (hn:48<=f) (hw:dH w):aj gT 52 [.int .i64 f,.int .u32 w] (cZ (aV f w)):=by
 have Ze:=kx hF
 have hb:=nU hF
 rcases G0 (s:=af f) (by omega) with hs|hs|hs|hs|hs|hs|hs|hs|hs|hs|hs|hs|hs|hs|hs|hs|hs|hs
 ·rw[rd_17 hs]; exact IL f w hF hs hw
 ·rw[rd_18 hs]; exact IM f w hF hs hw
 ·rw[rd_19 hs]; exact IP f w hF hs hw
 ·rw[rd_20 hs]; exact IQ f w hF hs hw
 ·rw[rd_21 hs]; exact IT f w hF hs hw
 ·rw[rd_22 hs]; exact IV f w hF hs hw
 ·rw[rd_23 hs]; exact IX f w hF hs hw
 ·rw[rd_24 hs]; exact IY f w hF hs hw
 ·rw[rd_25 hs]; exact IZ f w hF hs hw
 ·rw[rd_26 hs]; exact I1 f w hF hs hw
 ·rw[rd_27 hs]; exact I4 f w hF hs hw
 ·rw[rd_28 hs]; exact I5 f w hF hs hw
 ·rw[rd_29 hs]; exact I6 f w hF hs hw
 ·rw[rd_30 hs]; exact I7 f w hF hs hw
 ·rw[rd_31 hs]; exact I8 f w hF hs hw
 ·rw[rd_32 hs]; exact I9 f w hF hs hw
 ·rw[rd_33 hs]; exact I_ f w hF hs hw
 ·rw[rd_34 hs]; exact Ja f w hF hs hw
 
def orV (i:IN):Int:=((fC (fx i) (ay (af i.form)):Nat):Int)
theorem E9 (i:IN) (hr:cD i) (hn:¬ 48<=i.form) (hg:i.aA<=9223372036854775807):aj gT 104 [cZ i] (.int .u32 (orV i)):=by
 have Ze:=kx hr.1
 have hb:=nU hr.1
 unfold orV
 unfold cD at hr
 rw[aH (by omega)]
 rcases GZ (s:=af i.form) (by omega) with hs|hs|hs|hs|hs|hs|hs|hs|hs|hs|hs|hs|hs|hs|hs|hs
 ·rw[hs] at hr ⊢; exact MG i hs hr hg
 ·rw[hs] at hr ⊢; exact MH i hs hr hg
 ·rw[hs] at hr ⊢; exact MI i hs hr hg
 ·rw[hs] at hr ⊢; exact MJ i hs hr hg
 ·rw[hs] at hr ⊢; exact MK i hs hr hg
 ·rw[hs] at hr ⊢; exact ML i hs hr hg
 ·rw[hs] at hr ⊢; exact MM i hs hr hg
 ·rw[hs] at hr ⊢; exact MN i hs hr hg
 ·rw[hs] at hr ⊢; exact MO i hs hr hg
 ·rw[hs] at hr ⊢; exact IE i hs hr hg
 ·rw[hs] at hr ⊢; exact IF i hs hr hg
 ·rw[hs] at hr ⊢; exact IG i hs hr hg
 ·rw[hs] at hr ⊢; exact IH i hs hr hg
 ·rw[hs] at hr ⊢; exact II i hs hr hg
 ·rw[hs] at hr ⊢; exact IJ i hs hr hg
 ·rw[hs] at hr ⊢; exact IK i hs hr hg
 
theorem M9 (i:IN) (hr:cD i) (hn:48<=i.form) (hg:i.aA<=9223372036854775807):aj gT 103 [cZ i] (.int .u32 (orV i)):=by
 have Ze:=kx hr.1
 have hb:=nU hr.1
 unfold orV
 unfold cD at hr
 rcases G0 (s:=af i.form) (by omega) with hs|hs|hs|hs|hs|hs|hs|hs|hs|hs|hs|hs|hs|hs|hs|hs|hs|hs
 ·rw[aH (by omega)]; rw[hs] at hr ⊢; exact QJ i hs hr hg
 ·rw[aH (by omega)]; rw[hs] at hr ⊢; exact QK i hs hr hg
 ·rw[aH (by omega)]; rw[hs] at hr ⊢; exact QL i hs hr hg
 ·rw[aH (by omega)]; rw[hs] at hr ⊢; exact QM i hs hr hg
 ·rw[aH (by omega)]; rw[hs] at hr ⊢; exact QN i hs hr hg
 ·rw[aH (by omega)]; rw[hs] at hr ⊢; exact QO i hs hr hg
 ·rw[aH (by omega)]; rw[hs] at hr ⊢; exact QP i hs hr hg
 ·rw[aH (by omega)]; rw[hs] at hr ⊢; exact QQ i hs hr hg
 ·rw[aH (by omega)]; rw[hs] at hr ⊢; exact QR i hs hr hg
 ·rw[aH (by omega)]; rw[hs] at hr ⊢; exact QS i hs hr hg
 ·rw[aH (by omega)]; rw[hs] at hr ⊢; exact QT i hs hr hg
 ·rw[aH (by omega)]; rw[hs] at hr ⊢; exact QU i hs hr hg
 ·rw[aH (by omega)]; rw[hs] at hr ⊢; exact QV i hs hr hg
 ·rw[aH (by omega)]; rw[hs] at hr ⊢; exact QW i hs hr hg
 ·rw[aH (by omega)]; rw[hs] at hr ⊢; exact QX i hs hr hg
 ·rw[aH (by omega)]; rw[hs] at hr ⊢; exact QY i hs hr hg
 ·rw[aH (by omega)]; rw[hs] at hr ⊢; exact QZ i hs hr hg
 ·rw[hs] at hr ⊢; exact Q0 i hs hr hg
theorem M' (i:IN):fC (fx i) (ay (af i.form)) < 4294967296:=by
 have h:=Ma (fx i) (ay (af i.form)) (It _)
 rw[Co] at h
 exact Nat.lt_of_le_of_lt Nat.right_le_or h
theorem G1 (i:IN):bits .or .u32 (uT i.form) (orV i)=dn i:=by
 have b:=L' i.form
 have l:=M' i
 rw[GJ]
 unfold orV
 rw[u32_or _ _ b.1 b.2 (by omega) (by omega),Int.toNat_natCast]
theorem yT (i:IN) (hr:cD i) (hg:i.aA<=9223372036854775807):aj gT 53 [cZ i] (.int .u32 (dn i)):=by
 refine Spec.enter ao P53 100 Tryz.func53 rfl (by kernel_rfl) ?_
 refine (sX i.form).u ?_
 refine⟨fun h=>?_,fun h=>?_⟩
 ·refine (i_ i.form).u ?_
  refine (M9 i hr h.1 hg).u ?_
  refine al ?_
  exact G1 i
 ·refine (i_ i.form).u ?_
  refine (E9 i hr (fun e=>h ⟨e,hr.1.2⟩) hg).u ?_
  refine al ?_
  exact G1 i
theorem M_:∀ k:Fin 35,(ay ((k.1:Nat):Int)).all (fun x=>decide (x.2.1+x.2.2.2<=25))=true:=by decide
theorem CF (s:Int):∀ x∈ay s,x.2.1+x.2.2.2<=25:=by
 have h:(ay s).all (fun x=>decide (x.2.1+x.2.2.2<=25))=true:=by
  by_cases h:s < 1\/34 < s
  ·rw[kX s h]; rfl
  ·have h1:=M_ ⟨s.toNat,by omega⟩
   rwa [show (((⟨s.toNat,by omega⟩:Fin 35).1:Nat):Int)=s by simp only[]; omega] at h1
 exact fun x hx=>of_decide_eq_true (List.all_eq_true.1 h x hx)
theorem Rh (w:Int) (a n l:Nat) (h:l+n<=25):0<=aa w a n*2 ^ l/\aa w a n*2 ^ l<=33554432:=by
 have b:=ae w a n
 have p1:=cF l
 have p2:=cF n
 have q1:=Nat.two_pow_pos l
 have e:((aa w a n).toNat:Int)=aa w a n:=Int.toNat_of_nonneg b.1
 have h1:(aa w a n).toNat < 2 ^ n:=by omega
 have h2:(aa w a n).toNat*2 ^ l<=2 ^ n*2 ^ l:=Nat.mul_le_mul_right _ (Nat.le_of_lt h1)
 have h3:2 ^ n*2 ^ l<=2 ^ 25:=by rw[← Nat.pow_add]; exact Nat.pow_le_pow_right (by omega) (by omega)
 have e2:aa w a n*2 ^ l=(((aa w a n).toNat*2 ^ l:Nat):Int):=by rw[Int.natCast_mul,e,p1]
 rw[e2]
 have h4:(2:Nat) ^ 25=33554432:=by decide
 omega
theorem Na (w:Int):∀ (l:List (Nat × Nat × Nat × Nat)) (a:Int),(∀ x∈l,x.2.1+x.2.2.2<=25)->a<=l.foldl (fun a x=>a+aa w x.2.2.1 x.2.2.2*2 ^ x.2.1) a/\l.foldl (fun a x=>a+aa w x.2.2.1 x.2.2.2*2 ^ x.2.1) a<=a+l.length*33554432
 | [],a,_=>by simp
 | x::l,a,h=>by
  have ih:=Na w l (a+aa w x.2.2.1 x.2.2.2*2 ^ x.2.1) fun y hy=>h y (List.mem_cons_of_mem _ hy)
  have t:=Rh w x.2.2.1 x.2.2.2 x.2.1 (h x (List.mem_cons_self ..))
  rw[List.foldl_cons,List.length_cons]
  omega
theorem xV_bd (s w:Int) (f:Nat):0<=xV s w f/\xV s w f<=234881024:=by
 have h:=Na w ((ay s).filter fun x=>decide (x.1=f)) 0 fun x hx=>CF s x (List.mem_filter.1 hx).1
 have l1:((ay s).filter fun x=>decide (x.1=f)).length<=7:=Nat.le_trans (List.length_filter_le ..) (EN s)
 unfold xV
 omega
theorem rD (x:Int) (w:Nat) (hw:w<=25):x - 33554432<=df x w/\df x w<=x:=by
 have p:(2:Int) ^ w<=33554432/\0 < (2:Int) ^ w:=by
  have h1:(2 ^ w:Nat)<=2 ^ 25:=Nat.pow_le_pow_right (by omega) hw
  have h3:=cF w
  have:=Nat.two_pow_pos w
  have h4:(2:Nat) ^ 25=33554432:=by decide
  omega
 unfold df; split<;>omega
theorem Ri (s f x:Int) (hx:0<=x/\x<=234881024):-1099511627776<=uA s f x/\uA s f x<=1099511627776:=by
 have a:=rD x 9 (by decide)
 have b:=rD x 12 (by decide)
 have c:=rD x 21 (by decide)
 have t:=L9 x 2 (by decide)
 have d:=rD (bw x 2) 25 (by decide)
 unfold uA
 (repeat' split)<;>omega
theorem Rj (f w:Int):∀ k,k < 10->-1099511627776<=qe (aV f w) k/\qe (aV f w) k<=1099511627776:=by
 intro k hk
 have x:=fun n=>xV_bd (af f) w n
 match k,hk with
 | 0,_=>have:=x 0; exact⟨by show _<=xV (af f) w 0; omega,by show xV (af f) w 0<=_; omega⟩
 | 1,_=>have:=x 1; exact⟨by show _<=xV (af f) w 1; omega,by show xV (af f) w 1<=_; omega⟩
 | 2,_ =>
  have:=x 2
  have b:=ae w 0 4
  have e:-1099511627776<=rmA (af f) w (xV (af f) w 2)/\rmA (af f) w (xV (af f) w 2)<=1099511627776:=by unfold rmA; split<;>omega
  exact e
 | 3,_=>have:=x 3; exact⟨by show _<=xV (af f) w 3; omega,by show xV (af f) w 3<=_; omega⟩
 | 4,_=>exact Ri (af f) f (xV (af f) w 4) (x 4)
 | 5,_=>have:=x 5; exact⟨by show _<=xV (af f) w 5; omega,by show xV (af f) w 5<=_; omega⟩
 | 6,_ =>
  have:=x 6
  have e:-1099511627776<=SV (af f) (xV (af f) w 5) (xV (af f) w 6)/\SV (af f) (xV (af f) w 5) (xV (af f) w 6)<=1099511627776:=by unfold SV; split<;>omega
  exact e
 | 7,_=>have:=x 7; exact⟨by show _<=xV (af f) w 7; omega,by show xV (af f) w 7<=_; omega⟩
 | 8,_=>have:=x 8; exact⟨by show _<=xV (af f) w 8; omega,by show xV (af f) w 8<=_; omega⟩
 | 9,_=>have:=x 9; exact⟨by show _<=xV (af f) w 9; omega,by show xV (af f) w 9<=_; omega⟩
def wc (w f:Int):Prop:=cD (aV f w)/\dn (aV f w)=w
theorem Nb {w f:Int} (h:wc w f):bits .and .u32 w (uT f)=uT f:=by
 have b:=L' f
 have e:=h.2
 rw[GJ] at e
 have l:(uT (aV f w).form).toNat=(uT f).toNat:=rfl
 rw[l] at e
 have lt:=nV (show (uT f).toNat < 4294967296 by omega) (M' (aV f w))
 obtain⟨a,ha⟩:∃ a,a=(uT f).toNat:=⟨_,rfl⟩
 obtain⟨o,ho⟩:∃ o,o=fC (fx (aV f w)) (ay (af (aV f w).form)):=⟨_,rfl⟩
 rw[← ha,← ho] at e lt
 have ea:uT f=(a:Int):=by omega
 rw[ea,← e,u32_and _ _ (by omega) (by omega) (by omega) (by omega),Int.toNat_natCast,Int.toNat_natCast]
 congr 1
 apply Nat.eq_of_testBit_eq
 intro p
 rw[Nat.testBit_and,Nat.testBit_or]
 cases a.testBit p<;>simp
def f_ (wide:Prop) (f:Int):Prop:=(wide/\48<=f/\f<=100)\/(¬ wide/\1<=f/\f<=47)
def lp (w:Int) (wide:Prop) (f:Int):Prop:=f_ wide f/\wc w f/\∀ g,f_ wide g->g < f->¬ wc w g
theorem Jm {w:Int} {wide:Prop} {f g:Int} (hf:lp w wide f) (hg:lp w wide g):f=g:=by
 by_cases h:f < g
 ·exact absurd hf.2.1 (hg.2.2 f hf.1 h)
 by_cases h2:g < f
 ·exact absurd hg.2.1 (hf.2.2 g hg.1 h2)
 omega
noncomputable def Kk (w:Int) (wide:Prop):IN:=open Classical in if h:∃ f,lp w wide f then aV h.choose w else iZ
noncomputable def Nc (w:Int) (wide:Prop):Int:=open Classical in if ∃ f,lp w wide f then 0 else 40
theorem Ar {w:Int} {wide:Prop} {f:Int} (h:lp w wide f):Kk w wide=aV f w:=by
 have e:∃ f,lp w wide f:=⟨f,h⟩
 unfold Kk
 rw[dif_pos e,Jm e.choose_spec h]
theorem E' {w:Int} {wide:Prop} {f:Int} (h:lp w wide f):Nc w wide=0:=if_pos ⟨f,h⟩
theorem Zg {w:Int} {wide:Prop} (h:∀ f,f_ wide f->¬ wc w f):Kk w wide=iZ:=dif_neg fun ⟨f,hf⟩=>h f hf.1 hf.2.1
theorem Zh {w:Int} {wide:Prop} (h:∀ f,f_ wide f->¬ wc w f):Nc w wide=40:=if_neg fun ⟨f,hf⟩=>h f hf.1 hf.2.1
theorem Rk (i:IN) (h:cD i) (hg:i.aA<=9223372036854775807):lp (dn i) (48<=i.form) i.form:=by
 have hb:=back i h hg
 have D6:wc (dn i) i.form:=by unfold wc; rw[hb]; exact⟨h,rfl⟩
 have f1:=h.1
 refine⟨by unfold f_; omega,D6,fun g hgf ch hh=>?_⟩
 have e:=yL (a:=aV g (dn i)) (b:=i) hh.1 h (by show 48<=g↔48<=i.form; unfold f_ at hgf; omega) hh.2
 have:g=i.form:=e
 omega
theorem G2 {f w:Int} (hf:bX f):IOk (aV f w):=by
 intro x hx
 have b:=Rj f w
 simp only[Cy,List.mem_cons,List.not_mem_nil,or_false] at hx
 have key:∀ k,k < 10->bX (qe (aV f w) k):=fun k hk=>by have:=b k hk; unfold bX; omega
 rcases hx with rfl|rfl|rfl|rfl|rfl|rfl|rfl|rfl|rfl|rfl|rfl
 ·exact hf
 ·exact key 0 (by decide)
 ·exact key 1 (by decide)
 ·exact key 2 (by decide)
 ·exact key 3 (by decide)
 ·exact key 4 (by decide)
 ·exact key 5 (by decide)
 ·exact key 6 (by decide)
 ·exact key 7 (by decide)
 ·exact key 8 (by decide)
 ·exact key 9 (by decide)
theorem G3 (w:Int) (wide:Prop) (hw:dH w):aj gT 26 [.int .u32 w,.bool wide] (.tup [cZ (Kk w wide),.int .i64 (Nc w wide)]):=by
 refine Spec.enter ao P26 100 Tryz.func26 rfl (by kernel_rfl) ?_
 refine SW.ko ao P26 (by kernel_rfl) (α:={k:Nat // k<=100/\∀ g:Int,f_ wide g->g < k+1->¬ wc w g}) (fun k=>[(6,.int .i64 (k.1+1:Nat))]) (fun k=>100 - k.1) ⟨0,by omega,fun g hg ch=>by unfold f_ at hg; omega⟩ 100 ?_ ?_
 ·repeat' first|exact Iff.rfl|exact trivial|exact rfl|refine And.intro ?_ ?_
 rintro⟨k,hk,F_⟩
 refine⟨fun h=>?_,fun h=>?_⟩
 ·have G4:((k+1:Nat):Int)<=100:=h
  have hF:1<=((k+1:Nat):Int)/\((k+1:Nat):Int)<=100:=⟨by omega,G4⟩
  have hf:bX ((k+1:Nat):Int):=by unfold bX; omega
  have next:¬ (f_ wide ((k+1:Nat):Int)/\wc w ((k+1:Nat):Int))->∀ g:Int,f_ wide g->g < ((k+1:Nat):Int)+1->¬ wc w g:=fun hn g hg ch hh=>by
   by_cases e:g=((k+1:Nat):Int)
   ·subst e; exact hn ⟨hg,hh⟩
   ·exact F_ g hg (by omega) hh
  refine (sX ((k+1:Nat):Int)).u ?_
  refine⟨fun cH=>?_,fun heq=>?_⟩
  ·refine .inl ⟨aG (show _<=((k+1:Nat):Int)+1/\((k+1:Nat):Int)+1<=_ by omega),⟨⟨k+1,by omega,next fun hh=>cH ?_⟩,show 100 - (k+1) < 100 - k by omega,?_⟩⟩
   ·unfold f_ at hh; exact⟨fun h2=>hh.1.elim (fun e=>e.1) (fun e=>absurd h2.1 (by omega)),fun h2=>hh.1.elim (fun e=>e.2) (fun e=>absurd h2 e.1)⟩
   repeat' first|exact Iff.rfl|exact trivial|exact rfl|refine And.intro ?_ ?_
  have heq:=Classical.not_not.1 heq
  refine (i_ ((k+1:Nat):Int)).u ?_
  refine (i_ ((k+1:Nat):Int)).u ?_
  refine⟨fun hm=>?_,fun hm=>?_⟩
  ·refine .inl ⟨aG (show _<=((k+1:Nat):Int)+1/\((k+1:Nat):Int)+1<=_ by omega),⟨⟨k+1,by omega,next fun hh=>hm (Nb hh.2)⟩,show 100 - (k+1) < 100 - k by omega,?_⟩⟩
   repeat' first|exact Iff.rfl|exact trivial|exact rfl|refine And.intro ?_ ?_
  have K9:f_ wide ((k+1:Nat):Int):=by
   unfold f_
   by_cases hW:wide
   ·exact .inl ⟨hW,heq.2 hW⟩
   ·refine .inr ⟨hW,by omega,?_⟩
    by_cases Zi:48<=((k+1:Nat):Int)
    ·exact absurd (heq.1 ⟨Zi,G4⟩) hW
    ·omega
  have hI:=G2 (w:=w) hf
  have hR:=qd (aV ((k+1:Nat):Int) w) (hI (aV ((k+1:Nat):Int) w).aC (by simp[Cy]))
  by_cases hW:wide
  ·have Zi:=(heq.2 hW).1
   refine (xW ((k+1:Nat):Int) w ((kx hF).2 Zi) hw).u ?_
   refine⟨fun _=>?_,fun hn=>absurd hW hn⟩
   refine (E8 ((k+1:Nat):Int) w hF Zi hw).u ?_
   refine hR.u ?_
   refine⟨fun hr=>?_,fun hr=>?_⟩
   ·refine (yT (aV ((k+1:Nat):Int) w) hr (hI (aV ((k+1:Nat):Int) w).aA (by simp[Cy])).2).u ?_
    refine⟨fun hp=>?_,fun hp=>?_⟩
    ·have Nd:lp w wide ((k+1:Nat):Int):=⟨K9,⟨hr,hp⟩,fun g hg ch=>F_ g hg (by omega)⟩
     rw[Ar Nd,E' Nd]
     exact rA
    ·refine .inl ⟨aG (show _<=((k+1:Nat):Int)+1/\((k+1:Nat):Int)+1<=_ by omega),⟨⟨k+1,by omega,next fun hh=>hp hh.2.2⟩,show 100 - (k+1) < 100 - k by omega,?_⟩⟩
     repeat' first|exact Iff.rfl|exact trivial|exact rfl|refine And.intro ?_ ?_
   ·refine .inl ⟨aG (show _<=((k+1:Nat):Int)+1/\((k+1:Nat):Int)+1<=_ by omega),⟨⟨k+1,by omega,next fun hh=>hr hh.2.1⟩,show 100 - (k+1) < 100 - k by omega,?_⟩⟩
    repeat' first|exact Iff.rfl|exact trivial|exact rfl|refine And.intro ?_ ?_
  ·have Zi:¬ 48<=((k+1:Nat):Int):=fun e=>hW (heq.1 ⟨e,G4⟩)
   refine (Aq ((k+1:Nat):Int) w hF Zi hw).u ?_
   refine⟨fun h=>absurd h hW,fun _=>?_⟩
   refine hR.u ?_
   refine⟨fun hr=>?_,fun hr=>?_⟩
   ·refine (yT (aV ((k+1:Nat):Int) w) hr (hI (aV ((k+1:Nat):Int) w).aA (by simp[Cy])).2).u ?_
    refine⟨fun hp=>?_,fun hp=>?_⟩
    ·have Nd:lp w wide ((k+1:Nat):Int):=⟨K9,⟨hr,hp⟩,fun g hg ch=>F_ g hg (by omega)⟩
     rw[Ar Nd,E' Nd]
     exact rA
    ·refine .inl ⟨aG (show _<=((k+1:Nat):Int)+1/\((k+1:Nat):Int)+1<=_ by omega),⟨⟨k+1,by omega,next fun hh=>hp hh.2.2⟩,show 100 - (k+1) < 100 - k by omega,?_⟩⟩
     repeat' first|exact Iff.rfl|exact trivial|exact rfl|refine And.intro ?_ ?_
   ·refine .inl ⟨aG (show _<=((k+1:Nat):Int)+1/\((k+1:Nat):Int)+1<=_ by omega),⟨⟨k+1,by omega,next fun hh=>hr hh.2.1⟩,show 100 - (k+1) < 100 - k by omega,?_⟩⟩
    repeat' first|exact Iff.rfl|exact trivial|exact rfl|refine And.intro ?_ ?_
 ·have G4:¬ ((k+1:Nat):Int)<=100:=h
  have cA:∀ f,f_ wide f->¬ wc w f:=fun f hf=>F_ f hf (by unfold f_ at hf; omega)
  rw[Zg cA,Zh cA]
  exact rA
def jX (h:Int):Prop:=29<=h % 65536 / 2048
theorem CG (h:Int) (hh:dH h):aj gT 25 [.int .u32 h] (.bool (jX h)):=by
 have e:bits .and .u32 h 65535=h % 65536:=Cc h 16 hh.1 hh.2 (by decide)
 refine Spec.enter ao P25 100 Tryz.func25 rfl (by kernel_rfl) ?_
 refine⟨by decide,?_⟩
 refine al ?_
 show 29<=bits .and .u32 h 65535 / Ev.aQ .u32 11↔jX h
 rw[e,r11]; exact Iff.rfl
def aX (f:Int):Int:=if 48<=f/\f<=100 then 4 else if 1<=f/\f<=47 then 2 else 0
theorem Jn (f:Int):aj gT 33 [.int .i64 f] (.int .i64 (aX f)):=by
 refine Spec.enter ao P33 100 Tryz.func33 rfl (by kernel_rfl) ?_
 refine (rk f).u ?_
 refine⟨fun h=>?_,fun h=>?_⟩
 ·exact al (show (0:Int)=aX f by unfold aX; rw[if_neg (by omega),if_neg (by omega)])
 refine (sX f).u ?_
 refine⟨fun h2=>?_,fun h2=>?_⟩
 ·exact al (show (4:Int)=aX f by unfold aX; rw[if_pos h2])
 ·exact al (show (2:Int)=aX f by unfold aX; rw[if_neg h2,if_pos (by omega)])
theorem gS (i:IN):aj gT 12 [cZ i] (.int .i64 (aX i.form)):=by
 refine Spec.enter ao P12 100 Tryz.func12 rfl (by kernel_rfl) ?_
 refine (Jn i.form).u ?_
 exact al rfl
theorem Op.argS {P:Program} {t:TypeId} {S:PV->Prop} (h:Op P t S) (hS:∀ y,S y->∃ xs,y = .agg xs) {H:Type} {ec:TypeId × Value->H} {w:World} {base:Nat} {held:Bool} {vs:Array Value} {d:DataW H} {p:List MemPlace} (ht:DataW.Trod ec P w base (fun _=>true) held t (.agg vs) d p) (ca:∀ n∈d.weights P t,n<=reachBytes) :
  ∃ y,S y/\y.Is w (In w) no (.agg vs):=by
 obtain⟨fuel,ht⟩:=ht
 obtain⟨y,hy,_,hi,_⟩:=h ec w base held fuel _ _ ht ca
 refine⟨y,hy,?_⟩
 obtain⟨xs,rfl⟩:=hS y hy
 simp only[PV.Is]
 exact⟨vs,rfl,hi⟩
end Go.Proofs.YtnbhdacpogplgaaGreatDoor.Pw
namespace Go.Proofs.YtnbhdacpogplgaaGreatDoor.Nf
open Go.ChangeShapes Go.WideShapes Go.ChangeAt Go.RowKit Go.Deep
end Go.Proofs.YtnbhdacpogplgaaGreatDoor.Nf
namespace Go.Proofs.YtnbhdacpogplgaaGreatDoor.Pw
open Go Go.RowKit
theorem once {a b:IN} (ha:cD a) (hb:cD b) (ga:a.aA<=9223372036854775807) (gb:b.aA<=9223372036854775807) (hs:aX a.form=aX b.form):dn a=dn b↔a=b:=by
 constructor
 ·intro e
  have fa:=ha.1
  have fb:=hb.1
  have hw:48<=a.form↔48<=b.form:=by
   unfold aX at hs
   by_cases h1:48<=a.form<;>by_cases h2:48<=b.form
   ·exact⟨fun _=>h2,fun _=>h1⟩
   ·rw[if_pos ⟨h1,fa.2⟩,if_neg (by omega),if_pos (by omega)] at hs; omega
   ·rw[if_neg (by omega),if_pos (by omega),if_pos ⟨h2,fb.2⟩] at hs; omega
   ·exact⟨fun h=>absurd h h1,fun h=>absurd h h2⟩
  have hf:=yL ha hb hw e
  rw[← back a ha ga,← back b hb gb,hf,e]
 ·intro e; rw[e]
def uC (l:List Int):List PV:=l.map (PV.int .u8)
def pq (l:List Int):Prop:=∀ z∈l,0<=z/\z<=255
theorem we (a b:Int) (k:Nat) (hk:k<=24) (ha:0<=a/\a < 2 ^ k) (hb:0<=b/\b*2 ^ k<=4294967295):bits .or .u32 a (b*2 ^ k)=a+b*2 ^ k/\bits .or .u32 (b*2 ^ k) a=b*2 ^ k+a:=by
 have p:=vT k (by omega)
 have p2:(2:Int) ^ k<=16777216:=by
  have h1:(2 ^ k:Nat)<=2 ^ 24:=Nat.pow_le_pow_right (by omega) hk
  have h3:=cF k
  have h4:(2:Nat) ^ 24=16777216:=by decide
  omega
 obtain⟨x,rfl⟩:∃ x:Nat,a=x:=⟨a.toNat,by omega⟩
 obtain⟨y,rfl⟩:∃ y:Nat,b=y:=⟨b.toNat,by omega⟩
 have e:((y:Int)*2 ^ k)=((2 ^ k*y:Nat):Int):=by rw[Int.natCast_mul,cF,Int.mul_comm]
 rw[e] at hb ⊢
 have hx:x < 2 ^ k:=by have:=cF k; omega
 have h:=Uy y x k hx
 constructor
 ·rw[u32_or _ _ (by omega) (by omega) (by omega) (by omega),Int.toNat_natCast,Int.toNat_natCast,Nat.or_comm,← h]; omega
 ·rw[u32_or _ _ (by omega) (by omega) (by omega) (by omega),Int.toNat_natCast,Int.toNat_natCast,← h]; omega
def hN (l:List Int) (n:Nat):Int:=l.getD n 0+l.getD (n+1) 0*256
theorem G5 {l:List Int} (h:pq l) (n:Nat):0<=l.getD n 0/\l.getD n 0<=255:=by
 rw[List.getD_eq_getElem?_getD]
 cases e:l[n]? with
 | none=>exact⟨Int.le_refl 0,by decide⟩
 | some z=>exact h z (List.mem_of_getElem? e)
theorem yU {l:List Int} (h:pq l) (n:Nat):0<=hN l n/\hN l n<=65535:=by
 have a:=G5 h n
 have b:=G5 h (n+1)
 unfold hN; omega
theorem getD_some {l:List Int} {n:Nat} {z:Int} (h:l[n]?=some z):l.getD n 0=z:=by rw[List.getD_eq_getElem?_getD,h]; rfl
theorem tW (l:List Int) (n:Nat) (hl:pq l) (hm:l.length<=maxLen) (hn:n+1 < l.length):aj gT 24 [.sl 1 (uC l),.int .i64 n] (.int .u32 (hN l n)):=by
 have pW:l.length<=2 ^ 63 - 1:=hm
 have e8:Ev.aQ .u32 8=2 ^ 8:=by decide
 obtain⟨a,ha⟩:∃ a,l[n]?=some a:=⟨_,List.getElem?_eq_getElem (by omega)⟩
 obtain⟨b,hb⟩:∃ b,l[n+1]?=some b:=⟨_,List.getElem?_eq_getElem (by omega)⟩
 have ab:=hl a (List.mem_of_getElem? ha)
 have bb:=hl b (List.mem_of_getElem? hb)
 have ea:=getD_some ha
 have eb:=getD_some hb
 refine Spec.enter ao P24 100 Tryz.func24 rfl (by kernel_rfl) ?_
 repeat' (first
  | (refine⟨Int,l,PV.int .u8,rfl,show (0:Int)<=(n:Int) by omega,show (n:Int) < (l.length:Int) by omega,fun z hz=>?_⟩
     obtain rfl:a=z:=Option.some.inj (ha.symm.trans hz))
  | (refine⟨Int,l,PV.int .u8,rfl,show (0:Int)<=(n:Int)+1 by omega,show (n:Int)+1 < (l.length:Int) by omega,fun z hz=>?_⟩
     obtain rfl:b=z:=Option.some.inj (hb.symm.trans hz))
  | refine Or.inl (And.intro (aG (show _<=(n:Int)+1/\(n:Int)+1<=_ by omega)) ?_)
  | refine Or.inl (And.intro (ai (show 0<=a/\a<=_ by omega)) ?_)
  | refine Or.inl (And.intro (ai (show 0<=b/\b<=_ by omega)) ?_)
  | refine And.intro (show (0:Int)<=8 by decide) (Or.inl (And.intro (ai (show 0<=b*Ev.aQ .u32 8/\b*Ev.aQ .u32 8<=_ by rw[e8]; omega)) ?_))
  | exact rfl
  | exact trivial
  | (refine al ?_
     show bits .or .u32 a (b*Ev.aQ .u32 8)=hN l n
     rw[e8,(we a b 8 (by decide) (by omega) (by omega)).1,hN,ea,eb]
     rfl)
  | refine And.intro ?_ ?_)
def hW (l:List Int) (n:Nat):Int:=hN l n*65536+hN l (n+2)
noncomputable def Kl (l:List Int) (n:Nat):IN:=open Classical in
 if l.length < n+2 then iZ else if ¬ jX (hN l n) then Kk (hN l n) False else if l.length < n+4 then iZ else Kk (hW l n) True
noncomputable def Km (l:List Int) (n:Nat):Int:=open Classical in
 if l.length < n+2 then 41 else if ¬ jX (hN l n) then Nc (hN l n) False else if l.length < n+4 then 41 else Nc (hW l n) True
theorem hW_or (l:List Int) (hl:pq l) (n:Nat):bits .or .u32 (hN l n*Ev.aQ .u32 16) (hN l (n+2))=hW l n:=by
 have a:=yU hl n
 have b:=yU hl (n+2)
 have e:Ev.aQ .u32 16=2 ^ 16:=by decide
 rw[e,(we (hN l (n+2)) (hN l n) 16 (by decide) (by omega) (by omega)).2]
 rfl
theorem hW_bd (l:List Int) (hl:pq l) (n:Nat):dH (hW l n):=by
 have a:=yU hl n
 have b:=yU hl (n+2)
 unfold hW dH; omega
theorem Zj (l:List Int) (n:Int) (hm:l.length<=maxLen) (hI:bX n) (h:n < 0\/l.length < n):aj gT 8 [.sl 1 (uC l),.int .i64 n] (.tup [cZ iZ,.int .i64 11]):=by
 have el:(uC l).length=l.length:=List.length_map ..
 refine Spec.enter ao P8 100 Tryz.func8 rfl (by kernel_rfl) ?_
 refine⟨fun h0=>?_,fun h0=>?_⟩
 ·exact rA
 ·intro _
  refine⟨fun h1=>?_,fun h1=>?_⟩
  ·exact rA
  ·refine absurd ?_ h1
   show (((uC l).length:Nat):Int) < n
   have:¬ n < 0:=h0
   omega
theorem at_in (l:List Int) (n:Nat) (hl:pq l) (hm:l.length<=maxLen) (hn:n<=l.length):aj gT 8 [.sl 1 (uC l),.int .i64 n] (.tup [cZ (Kl l n),.int .i64 (Km l n)]):=by
 have el:(uC l).length=l.length:=List.length_map ..
 have pW:l.length<=2 ^ 63 - 1:=hm
 have h1:=yU hl n
 have h2:=yU hl (n+2)
 refine Spec.enter ao P8 100 Tryz.func8 rfl (by kernel_rfl) ?_
 refine⟨fun h0=>absurd (show (n:Int) < 0 from h0) (by omega),fun _=>?_⟩
 intro _
 refine⟨fun h0=>absurd (show (((uC l).length:Nat):Int) < (n:Int) from h0) (by omega),fun _=>?_⟩
 intro _
 refine li ?_ (show _<=(((uC l).length:Nat):Int) - (n:Int)/\(((uC l).length:Nat):Int) - (n:Int)<=_ by omega)
 refine⟨fun hs=>?_,fun hs=>?_⟩
 ·have hs':(((uC l).length:Nat):Int) - (n:Int) < 2:=hs
  have c:l.length < n+2:=by omega
  rw[show Kl l n=iZ from if_pos c,show Km l n=41 from if_pos c]
  exact rA
 have hs':¬ (((uC l).length:Nat):Int) - (n:Int) < 2:=hs
 have c:¬ l.length < n+2:=by omega
 refine (tW l n hl hm (by omega)).u ?_
 refine (CG (hN l n) (by unfold dH; omega)).u ?_
 refine⟨fun hb=>?_,fun hb=>?_⟩
 ·have dw:¬ jX (hN l n):=hb
  refine⟨[],az,(G3 (hN l n) False (by unfold dH; omega)).use (And.intro rfl (And.intro (show ¬ False from id) trivial)) rfl rfl ?_⟩
  rw[show Kl l n=Kk (hN l n) False by unfold Kl; rw[if_neg c,if_pos dw],show Km l n=Nc (hN l n) False by unfold Km; rw[if_neg c,if_pos dw]]
  exact rA
 have dw:¬ ¬ jX (hN l n):=hb
 intro _
 refine li ?_ (show _<=(((uC l).length:Nat):Int) - (n:Int)/\(((uC l).length:Nat):Int) - (n:Int)<=_ by omega)
 refine⟨fun hs=>?_,fun hs=>?_⟩
 ·have hs':(((uC l).length:Nat):Int) - (n:Int) < 4:=hs
  have c2:l.length < n+4:=by omega
  rw[show Kl l n=iZ by unfold Kl; rw[if_neg c,if_neg dw,if_pos c2],show Km l n=41 by unfold Km; rw[if_neg c,if_neg dw,if_pos c2]]
  exact rA
 have hs':¬ (((uC l).length:Nat):Int) - (n:Int) < 4:=hs
 have c2:¬ l.length < n+4:=by omega
 have e16:Ev.aQ .u32 16=65536:=by decide
 refine⟨by decide,.inl ⟨ai (by rw[e16]; omega),?_⟩⟩
 refine li ?_ (show _<=(n:Int)+2/\(n:Int)+2<=_ by omega)
 refine (tW l (n+2) hl hm (by omega)).u ?_
 refine⟨[],az,(G3 (hW l n) True (hW_bd l hl n)).use (And.intro (hW_or l hl n) (And.intro (show True from trivial) trivial)) rfl rfl ?_⟩
 rw[show Kl l n=Kk (hW l n) True by unfold Kl; rw[if_neg c,if_neg dw,if_neg c2],show Km l n=Nc (hW l n) True by unfold Km; rw[if_neg c,if_neg dw,if_neg c2]]
 exact rA
def Rl:PV->Bool
 | .agg _|.tup _|.clo ..|.ref ..|.pti ..|.dpt ..|.ep ..|.gp ..|.gpi ..|.val _=>false
 | _=>true
theorem Ng {x:PV} (h:Rl x=true):tR x x:=by
 cases x<;>first|(cases h; done)|exact rfl|exact trivial|exact Iff.rfl|(unfold tR; simp)
theorem wg:∀ {l:List PV},l.all Rl=true->na tR l l
 | [],_=>trivial
 | x::l,h=>by
  simp only[List.all_cons,Bool.and_eq_true] at h
  exact⟨Ng h.1,wg h.2⟩
theorem ah {b:an} (hl:b.live=true) (hc:(bif b.k.xx then b.cs.all Rl else true)=true):fT b b:=by
 obtain⟨k,ty,n,m,live,cs⟩:=b
 simp only at hl
 subst hl
 have hm:(Nat.beq ty ty && Nat.beq n n && Md.beq m m && true && true && BK.beq k k)=true:=by
  simp only[Nat.beq_refl,Bool.and_true,Bool.true_and,Bool.and_eq_true]
  exact⟨by cases m<;>rfl,by cases k<;>rfl⟩
 show (bif (Nat.beq ty ty && Nat.beq n n && Md.beq m m && true && true && BK.beq k k) then _ else False)
 rw[hm,cond_true]
 cases k
 ·exact wg hc
 ·exact wg hc
 ·exact rfl
 ·exact rfl
def okB (b:an):Bool:=b.live && (bif b.k.xx then b.cs.all Rl else true)
theorem s8 {b:an} (h:okB b=true):fT b b:=by
 unfold okB at h
 simp only[Bool.and_eq_true] at h
 exact ah h.1 h.2
theorem oQ:∀ {S:List an},S.all okB=true->vS S S
 | [],_=>trivial
 | b::S,h=>by
  simp only[List.all_cons,Bool.and_eq_true] at h
  exact⟨s8 h.1,oQ h.2⟩
theorem yV:∀ {S T:List an} {k:List an->Prop},S.all okB=true->k T->EC (S++T) S k
 | [],_,_,_,h=>h
 | b::S,T,k,ho,h=>by
  simp only[List.all_cons,Bool.and_eq_true] at ho
  exact⟨s8 ho.1,yV (S:=S) ho.2 h⟩
theorem Spec.useE {G:Gx} {f:FuncId} {args bf:List PV} {r0:PV} {S0 S1 st T:List an} {K:PV->List an->Prop} (h:Spec G f bf S0 [] fun r S'=>r=r0/\S'=S1)
  (hc:(nc S0 S1 && S0.all (BL S0.length) && (eu bf).all (fun l=>Nat.blt l S0.length) && r0.c9.all (fun l=>Nat.blt l S0.length) && S0.all okB)=true) (hle:na qC args bf) (um:st=S0++T) (hK:xN S1 fun S1=>BY S1 T (K r0)):Spec G f args st [] K:=by
 simp only[Bool.and_eq_true] at hc
 obtain⟨⟨⟨⟨h1,h2⟩,h3⟩,h4⟩,h5⟩:=hc
 subst um
 exact h.P' h1 h2 h3 h4 hle (yV h5 hK)
def atQ (π:iM) (st:List an):List Nat->List an->Prop->Prop
 | [],[],k=>k
 | l::σ,b'::S,k=>(aP st[l]? fun b=>okB b=true/\xX π b' fun pY=>b=pY)/\atQ π st σ S k
 | _,_,_=>False
theorem G6 {π:iM} {st:List an}:∀ {σ:List Nat} {S:List an} {k:Prop},atQ π st σ S k->atK π st σ S k
 | [],[],_,h=>h
 | l::σ,b'::S,k,h=>by
  refine⟨?_,G6 h.2⟩
  obtain⟨b,hb,ho,hr⟩:=au h.1
  rw[hb]
  show xX π b' fun pY=>fT b pY
  obtain⟨k0,ty,n,m,live,cs⟩:=b'
  cases k0
  ·obtain⟨ds,h1,h2⟩:=au hr
   show aP (ib π cs) _
   rw[h1]; subst h2; exact s8 ho
  ·obtain⟨ds,h1,h2⟩:=au hr
   show aP (ib π cs) _
   rw[h1]; subst h2; exact s8 ho
  ·have e:b=⟨.dyn,ty,n,m,live,cs⟩:=hr
   subst e; exact s8 ho
  ·have e:b=⟨.mp,ty,n,m,live,cs⟩:=hr
   subst e; exact s8 ho
 | [],_::_,_,h=>h.elim
 | _::_,[],_,h=>h.elim
theorem Spec.useQ {G:Gx} {f:FuncId} {args bf:List PV} {r0:PV} {S0 S1 st:List an} {K:PV->List an->Prop} (σ:List Nat) (h:Spec G f bf S0 [] fun r S'=>r=r0/\S'=S1) (hc:(nc S0 S1 && nZ σ)=true) (z4:r0.c9 = []) (hle:MS (σ.map some) args bf) (hK:atQ (σ.map some) st σ S0 (toK (σ.map some) σ S1 st (K r0))):Spec G f args st [] K:=by
 simp only[Bool.and_eq_true] at hc
 exact Spec.Cz σ h hc.1 z4 hc.2 hle (G6 hK)
theorem G7 {π:iM} {st:List an}:∀ {σ:List Nat} {S:List an} {k:Prop},atQ π st σ S True->k->atQ π st σ S k
 | [],[],_,_,h=>h
 | _::_,_::_,_,h,hk=>⟨h.1,G7 h.2 hk⟩
 | [],_::_,_,h,_=>h.elim
 | _::_,[],_,h,_=>h.elim
theorem Spec.e {P:Nat->Prop} {G:Gx} {f:FuncId} {args bf:List PV} {r0:PV} {S0 S1 st:List an} {K:List Nat->PV->List an->Prop} (h:Spec G f bf S0 [] fun r S'=>r=r0/\S'=S1) (hK:xN S1 fun S1=>BY S1 (st.drop S0.length) (K [] r0)) (hle:na qC args bf:=by repeat' first|exact trivial|exact rfl|exact Iff.rfl|refine And.intro ?_ ?_) (um:st=S0++st.drop S0.length:=by rfl)
  (hc:(nc S0 S1 && S0.all (BL S0.length) && (eu bf).all (fun l=>Nat.blt l S0.length) && r0.c9.all (fun l=>Nat.blt l S0.length) && S0.all okB)=true:=by rfl):∃ rl:List Nat,(∀ l,l∈rl->P l)/\Spec G f args st rl (K rl):=⟨[],fun _ hl=>(by cases hl),h.useE hc hle um hK⟩
theorem Spec.q {P:Nat->Prop} {G:Gx} {f:FuncId} {args bf:List PV} {r0:PV} {S0 S1 st:List an} {K:List Nat->PV->List an->Prop} (h:Spec G f bf S0 [] fun r S'=>r=r0/\S'=S1) (σ:List Nat) (hK:toK (σ.map some) σ S1 st (K [] r0)) (hle:MS (σ.map some) args bf:=by repeat' first|exact trivial|exact rfl|exact Iff.rfl|refine And.intro ?_ ?_) (ha:atQ (σ.map some) st σ S0 True:=by repeat' first|exact trivial|exact⟨rfl,rfl⟩|refine And.intro ?_ ?_) (hc:(nc S0 S1 && nZ σ)=true:=by rfl) (z4:r0.c9 = []:=by rfl):∃ rl:List Nat,(∀ l,l∈rl->P l)/\Spec G f args st rl (K rl):=⟨[],fun _ hl=>(by cases hl),h.useQ σ hc z4 hle (G7 ha hK)⟩
theorem rS {r r0:PV} {S' S1:List an} (h:qC r r0:=by repeat' first|exact trivial|exact rfl|exact Iff.rfl|refine And.intro ?_ ?_) (hs:vS S' S1:=by first|exact oQ rfl|(repeat' first|exact trivial|exact rfl|exact Iff.rfl|exact not_false|refine And.intro ?_ ?_)):∃ r',yA r r'/\(fun x S'=>x=r0/\vS S' S1) r' S':=fy h hs
theorem yW (x:Int) (hx:dH x):aj gT 64 [.int .u32 x] (.int .i64 (Lib.bitLen x.toNat)) :=
 aj.of_same (Ab Tryz.func64 rfl (by kernel_rfl)) [.int .u32 x] (.int .i64 (Lib.bitLen x.toNat)) (fun w I β a_ h=>GK (l:=[(.u32,x)]) h) (fun w I β=>sW ..) (fun w=>(Gr x w hx.1 hx.2).mono fun e w' ⟨h1,h2⟩=>⟨h1,h2.symm⟩)
theorem Nh (x:Int) (h0:0<=x) (h1:x<=65535):aj gT 63 [.int .u32 x] (.int .i64 (fu x)) :=
 aj.BP (Ab Tryz.func63 rfl (by kernel_rfl)) [.int .u32 x] (.int .i64 (fu x)) (fun w I β a_ h=>GK (l:=[(.u32,x)]) h) (fun w I β=>sW ..) (fun w=>Jh x w h0 h1)
theorem wrap_u32 (z:Int):dH (IntKind.u32.wrap z):=by
 have:=IntKind.wrap_u32' z
 unfold dH; omega
def divC (a b:Int):Int:=if b=0\/(Lib.bitLen a.toNat:Int) - Lib.bitLen b.toNat < 0 then 2 else 3+((Lib.bitLen a.toNat:Int) - Lib.bitLen b.toNat) / 4
theorem oc {x:Int} (h:x<=4294967295):Lib.bitLen x.toNat<=32:=Rm.B8 x.toNat (by omega)
theorem yX (a b:Int) (ha:dH a) (hb:dH b):aj gT 29 [.int .u32 a,.int .u32 b] (.int .i64 (divC a b)):=by
 have h1:=oc ha.2
 have h2:=oc hb.2
 refine Spec.enter ao P29 100 Tryz.func29 rfl (by kernel_rfl) ?_
 refine (yW a ha).u ?_
 refine (yW b hb).u ?_
 refine li ?_
 refine⟨fun h=>?_,fun h=>And.intro (fun h3=>?_) (fun h3=>?_)⟩
 ·refine al ?_
  exact (show (2:Int)=divC a b by unfold divC; rw[if_pos (.inl h)])
 ·refine al ?_
  exact (show (2:Int)=divC a b by unfold divC; rw[if_pos (.inr h3)])
 ·refine⟨by decide,.inl ⟨by omega,show (Lib.bitLen a.toNat:Int) - Lib.bitLen b.toNat<=9223372036854775807 by omega,by decide,?_⟩⟩
  refine li ?_
  refine al ?_
  exact (show (3:Int)+_=divC a b by unfold divC; rw[if_neg (by omega)])
def Jo (aA:Int):Prop:=bits .and .i64 (aA / Ev.aQ .i64 15) 1=1
instance (r:Int):Decidable (Jo r):=by unfold Jo; infer_instance
def pJ (i:IN):Int:=if i.form=43/\Jo i.aA then 1+fu i.aA+2 else 1+fu i.aA
theorem wh (i:IN) (h0:0<=i.aA) (h1:i.aA<=65535):aj gT 28 [cZ i] (.int .i64 (pJ i)):=by
 have hb:=yR i.aA h0 h1
 refine Spec.enter ao P28 100 Tryz.func28 rfl (by kernel_rfl) ?_
 refine lu ?_ (show 0<=i.aA/\i.aA<=_ by omega)
 refine (Nh i.aA h0 h1).u ?_
 refine li ?_ (show _<=1+fu i.aA/\1+fu i.aA<=_ by omega)
 refine⟨fun h=>?_,fun h=>?_⟩
 ·refine⟨by decide,?_⟩
  refine⟨fun ht=>?_,fun ht=>?_⟩
  ·refine li ?_ (show _<=1+fu i.aA+2/\1+fu i.aA+2<=_ by omega)
   exact al (show 1+fu i.aA+2=pJ i by unfold pJ; rw[if_pos ⟨h,ht⟩])
  ·exact al (show 1+fu i.aA=pJ i by unfold pJ; rw[if_neg (fun q=>ht q.2)])
 ·exact al (show 1+fu i.aA=pJ i by unfold pJ; rw[if_neg (fun q=>h q.1)])
def bA (f:Int):Int :=
 if f=46\/f=99 then 1 else if f=47\/f=100\/f=31 then 2 else if f=32\/f=34\/f=36\/f=38\/f=85\/f=87\/f=33\/f=35\/f=37\/f=84\/f=86\/f=93\/f=94 then 3 else if f=42\/f=43 then 4 else if f=97 then 5 else 0
def ig (i:IN) (t:Prop) [Decidable t] (a b:Int):Int:=if bA i.form=1 then (if t then 3 else 1) else if bA i.form=2 then 3 else if bA i.form=3 then 2 else if bA i.form=4 then pJ i else if bA i.form=5 then divC a b else 1
theorem G8 {i:IN} {t:Prop} [Decidable t] {a b:Int} (h:bA i.form=0):ig i t a b=1:=by unfold ig; rw[if_neg (by omega),if_neg (by omega),if_neg (by omega),if_neg (by omega),if_neg (by omega)]
theorem uV {i:IN} {t:Prop} [Decidable t] {a b:Int} (h:bA i.form=1):ig i t a b=(if t then 3 else 1):=by unfold ig; rw[if_pos h]
theorem uW {i:IN} {t:Prop} [Decidable t] {a b:Int} (h:bA i.form=2):ig i t a b=3:=by unfold ig; rw[if_neg (by omega),if_pos h]
theorem fQ {i:IN} {t:Prop} [Decidable t] {a b:Int} (h:bA i.form=3):ig i t a b=2:=by unfold ig; rw[if_neg (by omega),if_neg (by omega),if_pos h]
theorem G9 {i:IN} {t:Prop} [Decidable t] {a b:Int} (h:bA i.form=4):ig i t a b=pJ i:=by unfold ig; rw[if_neg (by omega),if_neg (by omega),if_neg (by omega),if_pos h]
theorem Rn {i:IN} {t:Prop} [Decidable t] {a b:Int} (h:bA i.form=5):ig i t a b=divC a b:=by unfold ig; rw[if_neg (by omega),if_neg (by omega),if_neg (by omega),if_neg (by omega),if_pos h]
theorem yY (i:IN) (t:Prop) [Decidable t] (a b:Int) (hr:cD i) (hi:bX i.aC) (h0:0<=i.aA) (h1:i.aA<=65535) (ha:dH a) (hb:dH b):aj gT 10 [cZ i,.bool t,.int .u32 a,.int .u32 b] (.tup [.int .i64 (ig i t a b),.int .i64 0]):=by
 refine Spec.enter ao P10 100 Tryz.func10 rfl (by kernel_rfl) ?_
 refine (qd i hi).u ?_
 refine⟨fun h=>absurd hr h,fun _=>?_⟩
 refine⟨fun h46=>?_,fun h46=>?_⟩
 ·have hc:bA i.form=1:=by rw[show i.form=46 from h46]; rfl
  rw[uV hc]
  refine⟨fun h=>?_,fun h=>?_⟩
  ·rw[if_neg (show ¬ t from h)]
   exact al (And.intro rfl (And.intro rfl trivial))
  ·rw[if_pos (Classical.not_not.1 (show ¬ ¬ t from h))]
   exact al (And.intro rfl (And.intro rfl trivial))
 refine⟨fun h99=>?_,fun h99=>?_⟩
 ·have hc:bA i.form=1:=by rw[show i.form=99 from h99]; rfl
  rw[uV hc]
  refine⟨fun h=>?_,fun h=>?_⟩
  ·rw[if_neg (show ¬ t from h)]
   exact al (And.intro rfl (And.intro rfl trivial))
  ·rw[if_pos (Classical.not_not.1 (show ¬ ¬ t from h))]
   exact al (And.intro rfl (And.intro rfl trivial))
 refine⟨fun h47=>?_,fun h47=>?_⟩
 ·have hc:bA i.form=2:=by rw[show i.form=47 from h47]; rfl
  rw[uW hc]
  exact al (And.intro rfl (And.intro rfl trivial))
 refine⟨fun h100=>?_,fun h100=>?_⟩
 ·have hc:bA i.form=2:=by rw[show i.form=100 from h100]; rfl
  rw[uW hc]
  exact al (And.intro rfl (And.intro rfl trivial))
 refine⟨fun h31=>?_,fun h31=>?_⟩
 ·have hc:bA i.form=2:=by rw[show i.form=31 from h31]; rfl
  rw[uW hc]
  exact al (And.intro rfl (And.intro rfl trivial))
 refine⟨fun h32=>?_,fun h32=>?_⟩
 ·have hc:bA i.form=3:=by rw[show i.form=32 from h32]; rfl
  rw[fQ hc]
  exact al (And.intro rfl (And.intro rfl trivial))
 refine⟨fun h34=>?_,fun h34=>?_⟩
 ·have hc:bA i.form=3:=by rw[show i.form=34 from h34]; rfl
  rw[fQ hc]
  exact al (And.intro rfl (And.intro rfl trivial))
 refine⟨fun h36=>?_,fun h36=>?_⟩
 ·have hc:bA i.form=3:=by rw[show i.form=36 from h36]; rfl
  rw[fQ hc]
  exact al (And.intro rfl (And.intro rfl trivial))
 refine⟨fun h38=>?_,fun h38=>?_⟩
 ·have hc:bA i.form=3:=by rw[show i.form=38 from h38]; rfl
  rw[fQ hc]
  exact al (And.intro rfl (And.intro rfl trivial))
 refine⟨fun h85=>?_,fun h85=>?_⟩
 ·have hc:bA i.form=3:=by rw[show i.form=85 from h85]; rfl
  rw[fQ hc]
  exact al (And.intro rfl (And.intro rfl trivial))
 refine⟨fun h87=>?_,fun h87=>?_⟩
 ·have hc:bA i.form=3:=by rw[show i.form=87 from h87]; rfl
  rw[fQ hc]
  exact al (And.intro rfl (And.intro rfl trivial))
 refine⟨fun h33=>?_,fun h33=>?_⟩
 ·have hc:bA i.form=3:=by rw[show i.form=33 from h33]; rfl
  rw[fQ hc]
  exact al (And.intro rfl (And.intro rfl trivial))
 refine⟨fun h35=>?_,fun h35=>?_⟩
 ·have hc:bA i.form=3:=by rw[show i.form=35 from h35]; rfl
  rw[fQ hc]
  exact al (And.intro rfl (And.intro rfl trivial))
 refine⟨fun h37=>?_,fun h37=>?_⟩
 ·have hc:bA i.form=3:=by rw[show i.form=37 from h37]; rfl
  rw[fQ hc]
  exact al (And.intro rfl (And.intro rfl trivial))
 refine⟨fun h84=>?_,fun h84=>?_⟩
 ·have hc:bA i.form=3:=by rw[show i.form=84 from h84]; rfl
  rw[fQ hc]
  exact al (And.intro rfl (And.intro rfl trivial))
 refine⟨fun h86=>?_,fun h86=>?_⟩
 ·have hc:bA i.form=3:=by rw[show i.form=86 from h86]; rfl
  rw[fQ hc]
  exact al (And.intro rfl (And.intro rfl trivial))
 refine⟨fun h93=>?_,fun h93=>?_⟩
 ·have hc:bA i.form=3:=by rw[show i.form=93 from h93]; rfl
  rw[fQ hc]
  exact al (And.intro rfl (And.intro rfl trivial))
 refine⟨fun h94=>?_,fun h94=>?_⟩
 ·have hc:bA i.form=3:=by rw[show i.form=94 from h94]; rfl
  rw[fQ hc]
  exact al (And.intro rfl (And.intro rfl trivial))
 refine⟨fun h42=>?_,fun h42=>?_⟩
 ·have hc:bA i.form=4:=by rw[show i.form=42 from h42]; rfl
  rw[G9 hc]
  refine (wh i h0 h1).u ?_
  exact al (And.intro rfl (And.intro rfl trivial))
 refine⟨fun h43=>?_,fun h43=>?_⟩
 ·have hc:bA i.form=4:=by rw[show i.form=43 from h43]; rfl
  rw[G9 hc]
  refine (wh i h0 h1).u ?_
  exact al (And.intro rfl (And.intro rfl trivial))
 refine⟨fun E_=>?_,fun E_=>?_⟩
 ·have hc:bA i.form=5:=by rw[show i.form=97 from E_]; rfl
  rw[Rn hc]
  refine (yX a b ha hb).u ?_
  exact al (And.intro rfl (And.intro rfl trivial))
 ·have hc:bA i.form=0:=by unfold bA; rw[if_neg (by omega),if_neg (by omega),if_neg (by omega),if_neg (by omega),if_neg (by omega)]
  rw[G8 hc]
  exact al (And.intro rfl (And.intro rfl trivial))
def gU (a:Int):Int:=a / 16
def Jp (full:Prop) (line:Int):PV:=.agg [.bool full,.int .u32 line]
theorem Fa (n:Int):aj gT 30 [.int .i64 n] (.bool (n=2\/n=4)):=by
 refine Spec.enter ao P30 100 Tryz.func30 rfl (by kernel_rfl) ?_
 refine⟨fun h=>?_,fun h=>?_⟩
 ·exact al (show n=2\/n=4 from .inl h)
 ·exact al (show n=4↔(n=2\/n=4) from ⟨.inr,fun q=>q.elim (fun e=>absurd e h) id⟩)
theorem yZ (a:Int) (ha:dH a):aj gT 32 [.int .u32 a] (.int .u32 (gU a)):=by
 refine Spec.enter ao P32 100 Tryz.func32 rfl (by kernel_rfl) ?_
 refine And.intro (show (16:Int)≠0 by decide) (.inl ⟨ha.1,show a<=4294967295 from ha.2,show (0:Int) < 16 by decide,?_⟩)
 exact al rfl
def gm (full:Prop) [Decidable full] (line l:Int):Int:=if full/\line=l then 0 else 1
theorem y6 (full:Prop) [Decidable full] (line l:Int):aj gT 31 [Jp full line,.int .u32 l] (.tup [Jp True l,.int .i64 (gm full line l)]):=by
 refine Spec.enter ao P31 100 Tryz.func31 rfl (by kernel_rfl) ?_
 refine⟨fun h=>?_,fun h=>?_⟩
 ·refine⟨fun hl=>?_,fun hl=>?_⟩
  ·have e:gm full line l=0:=by unfold gm; rw[if_pos ⟨h,hl⟩]
   rw[e]
   exact al (And.intro (And.intro (iff_true_intro h) (And.intro hl trivial)) (And.intro rfl trivial))
  ·have e:gm full line l=1:=by unfold gm; rw[if_neg (fun q=>hl q.2)]
   rw[e]
   exact al (And.intro (And.intro trivial (And.intro rfl trivial)) (And.intro rfl trivial))
 ·have e:gm full line l=1:=by unfold gm; rw[if_neg (fun q=>h q.1)]
  rw[e]
  exact al (And.intro (And.intro trivial (And.intro rfl trivial)) (And.intro rfl trivial))
def wm (at_ n:Int):Int:=if n=2 then gU at_ else gU (IntKind.u32.wrap (at_+2))
def rE (full:Prop) [Decidable full] (line at_ n:Int):Int:=if n=2 then gm full line (gU at_) else gm full line (gU at_)+gm True (gU at_) (gU (IntKind.u32.wrap (at_+2)))
theorem CH (full:Prop) [Decidable full] (line l:Int):0<=gm full line l/\gm full line l<=1:=by unfold gm; split<;>omega
theorem mN (full:Prop) [Decidable full] (line at_ n:Int) (ha:dH at_) (hn:n=2\/n=4):aj gT 11 [Jp full line,.int .u32 at_,.int .i64 n] (.tup [Jp True (wm at_ n),.int .i64 (rE full line at_ n)]):=by
 have b1:=CH full line (gU at_)
 have b2:=CH True (gU at_) (gU (IntKind.u32.wrap (at_+2)))
 refine Spec.enter ao P11 100 Tryz.func11 rfl (by kernel_rfl) ?_
 refine (Fa n).u ?_
 refine⟨fun h=>absurd hn h,fun _=>?_⟩
 refine (yZ at_ ha).u ?_
 refine (y6 full line (gU at_)).u ?_
 refine⟨fun h=>?_,fun h=>?_⟩
 ·have e1:wm at_ n=gU at_:=by unfold wm; rw[if_pos h]
  have e2:rE full line at_ n=gm full line (gU at_):=by unfold rE; rw[if_pos h]
  rw[e1,e2]
  exact rA
 ·have e1:wm at_ n=gU (IntKind.u32.wrap (at_+2)):=by unfold wm; rw[if_neg h]
  have e2:rE full line at_ n=gm full line (gU at_)+gm True (gU at_) (gU (IntKind.u32.wrap (at_+2))):=by unfold rE; rw[if_neg h]
  rw[e1,e2]
  refine .inr ?_
  refine (yZ (IntKind.u32.wrap (at_+2)) (wrap_u32 _)).u ?_
  refine (y6 True (gU at_) (gU (IntKind.u32.wrap (at_+2)))).u ?_
  refine li ?_
  exact rA
def s9 (op:Int):Int:=if op<=2 then 0 else if op<=4 then 1 else 2
def cz:T->List PV
 | .leaf ..=>[]
 | .one _ _ a=>[.agg [.int .i64 a.op,.int .u32 a.num,.sl 3 (cz a)]]
 | .two _ _ a b=>[.agg [.int .i64 a.op,.int .u32 a.num,.sl 3 (cz a)],.agg [.int .i64 b.op,.int .u32 b.num,.sl 3 (cz b)]]
def jc (t:T):PV:=.agg [.int .i64 t.op,.int .u32 t.num,.sl 3 (cz t)]
def ij:T->List T
 | .leaf ..=>[]
 | .one _ _ a=>[a]
 | .two _ _ a b=>[a,b]
theorem wq (t:T):cz t=(ij t).map jc:=by cases t<;>rfl
def bh (ws:List Int):List PV:=ws.map (PV.int .u32)
theorem oe {f:FuncId} {fn:Func} {c:Code} (hf:Tryz.prog.funcs[f]?=some fn) (hb:fn.body=some c) (hn:(fn.name == "runtime.NumGoroutine")=false):Ev.ke gT.cx.P f:=Ev.lB hf hb hn
theorem Tc {w:World} {I:Nat->Prop} {β:ax}:bp w I [] β []:=by simp only[bp]
theorem G' {w:World} {I:Nat->Prop} {β:ax} {x:PV} {v:Value} {xs:List PV} {vs:List Value} (h:x.Is w I β v) (h':bp w I xs β vs):bp w I (x::xs) β (v::vs):=by simp only[bp]; exact⟨h,h'⟩
theorem Ni {w:World} {I:Nat->Prop} {β:ax} (b:Bool):(PV.bool (b=true)).Is w I β (.bool b):=by simp only[PV.Is]; rw[D9]; simp
theorem oR {w:World} {I:Nat->Prop} {β:ax} (k:IntKind) (n:Int):(PV.int k n).Is w I β (.int k n):=by simp only[PV.Is]
theorem G_ {w:World} {I:Nat->Prop} {β:ax} {xs:List PV} {vs:Array Value} (h:bp w I xs β vs.toList):(PV.tup xs).Is w I β (.tuple vs):=by simp only[PV.Is]; exact⟨vs,rfl,h⟩
theorem Nj {w:World} {I:Nat->Prop} {β:ax} {x:PV} {a_:List Value} (h:bp w I [x] β a_):∃ v,a_ = [v]/\x.Is w I β v:=by
 match a_,h with
 | [v],h=>exact⟨v,rfl,by simpa only [bp,and_true] using h⟩
theorem isL2R {w:World} {I:Nat->Prop} {β:ax} {x y:PV} {a_:List Value} (h:bp w I [x,y] β a_):∃ v u,a_ = [v,u]/\x.Is w I β v/\y.Is w I β u:=by
 match a_,h with
 | [v,u],h=>exact⟨v,u,rfl,by simpa only [bp,and_true] using h⟩
theorem isL3R {w:World} {I:Nat->Prop} {β:ax} {x y z:PV} {a_:List Value} (h:bp w I [x,y,z] β a_):∃ v u t,a_ = [v,u,t]/\x.Is w I β v/\y.Is w I β u/\z.Is w I β t:=by
 match a_,h with
 | [v,u,t],h=>exact⟨v,u,t,rfl,by simpa only [bp,and_true] using h⟩
theorem wu (op x:Int) (h0:0<=x) (h1:x<=4294967295):aj gT 112 [.int .i64 op,.int .u32 x] (.int .u32 (CE op x)) :=
 aj.of_same (oe Tryz.func112 rfl (by kernel_rfl)) [.int .i64 op,.int .u32 x] _ (fun w I β a_ h=>by obtain⟨v,u,rfl,h1,h2⟩:=isL2R h; simp only[PV.Is] at h1 h2; rw[h1,h2]) (fun w I β=>by simp only[PV.Is]) (fun w=>M6 op x w h0 h1)
def Ro (o:Option Int):PV:=.tup [.int .u32 (o.getD 0),.bool (o.isSome=true)]
theorem Rp (o:Option Int) (w:World) (I:Nat->Prop) (β:ax):(Ro o).Is w I β (Zf o):=by
 unfold Ro Zf
 exact G_ (G' (oR ..) (G' (Ni _) Tc))
theorem Nk (op x y:Int) (h0:0<=x) (h1:x<=4294967295) (k0:0<=y) (k1:y<=4294967295):aj gT 113 [.int .i64 op,.int .u32 x,.int .u32 y] (Ro (mM op x y)) :=
 aj.of_same (oe Tryz.func113 rfl (by kernel_rfl)) [.int .i64 op,.int .u32 x,.int .u32 y] (Zf (mM op x y)) (fun w I β a_ h=>by obtain⟨v,u,t,rfl,h1,h2,h3⟩:=isL3R h; simp only[PV.Is] at h1 h2 h3; rw[h1,h2,h3]) (Rp _) (fun w=>Rf op x y w h0 h1 k0 k1)
theorem Fb (t:T) (ws:List Int) (hn:0<=t.num/\t.num<=4294967295):aj gT 110 [jc t,.sl 1 (bh ws)] (.int .u32 (tV t.op t.num ws)):=by
 refine Spec.enter ao [] 100 Tryz.func110 rfl (by kernel_rfl) ?_
 refine⟨fun h1=>?_,fun h1=>?_⟩
 ·refine al ?_
  show _=_
  unfold tV
  rw[if_pos h1]
 ·refine .inl ⟨aG (by omega),fun hm=>And.intro (fun h2=>?_) (fun h2=>?_)⟩
  ·refine⟨_,ws,PV.int .u32,rfl,hn.1,by rw[bh,List.length_map] at h2; exact h2,fun x hx=>al ?_⟩
   show _=_
   unfold tV
   rw[if_neg h1,hx]; rfl
  ·refine al ?_
   show _=_
   rw[bh,List.length_map] at h2
   unfold tV
   rw[if_neg h1,List.getElem?_eq_none (by omega)]; rfl
theorem Nl:aj gT 111 [.tt] (.int .u32 1) :=
 aj.of_same (oe Tryz.func111 rfl (by kernel_rfl)) [.bool true] _ (fun w I β a_ h=>by obtain⟨v,rfl,h1⟩:=Nj h; simp only[PV.Is] at h1; rw[h1]) (fun w I β=>oR ..) (fun w=>iN true w)
theorem CI:aj gT 111 [.ff] (.int .u32 0) :=
 aj.of_same (oe Tryz.func111 rfl (by kernel_rfl)) [.bool false] _ (fun w I β a_ h=>by obtain⟨v,rfl,h1⟩:=Nj h; simp only[PV.Is] at h1; rw[h1]) (fun w I β=>oR ..) (fun w=>iN false w)
theorem fp (ws:List Int) (hw:rC ws):∀ t:T,t.Wf->aj gT 71 [jc t,.sl 1 (bh ws)] (Ro (t.bo ws))
 | .leaf o n,Rq=>by
  refine Spec.enter ao P71 100 Tryz.func71 rfl (by kernel_rfl) ?_
  refine fun _=>And.intro (fun _=>?_) (fun h=>absurd rfl h)
  refine⟨[],nofun,(Fb (.leaf o n) ws Rq).use ⟨⟨rfl,rfl,rfl,trivial⟩,rfl,trivial⟩ rfl rfl ?_⟩
  exact al ⟨rfl,rfl,trivial⟩
 | .one o n a,Rq=>by
  have Zk:=fp ws hw a Rq.2
  refine Spec.enter ao P71 100 Tryz.func71 rfl (by kernel_rfl) ?_
  refine fun _=>And.intro (fun h=>absurd h (by simp[cz])) (fun _=>?_)
  refine⟨T,[a],jc,rfl,Int.le_refl 0,Int.zero_lt_one,fun x hx=>?_⟩
  obtain rfl:a=x:=by simpa using hx
  refine⟨[],nofun,Zk.use ⟨⟨rfl,rfl,rfl,trivial⟩,rfl,trivial⟩ rfl rfl ?_⟩
  have he:(T.one o n a).bo ws=(a.bo ws).map (CE o):=rfl
  have hb:∀ v,a.bo ws=some v->0<=v/\v<=4294967295:=fun v h=>T.eL hw Rq.2 h
  rw[he]
  generalize a.bo ws=q at hb ⊢
  cases q with
  | none =>
   refine⟨fun _=>?_,fun h=>absurd nofun h⟩
   refine⟨[],nofun,CI.use ⟨nofun,trivial⟩ rfl rfl ?_⟩
   refine⟨[],nofun,(wu o 0 (by omega) (by omega)).use ⟨rfl,rfl,trivial⟩ rfl rfl ?_⟩
   refine .inl ⟨ai (by simp),?_⟩
   exact al ⟨Int.zero_mul _,Iff.rfl,trivial⟩
  | some v =>
   obtain⟨h0,h1⟩:=hb v rfl
   have h2:=GY (op:=o) h0 h1
   refine⟨fun h=>absurd rfl h,fun _=>?_⟩
   refine fun _=>And.intro (fun _=>?_) (fun h=>absurd rfl h)
   refine⟨[],nofun,Nl.use ⟨rfl,trivial⟩ rfl rfl ?_⟩
   refine⟨[],nofun,(wu o v h0 h1).use ⟨rfl,rfl,trivial⟩ rfl rfl ?_⟩
   refine .inl ⟨ai (by rw[Int.one_mul]; exact h2),?_⟩
   exact al ⟨Int.one_mul _,Iff.rfl,trivial⟩
 | .two o n a b,Rq=>by
  have Zk:=fp ws hw a Rq.2.1
  have ihb:=fp ws hw b Rq.2.2
  refine Spec.enter ao P71 100 Tryz.func71 rfl (by kernel_rfl) ?_
  refine fun _=>And.intro (fun h=>absurd h (by simp[cz])) (fun _=>?_)
  refine⟨T,[a,b],jc,rfl,Int.le_refl 0,by simp,fun x hx=>?_⟩
  obtain rfl:a=x:=by simpa using hx
  refine⟨[],nofun,Zk.use ⟨⟨rfl,rfl,rfl,trivial⟩,rfl,trivial⟩ rfl rfl ?_⟩
  have he:(T.two o n a b).bo ws=(a.bo ws).bind fun x=>(b.bo ws).bind fun y=>mM o x y:=rfl
  have hba:∀ v,a.bo ws=some v->0<=v/\v<=4294967295:=fun v h=>T.eL hw Rq.2.1 h
  have PZ:∀ v,b.bo ws=some v->0<=v/\v<=4294967295:=fun v h=>T.eL hw Rq.2.2 h
  rw[he]
  generalize a.bo ws=q at hba ⊢
  cases q with
  | none =>
   refine⟨fun _=>?_,fun h=>absurd nofun h⟩
   refine⟨[],nofun,CI.use ⟨nofun,trivial⟩ rfl rfl ?_⟩
   refine⟨[],nofun,(wu o 0 (by omega) (by omega)).use ⟨rfl,rfl,trivial⟩ rfl rfl ?_⟩
   refine .inl ⟨ai (by simp),?_⟩
   exact al ⟨Int.zero_mul _,Iff.rfl,trivial⟩
  | some v =>
   obtain⟨h0,h1⟩:=hba v rfl
   refine⟨fun h=>absurd rfl h,fun _=>?_⟩
   refine fun _=>And.intro (fun h=>absurd h (by simp[cz])) (fun _=>?_)
   refine⟨T,[a,b],jc,rfl,by decide,by simp,fun x hx=>?_⟩
   obtain rfl:b=x:=by simpa using hx
   refine⟨[],nofun,ihb.use ⟨⟨rfl,rfl,rfl,trivial⟩,rfl,trivial⟩ rfl rfl ?_⟩
   generalize b.bo ws=q at PZ ⊢
   cases q with
   | none =>
    refine⟨fun _=>?_,fun h=>absurd nofun h⟩
    exact al ⟨rfl,nofun,trivial⟩
   | some u =>
    obtain⟨k0,k1⟩:=PZ u rfl
    refine⟨fun h=>absurd rfl h,fun _=>?_⟩
    refine⟨[],nofun,(Nk o v u h0 h1 k0 k1).use ⟨rfl,rfl,rfl,trivial⟩ rfl rfl ?_⟩
    exact al ⟨rfl,Iff.rfl,trivial⟩
inductive C where
 | mk (kind eX eY word size:Int) (a b:T) (l:List C)
namespace C
def kind:C->Int|.mk k _ _ _ _ _ _ _=>k
def eX:C->Int|.mk _ c _ _ _ _ _ _=>c
def eY:C->Int|.mk _ _ m _ _ _ _ _=>m
def word:C->Int|.mk _ _ _ w _ _ _ _=>w
def size:C->Int|.mk _ _ _ _ s _ _ _=>s
def a:C->T|.mk _ _ _ _ _ a _ _=>a
def b:C->T|.mk _ _ _ _ _ _ b _=>b
def l:C->List C|.mk _ _ _ _ _ _ _ l=>l
end C
theorem C.ind {p:C->Prop} (h:∀ k cy mi wo si a b l,(∀ x∈l,p x)->p (.mk k cy mi wo si a b l)):∀ c,p c
 | .mk k cy mi wo si a b l=>h k cy mi wo si a b l fun x _=>C.ind h x
mutual
def jO:C->List PV
 | .mk _ _ _ _ _ _ _ l=>As l
def As:List C->List PV
 | []=>[]
 | c::l=>.agg [.int .i64 c.kind,.int .i64 c.eX,.int .i64 c.eY,.int .i64 c.word,.int .i64 c.size,.int .i64 c.a.op,.int .u32 c.a.num,.sl 3 (cz c.a),.int .i64 c.b.op,.int .u32 c.b.num,.sl 3 (cz c.b),.sl 12 (jO c)]::As l
end
def Jq (c:C):List PV:=[.int .i64 c.kind,.int .i64 c.eX,.int .i64 c.eY,.int .i64 c.word,.int .i64 c.size,.int .i64 c.a.op,.int .u32 c.a.num,.sl 3 (cz c.a),.int .i64 c.b.op,.int .u32 c.b.num,.sl 3 (cz c.b),.sl 12 (jO c)]
def bx (c:C):PV:=.agg (Jq c)
theorem s_:∀ l:List C,As l=l.map bx
 | []=>rfl
 | c::l=>by rw[As,s_ l]; rfl
theorem dF (c:C):jO c=c.l.map bx:=by cases c; exact s_ _
structure R where
 ws:List Int
 fuel:Int
 sum:Int
 ck:Int
 e:Int
namespace R
structure Ok (r:R):Prop where
 len:r.ws.length=254
 ws:∀ v∈r.ws,0<=v/\v<=4294967295
 fuel:-9223372036854775808<=r.fuel/\r.fuel<=9223372036854775807
 sum:0<=r.sum/\r.sum<=18446744073709551615
def fin (r:R):Bool:=decide (r.ck≠0\/r.e≠0)
def add (r:R) (n:Int):R:={ r with sum:=min (r.sum+n) 18446744073709551615 }
def val (r:R) (t:T):Int:=(t.bo r.ws).getD 0
def cb (r:R) (t:T):R:={ r with ck:=if (t.bo r.ws).isSome then r.ck else 2 }
theorem Ok.words {r:R} (h:r.Ok):rC r.ws:=⟨by rw[h.len]; omega,h.ws⟩
theorem Ok.add {r:R} (h:r.Ok) {n:Int} (hn:0<=n):(r.add n).Ok:=⟨h.len,h.ws,h.fuel,by have:=h.sum; simp only[R.add]; omega⟩
theorem Ok.cb {r:R} (h:r.Ok) (t:T):(r.cb t).Ok:=⟨h.len,h.ws,h.fuel,h.sum⟩
theorem Ok.val {r:R} (h:r.Ok) {t:T} (ht:t.Wf):0<=r.val t/\r.val t<=4294967295:=by
 unfold R.val
 cases hv:t.bo r.ws with
 | none=>simp
 | some v=>exact T.eL h.words ht hv
end R
def wB (ws:List Int):an:=⟨.dyn,24,1,.w,true,bh ws⟩
def rB (wt:Int) (r:R):an:=⟨.loc,95,1,.w,true,[.wref 1,.int .i64 wt,.int .i64 r.fuel,.int .u64 r.sum,.int .i64 r.ck,.int .i64 r.e]⟩
def xB (c0:C):an:=⟨.loc,30,1,.w,true,Jq c0⟩
def sR (c0:C) (wt:Int) (r:R):List an:=[xB c0,wB r.ws,rB wt r]
def qm (f:FuncId) (args:List PV) (c0:C) (wt:Int) (r:R) (res:PV) (r':R):Prop:=Spec gT f args (sR c0 wt r) [] fun x S'=>x=res/\S'=sR c0 wt r'
theorem Nm {S T:List an} {k:List an->Prop} (hl:S.all (fun b=>b.live)=true) (hr:∀ b∈S,na tR b.cs b.cs) (h:k T):EC (S++T) S k:=by
 unfold EC
 induction S with
 | nil=>exact h
 | cons b S ih =>
  rw[List.all_cons,Bool.and_eq_true] at hl
  refine⟨?_,ih hl.2 fun b hb=>hr b (by simp[hb])⟩
  obtain⟨k,ty,n,m,live,cs⟩:=b
  have O2:live=true:=hl.1
  subst O2
  have h1:∀ n:Nat,Nat.beq n n=true:=fun n=>Nat.beq_refl n
  have h2:Md.beq m m=true:=by cases m<;>rfl
  have h3:BK.beq k k=true:=by cases k<;>rfl
  unfold fT
  simp only[h1,h2,h3,Bool.and_self,cond_true]
  have:=hr ⟨k,ty,n,m,true,cs⟩ (by simp)
  cases k<;>first|exact this|exact trivial|rfl
theorem qm.go {f:FuncId} {args bf:List PV} {c0:C} {wt:Int} {r r':R} {res:PV} {T:List an} {K:PV->List an->Prop} (h:qm f bf c0 wt r res r') (hle:na qC args bf) (hu:(eu bf).all (fun l=>Nat.blt l 3)=true) (z4:res.c9.all (fun l=>Nat.blt l 3)=true)
  (hK:xN (sR c0 wt r') fun S1=>BY S1 T (K res)):Spec gT f args (sR c0 wt r++T) [] K:=by
 refine Spec.P' h rfl rfl hu z4 hle (Nm rfl (fun b hb=>?_) hK)
 simp only[sR,List.mem_cons,List.not_mem_nil,or_false] at hb
 rcases hb with rfl|rfl|rfl
 ·repeat' first|exact trivial|exact rfl|refine And.intro ?_ ?_
 ·show na tR (bh r.ws) (bh r.ws)
  induction r.ws with
  | nil=>trivial
  | cons x l ih=>exact⟨rfl,ih⟩
 ·repeat' first|exact trivial|exact rfl|refine And.intro ?_ ?_
theorem Nn (x y:Int) (hx:0<=x) (hy:0<=y):SN gT 114 [.int .u64 x,.int .u64 y,.lit .u64 0] (.tup [.int .u64 ((x+y) % 18446744073709551616),.int .u64 ((x+y) / 18446744073709551616)]):=fun I β w a_ h=>by
 match a_,h with
 | [v,u,t],h =>
  simp only[bp,PV.Is,and_true] at h
  obtain⟨rfl,rfl,rfl⟩:=h
  refine⟨.tuple #[.int .u64 ((x+y) % 18446744073709551616),.int .u64 ((x+y) / 18446744073709551616)],?_,G_ (G' (oR ..) (G' (oR ..) Tc))⟩
  rw[run_callFunc_extern (show gT.cx.P.funcs[114]?=some _ from Tryz.func114) (by kernel_rfl) (by kernel_rfl) (by kernel_rfl) (e:=add64Entry) (by kernel_rfl),run_add64 x y 0 hx hy (by omega) (by omega),Int.add_zero]
  rfl
theorem CJ {c0:C} {wt:Int} {r:R} (hr:r.Ok) (n:Int) (hn:0<=n/\n<=18446744073709551615):qm 72 [.ptr 2 0,.int .u64 n] c0 wt r (.tup []) (r.add n):=by
 refine Spec.rf (Spec.enter ao P72 100 Tryz.func72 rfl (by kernel_rfl) ?_)
 have h0:=hr.sum
 refine P_ (f:=114) ?_
 refine⟨_,Nn _ _ h0.1 hn.1,?_⟩
 refine⟨fun h=>?_,fun h=>?_⟩
 ·refine fy trivial ?_
  repeat' first|exact trivial|exact rfl|refine And.intro ?_ ?_
  exact (show (18446744073709551615:Int)=min (r.sum+n) 18446744073709551615 by omega)
 ·refine fy trivial ?_
  repeat' first|exact trivial|exact rfl|refine And.intro ?_ ?_
  exact (show (r.sum+n) % 18446744073709551616=min (r.sum+n) 18446744073709551615 by omega)
theorem fh {c0:C} {wt:Int} {r:R}:qm 75 [.ptr 2 0] c0 wt r (.bool (r.fin=true)) r:=by
 refine Spec.rf (Spec.enter ao P75 100 Tryz.func75 rfl (by kernel_rfl) ?_)
 refine⟨fun h=>?_,fun h=>?_⟩
 ·refine fy (show r.fin=true from decide_eq_true (.inl h)) (by repeat' first|exact trivial|exact rfl|exact Iff.rfl|exact Or.inl rfl|refine And.intro ?_ ?_)
 ·refine fy (show (¬ r.e=0)↔r.fin=true from ?_) (by repeat' first|exact trivial|exact rfl|exact Iff.rfl|exact Or.inl rfl|refine And.intro ?_ ?_)
  unfold R.fin
  rw[decide_eq_true_iff]
  omega
theorem lY {c0:C} {wt:Int} {r:R} (hr:r.Ok) (t:T) (ht:t.Wf):qm 74 [.ptr 2 0,jc t] c0 wt r (.int .u32 (r.val t)) (r.cb t):=by
 refine Spec.rf (Spec.enter ao P74 100 Tryz.func74 rfl (by kernel_rfl) ?_)
 refine⟨[],nofun,(fp r.ws hr.words t ht).BV [1] (by repeat' first|exact trivial|exact rfl|exact Iff.rfl|exact Or.inl rfl|refine And.intro ?_ ?_) rfl rfl ?_⟩
 unfold R.val R.cb
 generalize t.bo r.ws=o
 cases o with
 | none =>
  refine⟨fun h=>?_,fun h=>absurd (show ¬ (none:Option Int).isSome=true by simp) h⟩
  (refine fy (by repeat' first|exact trivial|exact rfl|exact Iff.rfl|refine And.intro ?_ ?_) ?_; repeat' first|exact trivial|exact rfl|exact Iff.rfl|exact Or.inl rfl|refine And.intro ?_ ?_)
 | some v =>
  refine⟨fun h=>absurd (show (some v).isSome=true from rfl) h,fun h=>?_⟩
  (refine fy (by repeat' first|exact trivial|exact rfl|exact Iff.rfl|refine And.intro ?_ ?_) ?_; repeat' first|exact trivial|exact rfl|exact Iff.rfl|exact Or.inl rfl|refine And.intro ?_ ?_)
open Go Go.RowKit
def pr (a b:Int):Int:=if b=0\/(Lib.bitLen a.toNat:Int) - Lib.bitLen b.toNat < 0 then 2 else 3+((Lib.bitLen a.toNat:Int) - Lib.bitLen b.toNat) / 4
theorem qn {x:Int} (h:x<=4294967295):Lib.bitLen x.toNat<=32:=by
 by_cases h0:x.toNat=0
 ·rw[h0]; unfold Lib.bitLen; rw[Lib.bitLenAux_zero]; omega
 ·obtain⟨h1,h2,_⟩:=Lib.bitLenAux_bounds 64 x.toNat (by omega) h0
  unfold Lib.bitLen
  rcases Nat.lt_or_ge 32 (Lib.bitLenAux 64 x.toNat) with ch|En
  ·have:=Nat.pow_le_pow_right (n:=2) (by omega) (show 32<=Lib.bitLenAux 64 x.toNat - 1 by omega)
   omega
  ·exact En
theorem Ha {a b:Int} (ha:a<=4294967295):2<=pr a b/\pr a b<=11:=by
 have:=qn ha
 unfold pr
 split<;>omega
def gK (f:R->R) (wo:Nat):Nat->Int->R->R
 | 0,_,r=>r
 | n+1,i,r=>if r.fin then r else gK f wo n (i+1) (f { r with ws:=r.ws.set wo i })
mutual
def mO (wt:Int):C->R->R
 | .mk k cy mi wo si a b l,r =>
  if r.fuel<=0 then { r with e:=70 } else
  let r:={ r with fuel:=r.fuel - 1 }
  if k=1 then r.add (cy+mi*wt)
  else if k=2 then gL wt l r
  else if k=3 then
   if (r.cb a).fin then r.cb a else if r.val a≠0 then lq wt l 0 (r.cb a) else lq wt l 1 (r.cb a)
  else if k=4 then
   if (r.cb a).fin then r.cb a else
    let r2:=(r.cb a).cb b
    let r3:=gK (fun r=>gL wt l r) wo.toNat (((r.cb a).val b) - r.val a).toNat (r.val a) r2
    { r3 with ws:=r3.ws.set wo.toNat ((r2.ws[wo.toNat]?).getD 0) }
  else if k=5 then
   if 0 < si/\¬ (a.bo r.ws).isSome=true then { r with ck:=2 }
   else if (0 < si/\r.val a < si)\/(si=0/\(a.bo r.ws).isSome=true/\r.val a≠0) then r
   else
    let r2:=gL wt l r
    if r2.fin then r2 else { r2 with ck:=if 0 < si then 1 else 2 }
  else if k=6 then
   if (r.cb a).fin then r.cb a else
    let r2:=(r.cb a).cb b
    if r2.fin then r2 else r2.add (pr (r.val a) ((r.cb a).val b) - 2)
  else r
def gL (wt:Int):List C->R->R
 | [],r=>r
 | c::l,r=>if r.fin then r else gL wt l (mO wt c r)
def lq (wt:Int):List C->Nat->R->R
 | [],_,r=>r
 | c::_,0,r=>mO wt c r
 | _::l,n+1,r=>lq wt l n r
end
theorem CK (x:Int) (hx:0<=x/\x<=4294967295):aj gT 64 [.int .u32 x] (.int .i64 (Lib.bitLen x.toNat)) :=
 aj.of_same (oe Tryz.func64 rfl (by kernel_rfl)) [.int .u32 x] (.int .i64 (Lib.bitLen x.toNat)) (fun w I β a_ h=>by
  obtain⟨v,rfl,h1⟩:=Nj h
  simp only[PV.Is] at h1; rw[h1]) (fun w I β=>oR ..) (fun w=>(Gr x w hx.1 hx.2).mono fun e w' ⟨h1,h2⟩=>⟨h1,h2.symm⟩)
theorem No (a b:Int) (ha:0<=a/\a<=4294967295) (hb:0<=b/\b<=4294967295):aj gT 29 [.int .u32 a,.int .u32 b] (.int .i64 (pr a b)):=by
 have h1:=qn ha.2
 have h2:=qn hb.2
 refine Spec.enter ao P29 100 Tryz.func29 rfl (by kernel_rfl) ?_
 refine⟨[],nofun,(CK a ha).use (by repeat' first|exact trivial|exact rfl|exact Iff.rfl|exact Or.inl rfl|refine And.intro ?_ ?_) rfl rfl ?_⟩
 refine⟨[],nofun,(CK b hb).use (by repeat' first|exact trivial|exact rfl|exact Iff.rfl|exact Or.inl rfl|refine And.intro ?_ ?_) rfl rfl ?_⟩
 refine li ?_
 refine⟨fun h=>?_,fun h=>And.intro (fun h3=>?_) (fun h3=>?_)⟩
 ·refine al ?_
  exact (show (2:Int)=pr a b by unfold pr; rw[if_pos (.inl h)])
 ·refine al ?_
  exact (show (2:Int)=pr a b by unfold pr; rw[if_pos (.inr h3)])
 ·refine⟨by decide,.inl ⟨by omega,show (Lib.bitLen a.toNat:Int) - Lib.bitLen b.toNat<=9223372036854775807 by omega,by decide,?_⟩⟩
  refine li ?_
  refine al ?_
  exact (show (3:Int)+_=pr a b by unfold pr; rw[if_neg (by omega)])
theorem CL {c0:C} {wt:Int} {r:R} (hr:r.Ok) (c:C) (ha:c.a.Wf) (hb:c.b.Wf):qm 78 [.ptr 2 0,bx c] c0 wt r (.tup []) (if (r.cb c.a).fin then r.cb c.a else if ((r.cb c.a).cb c.b).fin then (r.cb c.a).cb c.b else ((r.cb c.a).cb c.b).add (pr (r.val c.a) ((r.cb c.a).val c.b) - 2)):=by
 refine Spec.rf (Spec.enter ao P78 100 Tryz.func78 rfl (by kernel_rfl) ?_)
 refine⟨[],nofun,(lY hr c.a ha).go (by repeat' first|exact trivial|exact rfl|exact Iff.rfl|exact Or.inl rfl|refine And.intro ?_ ?_) rfl rfl ?_⟩
 refine⟨[],nofun,fh.go (by repeat' first|exact trivial|exact rfl|exact Iff.rfl|exact Or.inl rfl|refine And.intro ?_ ?_) rfl rfl ?_⟩
 refine⟨fun h=>?_,fun h=>?_⟩
 ·rw[if_pos h]
  (refine fy (by repeat' first|exact trivial|exact rfl|exact Iff.rfl|refine And.intro ?_ ?_) ?_; repeat' first|exact trivial|exact rfl|exact Iff.rfl|exact Or.inl rfl|refine And.intro ?_ ?_)
 rw[if_neg h]
 refine⟨[],nofun,(lY (hr.cb c.a) c.b hb).go (by repeat' first|exact trivial|exact rfl|exact Iff.rfl|exact Or.inl rfl|refine And.intro ?_ ?_) rfl rfl ?_⟩
 refine⟨[],nofun,fh.go (by repeat' first|exact trivial|exact rfl|exact Iff.rfl|exact Or.inl rfl|refine And.intro ?_ ?_) rfl rfl ?_⟩
 refine⟨fun h=>?_,fun h=>?_⟩
 ·rw[if_neg h]
  have h1:=hr.val ha
  have h2:=(hr.cb c.a).val hb
  have hd:=Ha (b:=(r.cb c.a).val c.b) h1.2
  refine⟨[],nofun,(No _ _ h1 h2).use (by repeat' first|exact trivial|exact rfl|exact Iff.rfl|exact Or.inl rfl|refine And.intro ?_ ?_) rfl rfl ?_⟩
  refine li ?_
  refine .inl ⟨cL (by omega),?_⟩
  refine⟨[],nofun,(CJ ((hr.cb c.a).cb c.b) (pr (r.val c.a) ((r.cb c.a).val c.b) - 2) (by omega)).go (by repeat' first|exact trivial|exact rfl|exact Iff.rfl|exact Or.inl rfl|refine And.intro ?_ ?_) rfl rfl ?_⟩
  (refine fy (by repeat' first|exact trivial|exact rfl|exact Iff.rfl|refine And.intro ?_ ?_) ?_; repeat' first|exact trivial|exact rfl|exact Iff.rfl|exact Or.inl rfl|refine And.intro ?_ ?_)
 ·rw[if_pos (Classical.not_not.1 h)]
  (refine fy (by repeat' first|exact trivial|exact rfl|exact Iff.rfl|refine And.intro ?_ ?_) ?_; repeat' first|exact trivial|exact rfl|exact Iff.rfl|exact Or.inl rfl|refine And.intro ?_ ?_)
theorem Np {c0:C} {wt:Int} (l:List C) (lJ:∀ c∈l,∀ r:R,r.Ok->qm 43 [.ptr 2 0,bx c] c0 wt r (.tup []) (mO wt c r)/\(mO wt c r).Ok) (r:R) (hr:r.Ok) :
  qm 73 [.ptr 2 0,.sl 12 (l.map bx)] c0 wt r (.tup []) (gL wt l r):=by
 refine Spec.rf (Spec.enter ao P73 100 Tryz.func73 rfl (by kernel_rfl) ?_)
 intro hm
 rw[List.length_map] at hm
 obtain⟨r1,kM⟩:∃ r1,r1=gL wt l r:=⟨_,rfl⟩
 rw[← kM]
 refine SW.SK ao P73 (by kernel_rfl) (α:={p:Nat × R // p.2.Ok/\gL wt (l.drop p.1) p.2=r1/\p.1<=l.length}) (fun x=>[(8,.int .i64 x.1.1)]) (fun x=>sR c0 wt x.1.2) (fun x=>l.length - x.1.1) ⟨(0,r),hr,kM.symm,Nat.zero_le _⟩ 60 [some 0,some 1,some 2] ?_ ?_
 ·repeat' first|exact trivial|exact rfl|refine And.intro ?_ ?_
 rintro⟨⟨i,q⟩,hq,cA,hi⟩
 dsimp only at hq cA hi
 have cons:∀ {x:C},l[i]?=some x->r1=if q.fin then q else gL wt (l.drop (i+1)) (mO wt x q):=fun {x} hx=>by
  obtain⟨ch,hx⟩:=List.getElem?_eq_some_iff.1 hx
  rw[← cA,List.drop_eq_getElem_cons ch,hx,gL]
 refine⟨fun h=>?_,fun h=>?_⟩
 ·have ch:i < l.length:=by
   have h':(i:Int) < ((l.map bx).length:Nat):=h
   rw[List.length_map] at h'; omega
  refine⟨C,l,bx,rfl,show (0:Int)<=(i:Int) by omega,show (i:Int) < (l.length:Int) by omega,fun x hx=>?_⟩
  have dE:l[i]?=some x:=hx
  refine⟨[],nofun,fh.go (by repeat' first|exact trivial|exact rfl|exact Iff.rfl|exact Or.inl rfl|refine And.intro ?_ ?_) rfl rfl ?_⟩
  refine⟨fun hf=>?_,fun hf=>?_⟩
  ·have e:=cons dE
   rw[if_pos hf] at e
   subst e
   (refine fy (by repeat' first|exact trivial|exact rfl|exact Iff.rfl|refine And.intro ?_ ?_) ?_; repeat' first|exact trivial|exact rfl|exact Iff.rfl|exact Or.inl rfl|refine And.intro ?_ ?_)
  ·obtain⟨h1,h2⟩:=lJ x (List.mem_of_getElem? dE) q hq
   refine⟨[],nofun,h1.go (by repeat' first|exact trivial|exact rfl|exact Iff.rfl|exact Or.inl rfl|refine And.intro ?_ ?_) rfl rfl ?_⟩
   unfold maxLen at hm
   refine .inl ⟨aG (show _<=(i:Int)+1/\(i:Int)+1<=_ by omega),⟨(i+1,mO wt x q),h2,by rw[cons dE,if_neg hf],ch⟩,[some 0,some 1,some 2],show l.length - (i+1) < l.length - i by omega,?_⟩
   repeat' first|exact trivial|exact rfl|refine And.intro ?_ ?_
 ·have En:l.length<=i:=by
   have h':¬ (i:Int) < ((l.map bx).length:Nat):=h
   rw[List.length_map] at h'; omega
  have e:r1=q:=by rw[← cA,List.drop_of_length_le En,gL]
  subst e
  (refine fy (by repeat' first|exact trivial|exact rfl|exact Iff.rfl|refine And.intro ?_ ?_) ?_; repeat' first|exact trivial|exact rfl|exact Iff.rfl|exact Or.inl rfl|refine And.intro ?_ ?_)
end Go.Proofs.YtnbhdacpogplgaaGreatDoor.Pw

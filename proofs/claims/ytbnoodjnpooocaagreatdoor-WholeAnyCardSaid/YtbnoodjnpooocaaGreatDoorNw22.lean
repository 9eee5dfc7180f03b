/- What this claim is proved with: no condition. -/
import Derived.Test.YtbnoodjnpooocaaGreatDoorNw16
import Derived.Test.YtbnoodjnpooocaaGreatDoorNw17
import Derived.Test.YtbnoodjnpooocaaGreatDoorNw20
import Derived.Test.YtbnoodjnpooocaaGreatDoorNw21
import Derived.Test.YtbnoodjnpooocaaGreatDoorNw7
import Derived.Test.YtbnoodjnpooocaaGreatDoorRows
import Derived.ProofKit
import Derived.LaidMore
import Derived.OpenShut
import Derived.Stop.Joined
import Derived.Lib.LaidTab
import Derived.Test.YtbnoodjnpooocaaGreatDoorNw10
import Derived.Test.YtbnoodjnpooocaaGreatDoorNwAluB
import Derived.Test.YtbnoodjnpooocaaGreatDoorNwImmB
import Derived.Test.YtbnoodjnpooocaaGreatDoorNwPop32
set_option maxRecDepth 100000
set_option maxHeartbeats 8000000
set_option linter.unusedVariables false
set_option linter.unusedSimpArgs false
namespace Go.Proofs.YtbnoodjnpooocaaGreatDoor.Pw
open Go Go.RowKit
theorem jI {f:Int} (h:1<=f/\f<=100):17<=ab f↔48<=f:=by
 have h1:((List.range 100).all fun k=>decide (17<=ab ((k+1:Nat):Int)↔48<=k+1))=true:=by decide +kernel
 have h2:=of_decide_eq_true (List.all_eq_true.1 h1 (f.toNat - 1) (List.mem_range.2 (by omega)))
 rw[show (((f.toNat - 1+1:Nat)):Int)=f by omega] at h2
 omega
theorem Ej {s:Int} (h:1<=s/\s<=16):s=1\/s=2\/s=3\/s=4\/s=5\/s=6\/s=7\/s=8\/s=9\/s=10\/s=11\/s=12\/s=13\/s=14\/s=15\/s=16:=by omega
theorem Ek {s:Int} (h:17<=s/\s<=34):s=17\/s=18\/s=19\/s=20\/s=21\/s=22\/s=23\/s=24\/s=25\/s=26\/s=27\/s=28\/s=29\/s=30\/s=31\/s=32\/s=33\/s=34:=by omega
theorem yr (f w:Int) (hF:1<=f/\f<=100) (hn:¬ 48<=f) (hw:bQ w):al gT 116 [.int .i64 f,.int .u32 w] (dE (aX f w)):=by
 have YR:=jI hF
 have hb:=mw hF
 rcases Ej (s:=ab f) (by omega) with hs|hs|hs|hs|hs|hs|hs|hs|hs|hs|hs|hs|hs|hs|hs|hs
 ·rw[rd_1 hs]; exact Cr f w hF hs hw
 ·rw[rd_2 hs]; exact Cs f w hF hs hw
 ·rw[rd_3 hs]; exact Ct f w hF hs hw
 ·rw[rd_4 hs]; exact Cu f w hF hs hw
 ·rw[rd_5 hs]; exact Cv f w hF hs hw
 ·rw[rd_6 hs]; exact Cw f w hF hs hw
 ·rw[rd_7 hs]; exact Cy f w hF hs hw
 ·rw[rd_8 hs]; exact Cz f w hF hs hw
 ·rw[rd_9 hs]; exact CA f w hF hs hw
 ·rw[rd_10 hs]; exact AG f w hF hs hw
 ·rw[rd_11 hs]; exact AH f w hF hs hw
 ·rw[rd_12 hs]; exact AI f w hF hs hw
 ·rw[rd_13 hs]; exact AJ f w hF hs hw
 ·rw[rd_14 hs]; exact AK f w hF hs hw
 ·rw[rd_15 hs]; exact AL f w hF hs hw
 ·rw[rd_16 hs]; exact AM f w hF hs hw
 
theorem CB (f w:Int) (hF:1<=f/\f<=100) (hn:48<=f) (hw:bQ w):al gT 117 [.int .i64 f,.int .u32 w] (dE (aX f w)):=by
 have YR:=jI hF
 have hb:=mw hF
 rcases Ek (s:=ab f) (by omega) with hs|hs|hs|hs|hs|hs|hs|hs|hs|hs|hs|hs|hs|hs|hs|hs|hs|hs
 ·rw[rd_17 hs]; exact F2 f w hF hs hw
 ·rw[rd_18 hs]; exact F3 f w hF hs hw
 ·rw[rd_19 hs]; exact F4 f w hF hs hw
 ·rw[rd_20 hs]; exact F5 f w hF hs hw
 ·rw[rd_21 hs]; exact F7 f w hF hs hw
 ·rw[rd_22 hs]; exact F9 f w hF hs hw
 ·rw[rd_23 hs]; exact F_ f w hF hs hw
 ·rw[rd_24 hs]; exact Ga f w hF hs hw
 ·rw[rd_25 hs]; exact Gb f w hF hs hw
 ·rw[rd_26 hs]; exact Gc f w hF hs hw
 ·rw[rd_27 hs]; exact Gd f w hF hs hw
 ·rw[rd_28 hs]; exact Ge f w hF hs hw
 ·rw[rd_29 hs]; exact Gf f w hF hs hw
 ·rw[rd_30 hs]; exact Gg f w hF hs hw
 ·rw[rd_31 hs]; exact Gh f w hF hs hw
 ·rw[rd_32 hs]; exact Gi f w hF hs hw
 ·rw[rd_33 hs]; exact Gj f w hF hs hw
 ·rw[rd_34 hs]; exact Gk f w hF hs hw
 
def YS (i:IN):Int:=((eQ (eh i) (ax (ab i.form)):Nat):Int)
theorem CE (i:IN) (hr:bV i) (hn:¬ 48<=i.form) (hg:i.aq<=9223372036854775807):al gT 211 [dE i] (.int .u32 (YS i)):=by
 have YR:=jI hr.1
 have hb:=mw hr.1
 unfold YS
 unfold bV at hr
 rw[aH (by omega)]
 rcases Ej (s:=ab i.form) (by omega) with hs|hs|hs|hs|hs|hs|hs|hs|hs|hs|hs|hs|hs|hs|hs|hs
 ·rw[hs] at hr ⊢; exact KH i hs hr hg
 ·rw[hs] at hr ⊢; exact KI i hs hr hg
 ·rw[hs] at hr ⊢; exact KJ i hs hr hg
 ·rw[hs] at hr ⊢; exact KK i hs hr hg
 ·rw[hs] at hr ⊢; exact KL i hs hr hg
 ·rw[hs] at hr ⊢; exact KM i hs hr hg
 ·rw[hs] at hr ⊢; exact KN i hs hr hg
 ·rw[hs] at hr ⊢; exact KO i hs hr hg
 ·rw[hs] at hr ⊢; exact KP i hs hr hg
 ·rw[hs] at hr ⊢; exact FV i hs hr hg
 ·rw[hs] at hr ⊢; exact FW i hs hr hg
 ·rw[hs] at hr ⊢; exact FX i hs hr hg
 ·rw[hs] at hr ⊢; exact FY i hs hr hg
 ·rw[hs] at hr ⊢; exact FZ i hs hr hg
 ·rw[hs] at hr ⊢; exact F0 i hs hr hg
 ·rw[hs] at hr ⊢; exact F1 i hs hr hg
 
theorem KV (i:IN) (hr:bV i) (hn:48<=i.form) (hg:i.aq<=9223372036854775807):al gT 210 [dE i] (.int .u32 (YS i)):=by
 have YR:=jI hr.1
 have hb:=mw hr.1
 unfold YS
 unfold bV at hr
 rcases Ek (s:=ab i.form) (by omega) with hs|hs|hs|hs|hs|hs|hs|hs|hs|hs|hs|hs|hs|hs|hs|hs|hs|hs
 ·rw[aH (by omega)]; rw[hs] at hr ⊢; exact OI i hs hr hg
 ·rw[aH (by omega)]; rw[hs] at hr ⊢; exact OJ i hs hr hg
 ·rw[aH (by omega)]; rw[hs] at hr ⊢; exact OK i hs hr hg
 ·rw[aH (by omega)]; rw[hs] at hr ⊢; exact OL i hs hr hg
 ·rw[aH (by omega)]; rw[hs] at hr ⊢; exact OM i hs hr hg
 ·rw[aH (by omega)]; rw[hs] at hr ⊢; exact ON i hs hr hg
 ·rw[aH (by omega)]; rw[hs] at hr ⊢; exact OO i hs hr hg
 ·rw[aH (by omega)]; rw[hs] at hr ⊢; exact OP i hs hr hg
 ·rw[aH (by omega)]; rw[hs] at hr ⊢; exact OQ i hs hr hg
 ·rw[aH (by omega)]; rw[hs] at hr ⊢; exact OR i hs hr hg
 ·rw[aH (by omega)]; rw[hs] at hr ⊢; exact OS i hs hr hg
 ·rw[aH (by omega)]; rw[hs] at hr ⊢; exact OT i hs hr hg
 ·rw[aH (by omega)]; rw[hs] at hr ⊢; exact OU i hs hr hg
 ·rw[aH (by omega)]; rw[hs] at hr ⊢; exact OV i hs hr hg
 ·rw[aH (by omega)]; rw[hs] at hr ⊢; exact OW i hs hr hg
 ·rw[aH (by omega)]; rw[hs] at hr ⊢; exact OX i hs hr hg
 ·rw[aH (by omega)]; rw[hs] at hr ⊢; exact OY i hs hr hg
 ·rw[hs] at hr ⊢; exact OZ i hs hr hg
theorem CF (i:IN):eQ (eh i) (ax (ab i.form)) < 4294967296:=by
 have h:=Ka (eh i) (ax (ab i.form)) (FH _)
 rw[AE] at h
 exact Nat.lt_of_le_of_lt Nat.right_le_or h
theorem El (i:IN):bits .or .u32 (om i.form) (YS i)=bx i:=by
 have b:=D6 i.form
 have l:=CF i
 rw[pO]
 unfold YS
 rw[u32_or _ _ b.1 b.2 (by omega) (by omega),Int.toNat_natCast]
theorem wm (i:IN) (hr:bV i) (hg:i.aq<=9223372036854775807):al gT 118 [dE i] (.int .u32 (bx i)):=by
 refine Spec.enter aA aab 100 Tryz.func118 rfl (by kernel_rfl) ?_
 refine (qC i.form).u ?_
 refine⟨fun h=>?_,fun h=>?_⟩
 ·refine (iy i.form).u ?_
  refine (KV i hr h.1 hg).u ?_
  refine aF ?_
  exact El i
 ·refine (iy i.form).u ?_
  refine (CE i hr (fun e=>h ⟨e,hr.1.2⟩) hg).u ?_
  refine aF ?_
  exact El i
theorem KW:∀ k:Fin 35,(ax ((k.1:Nat):Int)).all (fun x=>decide (x.2.1+x.2.2.2<=25))=true:=by decide
theorem AN (s:Int):∀ x∈ax s,x.2.1+x.2.2.2<=25:=by
 have h:(ax s).all (fun x=>decide (x.2.1+x.2.2.2<=25))=true:=by
  by_cases h:s < 1\/34 < s
  ·rw[jW s h]; rfl
  ·have h1:=KW ⟨s.toNat,by omega⟩
   rwa [show (((⟨s.toNat,by omega⟩:Fin 35).1:Nat):Int)=s by simp only[]; omega] at h1
 exact fun x hx=>of_decide_eq_true (List.all_eq_true.1 h x hx)
theorem O7 (w:Int) (a n l:Nat) (h:l+n<=25):0<=aa w a n*2 ^ l/\aa w a n*2 ^ l<=33554432:=by
 have b:=ae w a n
 have p1:=cQ l
 have p2:=cQ n
 have q1:=Nat.two_pow_pos l
 have e:((aa w a n).toNat:Int)=aa w a n:=Int.toNat_of_nonneg b.1
 have h1:(aa w a n).toNat < 2 ^ n:=by omega
 have h2:(aa w a n).toNat*2 ^ l<=2 ^ n*2 ^ l:=Nat.mul_le_mul_right _ (Nat.le_of_lt h1)
 have h3:2 ^ n*2 ^ l<=2 ^ 25:=by rw[← Nat.pow_add]; exact Nat.pow_le_pow_right (by omega) (by omega)
 have e2:aa w a n*2 ^ l=(((aa w a n).toNat*2 ^ l:Nat):Int):=by rw[Int.natCast_mul,e,p1]
 rw[e2]
 have h4:(2:Nat) ^ 25=33554432:=by decide
 omega
theorem KX (w:Int):∀ (l:List (Nat × Nat × Nat × Nat)) (a:Int),(∀ x∈l,x.2.1+x.2.2.2<=25)->a<=l.foldl (fun a x=>a+aa w x.2.2.1 x.2.2.2*2 ^ x.2.1) a/\l.foldl (fun a x=>a+aa w x.2.2.1 x.2.2.2*2 ^ x.2.1) a<=a+l.length*33554432
 | [],a,_=>by simp
 | x::l,a,h=>by
  have ih:=KX w l (a+aa w x.2.2.1 x.2.2.2*2 ^ x.2.1) fun y hy=>h y (List.mem_cons_of_mem _ hy)
  have t:=O7 w x.2.2.1 x.2.2.2 x.2.1 (h x (List.mem_cons_self ..))
  rw[List.foldl_cons,List.length_cons]
  omega
theorem xV_bd (s w:Int) (f:Nat):0<=xV s w f/\xV s w f<=234881024:=by
 have h:=KX w ((ax s).filter fun x=>decide (x.1=f)) 0 fun x hx=>AN s x (List.mem_filter.1 hx).1
 have l1:((ax s).filter fun x=>decide (x.1=f)).length<=7:=Nat.le_trans (List.length_filter_le ..) (Cl s)
 unfold xV
 omega
theorem pP (x:Int) (w:Nat) (hw:w<=25):x - 33554432<=dw x w/\dw x w<=x:=by
 have p:(2:Int) ^ w<=33554432/\0 < (2:Int) ^ w:=by
  have h1:(2 ^ w:Nat)<=2 ^ 25:=Nat.pow_le_pow_right (by omega) hw
  have h3:=cQ w
  have:=Nat.two_pow_pos w
  have h4:(2:Nat) ^ 25=33554432:=by decide
  omega
 unfold dw; split<;>omega
theorem O8 (s f x:Int) (hx:0<=x/\x<=234881024):-1099511627776<=rT s f x/\rT s f x<=1099511627776:=by
 have a:=pP x 9 (by decide)
 have b:=pP x 12 (by decide)
 have c:=pP x 21 (by decide)
 have t:=J' x 2 (by decide)
 have d:=pP (bL x 2) 25 (by decide)
 unfold rT
 (repeat' split)<;>omega
theorem O9 (f w:Int):∀ k,k < 10->-1099511627776<=lr (aX f w) k/\lr (aX f w) k<=1099511627776:=by
 intro k hk
 have x:=fun n=>xV_bd (ab f) w n
 match k,hk with
 | 0,_=>have:=x 0; exact⟨by show _<=xV (ab f) w 0; omega,by show xV (ab f) w 0<=_; omega⟩
 | 1,_=>have:=x 1; exact⟨by show _<=xV (ab f) w 1; omega,by show xV (ab f) w 1<=_; omega⟩
 | 2,_ =>
  have:=x 2
  have b:=ae w 0 4
  have e:-1099511627776<=rmA (ab f) w (xV (ab f) w 2)/\rmA (ab f) w (xV (ab f) w 2)<=1099511627776:=by unfold rmA; split<;>omega
  exact e
 | 3,_=>have:=x 3; exact⟨by show _<=xV (ab f) w 3; omega,by show xV (ab f) w 3<=_; omega⟩
 | 4,_=>exact O8 (ab f) f (xV (ab f) w 4) (x 4)
 | 5,_=>have:=x 5; exact⟨by show _<=xV (ab f) w 5; omega,by show xV (ab f) w 5<=_; omega⟩
 | 6,_ =>
  have:=x 6
  have e:-1099511627776<=Q7 (ab f) (xV (ab f) w 5) (xV (ab f) w 6)/\Q7 (ab f) (xV (ab f) w 5) (xV (ab f) w 6)<=1099511627776:=by unfold Q7; split<;>omega
  exact e
 | 7,_=>have:=x 7; exact⟨by show _<=xV (ab f) w 7; omega,by show xV (ab f) w 7<=_; omega⟩
 | 8,_=>have:=x 8; exact⟨by show _<=xV (ab f) w 8; omega,by show xV (ab f) w 8<=_; omega⟩
 | 9,_=>have:=x 9; exact⟨by show _<=xV (ab f) w 9; omega,by show xV (ab f) w 9<=_; omega⟩
def ur (w f:Int):Prop:=bV (aX f w)/\bx (aX f w)=w
theorem KY {w f:Int} (h:ur w f):bits .and .u32 w (om f)=om f:=by
 have b:=D6 f
 have e:=h.2
 rw[pO] at e
 have l:(om (aX f w).form).toNat=(om f).toNat:=rfl
 rw[l] at e
 have lt:=lx (show (om f).toNat < 4294967296 by omega) (CF (aX f w))
 obtain⟨a,ha⟩:∃ a,a=(om f).toNat:=⟨_,rfl⟩
 obtain⟨o,ho⟩:∃ o,o=eQ (eh (aX f w)) (ax (ab (aX f w).form)):=⟨_,rfl⟩
 rw[← ha,← ho] at e lt
 have ea:om f=(a:Int):=by omega
 rw[ea,← e,u32_and _ _ (by omega) (by omega) (by omega) (by omega),Int.toNat_natCast,Int.toNat_natCast]
 congr 1
 apply Nat.eq_of_testBit_eq
 intro p
 rw[Nat.testBit_and,Nat.testBit_or]
 cases a.testBit p<;>simp
def fx (wide:Prop) (f:Int):Prop:=(wide/\48<=f/\f<=100)\/(¬ wide/\1<=f/\f<=47)
def j8 (w:Int) (wide:Prop) (f:Int):Prop:=fx wide f/\ur w f/\∀ g,fx wide g->g < f->¬ ur w g
theorem Gn {w:Int} {wide:Prop} {f g:Int} (hf:j8 w wide f) (hg:j8 w wide g):f=g:=by
 by_cases h:f < g
 ·exact absurd hf.2.1 (hg.2.2 f hf.1 h)
 by_cases h2:g < f
 ·exact absurd hg.2.1 (hf.2.2 g hg.1 h2)
 omega
noncomputable def Gp (w:Int) (wide:Prop):IN:=open Classical in if h:∃ f,j8 w wide f then aX h.choose w else iZ
noncomputable def KZ (w:Int) (wide:Prop):Int:=open Classical in if ∃ f,j8 w wide f then 0 else 40
theorem qH {w:Int} {wide:Prop} {f:Int} (h:j8 w wide f):Gp w wide=aX f w:=by
 have e:∃ f,j8 w wide f:=⟨f,h⟩
 unfold Gp
 rw[dif_pos e,Gn e.choose_spec h]
theorem uu {w:Int} {wide:Prop} {f:Int} (h:j8 w wide f):KZ w wide=0:=if_pos ⟨f,h⟩
theorem XL {w:Int} {wide:Prop} (h:∀ f,fx wide f->¬ ur w f):Gp w wide=iZ:=dif_neg fun ⟨f,hf⟩=>h f hf.1 hf.2.1
theorem XM {w:Int} {wide:Prop} (h:∀ f,fx wide f->¬ ur w f):KZ w wide=40:=if_neg fun ⟨f,hf⟩=>h f hf.1 hf.2.1
theorem Em (i:IN) (h:bV i) (hg:i.aq<=9223372036854775807):j8 (bx i) (48<=i.form) i.form:=by
 have hb:=back i h hg
 have YJ:ur (bx i) i.form:=by unfold ur; rw[hb]; exact⟨h,rfl⟩
 have f1:=h.1
 refine⟨by unfold fx; omega,YJ,fun g hgf bZ hh=>?_⟩
 have e:=FM (a:=aX g (bx i)) (b:=i) hh.1 h (by show 48<=g↔48<=i.form; unfold fx at hgf; omega) hh.2
 have:g=i.form:=e
 omega
theorem En {f w:Int} (hf:D5 f):Rb (aX f w):=by
 intro x hx
 have b:=O9 f w
 simp only[uo,List.mem_cons,List.not_mem_nil,or_false] at hx
 have key:∀ k,k < 10->D5 (lr (aX f w) k):=fun k hk=>by have:=b k hk; unfold D5; omega
 rcases hx with rfl|rfl|rfl|rfl|rfl|rfl|rfl|rfl|rfl|rfl|rfl
 ·exact hf
 ·exact key 0 (by decide)
 ·exact key 1 (by decide)
 ·exact key 2 (by decide)
 ·exact key 3 (by decide)
 ·exact key 4 (by decide)
 ·exact key 5 (by decide)
 ·exact key 6 (by decide)
 ·exact key 7 (by decide)
 ·exact key 8 (by decide)
 ·exact key 9 (by decide)
theorem yt (w:Int) (wide:Prop) (hw:bQ w):al gT 65 [.int .u32 w,.bool wide] (.tup [dE (Gp w wide),.int .i64 (KZ w wide)]):=by
 refine Spec.enter aA P65 100 Tryz.func65 rfl (by kernel_rfl) ?_
 refine SW.ZJ aA P65 (by kernel_rfl) (α:={k:Nat // k<=100/\∀ g:Int,fx wide g->g < k+1->¬ ur w g}) (fun k=>[(6,.int .i64 (k.1+1:Nat))]) (fun k=>100 - k.1) ⟨0,by omega,fun g hg bZ=>by unfold fx at hg; omega⟩ 100 ?_ ?_
 ·repeat' first|exact Iff.rfl|exact trivial|exact rfl|refine And.intro ?_ ?_
 rintro⟨k,hk,Di⟩
 refine⟨fun h=>?_,fun h=>?_⟩
 ·have Eo:((k+1:Nat):Int)<=100:=h
  have hF:1<=((k+1:Nat):Int)/\((k+1:Nat):Int)<=100:=⟨by omega,Eo⟩
  have hf:D5 ((k+1:Nat):Int):=by unfold D5; omega
  have next:¬ (fx wide ((k+1:Nat):Int)/\ur w ((k+1:Nat):Int))->∀ g:Int,fx wide g->g < ((k+1:Nat):Int)+1->¬ ur w g:=fun hn g hg bZ hh=>by
   by_cases e:g=((k+1:Nat):Int)
   ·subst e; exact hn ⟨hg,hh⟩
   ·exact Di g hg (by omega) hh
  refine (qC ((k+1:Nat):Int)).u ?_
  refine⟨fun cN=>?_,fun heq=>?_⟩
  ·refine .inl ⟨bf (show _<=((k+1:Nat):Int)+1/\((k+1:Nat):Int)+1<=_ by omega),⟨⟨k+1,by omega,next fun hh=>cN ?_⟩,show 100 - (k+1) < 100 - k by omega,?_⟩⟩
   ·unfold fx at hh; exact⟨fun h2=>hh.1.elim (fun e=>e.1) (fun e=>absurd h2.1 (by omega)),fun h2=>hh.1.elim (fun e=>e.2) (fun e=>absurd h2 e.1)⟩
   repeat' first|exact Iff.rfl|exact trivial|exact rfl|refine And.intro ?_ ?_
  have heq:=Classical.not_not.1 heq
  refine (iy ((k+1:Nat):Int)).u ?_
  refine (iy ((k+1:Nat):Int)).u ?_
  refine⟨fun hm=>?_,fun hm=>?_⟩
  ·refine .inl ⟨bf (show _<=((k+1:Nat):Int)+1/\((k+1:Nat):Int)+1<=_ by omega),⟨⟨k+1,by omega,next fun hh=>hm (KY hh.2)⟩,show 100 - (k+1) < 100 - k by omega,?_⟩⟩
   repeat' first|exact Iff.rfl|exact trivial|exact rfl|refine And.intro ?_ ?_
  have Df:fx wide ((k+1:Nat):Int):=by
   unfold fx
   by_cases hW:wide
   ·exact .inl ⟨hW,heq.2 hW⟩
   ·refine .inr ⟨hW,by omega,?_⟩
    by_cases Bi:48<=((k+1:Nat):Int)
    ·exact absurd (heq.1 ⟨Bi,Eo⟩) hW
    ·omega
  have hI:=En (w:=w) hf
  have hR:=uc (aX ((k+1:Nat):Int) w) (hI (aX ((k+1:Nat):Int) w).au (by simp[uo]))
  by_cases hW:wide
  ·have Bi:=(heq.2 hW).1
   refine (vc ((k+1:Nat):Int) w ((jI hF).2 Bi) hw).u ?_
   refine⟨fun _=>?_,fun hn=>absurd hW hn⟩
   refine (CB ((k+1:Nat):Int) w hF Bi hw).u ?_
   refine hR.u ?_
   refine⟨fun hr=>?_,fun hr=>?_⟩
   ·refine (wm (aX ((k+1:Nat):Int) w) hr (hI (aX ((k+1:Nat):Int) w).aq (by simp[uo])).2).u ?_
    refine⟨fun hp=>?_,fun hp=>?_⟩
    ·have K0:j8 w wide ((k+1:Nat):Int):=⟨Df,⟨hr,hp⟩,fun g hg bZ=>Di g hg (by omega)⟩
     rw[qH K0,uu K0]
     exact rA
    ·refine .inl ⟨bf (show _<=((k+1:Nat):Int)+1/\((k+1:Nat):Int)+1<=_ by omega),⟨⟨k+1,by omega,next fun hh=>hp hh.2.2⟩,show 100 - (k+1) < 100 - k by omega,?_⟩⟩
     repeat' first|exact Iff.rfl|exact trivial|exact rfl|refine And.intro ?_ ?_
   ·refine .inl ⟨bf (show _<=((k+1:Nat):Int)+1/\((k+1:Nat):Int)+1<=_ by omega),⟨⟨k+1,by omega,next fun hh=>hr hh.2.1⟩,show 100 - (k+1) < 100 - k by omega,?_⟩⟩
    repeat' first|exact Iff.rfl|exact trivial|exact rfl|refine And.intro ?_ ?_
  ·have Bi:¬ 48<=((k+1:Nat):Int):=fun e=>hW (heq.1 ⟨e,Eo⟩)
   refine (yr ((k+1:Nat):Int) w hF Bi hw).u ?_
   refine⟨fun h=>absurd h hW,fun _=>?_⟩
   refine hR.u ?_
   refine⟨fun hr=>?_,fun hr=>?_⟩
   ·refine (wm (aX ((k+1:Nat):Int) w) hr (hI (aX ((k+1:Nat):Int) w).aq (by simp[uo])).2).u ?_
    refine⟨fun hp=>?_,fun hp=>?_⟩
    ·have K0:j8 w wide ((k+1:Nat):Int):=⟨Df,⟨hr,hp⟩,fun g hg bZ=>Di g hg (by omega)⟩
     rw[qH K0,uu K0]
     exact rA
    ·refine .inl ⟨bf (show _<=((k+1:Nat):Int)+1/\((k+1:Nat):Int)+1<=_ by omega),⟨⟨k+1,by omega,next fun hh=>hp hh.2.2⟩,show 100 - (k+1) < 100 - k by omega,?_⟩⟩
     repeat' first|exact Iff.rfl|exact trivial|exact rfl|refine And.intro ?_ ?_
   ·refine .inl ⟨bf (show _<=((k+1:Nat):Int)+1/\((k+1:Nat):Int)+1<=_ by omega),⟨⟨k+1,by omega,next fun hh=>hr hh.2.1⟩,show 100 - (k+1) < 100 - k by omega,?_⟩⟩
    repeat' first|exact Iff.rfl|exact trivial|exact rfl|refine And.intro ?_ ?_
 ·have Eo:¬ ((k+1:Nat):Int)<=100:=h
  have eC:∀ f,fx wide f->¬ ur w f:=fun f hf=>Di f hf (by unfold fx at hf; omega)
  rw[XL eC,XM eC]
  exact rA
def en (h:Int):Prop:=29<=h % 65536 / 2048
theorem AO (h:Int) (hh:bQ h):al gT 64 [.int .u32 h] (.bool (en h)):=by
 have e:bits .and .u32 h 65535=h % 65536:=Aq h 16 hh.1 hh.2 (by decide)
 refine Spec.enter aA P64 100 Tryz.func64 rfl (by kernel_rfl) ?_
 refine⟨by decide,?_⟩
 refine aF ?_
 show 29<=bits .and .u32 h 65535 / Ev.aQ .u32 11↔en h
 rw[e,r11]; exact Iff.rfl
def iY (f:Int):Int:=if 48<=f/\f<=100 then 4 else if 1<=f/\f<=47 then 2 else 0
theorem Gq (f:Int):al gT 66 [.int .i64 f] (.int .i64 (iY f)):=by
 refine Spec.enter aA P66 100 Tryz.func66 rfl (by kernel_rfl) ?_
 refine (pJ f).u ?_
 refine⟨fun h=>?_,fun h=>?_⟩
 ·exact aF (show (0:Int)=iY f by unfold iY; rw[if_neg (by omega),if_neg (by omega)])
 refine (qC f).u ?_
 refine⟨fun h2=>?_,fun h2=>?_⟩
 ·exact aF (show (4:Int)=iY f by unfold iY; rw[if_pos h2])
 ·exact aF (show (2:Int)=iY f by unfold iY; rw[if_neg h2,if_pos (by omega)])
theorem mA (i:IN):al gT 32 [dE i] (.int .i64 (iY i.form)):=by
 refine Spec.enter aA P32 100 Tryz.func32 rfl (by kernel_rfl) ?_
 refine (Gq i.form).u ?_
 exact aF rfl
theorem Op.argS {P:Program} {t:TypeId} {S:PV->Prop} (h:Op P t S) (hS:∀ y,S y->∃ xs,y = .agg xs) {H:Type} {ec:TypeId × Value->H} {w:World} {base:Nat} {held:Bool} {vs:Array Value} {d:DataW H} {p:List MemPlace} (ht:DataW.Trod ec P w base (fun _=>true) held t (.agg vs) d p) (yV:∀ n∈d.weights P t,n<=reachBytes) :
  ∃ y,S y/\y.Is w (In w) no (.agg vs):=by
 obtain⟨fuel,ht⟩:=ht
 obtain⟨y,hy,_,hi,_⟩:=h ec w base held fuel _ _ ht yV
 refine⟨y,hy,?_⟩
 obtain⟨xs,rfl⟩:=hS y hy
 simp only[PV.Is]
 exact⟨vs,rfl,hi⟩
end Go.Proofs.YtbnoodjnpooocaaGreatDoor.Pw
namespace Go.Proofs.YtbnoodjnpooocaaGreatDoor.K1
open Go.ChangeShapes Go.WideShapes Go.ChangeAt Go.RowKit Go.Deep
end Go.Proofs.YtbnoodjnpooocaaGreatDoor.K1
namespace Go.Proofs.YtbnoodjnpooocaaGreatDoor.Pw
open Go Go.RowKit
theorem mB {z:Int} (h:uP .u32 z):0<=z/\z<=4294967295:=by unfold uP Ev.lG Ev.kP at h; simp only[IntKind.signed,IntKind.bits] at h; simpa using h
theorem O' {z:Int} (h:uP .u8 z):0<=z/\z<=255:=by unfold uP Ev.lG Ev.kP at h; simp only[IntKind.signed,IntKind.bits] at h; simpa using h
theorem uv:Op Tryz.prog 23 (SInt .u32):=IX Tryz.underlying23 (by kernel_rfl)
theorem K2:Op Tryz.prog 3 (SInt .i64):=IX Tryz.underlying3 (by kernel_rfl)
theorem K3:Op Tryz.prog 22 (YC 1 1 (PV.int .u8) (fun z:Int=>0<=z/\z<=255)) :=
 Sw (Nt (IX Tryz.underlying5 (by kernel_rfl)) 1 1 (by kernel_rfl) Tryz.underlying22 (by kernel_rfl) (by decide) (by kernel_rfl)) fun x ⟨z,h,e⟩=>⟨z,O' h,e⟩
def K4 (l:List (Nat × Nat × Nat × Nat)):Nat:=l.foldl (fun m x=>max m (x.2.2.1+x.2.2.2)) 0
theorem AP:∀ (l:List (Nat × Nat × Nat × Nat)) (m:Nat),m<=l.foldl (fun m x=>max m (x.2.2.1+x.2.2.2)) m/\∀ x∈l,x.2.2.1+x.2.2.2<=l.foldl (fun m x=>max m (x.2.2.1+x.2.2.2)) m
 | [],m=>⟨Nat.le_refl _,fun x hx=>by cases hx⟩
 | y::l,m=>by
  have h:=AP l (max m (y.2.2.1+y.2.2.2))
  rw[List.foldl_cons]
  refine⟨by omega,fun x hx=>?_⟩
  rcases List.mem_cons.1 hx with rfl|hx
  ·omega
  ·exact h.2 x hx
theorem K5 (i:IN) (k:Nat):∀ (l:List (Nat × Nat × Nat × Nat)) (V:Nat),V < 2 ^ k->(∀ x∈l,x.2.2.1+x.2.2.2<=k)->l.foldl (fun w x=>w ||| B (lr i x.1) x.2.1 x.2.2.2 x.2.2.1) V < 2 ^ k
 | [],V,h,_=>h
 | x::l,V,h,hl=>by
  rw[List.foldl_cons]
  refine K5 i k l _ (Nat.or_lt_two_pow h ?_) fun y hy=>hl y (List.mem_cons_of_mem _ hy)
  have b:=ae (lr i x.1) x.2.1 x.2.2.2
  have e:=cQ x.2.2.2
  have h1:(aa (lr i x.1) x.2.1 x.2.2.2).toNat < 2 ^ x.2.2.2:=by omega
  unfold B
  rw[Nat.shiftLeft_eq]
  calc (aa (lr i x.1) x.2.1 x.2.2.2).toNat*2 ^ x.2.2.1 < 2 ^ x.2.2.2*2 ^ x.2.2.1:=Nat.mul_lt_mul_of_pos_right h1 (Nat.two_pow_pos _)
   _=2 ^ (x.2.2.2+x.2.2.1):=(Nat.pow_add ..).symm
   _<=2 ^ k:=Nat.pow_le_pow_right (by omega) (by have:=hl x (List.mem_cons_self ..); omega)
theorem AQ (a b k:Nat) (h:b < 2 ^ k):a ||| b < (a / 2 ^ k+1)*2 ^ k:=by
 have e:(a ||| b) / 2 ^ k=a / 2 ^ k:=by
  apply Nat.eq_of_testBit_eq
  intro p
  rw[Nat.testBit_div_two_pow,Nat.testBit_div_two_pow,Nat.testBit_or,Nat.testBit_lt_two_pow (x:=b) (Nat.lt_of_lt_of_le h (Nat.pow_le_pow_right (by decide) (by omega))),Bool.or_false]
 have hp:=Nat.two_pow_pos k
 have h1:=Nat.lt_mul_div_succ (a ||| b) hp
 rw[e,Nat.mul_comm] at h1
 exact h1
theorem CG:((List.range 47).all fun k=>decide ((Od (k+1) / 2 ^ K4 (Ta (k+1))+1)*2 ^ K4 (Ta (k+1))<=59392))=true:=by decide +kernel
theorem K6:((List.range 53).all fun k=>decide (3892314112<=Od (k+48)))=true:=by decide +kernel
theorem CH (i:IN) (h:bV i) (hn:¬ 48<=i.form):bx i < 59392:=by
 have f1:=h.1
 have ef:((i.form.toNat:Nat):Int)=i.form:=by omega
 have t:=of_decide_eq_true (List.all_eq_true.1 CG (i.form.toNat - 1) (List.mem_range.2 (by omega)))
 rw[show i.form.toNat - 1+1=i.form.toNat by omega] at t
 unfold Od Ta at t
 rw[ef] at t
 have l:=K5 (eh i) (K4 (ax (ab i.form))) (ax (ab i.form)) 0 (Nat.two_pow_pos _) fun x hx=>(AP _ 0).2 x hx
 have o:=AQ (om i.form).toNat _ _ l
 have e:bx i=(((om i.form).toNat ||| eQ (eh i) (ax (ab i.form)):Nat):Int):=pO i
 rw[e]
 have o2:((om i.form).toNat ||| eQ (eh i) (ax (ab i.form))) < 59392:=Nat.lt_of_lt_of_le o t
 omega
theorem O_ (i:IN):bQ (bx i):=by
 have:=lx (show (om i.form).toNat < 4294967296 by have:=D6 i.form; omega) (CF i)
 rw[pO]; unfold bQ; omega
theorem K7 (i:IN) (h:bV i) (hn:48<=i.form):3892314112<=bx i:=by
 have f1:=h.1
 have ef:((i.form.toNat:Nat):Int)=i.form:=by omega
 have t:=of_decide_eq_true (List.all_eq_true.1 K6 (i.form.toNat - 48) (List.mem_range.2 (by omega)))
 rw[show i.form.toNat - 48+48=i.form.toNat by omega] at t
 unfold Od at t
 rw[ef] at t
 have l:(om i.form).toNat<=(om i.form).toNat ||| eQ (eh i) (ax (ab i.form)):=Nat.left_le_or
 rw[pO]; omega
def lR (l:List Int):List PV:=l.map (PV.int .u8)
def K8 (i:IN):List Int:=(if 48<=i.form then [bx i / 65536 % 256,bx i / 16777216 % 256] else [])++[bx i % 256,bx i / 256 % 256]
def K9 (l:List Int):Prop:=∀ z∈l,0<=z/\z<=255
theorem il (a b:Int) (k:Nat) (hk:k<=24) (ha:0<=a/\a < 2 ^ k) (hb:0<=b/\b*2 ^ k<=4294967295):bits .or .u32 a (b*2 ^ k)=a+b*2 ^ k/\bits .or .u32 (b*2 ^ k) a=b*2 ^ k+a:=by
 have p:=ud k (by omega)
 have p2:(2:Int) ^ k<=16777216:=by
  have h1:(2 ^ k:Nat)<=2 ^ 24:=Nat.pow_le_pow_right (by omega) hk
  have h3:=cQ k
  have h4:(2:Nat) ^ 24=16777216:=by decide
  omega
 obtain⟨x,rfl⟩:∃ x:Nat,a=x:=⟨a.toNat,by omega⟩
 obtain⟨y,rfl⟩:∃ y:Nat,b=y:=⟨b.toNat,by omega⟩
 have e:((y:Int)*2 ^ k)=((2 ^ k*y:Nat):Int):=by rw[Int.natCast_mul,cQ,Int.mul_comm]
 rw[e] at hb ⊢
 have hx:x < 2 ^ k:=by have:=cQ k; omega
 have h:=S7 y x k hx
 constructor
 ·rw[u32_or _ _ (by omega) (by omega) (by omega) (by omega),Int.toNat_natCast,Int.toNat_natCast,Nat.or_comm,← h]; omega
 ·rw[u32_or _ _ (by omega) (by omega) (by omega) (by omega),Int.toNat_natCast,Int.toNat_natCast,← h]; omega
def hN (l:List Int) (n:Nat):Int:=l.getD n 0+l.getD (n+1) 0*256
theorem jY {l:List Int} (h:K9 l) (n:Nat):0<=l.getD n 0/\l.getD n 0<=255:=by
 rw[List.getD_eq_getElem?_getD]
 cases e:l[n]? with
 | none=>exact⟨Int.le_refl 0,by decide⟩
 | some z=>exact h z (List.mem_of_getElem? e)
theorem K_ {l:List Int} (h:K9 l) (n:Nat):0<=hN l n/\hN l n<=65535:=by
 have a:=jY h n
 have b:=jY h (n+1)
 unfold hN; omega
def hW (l:List Int) (n:Nat):Int:=hN l n*65536+hN l (n+2)
noncomputable def atI (l:List Int) (n:Nat):IN:=open Classical in
 if l.length < n+2 then iZ else if ¬ en (hN l n) then Gp (hN l n) False else if l.length < n+4 then iZ else Gp (hW l n) True
noncomputable def atE (l:List Int) (n:Nat):Int:=open Classical in
 if l.length < n+2 then 41 else if ¬ en (hN l n) then KZ (hN l n) False else if l.length < n+4 then 41 else KZ (hW l n) True
structure RS where
 R:Nat->Int
 N:Int
 Z:Int
 C:Int
 V:Int
structure XS where
 i:IN
 s:RS
 at_:Int
 taken:Prop
 a:Int
 b:Int
 data:Int
 words:Int
 kind:Int
 code:Int
structure MS where
 w:Nat->Int
 fl:List Int
 wait:Int
 s:RS
 full:Prop
 line:Int
 fP:Int
 kind:Int
 code:Int
def upd (R:Nat->Int) (i v:Int):Nat->Int:=fun m=>if i=(m:Int) then v else R m
def Pa (s:RS):List PV:=[.int .u32 (s.R 0),.int .u32 (s.R 1),.int .u32 (s.R 2),.int .u32 (s.R 3),.int .u32 (s.R 4),.int .u32 (s.R 5),.int .u32 (s.R 6),.int .u32 (s.R 7),.int .u32 (s.R 8),.int .u32 (s.R 9),.int .u32 (s.R 10),.int .u32 (s.R 11),.int .u32 (s.R 12),.int .u32 (s.R 13),.int .u32 (s.R 14),.int .u32 (s.R 15),.int .u32 s.N,.int .u32 s.Z,.int .u32 s.C,.int .u32 s.V]
def uw (s:RS):PV:=.agg (Pa s)
def oo (k:Nat):Int:=if k=0 then 1 else if k=1 then 256 else if k=2 then 65536 else 16777216
def lL (x:Int) (k:Nat):Int:=x / oo k % 256
def iV (w:Nat->Int):List PV:=(List.range 65536).map fun k=>.int .u8 (lL (w (k / 4)) (k % 4))
def CI (w:Nat->Int):aj:=⟨.dyn,5,1,.w,true,iV w⟩
def La (fl:List Int):aj:=⟨.loc,63,1,.w,true,[.sl 1 (lR fl),.wref 0]⟩
def Lb (d:Md) (m:MS):aj:=⟨.loc,67,1,d,true,[.ptr 1 0,.int .i64 m.wait,.int .u32 (m.s.R 0),.int .u32 (m.s.R 1),.int .u32 (m.s.R 2),.int .u32 (m.s.R 3),.int .u32 (m.s.R 4),.int .u32 (m.s.R 5),.int .u32 (m.s.R 6),.int .u32 (m.s.R 7),.int .u32 (m.s.R 8),.int .u32 (m.s.R 9),.int .u32 (m.s.R 10),.int .u32 (m.s.R 11),.int .u32 (m.s.R 12),.int .u32 (m.s.R 13),.int .u32 (m.s.R 14),.int .u32 (m.s.R 15),.int .u32 m.s.N,.int .u32 m.s.Z,.int .u32 m.s.C,.int .u32 m.s.V,.bool m.full,.int .u32 m.line,.int .i64 m.fP,.int .i64 m.kind,.int .i64 m.code]⟩
abbrev Lc (m:MS):aj:=Lb .w m
def xsFs (x:XS):List PV:=[.ptr 2 0,.int .i64 x.i.form,.int .i64 x.i.rd,.int .i64 x.i.rn,.int .i64 x.i.rm,.int .i64 x.i.ra,.int .i64 x.i.au,.int .i64 x.i.kind,.int .i64 x.i.bE,.int .i64 x.i.set,.int .i64 x.i.cond,.int .i64 x.i.aq,.int .u32 (x.s.R 0),.int .u32 (x.s.R 1),.int .u32 (x.s.R 2),.int .u32 (x.s.R 3),.int .u32 (x.s.R 4),.int .u32 (x.s.R 5),.int .u32 (x.s.R 6),.int .u32 (x.s.R 7),.int .u32 (x.s.R 8),.int .u32 (x.s.R 9),.int .u32 (x.s.R 10),.int .u32 (x.s.R 11),.int .u32 (x.s.R 12),.int .u32 (x.s.R 13),.int .u32 (x.s.R 14),.int .u32 (x.s.R 15),.int .u32 x.s.N,.int .u32 x.s.Z,.int .u32 x.s.C,.int .u32 x.s.V,.int .u32 x.at_,.bool x.taken,.int .u32 x.a,.int .u32 x.b,.int .u32 x.data,.int .i64 x.words,.int .i64 x.kind,.int .i64 x.code]
def runBM (d:Md) (x:XS):aj:=⟨.loc,127,1,d,true,xsFs x⟩
def stM (m:MS):List aj:=[CI m.w,La m.fl,Lc m]
def XN (d e:Md) (m:MS) (x:XS):List aj:=[CI m.w,La m.fl,Lb d m,runBM e x]
abbrev iN (m:MS) (x:XS):List aj:=XN .w .w m x
def XO:PV->Bool
 | .agg _|.tup _|.clo ..|.mth ..|.ref ..|.pti ..|.dpt ..|.ep ..|.gp ..|.gpi ..|.val _=>false
 | _=>true
theorem Ld {x:PV} (h:XO x=true):Be x x:=by
 cases x<;>first|(cases h; done)|exact rfl|exact trivial|exact Iff.rfl|(unfold Be; simp)
theorem pQ:∀ {l:List PV},l.all XO=true->oX Be l l
 | [],_=>trivial
 | x::l,h=>by
  simp only[List.all_cons,Bool.and_eq_true] at h
  exact⟨Ld h.1,pQ h.2⟩
def okC (k:BK) (cs:List PV):Bool:=match k with
 | .loc|.arr=>cs.all XO
 | .dyn|.mp=>true
 | .mx=>false
theorem bd {b:aj} (hl:b.live=true) (hc:okC b.k b.cs=true):gN b b:=by
 obtain⟨k,ty,n,m,live,cs⟩:=b
 simp only at hl
 subst hl
 have hk:BK.beq k k=true:=by cases k<;>first|rfl|cases hc
 have hm:(Nat.beq ty ty && Nat.beq n n && Md.beq m m && true && true && BK.beq k k)=true:=by
  simp only[Nat.beq_refl,Bool.and_true,Bool.true_and,Bool.and_eq_true]
  exact⟨by cases m<;>rfl,hk⟩
 show (bif (Nat.beq ty ty && Nat.beq n n && Md.beq m m && true && true && BK.beq k k) then _ else False)
 rw[hm,cond_true]
 cases k
 ·exact pQ hc
 ·exact pQ hc
 ·exact rfl
 ·exact rfl
 ·cases hc
def okB (b:aj):Bool:=b.live && okC b.k b.cs
theorem n_ {b:aj} (h:okB b=true):gN b b:=by
 unfold okB at h
 simp only[Bool.and_eq_true] at h
 exact bd h.1 h.2
theorem ak:∀ {S:List aj},S.all okB=true->u4 S S
 | [],_=>trivial
 | b::S,h=>by
  simp only[List.all_cons,Bool.and_eq_true] at h
  exact⟨n_ h.1,ak h.2⟩
theorem wo:∀ {S T:List aj} {k:List aj->Prop},S.all okB=true->k T->Nx (S++T) S k
 | [],_,_,_,h=>h
 | b::S,T,k,ho,h=>by
  simp only[List.all_cons,Bool.and_eq_true] at ho
  exact⟨n_ ho.1,wo (S:=S) ho.2 h⟩
theorem Spec.useE {G:Gx} {f:FuncId} {args args':List PV} {r0:PV} {S0 S1 st T:List aj} {K:PV->List aj->Prop} (h:Spec G f args' S0 [] fun r S'=>r=r0/\S'=S1)
  (hc:(lE S0 S1 && S0.all (zF S0.length) && (dp args').all (fun l=>Nat.blt l S0.length) && r0.df.all (fun l=>Nat.blt l S0.length) && S0.all okB)=true) (hle:oX ma args args') (qi:st=S0++T) (hK:zD S1 fun S1=>Fg S1 T (K r0)):Spec G f args st [] K:=by
 simp only[Bool.and_eq_true] at hc
 obtain⟨⟨⟨⟨h1,h2⟩,h3⟩,h4⟩,h5⟩:=hc
 subst qi
 exact h.zO h1 h2 h3 h4 hle (wo h5 hK)
def YT (π:ia) (st:List aj):List Nat->List aj->Prop->Prop
 | [],[],k=>k
 | l::σ,b'::S,k=>(aU st[l]? fun b=>okB b=true/\u9 π b' fun lP=>b=lP)/\YT π st σ S k
 | _,_,_=>False
theorem Ep {π:ia} {st:List aj}:∀ {σ:List Nat} {S:List aj} {k:Prop},YT π st σ S k->atK π st σ S k
 | [],[],_,h=>h
 | l::σ,b'::S,k,h=>by
  refine⟨?_,Ep h.2⟩
  obtain⟨b,hb,ho,hr⟩:=ao h.1
  rw[hb]
  show u9 π b' fun lP=>gN b lP
  obtain⟨k0,ty,n,m,live,cs⟩:=b'
  cases k0
  ·obtain⟨ds,h1,h2⟩:=ao hr
   show aU (f_ π cs) _
   rw[h1]; subst h2; exact n_ ho
  ·obtain⟨ds,h1,h2⟩:=ao hr
   show aU (f_ π cs) _
   rw[h1]; subst h2; exact n_ ho
  ·have e:b=⟨.dyn,ty,n,m,live,cs⟩:=hr
   subst e; exact n_ ho
  ·have e:b=⟨.mp,ty,n,m,live,cs⟩:=hr
   subst e; exact n_ ho
  ·obtain⟨ds,h1,h2⟩:=ao hr
   show aU (f_ π cs) _
   rw[h1]; subst h2; exact n_ ho
 | [],_::_,_,h=>h.elim
 | _::_,[],_,h=>h.elim
theorem Spec.useQ {G:Gx} {f:FuncId} {args args':List PV} {r0:PV} {S0 S1 st:List aj} {K:PV->List aj->Prop} (σ:List Nat) (h:Spec G f args' S0 [] fun r S'=>r=r0/\S'=S1) (hc:(lE S0 S1 && mv σ)=true) (Nr:r0.df = []) (hle:JF (σ.map some) args args') (hK:YT (σ.map some) st σ S0 (YI (σ.map some) σ S1 st (K r0))):Spec G f args st [] K:=by
 simp only[Bool.and_eq_true] at hc
 exact Spec.useP σ h hc.1 Nr hc.2 hle (Ep hK)
theorem Er {π:ia} {st:List aj}:∀ {σ:List Nat} {S:List aj} {k:Prop},YT π st σ S True->k->YT π st σ S k
 | [],[],_,_,h=>h
 | _::_,_::_,_,h,hk=>⟨h.1,Er h.2 hk⟩
 | [],_::_,_,h,_=>h.elim
 | _::_,[],_,h,_=>h.elim
theorem Spec.e {P:Nat->Prop} {G:Gx} {f:FuncId} {args args':List PV} {r0:PV} {S0 S1 st:List aj} {K:List Nat->PV->List aj->Prop} (h:Spec G f args' S0 [] fun r S'=>r=r0/\S'=S1) (hK:zD S1 fun S1=>Fg S1 (st.drop S0.length) (K [] r0)) (hle:oX ma args args':=by repeat' first|exact trivial|exact rfl|exact Iff.rfl|refine And.intro ?_ ?_) (qi:st=S0++st.drop S0.length:=by rfl)
  (hc:(lE S0 S1 && S0.all (zF S0.length) && (dp args').all (fun l=>Nat.blt l S0.length) && r0.df.all (fun l=>Nat.blt l S0.length) && S0.all okB)=true:=by rfl):∃ rl:List Nat,(∀ l,l∈rl->P l)/\Spec G f args st rl (K rl):=⟨[],fun _ hl=>(by cases hl),h.useE hc hle qi hK⟩
theorem Spec.q {P:Nat->Prop} {G:Gx} {f:FuncId} {args args':List PV} {r0:PV} {S0 S1 st:List aj} {K:List Nat->PV->List aj->Prop} (h:Spec G f args' S0 [] fun r S'=>r=r0/\S'=S1) (σ:List Nat) (hK:YI (σ.map some) σ S1 st (K [] r0)) (hle:JF (σ.map some) args args':=by repeat' first|exact trivial|exact rfl|exact Iff.rfl|refine And.intro ?_ ?_) (ha:YT (σ.map some) st σ S0 True:=by repeat' first|exact trivial|exact⟨rfl,rfl⟩|refine And.intro ?_ ?_) (hc:(lE S0 S1 && mv σ)=true:=by rfl) (Nr:r0.df = []:=by rfl):∃ rl:List Nat,(∀ l,l∈rl->P l)/\Spec G f args st rl (K rl):=⟨[],fun _ hl=>(by cases hl),h.useQ σ hc Nr hle (Er ha hK)⟩
theorem rS {r r0:PV} {S' S1:List aj} (h:ma r r0:=by repeat' first|exact trivial|exact rfl|exact Iff.rfl|refine And.intro ?_ ?_) (hs:u4 S' S1:=by first|exact ak rfl|(repeat' first|exact trivial|exact rfl|exact Iff.rfl|exact not_false|refine And.intro ?_ ?_)):∃ r',qq r r'/\(fun x S'=>x=r0/\u4 S' S1) r' S':=bq h hs
theorem Pb (x:XS):∀ k:Nat,k < 16->(xsFs x)[12+k*1]?=some (.int .u32 (x.s.R k))
 | 0,_=>rfl
 | 1,_=>rfl
 | 2,_=>rfl
 | 3,_=>rfl
 | 4,_=>rfl
 | 5,_=>rfl
 | 6,_=>rfl
 | 7,_=>rfl
 | 8,_=>rfl
 | 9,_=>rfl
 | 10,_=>rfl
 | 11,_=>rfl
 | 12,_=>rfl
 | 13,_=>rfl
 | 14,_=>rfl
 | 15,_=>rfl
 | k+16,h=>absurd h (by omega)
def aw (x:XS) (r:Int):Int:=if r=15 then IntKind.u32.wrap (x.at_+4) else x.s.R r.toNat
def dn (x:XS) (r v:Int):XS:={ x with s:={ x.s with R:=upd x.s.R r v } }
def vd (x:XS) (v:Int):XS:={ x with s:={ x.s with N:=v / 2147483648,Z:=if v=0 then 1 else 0 } }
theorem ux (x y c:Int) (hx:bQ x) (hy:bQ y) (hc:0<=c):al gT 132 [.int .u32 x,.int .u32 y,.int .u32 c] (.tup [.int .u32 (Rm.ik x y c),.int .u32 (Rm.nk x y c),.int .u32 (Rm.pG x y c)]) :=
 al.of_same (je Tryz.func132 rfl (by kernel_rfl)) [.int .u32 x,.int .u32 y,.int .u32 c] (.tuple #[.int .u32 (Rm.ik x y c),.int .u32 (Rm.nk x y c),.int .u32 (Rm.pG x y c)]) (fun w I β vals h=>ly (l:=[(.u32,x),(.u32,y),(.u32,c)]) h) (fun w I β=>nY (kz (eI ..) (kz (eI ..) (kz (eI ..) Am)))) (fun w=>(N7 x y c w hx.1 hx.2 hy.1 hy.2 hc).mono fun e w' ⟨h1,h2⟩=>⟨h1,h2.symm⟩)
theorem Gr (x y:Int) (hx:bQ x) (hy:bQ y):al gT 129 [.int .u32 x,.int .u32 y] (.tup [.int .u32 (x*y % 4294967296),.int .u32 (x*y / 4294967296)]) :=
 al.of_same (je Tryz.func129 rfl (by kernel_rfl)) [.int .u32 x,.int .u32 y] (.tuple #[.int .u32 (x*y % 4294967296),.int .u32 (x*y / 4294967296)]) (fun w I β vals h=>ly (l:=[(.u32,x),(.u32,y)]) h) (fun w I β=>nY (kz (eI ..) (kz (eI ..) Am))) (fun w=>(J4 x y w hx.1 hx.2 hy.1 hy.2).mono fun e w' ⟨h1,h2⟩=>⟨h1,h2.symm⟩)
theorem wq (x:Int) (hx:bQ x):al gT 144 [.int .u32 x] (.int .i64 (Lib.bitLen x.toNat)) :=
 al.of_same (je Tryz.func144 rfl (by kernel_rfl)) [.int .u32 x] (.int .i64 (Lib.bitLen x.toNat)) (fun w I β vals h=>ly (l:=[(.u32,x)]) h) (fun w I β=>eI ..) (fun w=>(N8 x w hx.1 hx.2).mono fun e w' ⟨h1,h2⟩=>⟨h1,h2.symm⟩)
theorem Pc (x:Int) (hx:bQ x):al gT 133 [.int .u32 x] (.int .i64 (32 - (Lib.bitLen x.toNat:Int))) :=
 al.of_same (je Tryz.func133 rfl (by kernel_rfl)) [.int .u32 x] (.int .i64 (32 - (Lib.bitLen x.toNat:Int))) (fun w I β vals h=>ly (l:=[(.u32,x)]) h) (fun w I β=>eI ..) (fun w=>(J6 x w hx.1 hx.2).mono fun e w' ⟨h1,h2⟩=>⟨h1,h2.symm⟩)
theorem uy (x:Int) (h0:0<=x) (h1:x<=65535):al gT 122 [.int .u32 x] (.int .i64 (cu x)) :=
 al.zH (je Tryz.func122 rfl (by kernel_rfl)) [.int .u32 x] (.int .i64 (cu x)) (fun w I β vals h=>ly (l:=[(.u32,x)]) h) (fun w I β=>eI ..) (fun w=>Gm x w h0 h1)
def Rc (k x n:Int):Int:=((Rm.N0 k n.toNat x.toNat:Nat):Int)
def Pd (k x n c:Int):Int:=((Rm.itC k n.toNat x.toNat (min c.toNat 1):Nat):Int)
theorem rz (k x n c:Int) (Dl:0<=k) (u5:k<=3) (fS:0<=n) (lT:n<=255) (hx:bQ x) (hc:0<=c):al gT 214 [.int .i64 k,.int .u32 x,.int .i64 n,.int .u32 c] (.tup [.int .u32 (Rc k x n),.int .u32 (Pd k x n c),.int .i64 0]) :=
 al.of_same (je Tryz.func214 rfl (by kernel_rfl)) [.int .i64 k,.int .u32 x,.int .i64 n,.int .u32 c] (.tuple #[.int .u32 (Rc k x n),.int .u32 (Pd k x n c),.int .i64 0]) (fun w I β vals h=>ly (l:=[(.i64,k),(.u32,x),(.i64,n),(.u32,c)]) h) (fun w I β=>nY (kz (eI ..) (kz (eI ..) (kz (eI ..) Am)))) (fun w=>(Ak k x n c w Dl u5 fS lT hx.1 hx.2 hc).mono fun e w' ⟨h1,h2⟩=>⟨h1,h2.symm⟩)
theorem ve (n c:Int) (h:D5 n) (hc:0<=c):al gT 213 [.int .i64 n,.int .u32 c] (.tup [.int .u32 (Rm.iT n c),.int .i64 (Rm.fU n)]) :=
 al.Q4 (je Tryz.func213 rfl (by kernel_rfl)) fun I β w vals hM hA=>by
  obtain rfl:=ly (l:=[(.i64,n),(.u32,c)]) hA
  refine⟨.tuple #[.int .u32 (Rm.iT n c),.int .i64 (Rm.fU n)],nY (kz (eI ..) (kz (eI ..) Am)),fun _ _ _=>nY (kz (eI ..) (kz (eI ..) Am)),?_⟩
  refine (FG n c w (Q5 hM) h.1 h.2 hc).mono ?_
  rintro e w' ⟨rfl,rfl⟩
  exact⟨rfl,Below.refl _ _⟩
theorem Le (k x n:Int) (hx:bQ x):bQ (Rc k x n):=by
 have:=Rm.yg k n.toNat x.toNat (by have:=hx.1; have:=hx.2; omega)
 unfold Rc bQ; omega
theorem Lf (k x n c:Int) (hx:bQ x):0<=Pd k x n c/\Pd k x n c<=1:=by
 have:=Rm.SZ k n.toNat x.toNat (min c.toNat 1) (by have:=hx.1; have:=hx.2; omega) (by omega)
 unfold Pd; omega
theorem jf (d e:Md) (m:MS) (x:XS) (r:Int) (h0:0<=r) (h1:r<=15):Spec gT 120 [.ptr 3 0,.int .i64 r] (XN d e m x) [] fun v S'=>v = .int .u32 (aw x r)/\S'=XN d e m x:=by
 refine Spec.lJ (Spec.enter aA aas 100 Tryz.func120 rfl (by kernel_rfl) ?_)
 refine⟨fun h=>?_,fun h=>?_⟩
 ·have h':r=15:=h
  refine .inr ?_
  have e0:aw x r=IntKind.u32.wrap (x.at_+4):=by unfold aw; rw[if_pos h']
  rw[e0]
  exact rS
 ·have h':¬ r=15:=h
  have e0:aw x r=x.s.R r.toNat:=by unfold aw; rw[if_neg h']
  rw[e0]
  refine⟨h0,show r < 16 by omega,?_⟩
  refine .inr ⟨rfl,h0,show 12+r.toNat*1 < 40 by omega,fun c hc=>?_⟩
  obtain rfl:=Option.some.inj (hc.symm.trans (Pb x r.toNat (by omega)))
  exact rS
theorem bG (m:MS) (x:XS) (r:Int) (h0:0<=r) (h1:r<=15):Spec gT 120 [.ptr 3 0,.int .i64 r] (iN m x) [] fun v S'=>v = .int .u32 (aw x r)/\S'=iN m x:=jf .w .w m x r h0 h1
theorem aT (m:MS) (x:XS) (r v:Int) (h0:0<=r) (h1:r<=15):Spec gT 121 [.ptr 3 0,.int .i64 r,.int .u32 v] (iN m x) [] fun y S'=>y = .tup []/\S'=iN m (dn x r v):=by
 refine Spec.lJ (Spec.enter aA aat 100 Tryz.func121 rfl (by kernel_rfl) ?_)
 refine⟨h0,show r < 16 by omega,?_⟩
 refine⟨16,h0,show r < 16 by omega,show 12+r.toNat*1 < 40 by omega,?_⟩
 exact rS
theorem Lg (m:MS) (x:XS) (v:Int):Spec gT 130 [.ptr 3 0,.int .u32 v] (iN m x) [] fun y S'=>y = .tup []/\S'=iN m (vd x v):=by
 refine Spec.lJ (Spec.enter aA aaz 100 Tryz.func130 rfl (by kernel_rfl) ?_)
 refine⟨by decide,?_⟩
 refine⟨fun h=>?_,fun h=>?_⟩
 ·have e:vd x v = { x with s:={ x.s with N:=v / 2147483648,Z:=1 } }:=by unfold vd; rw[if_pos (show v=0 from h)]
  rw[e]
  exact rS
 ·have e:vd x v = { x with s:={ x.s with N:=v / 2147483648,Z:=0 } }:=by unfold vd; rw[if_neg (show ¬ v=0 from h)]
  rw[e]
  exact rS
def eX (x:XS):Prop:=(ab x.i.form=18\/ab x.i.form=19\/ab x.i.form=21\/ab x.i.form=22\/ab x.i.form=27)->x.i.set=1
instance (x:XS):Decidable (eX x):=by unfold eX; infer_instance
theorem Es (m:MS) (x:XS):Spec gT 215 [.ptr 3 0] (iN m x) [] fun y S'=>y = .bool (eX x)/\S'=iN m x:=by
 have XP:=gb x.i.form
 have key:eX x↔((ab x.i.form=18\/ab x.i.form=19\/ab x.i.form=21\/ab x.i.form=22\/ab x.i.form=27)->x.i.set=1):=Iff.rfl
 refine Spec.lJ (Spec.enter aA aay 100 Tryz.func215 rfl (by kernel_rfl) ?_)
 refine XP.u ?_
 generalize ab x.i.form=sh at key ⊢
 refine⟨fun h=>?_,fun h=>?_⟩
 ·exact bq (show x.i.set=1↔eX x by rw[key]; have h':sh=18:=h; simp[h']) (ak rfl)
 refine⟨fun h=>?_,fun h=>?_⟩
 ·exact bq (show x.i.set=1↔eX x by rw[key]; have h':sh=19:=h; simp[h']) (ak rfl)
 refine⟨fun h=>?_,fun h=>?_⟩
 ·exact bq (show x.i.set=1↔eX x by rw[key]; have h':sh=21:=h; simp[h']) (ak rfl)
 refine⟨fun h=>?_,fun h=>?_⟩
 ·exact bq (show x.i.set=1↔eX x by rw[key]; have h':sh=22:=h; simp[h']) (ak rfl)
 refine⟨fun h=>?_,fun h=>?_⟩
 ·exact bq (show x.i.set=1↔eX x by rw[key]; have h':sh=27:=h; simp[h']) (ak rfl)
 ·exact bq (show eX x by rw[key]; have a:¬ sh=18:=‹_›; have b:¬ sh=19:=‹_›; have c:¬ sh=21:=‹_›; have d:¬ sh=22:=‹_›; have e:¬ sh=27:=‹_›; intro h; omega) (ak rfl)
structure nn (x:XS):Prop where
 rd:0<=x.i.rd/\x.i.rd<=15
 rn:0<=x.i.rn/\x.i.rn<=15
 rm:0<=x.i.rm/\x.i.rm<=15
 ra:0<=x.i.ra/\x.i.ra<=15
 au:D5 x.i.au
 bar:ab x.i.form=21\/ab x.i.form=22\/ab x.i.form=23->0<=x.i.kind/\x.i.kind<=3/\0<=x.i.bE/\x.i.bE<=255
 low:1<=x.i.form/\x.i.form<=3->0<=x.i.au/\x.i.au<=32
 idx:x.i.form=86\/x.i.form=87->0<=x.i.bE/\x.i.bE<=3
 aq:0<=x.i.aq/\x.i.aq<=65535
 r:∀ k,bQ (x.s.R k)
 n:0<=x.s.N/\x.s.N<=1
 z:0<=x.s.Z/\x.s.Z<=1
 c:0<=x.s.C/\x.s.C<=1
 v:0<=x.s.V/\x.s.V<=1
theorem wrap_u32 (z:Int):bQ (IntKind.u32.wrap z):=by
 have:=IntKind.wrap_u32' z
 unfold bQ; omega
theorem bM {x:XS} (h:nn x) (r:Int):bQ (aw x r):=by
 unfold aw
 split
 ·exact wrap_u32 _
 ·exact h.r _
def aL (x:XS):Int:=if ab x.i.form=4\/ab x.i.form=5\/ab x.i.form=6 then aw x x.i.rd else aw x x.i.rn
def bS (x:XS):Int :=
 if ab x.i.form=3\/ab x.i.form=4\/ab x.i.form=24 then IntKind.u32.wrap x.i.au
 else if ab x.i.form=18\/ab x.i.form=19\/ab x.i.form=20 then Rm.gZ x.i.au
 else if ab x.i.form=21\/ab x.i.form=22\/ab x.i.form=23 then Rc x.i.kind (aw x x.i.rm) x.i.bE
 else aw x x.i.rm
def dH (x:XS):Int :=
 if ab x.i.form=3\/ab x.i.form=4\/ab x.i.form=24 then x.s.C
 else if ab x.i.form=18\/ab x.i.form=19\/ab x.i.form=20 then Rm.iT x.i.au x.s.C
 else if ab x.i.form=21\/ab x.i.form=22\/ab x.i.form=23 then Pd x.i.kind (aw x x.i.rm) x.i.bE x.s.C
 else x.s.C
theorem bJ {x:XS} (h:nn x):bQ (aL x):=by
 unfold aL
 split<;>exact bM h _
theorem cr {x:XS} (h:nn x):bQ (bS x):=by
 unfold bS
 split
 ·exact wrap_u32 _
 ·split
  ·exact Rm.ub _
  ·split
   ·exact Le _ _ _ (bM h _)
   ·exact bM h _
def eT (w:Int):Int:=bits .xor .u32 IntKind.u32.max w
theorem Pe {w:Int} (h:bQ w):eT w=4294967295 - w:=Rm.not32 w h.1 h.2
theorem dF {w:Int} (h:bQ w):bQ (eT w):=by
 rw[Pe h]
 unfold bQ at h ⊢; omega
theorem AR (m:MS) (x:XS) (hx:nn x):Spec gT 124 [.ptr 3 0] (iN m x) [] fun y S'=>y = .int .u32 (aL x)/\S'=iN m x:=by
 have XP:=gb x.i.form
 have g1:=bG m x x.i.rd hx.rd.1 hx.rd.2
 have g2:=bG m x x.i.rn hx.rn.1 hx.rn.2
 have key:aL x=if ab x.i.form=4\/ab x.i.form=5\/ab x.i.form=6 then aw x x.i.rd else aw x x.i.rn:=rfl
 refine Spec.lJ (Spec.enter aA aav 100 Tryz.func124 rfl (by kernel_rfl) ?_)
 refine XP.u ?_
 generalize ab x.i.form=sh at key ⊢
 refine⟨fun h=>?_,fun h=>?_⟩
 ·rw[key,if_pos (.inr (.inl (show sh=5 from h)))]
  refine (g1).e ?_
  exact rS
 refine⟨fun h=>?_,fun h=>?_⟩
 ·rw[key,if_pos (.inl (show sh=4 from h))]
  refine (g1).e ?_
  exact rS
 refine⟨fun h=>?_,fun h=>?_⟩
 ·rw[key,if_pos (.inr (.inr (show sh=6 from h)))]
  refine (g1).e ?_
  exact rS
 ·have a:¬ sh=5:=‹_›
  have b:¬ sh=4:=‹_›
  have c:¬ sh=6:=‹_›
  rw[key,if_neg (by omega)]
  refine (g2).e ?_
  exact rS
theorem wu (m:MS) (x:XS) (hx:nn x):Spec gT 125 [.ptr 3 0] (iN m x) [] fun y S'=>y = .tup [.int .u32 (bS x),.int .u32 (dH x)]/\S'=iN m x:=by
 have XP:=gb x.i.form
 have g3:=bG m x x.i.rm hx.rm.1 hx.rm.2
 have kw:bS x=if ab x.i.form=3\/ab x.i.form=4\/ab x.i.form=24 then IntKind.u32.wrap x.i.au
  else if ab x.i.form=18\/ab x.i.form=19\/ab x.i.form=20 then Rm.gZ x.i.au
  else if ab x.i.form=21\/ab x.i.form=22\/ab x.i.form=23 then Rc x.i.kind (aw x x.i.rm) x.i.bE
  else aw x x.i.rm:=rfl
 have kc:dH x=if ab x.i.form=3\/ab x.i.form=4\/ab x.i.form=24 then x.s.C
  else if ab x.i.form=18\/ab x.i.form=19\/ab x.i.form=20 then Rm.iT x.i.au x.s.C
  else if ab x.i.form=21\/ab x.i.form=22\/ab x.i.form=23 then Pd x.i.kind (aw x x.i.rm) x.i.bE x.s.C
  else x.s.C:=rfl
 have hb:=hx.bar
 have cw:=pK x.i.au hx.au
 have cc:=ve x.i.au x.s.C hx.au hx.c.1
 have cs:=fun h=>rz x.i.kind (aw x x.i.rm) x.i.bE x.s.C (hb h).1 (hb h).2.1 (hb h).2.2.1 (hb h).2.2.2 (bM hx _) hx.c.1
 refine Spec.lJ (Spec.enter aA aaw 100 Tryz.func125 rfl (by kernel_rfl) ?_)
 refine XP.u ?_
 generalize ab x.i.form=sh at kw kc hb cs ⊢
 refine⟨fun h=>?_,fun h=>?_⟩
 ·rw[if_pos (.inl (show sh=3 from h))] at kw kc
  rw[kw,kc]
  refine .inr ?_
  exact rS
 refine⟨fun h=>?_,fun h=>?_⟩
 ·rw[if_pos (.inr (.inl (show sh=4 from h)))] at kw kc
  rw[kw,kc]
  refine .inr ?_
  exact rS
 refine⟨fun h=>?_,fun h=>?_⟩
 ·rw[if_pos (.inr (.inr (show sh=24 from h)))] at kw kc
  rw[kw,kc]
  refine .inr ?_
  exact rS
 have n1:¬ (sh=3\/sh=4\/sh=24):=by
  have a:¬ sh=3:=‹_›
  have b:¬ sh=4:=‹_›
  have c:¬ sh=24:=‹_›
  omega
 rw[if_neg n1] at kw kc
 refine⟨fun h=>?_,fun h=>?_⟩
 ·rw[if_pos (.inl (show sh=18 from h))] at kw kc
  rw[kw,kc]
  refine cw.u ?_
  refine cc.u ?_
  exact rS
 refine⟨fun h=>?_,fun h=>?_⟩
 ·rw[if_pos (.inr (.inl (show sh=19 from h)))] at kw kc
  rw[kw,kc]
  refine cw.u ?_
  refine cc.u ?_
  exact rS
 refine⟨fun h=>?_,fun h=>?_⟩
 ·rw[if_pos (.inr (.inr (show sh=20 from h)))] at kw kc
  rw[kw,kc]
  refine cw.u ?_
  refine cc.u ?_
  exact rS
 have n2:¬ (sh=18\/sh=19\/sh=20):=by
  have a:¬ sh=18:=‹_›
  have b:¬ sh=19:=‹_›
  have c:¬ sh=20:=‹_›
  omega
 rw[if_neg n2] at kw kc
 have g4:=fun d e=>jf d e m x x.i.rm hx.rm.1 hx.rm.2
 refine⟨fun h=>?_,fun h=>?_⟩
 ·have hh:sh=21\/sh=22\/sh=23:=.inl (show sh=21 from h)
  rw[if_pos hh] at kw kc
  rw[kw,kc]
  refine (g4 .w .p).e ?_
  refine (cs hh).u ?_
  exact rS
 refine⟨fun h=>?_,fun h=>?_⟩
 ·have hh:sh=21\/sh=22\/sh=23:=.inr (.inl (show sh=22 from h))
  rw[if_pos hh] at kw kc
  rw[kw,kc]
  refine (g4 .w .p).e ?_
  refine (cs hh).u ?_
  exact rS
 refine⟨fun h=>?_,fun h=>?_⟩
 ·have hh:sh=21\/sh=22\/sh=23:=.inr (.inr (show sh=23 from h))
  rw[if_pos hh] at kw kc
  rw[kw,kc]
  refine (g4 .w .p).e ?_
  refine (cs hh).u ?_
  exact rS
 ·have n3:¬ (sh=21\/sh=22\/sh=23):=by
   have a:¬ sh=21:=‹_›
   have b:¬ sh=22:=‹_›
   have c:¬ sh=23:=‹_›
   omega
  rw[if_neg n3] at kw kc
  rw[kw,kc]
  refine (g4 .w .p).e ?_
  exact rS
def uz (x:XS) (c:Int):XS:={ x with s:={ x.s with C:=c } }
def oa (x:XS) (c o:Int):XS:={ x with s:={ x.s with C:=c,V:=o } }
def kF (x:XS) (d v w c:Int):XS :=
 if 0<=d then dn (if eX x then oa (vd x (Rm.ik v w c)) (Rm.nk v w c) (Rm.pG v w c) else x) d (Rm.ik v w c)
 else (if eX x then oa (vd x (Rm.ik v w c)) (Rm.nk v w c) (Rm.pG v w c) else x)
def dI (x:XS) (d v c:Int):XS :=
 if 0<=d then dn (if eX x then uz (vd x v) c else x) d v
 else (if eX x then uz (vd x v) c else x)
theorem c_ (m:MS) (x:XS) (d v w c:Int) (h1:d<=15) (hv:bQ v) (hw:bQ w) (hc:0<=c):Spec gT 126 [.ptr 3 0,.int .i64 d,.int .u32 v,.int .u32 w,.int .u32 c] (iN m x) [] fun y S'=>y = .tup []/\S'=iN m (kF x d v w c):=by
 have ha:=ux v w c hv hw hc
 have key:kF x d v w c=if 0<=d then dn (if eX x then oa (vd x (Rm.ik v w c)) (Rm.nk v w c) (Rm.pG v w c) else x) d (Rm.ik v w c)
  else (if eX x then oa (vd x (Rm.ik v w c)) (Rm.nk v w c) (Rm.pG v w c) else x):=rfl
 refine Spec.lJ (Spec.enter aA aax 100 Tryz.func126 rfl (by kernel_rfl) ?_)
 refine ha.u ?_
 generalize Rm.ik v w c=s at key ⊢
 generalize Rm.nk v w c=cy at key ⊢
 generalize Rm.pG v w c=o at key ⊢
 refine (Es m x).e ?_
 refine⟨fun h=>?_,fun h=>?_⟩
 ·rw[if_pos (show eX x from h)] at key
  refine (Lg m x s).e ?_
  refine⟨fun h=>?_,fun h=>?_⟩
  ·rw[if_pos (show 0<=d from h)] at key
   rw[key]
   refine (aT m (oa (vd x s) cy o) d s h h1).e ?_
   exact rS
  ·rw[if_neg (show ¬ 0<=d from h)] at key
   rw[key]
   exact rS
 ·rw[if_neg (show ¬ eX x from h)] at key
  refine⟨fun h=>?_,fun h=>?_⟩
  ·rw[if_pos (show 0<=d from h)] at key
   rw[key]
   refine (aT m x d s h h1).e ?_
   exact rS
  ·rw[if_neg (show ¬ 0<=d from h)] at key
   rw[key]
   exact rS
theorem cg (m:MS) (x:XS) (d v c:Int) (h1:d<=15):Spec gT 127 [.ptr 3 0,.int .i64 d,.int .u32 v,.int .u32 c] (iN m x) [] fun y S'=>y = .tup []/\S'=iN m (dI x d v c):=by
 have key:dI x d v c=if 0<=d then dn (if eX x then uz (vd x v) c else x) d v
  else (if eX x then uz (vd x v) c else x):=rfl
 refine Spec.lJ (Spec.enter aA aaA 100 Tryz.func127 rfl (by kernel_rfl) ?_)
 refine (Es m x).e ?_
 refine⟨fun h=>?_,fun h=>?_⟩
 ·rw[if_pos (show eX x from h)] at key
  refine (Lg m x v).e ?_
  refine⟨fun h=>?_,fun h=>?_⟩
  ·rw[if_pos (show 0<=d from h)] at key
   rw[key]
   refine (aT m (uz (vd x v) c) d v h h1).e ?_
   exact rS
  ·rw[if_neg (show ¬ 0<=d from h)] at key
   rw[key]
   exact rS
 ·rw[if_neg (show ¬ eX x from h)] at key
  refine⟨fun h=>?_,fun h=>?_⟩
  ·rw[if_pos (show 0<=d from h)] at key
   rw[key]
   refine (aT m x d v h h1).e ?_
   exact rS
  ·rw[if_neg (show ¬ 0<=d from h)] at key
   rw[key]
   exact rS
def j9 (x:XS) (k v n:Int):XS:=dI x x.i.rd (Rc k v n) (Pd k v n x.s.C)
theorem eu (m:MS) (x:XS) (k v n:Int) (hx:nn x) (Dl:0<=k) (u5:k<=3) (fS:0<=n) (lT:n<=255) (hv:bQ v):Spec gT 128 [.ptr 3 0,.int .i64 k,.int .u32 v,.int .i64 n] (iN m x) [] fun y S'=>y = .tup []/\S'=iN m (j9 x k v n):=by
 have hs:=rz k v n x.s.C Dl u5 fS lT hv hx.c.1
 refine Spec.lJ (Spec.enter aA aaB 100 Tryz.func128 rfl (by kernel_rfl) ?_)
 refine hs.u ?_
 refine (cg m x x.i.rd (Rc k v n) (Pd k v n x.s.C) hx.rd.2).e ?_
 exact rS
def aO (f:Int):Int :=
 if f=4\/f=6\/f=10\/f=55\/f=71 then 1 else if f=5\/f=7\/f=11\/f=58\/f=74 then 2 else if f=17\/f=56\/f=72 then 3 else if f=18\/f=57\/f=73 then 4 else if f=21 then 5 else if f=59\/f=75 then 6 else if f=9\/f=22\/f=29\/f=65\/f=81 then 7 else if f=23\/f=64\/f=80 then 8 else 0
def fy (x:XS):XS :=
 if aO x.i.form=1 then kF x x.i.rd (aL x) (bS x) 0 else if aO x.i.form=2 then kF x x.i.rd (aL x) (eT (bS x)) 1 else if aO x.i.form=3 then kF x x.i.rd (aL x) (bS x) x.s.C else if aO x.i.form=4 then kF x x.i.rd (aL x) (eT (bS x)) x.s.C else if aO x.i.form=5 then kF x x.i.rd 0 (eT (bS x)) 1 else if aO x.i.form=6 then kF x x.i.rd (bS x) (eT (aL x)) 1 else if aO x.i.form=7 then kF x (-1) (aL x) (eT (bS x)) 1 else if aO x.i.form=8 then kF x (-1) (aL x) (bS x) 0 else x
theorem pR {x:XS} (h:aO x.i.form=1):fy x=kF x x.i.rd (aL x) (bS x) 0:=by unfold fy; rw[if_pos h]
theorem pS {x:XS} (h:aO x.i.form=2):fy x=kF x x.i.rd (aL x) (eT (bS x)) 1:=by unfold fy; rw[if_neg (by omega),if_pos h]
theorem yu {x:XS} (h:aO x.i.form=3):fy x=kF x x.i.rd (aL x) (bS x) x.s.C:=by unfold fy; rw[if_neg (by omega),if_neg (by omega),if_pos h]
theorem yv {x:XS} (h:aO x.i.form=4):fy x=kF x x.i.rd (aL x) (eT (bS x)) x.s.C:=by unfold fy; rw[if_neg (by omega),if_neg (by omega),if_neg (by omega),if_pos h]
theorem Pf {x:XS} (h:aO x.i.form=5):fy x=kF x x.i.rd 0 (eT (bS x)) 1:=by unfold fy; rw[if_neg (by omega),if_neg (by omega),if_neg (by omega),if_neg (by omega),if_pos h]
theorem Et {x:XS} (h:aO x.i.form=6):fy x=kF x x.i.rd (bS x) (eT (aL x)) 1:=by unfold fy; rw[if_neg (by omega),if_neg (by omega),if_neg (by omega),if_neg (by omega),if_neg (by omega),if_pos h]
theorem pT {x:XS} (h:aO x.i.form=7):fy x=kF x (-1) (aL x) (eT (bS x)) 1:=by unfold fy; rw[if_neg (by omega),if_neg (by omega),if_neg (by omega),if_neg (by omega),if_neg (by omega),if_neg (by omega),if_pos h]
theorem yw {x:XS} (h:aO x.i.form=8):fy x=kF x (-1) (aL x) (bS x) 0:=by unfold fy; rw[if_neg (by omega),if_neg (by omega),if_neg (by omega),if_neg (by omega),if_neg (by omega),if_neg (by omega),if_neg (by omega),if_pos h]
theorem Eu {x:XS} (h:aO x.i.form=0):fy x=x:=by unfold fy; rw[if_neg (by omega),if_neg (by omega),if_neg (by omega),if_neg (by omega),if_neg (by omega),if_neg (by omega),if_neg (by omega),if_neg (by omega)]
theorem Pg (m:MS) (x:XS) (hx:nn x):Spec gT 71 [.ptr 3 0] (iN m x) [] fun y S'=>y = .bool (aO x.i.form≠0)/\S'=iN m (fy x):=by
 refine Spec.lJ (Spec.enter aA P71 100 Tryz.func71 rfl (by kernel_rfl) ?_)
 refine (AR m x hx).e ?_
 refine (wu m x hx).e ?_
 refine⟨fun h4=>?_,fun h4=>?_⟩
 ·have hc:aO x.i.form=1:=by rw[show x.i.form=4 from h4]; rfl
  rw[pR hc]
  refine (c_ m x x.i.rd (aL x) (bS x) 0 hx.rd.2 (bJ hx) (cr hx) (by decide)).e ?_
  exact bq (show aO x.i.form≠0 by omega) (ak rfl)
 refine⟨fun h6=>?_,fun h6=>?_⟩
 ·have hc:aO x.i.form=1:=by rw[show x.i.form=6 from h6]; rfl
  rw[pR hc]
  refine (c_ m x x.i.rd (aL x) (bS x) 0 hx.rd.2 (bJ hx) (cr hx) (by decide)).e ?_
  exact bq (show aO x.i.form≠0 by omega) (ak rfl)
 refine⟨fun dd=>?_,fun dd=>?_⟩
 ·have hc:aO x.i.form=1:=by rw[show x.i.form=10 from dd]; rfl
  rw[pR hc]
  refine (c_ m x x.i.rd (aL x) (bS x) 0 hx.rd.2 (bJ hx) (cr hx) (by decide)).e ?_
  exact bq (show aO x.i.form≠0 by omega) (ak rfl)
 refine⟨fun h55=>?_,fun h55=>?_⟩
 ·have hc:aO x.i.form=1:=by rw[show x.i.form=55 from h55]; rfl
  rw[pR hc]
  refine (c_ m x x.i.rd (aL x) (bS x) 0 hx.rd.2 (bJ hx) (cr hx) (by decide)).e ?_
  exact bq (show aO x.i.form≠0 by omega) (ak rfl)
 refine⟨fun h71=>?_,fun h71=>?_⟩
 ·have hc:aO x.i.form=1:=by rw[show x.i.form=71 from h71]; rfl
  rw[pR hc]
  refine (c_ m x x.i.rd (aL x) (bS x) 0 hx.rd.2 (bJ hx) (cr hx) (by decide)).e ?_
  exact bq (show aO x.i.form≠0 by omega) (ak rfl)
 refine⟨fun h5=>?_,fun h5=>?_⟩
 ·have hc:aO x.i.form=2:=by rw[show x.i.form=5 from h5]; rfl
  rw[pS hc]
  refine (c_ m x x.i.rd (aL x) (eT (bS x)) 1 hx.rd.2 (bJ hx) (dF (cr hx)) (by decide)).e ?_
  exact bq (show aO x.i.form≠0 by omega) (ak rfl)
 refine⟨fun h7=>?_,fun h7=>?_⟩
 ·have hc:aO x.i.form=2:=by rw[show x.i.form=7 from h7]; rfl
  rw[pS hc]
  refine (c_ m x x.i.rd (aL x) (eT (bS x)) 1 hx.rd.2 (bJ hx) (dF (cr hx)) (by decide)).e ?_
  exact bq (show aO x.i.form≠0 by omega) (ak rfl)
 refine⟨fun h11=>?_,fun h11=>?_⟩
 ·have hc:aO x.i.form=2:=by rw[show x.i.form=11 from h11]; rfl
  rw[pS hc]
  refine (c_ m x x.i.rd (aL x) (eT (bS x)) 1 hx.rd.2 (bJ hx) (dF (cr hx)) (by decide)).e ?_
  exact bq (show aO x.i.form≠0 by omega) (ak rfl)
 refine⟨fun h58=>?_,fun h58=>?_⟩
 ·have hc:aO x.i.form=2:=by rw[show x.i.form=58 from h58]; rfl
  rw[pS hc]
  refine (c_ m x x.i.rd (aL x) (eT (bS x)) 1 hx.rd.2 (bJ hx) (dF (cr hx)) (by decide)).e ?_
  exact bq (show aO x.i.form≠0 by omega) (ak rfl)
 refine⟨fun h74=>?_,fun h74=>?_⟩
 ·have hc:aO x.i.form=2:=by rw[show x.i.form=74 from h74]; rfl
  rw[pS hc]
  refine (c_ m x x.i.rd (aL x) (eT (bS x)) 1 hx.rd.2 (bJ hx) (dF (cr hx)) (by decide)).e ?_
  exact bq (show aO x.i.form≠0 by omega) (ak rfl)
 refine⟨fun YR=>?_,fun YR=>?_⟩
 ·have hc:aO x.i.form=3:=by rw[show x.i.form=17 from YR]; rfl
  rw[yu hc]
  refine (c_ m x x.i.rd (aL x) (bS x) x.s.C hx.rd.2 (bJ hx) (cr hx) hx.c.1).e ?_
  exact bq (show aO x.i.form≠0 by omega) (ak rfl)
 refine⟨fun h56=>?_,fun h56=>?_⟩
 ·have hc:aO x.i.form=3:=by rw[show x.i.form=56 from h56]; rfl
  rw[yu hc]
  refine (c_ m x x.i.rd (aL x) (bS x) x.s.C hx.rd.2 (bJ hx) (cr hx) hx.c.1).e ?_
  exact bq (show aO x.i.form≠0 by omega) (ak rfl)
 refine⟨fun h72=>?_,fun h72=>?_⟩
 ·have hc:aO x.i.form=3:=by rw[show x.i.form=72 from h72]; rfl
  rw[yu hc]
  refine (c_ m x x.i.rd (aL x) (bS x) x.s.C hx.rd.2 (bJ hx) (cr hx) hx.c.1).e ?_
  exact bq (show aO x.i.form≠0 by omega) (ak rfl)
 refine⟨fun h18=>?_,fun h18=>?_⟩
 ·have hc:aO x.i.form=4:=by rw[show x.i.form=18 from h18]; rfl
  rw[yv hc]
  refine (c_ m x x.i.rd (aL x) (eT (bS x)) x.s.C hx.rd.2 (bJ hx) (dF (cr hx)) hx.c.1).e ?_
  exact bq (show aO x.i.form≠0 by omega) (ak rfl)
 refine⟨fun h57=>?_,fun h57=>?_⟩
 ·have hc:aO x.i.form=4:=by rw[show x.i.form=57 from h57]; rfl
  rw[yv hc]
  refine (c_ m x x.i.rd (aL x) (eT (bS x)) x.s.C hx.rd.2 (bJ hx) (dF (cr hx)) hx.c.1).e ?_
  exact bq (show aO x.i.form≠0 by omega) (ak rfl)
 refine⟨fun h73=>?_,fun h73=>?_⟩
 ·have hc:aO x.i.form=4:=by rw[show x.i.form=73 from h73]; rfl
  rw[yv hc]
  refine (c_ m x x.i.rd (aL x) (eT (bS x)) x.s.C hx.rd.2 (bJ hx) (dF (cr hx)) hx.c.1).e ?_
  exact bq (show aO x.i.form≠0 by omega) (ak rfl)
 refine⟨fun h21=>?_,fun h21=>?_⟩
 ·have hc:aO x.i.form=5:=by rw[show x.i.form=21 from h21]; rfl
  rw[Pf hc]
  refine (c_ m x x.i.rd 0 (eT (bS x)) 1 hx.rd.2 (by unfold bQ; omega) (dF (cr hx)) (by decide)).e ?_
  exact bq (show aO x.i.form≠0 by omega) (ak rfl)
 refine⟨fun h59=>?_,fun h59=>?_⟩
 ·have hc:aO x.i.form=6:=by rw[show x.i.form=59 from h59]; rfl
  rw[Et hc]
  refine (c_ m x x.i.rd (bS x) (eT (aL x)) 1 hx.rd.2 (cr hx) (dF (bJ hx)) (by decide)).e ?_
  exact bq (show aO x.i.form≠0 by omega) (ak rfl)
 refine⟨fun h75=>?_,fun h75=>?_⟩
 ·have hc:aO x.i.form=6:=by rw[show x.i.form=75 from h75]; rfl
  rw[Et hc]
  refine (c_ m x x.i.rd (bS x) (eT (aL x)) 1 hx.rd.2 (cr hx) (dF (bJ hx)) (by decide)).e ?_
  exact bq (show aO x.i.form≠0 by omega) (ak rfl)
 refine⟨fun h9=>?_,fun h9=>?_⟩
 ·have hc:aO x.i.form=7:=by rw[show x.i.form=9 from h9]; rfl
  rw[pT hc]
  refine (c_ m x (-1) (aL x) (eT (bS x)) 1 (by decide) (bJ hx) (dF (cr hx)) (by decide)).e ?_
  exact bq (show aO x.i.form≠0 by omega) (ak rfl)
 refine⟨fun YG=>?_,fun YG=>?_⟩
 ·have hc:aO x.i.form=7:=by rw[show x.i.form=22 from YG]; rfl
  rw[pT hc]
  refine (c_ m x (-1) (aL x) (eT (bS x)) 1 (by decide) (bJ hx) (dF (cr hx)) (by decide)).e ?_
  exact bq (show aO x.i.form≠0 by omega) (ak rfl)
 refine⟨fun h29=>?_,fun h29=>?_⟩
 ·have hc:aO x.i.form=7:=by rw[show x.i.form=29 from h29]; rfl
  rw[pT hc]
  refine (c_ m x (-1) (aL x) (eT (bS x)) 1 (by decide) (bJ hx) (dF (cr hx)) (by decide)).e ?_
  exact bq (show aO x.i.form≠0 by omega) (ak rfl)
 refine⟨fun h65=>?_,fun h65=>?_⟩
 ·have hc:aO x.i.form=7:=by rw[show x.i.form=65 from h65]; rfl
  rw[pT hc]
  refine (c_ m x (-1) (aL x) (eT (bS x)) 1 (by decide) (bJ hx) (dF (cr hx)) (by decide)).e ?_
  exact bq (show aO x.i.form≠0 by omega) (ak rfl)
 refine⟨fun h81=>?_,fun h81=>?_⟩
 ·have hc:aO x.i.form=7:=by rw[show x.i.form=81 from h81]; rfl
  rw[pT hc]
  refine (c_ m x (-1) (aL x) (eT (bS x)) 1 (by decide) (bJ hx) (dF (cr hx)) (by decide)).e ?_
  exact bq (show aO x.i.form≠0 by omega) (ak rfl)
 refine⟨fun h23=>?_,fun h23=>?_⟩
 ·have hc:aO x.i.form=8:=by rw[show x.i.form=23 from h23]; rfl
  rw[yw hc]
  refine (c_ m x (-1) (aL x) (bS x) 0 (by decide) (bJ hx) (cr hx) (by decide)).e ?_
  exact bq (show aO x.i.form≠0 by omega) (ak rfl)
 refine⟨fun h64=>?_,fun h64=>?_⟩
 ·have hc:aO x.i.form=8:=by rw[show x.i.form=64 from h64]; rfl
  rw[yw hc]
  refine (c_ m x (-1) (aL x) (bS x) 0 (by decide) (bJ hx) (cr hx) (by decide)).e ?_
  exact bq (show aO x.i.form≠0 by omega) (ak rfl)
 refine⟨fun h80=>?_,fun h80=>?_⟩
 ·have hc:aO x.i.form=8:=by rw[show x.i.form=80 from h80]; rfl
  rw[yw hc]
  refine (c_ m x (-1) (aL x) (bS x) 0 (by decide) (bJ hx) (cr hx) (by decide)).e ?_
  exact bq (show aO x.i.form≠0 by omega) (ak rfl)
 ·have hc:aO x.i.form=0:=by unfold aO; rw[if_neg (by omega),if_neg (by omega),if_neg (by omega),if_neg (by omega),if_neg (by omega),if_neg (by omega),if_neg (by omega),if_neg (by omega)]
  rw[Eu hc]
  exact bq (show ¬ aO x.i.form≠0 from fun h=>h hc) (ak rfl)
def aP (f:Int):Int :=
 if f=8\/f=60\/f=76 then 1 else if f=27\/f=61\/f=77 then 2 else if f=12\/f=50\/f=66 then 3 else if f=24\/f=52\/f=68 then 4 else if f=13\/f=54\/f=70 then 5 else if f=26\/f=51\/f=67 then 6 else if f=53\/f=69 then 7 else if f=20\/f=62\/f=78 then 8 else if f=63\/f=79 then 9 else 0
def cK (x:XS):XS :=
 if aP x.i.form=1 then dI x x.i.rd (bS x) (dH x) else if aP x.i.form=2 then dI x x.i.rd (eT (bS x)) (dH x) else if aP x.i.form=3 then dI x x.i.rd (bits .and .u32 (aL x) (bS x)) (dH x) else if aP x.i.form=4 then dI x x.i.rd (bits .or .u32 (aL x) (bS x)) (dH x) else if aP x.i.form=5 then dI x x.i.rd (bits .xor .u32 (aL x) (bS x)) (dH x) else if aP x.i.form=6 then dI x x.i.rd (bits .andNot .u32 (aL x) (bS x)) (dH x) else if aP x.i.form=7 then dI x x.i.rd (bits .or .u32 (aL x) (eT (bS x))) (dH x) else if aP x.i.form=8 then dI x (-1) (bits .and .u32 (aL x) (bS x)) (dH x) else if aP x.i.form=9 then dI x (-1) (bits .xor .u32 (aL x) (bS x)) (dH x) else x
theorem qI {x:XS} (h:aP x.i.form=1):cK x=dI x x.i.rd (bS x) (dH x):=by unfold cK; rw[if_pos h]
theorem qJ {x:XS} (h:aP x.i.form=2):cK x=dI x x.i.rd (eT (bS x)) (dH x):=by unfold cK; rw[if_neg (by omega),if_pos h]
theorem qK {x:XS} (h:aP x.i.form=3):cK x=dI x x.i.rd (bits .and .u32 (aL x) (bS x)) (dH x):=by unfold cK; rw[if_neg (by omega),if_neg (by omega),if_pos h]
theorem qL {x:XS} (h:aP x.i.form=4):cK x=dI x x.i.rd (bits .or .u32 (aL x) (bS x)) (dH x):=by unfold cK; rw[if_neg (by omega),if_neg (by omega),if_neg (by omega),if_pos h]
theorem qM {x:XS} (h:aP x.i.form=5):cK x=dI x x.i.rd (bits .xor .u32 (aL x) (bS x)) (dH x):=by unfold cK; rw[if_neg (by omega),if_neg (by omega),if_neg (by omega),if_neg (by omega),if_pos h]
theorem qN {x:XS} (h:aP x.i.form=6):cK x=dI x x.i.rd (bits .andNot .u32 (aL x) (bS x)) (dH x):=by unfold cK; rw[if_neg (by omega),if_neg (by omega),if_neg (by omega),if_neg (by omega),if_neg (by omega),if_pos h]
theorem wv {x:XS} (h:aP x.i.form=7):cK x=dI x x.i.rd (bits .or .u32 (aL x) (eT (bS x))) (dH x):=by unfold cK; rw[if_neg (by omega),if_neg (by omega),if_neg (by omega),if_neg (by omega),if_neg (by omega),if_neg (by omega),if_pos h]
theorem qO {x:XS} (h:aP x.i.form=8):cK x=dI x (-1) (bits .and .u32 (aL x) (bS x)) (dH x):=by unfold cK; rw[if_neg (by omega),if_neg (by omega),if_neg (by omega),if_neg (by omega),if_neg (by omega),if_neg (by omega),if_neg (by omega),if_pos h]
theorem wx {x:XS} (h:aP x.i.form=9):cK x=dI x (-1) (bits .xor .u32 (aL x) (bS x)) (dH x):=by unfold cK; rw[if_neg (by omega),if_neg (by omega),if_neg (by omega),if_neg (by omega),if_neg (by omega),if_neg (by omega),if_neg (by omega),if_neg (by omega),if_pos h]
theorem wy {x:XS} (h:aP x.i.form=0):cK x=x:=by unfold cK; rw[if_neg (by omega),if_neg (by omega),if_neg (by omega),if_neg (by omega),if_neg (by omega),if_neg (by omega),if_neg (by omega),if_neg (by omega),if_neg (by omega)]
theorem Gs (m:MS) (x:XS) (hx:nn x):Spec gT 72 [.ptr 3 0] (iN m x) [] fun y S'=>y = .bool (aP x.i.form≠0)/\S'=iN m (cK x):=by
 refine Spec.lJ (Spec.enter aA P72 100 Tryz.func72 rfl (by kernel_rfl) ?_)
 refine (AR m x hx).e ?_
 refine (wu m x hx).e ?_
 refine⟨fun h8=>?_,fun h8=>?_⟩
 ·have hc:aP x.i.form=1:=by rw[show x.i.form=8 from h8]; rfl
  rw[qI hc]
  refine (cg m x x.i.rd (bS x) (dH x) hx.rd.2).e ?_
  exact bq (show aP x.i.form≠0 by omega) (ak rfl)
 refine⟨fun h60=>?_,fun h60=>?_⟩
 ·have hc:aP x.i.form=1:=by rw[show x.i.form=60 from h60]; rfl
  rw[qI hc]
  refine (cg m x x.i.rd (bS x) (dH x) hx.rd.2).e ?_
  exact bq (show aP x.i.form≠0 by omega) (ak rfl)
 refine⟨fun h76=>?_,fun h76=>?_⟩
 ·have hc:aP x.i.form=1:=by rw[show x.i.form=76 from h76]; rfl
  rw[qI hc]
  refine (cg m x x.i.rd (bS x) (dH x) hx.rd.2).e ?_
  exact bq (show aP x.i.form≠0 by omega) (ak rfl)
 refine⟨fun h27=>?_,fun h27=>?_⟩
 ·have hc:aP x.i.form=2:=by rw[show x.i.form=27 from h27]; rfl
  rw[qJ hc]
  refine (cg m x x.i.rd (eT (bS x)) (dH x) hx.rd.2).e ?_
  exact bq (show aP x.i.form≠0 by omega) (ak rfl)
 refine⟨fun h61=>?_,fun h61=>?_⟩
 ·have hc:aP x.i.form=2:=by rw[show x.i.form=61 from h61]; rfl
  rw[qJ hc]
  refine (cg m x x.i.rd (eT (bS x)) (dH x) hx.rd.2).e ?_
  exact bq (show aP x.i.form≠0 by omega) (ak rfl)
 refine⟨fun h77=>?_,fun h77=>?_⟩
 ·have hc:aP x.i.form=2:=by rw[show x.i.form=77 from h77]; rfl
  rw[qJ hc]
  refine (cg m x x.i.rd (eT (bS x)) (dH x) hx.rd.2).e ?_
  exact bq (show aP x.i.form≠0 by omega) (ak rfl)
 refine⟨fun h12=>?_,fun h12=>?_⟩
 ·have hc:aP x.i.form=3:=by rw[show x.i.form=12 from h12]; rfl
  rw[qK hc]
  refine (cg m x x.i.rd (bits .and .u32 (aL x) (bS x)) (dH x) hx.rd.2).e ?_
  exact bq (show aP x.i.form≠0 by omega) (ak rfl)
 refine⟨fun h50=>?_,fun h50=>?_⟩
 ·have hc:aP x.i.form=3:=by rw[show x.i.form=50 from h50]; rfl
  rw[qK hc]
  refine (cg m x x.i.rd (bits .and .u32 (aL x) (bS x)) (dH x) hx.rd.2).e ?_
  exact bq (show aP x.i.form≠0 by omega) (ak rfl)
 refine⟨fun h66=>?_,fun h66=>?_⟩
 ·have hc:aP x.i.form=3:=by rw[show x.i.form=66 from h66]; rfl
  rw[qK hc]
  refine (cg m x x.i.rd (bits .and .u32 (aL x) (bS x)) (dH x) hx.rd.2).e ?_
  exact bq (show aP x.i.form≠0 by omega) (ak rfl)
 refine⟨fun h24=>?_,fun h24=>?_⟩
 ·have hc:aP x.i.form=4:=by rw[show x.i.form=24 from h24]; rfl
  rw[qL hc]
  refine (cg m x x.i.rd (bits .or .u32 (aL x) (bS x)) (dH x) hx.rd.2).e ?_
  exact bq (show aP x.i.form≠0 by omega) (ak rfl)
 refine⟨fun h52=>?_,fun h52=>?_⟩
 ·have hc:aP x.i.form=4:=by rw[show x.i.form=52 from h52]; rfl
  rw[qL hc]
  refine (cg m x x.i.rd (bits .or .u32 (aL x) (bS x)) (dH x) hx.rd.2).e ?_
  exact bq (show aP x.i.form≠0 by omega) (ak rfl)
 refine⟨fun h68=>?_,fun h68=>?_⟩
 ·have hc:aP x.i.form=4:=by rw[show x.i.form=68 from h68]; rfl
  rw[qL hc]
  refine (cg m x x.i.rd (bits .or .u32 (aL x) (bS x)) (dH x) hx.rd.2).e ?_
  exact bq (show aP x.i.form≠0 by omega) (ak rfl)
 refine⟨fun h13=>?_,fun h13=>?_⟩
 ·have hc:aP x.i.form=5:=by rw[show x.i.form=13 from h13]; rfl
  rw[qM hc]
  refine (cg m x x.i.rd (bits .xor .u32 (aL x) (bS x)) (dH x) hx.rd.2).e ?_
  exact bq (show aP x.i.form≠0 by omega) (ak rfl)
 refine⟨fun h54=>?_,fun h54=>?_⟩
 ·have hc:aP x.i.form=5:=by rw[show x.i.form=54 from h54]; rfl
  rw[qM hc]
  refine (cg m x x.i.rd (bits .xor .u32 (aL x) (bS x)) (dH x) hx.rd.2).e ?_
  exact bq (show aP x.i.form≠0 by omega) (ak rfl)
 refine⟨fun h70=>?_,fun h70=>?_⟩
 ·have hc:aP x.i.form=5:=by rw[show x.i.form=70 from h70]; rfl
  rw[qM hc]
  refine (cg m x x.i.rd (bits .xor .u32 (aL x) (bS x)) (dH x) hx.rd.2).e ?_
  exact bq (show aP x.i.form≠0 by omega) (ak rfl)
 refine⟨fun h26=>?_,fun h26=>?_⟩
 ·have hc:aP x.i.form=6:=by rw[show x.i.form=26 from h26]; rfl
  rw[qN hc]
  refine (cg m x x.i.rd (bits .andNot .u32 (aL x) (bS x)) (dH x) hx.rd.2).e ?_
  exact bq (show aP x.i.form≠0 by omega) (ak rfl)
 refine⟨fun h51=>?_,fun h51=>?_⟩
 ·have hc:aP x.i.form=6:=by rw[show x.i.form=51 from h51]; rfl
  rw[qN hc]
  refine (cg m x x.i.rd (bits .andNot .u32 (aL x) (bS x)) (dH x) hx.rd.2).e ?_
  exact bq (show aP x.i.form≠0 by omega) (ak rfl)
 refine⟨fun h67=>?_,fun h67=>?_⟩
 ·have hc:aP x.i.form=6:=by rw[show x.i.form=67 from h67]; rfl
  rw[qN hc]
  refine (cg m x x.i.rd (bits .andNot .u32 (aL x) (bS x)) (dH x) hx.rd.2).e ?_
  exact bq (show aP x.i.form≠0 by omega) (ak rfl)
 refine⟨fun h53=>?_,fun h53=>?_⟩
 ·have hc:aP x.i.form=7:=by rw[show x.i.form=53 from h53]; rfl
  rw[wv hc]
  refine (cg m x x.i.rd (bits .or .u32 (aL x) (eT (bS x))) (dH x) hx.rd.2).e ?_
  exact bq (show aP x.i.form≠0 by omega) (ak rfl)
 refine⟨fun h69=>?_,fun h69=>?_⟩
 ·have hc:aP x.i.form=7:=by rw[show x.i.form=69 from h69]; rfl
  rw[wv hc]
  refine (cg m x x.i.rd (bits .or .u32 (aL x) (eT (bS x))) (dH x) hx.rd.2).e ?_
  exact bq (show aP x.i.form≠0 by omega) (ak rfl)
 refine⟨fun h20=>?_,fun h20=>?_⟩
 ·have hc:aP x.i.form=8:=by rw[show x.i.form=20 from h20]; rfl
  rw[qO hc]
  refine (cg m x (-1) (bits .and .u32 (aL x) (bS x)) (dH x) (by decide)).e ?_
  exact bq (show aP x.i.form≠0 by omega) (ak rfl)
 refine⟨fun h62=>?_,fun h62=>?_⟩
 ·have hc:aP x.i.form=8:=by rw[show x.i.form=62 from h62]; rfl
  rw[qO hc]
  refine (cg m x (-1) (bits .and .u32 (aL x) (bS x)) (dH x) (by decide)).e ?_
  exact bq (show aP x.i.form≠0 by omega) (ak rfl)
 refine⟨fun h78=>?_,fun h78=>?_⟩
 ·have hc:aP x.i.form=8:=by rw[show x.i.form=78 from h78]; rfl
  rw[qO hc]
  refine (cg m x (-1) (bits .and .u32 (aL x) (bS x)) (dH x) (by decide)).e ?_
  exact bq (show aP x.i.form≠0 by omega) (ak rfl)
 refine⟨fun h63=>?_,fun h63=>?_⟩
 ·have hc:aP x.i.form=9:=by rw[show x.i.form=63 from h63]; rfl
  rw[wx hc]
  refine (cg m x (-1) (bits .xor .u32 (aL x) (bS x)) (dH x) (by decide)).e ?_
  exact bq (show aP x.i.form≠0 by omega) (ak rfl)
 refine⟨fun h79=>?_,fun h79=>?_⟩
 ·have hc:aP x.i.form=9:=by rw[show x.i.form=79 from h79]; rfl
  rw[wx hc]
  refine (cg m x (-1) (bits .xor .u32 (aL x) (bS x)) (dH x) (by decide)).e ?_
  exact bq (show aP x.i.form≠0 by omega) (ak rfl)
 ·have hc:aP x.i.form=0:=by unfold aP; rw[if_neg (by omega),if_neg (by omega),if_neg (by omega),if_neg (by omega),if_neg (by omega),if_neg (by omega),if_neg (by omega),if_neg (by omega),if_neg (by omega)]
  rw[wy hc]
  exact bq (show ¬ aP x.i.form≠0 from fun h=>h hc) (ak rfl)
def yx (x:XS):Int:=bits .and .u32 (aw x x.i.rm) 255
theorem fA {x:XS} (h:nn x):0<=yx x/\yx x<=255:=by
 unfold yx
 have b:=bM h x.i.rm
 rw[Rm.qB _ b.1 b.2]; omega
def cZ (f:Int):Int :=
 if f=1\/f=2\/f=3 then 1 else if f=14\/f=15\/f=16 then 2 else if f=19 then 3 else if f=88\/f=89\/f=90\/f=91 then 4 else 0
def eJ (x:XS):XS :=
 if cZ x.i.form=1 then j9 x (x.i.form - 1) (aw x x.i.rm) x.i.au else if cZ x.i.form=2 then j9 x (x.i.form - 14) (aw x x.i.rd) (yx x) else if cZ x.i.form=3 then j9 x 3 (aw x x.i.rd) (yx x) else if cZ x.i.form=4 then j9 x (x.i.form - 88) (aw x x.i.rn) (yx x) else x
theorem qP {x:XS} (h:cZ x.i.form=1):eJ x=j9 x (x.i.form - 1) (aw x x.i.rm) x.i.au:=by unfold eJ; rw[if_pos h]
theorem qQ {x:XS} (h:cZ x.i.form=2):eJ x=j9 x (x.i.form - 14) (aw x x.i.rd) (yx x):=by unfold eJ; rw[if_neg (by omega),if_pos h]
theorem Gt {x:XS} (h:cZ x.i.form=3):eJ x=j9 x 3 (aw x x.i.rd) (yx x):=by unfold eJ; rw[if_neg (by omega),if_neg (by omega),if_pos h]
theorem mV {x:XS} (h:cZ x.i.form=4):eJ x=j9 x (x.i.form - 88) (aw x x.i.rn) (yx x):=by unfold eJ; rw[if_neg (by omega),if_neg (by omega),if_neg (by omega),if_pos h]
theorem wz {x:XS} (h:cZ x.i.form=0):eJ x=x:=by unfold eJ; rw[if_neg (by omega),if_neg (by omega),if_neg (by omega),if_neg (by omega)]
theorem Gu (m:MS) (x:XS) (hx:nn x):Spec gT 73 [.ptr 3 0] (iN m x) [] fun y S'=>y = .bool (cZ x.i.form≠0)/\S'=iN m (eJ x):=by
 refine Spec.lJ (Spec.enter aA P73 100 Tryz.func73 rfl (by kernel_rfl) ?_)
 have yP:=fA hx
 refine (bG m x x.i.rm hx.rm.1 hx.rm.2).e ?_
 refine li ?_ (show _<=yx x/\yx x<=_ by omega)
 refine⟨fun h1=>?_,fun h1=>?_⟩
 ·have hc:cZ x.i.form=1:=by rw[show x.i.form=1 from h1]; rfl
  rw[qP hc]
  refine li ?_ (show _<=x.i.form - 1/\x.i.form - 1<=_ by omega)
  refine (bG m x x.i.rm hx.rm.1 hx.rm.2).e ?_
  have hl:=hx.low (by omega)
  refine (eu m x (x.i.form - 1) (aw x x.i.rm) x.i.au hx (by omega) (by omega) hl.1 (by omega) (bM hx _)).e ?_
  exact bq (show cZ x.i.form≠0 by omega) (ak rfl)
 refine⟨fun h2=>?_,fun h2=>?_⟩
 ·have hc:cZ x.i.form=1:=by rw[show x.i.form=2 from h2]; rfl
  rw[qP hc]
  refine li ?_ (show _<=x.i.form - 1/\x.i.form - 1<=_ by omega)
  refine (bG m x x.i.rm hx.rm.1 hx.rm.2).e ?_
  have hl:=hx.low (by omega)
  refine (eu m x (x.i.form - 1) (aw x x.i.rm) x.i.au hx (by omega) (by omega) hl.1 (by omega) (bM hx _)).e ?_
  exact bq (show cZ x.i.form≠0 by omega) (ak rfl)
 refine⟨fun h3=>?_,fun h3=>?_⟩
 ·have hc:cZ x.i.form=1:=by rw[show x.i.form=3 from h3]; rfl
  rw[qP hc]
  refine li ?_ (show _<=x.i.form - 1/\x.i.form - 1<=_ by omega)
  refine (bG m x x.i.rm hx.rm.1 hx.rm.2).e ?_
  have hl:=hx.low (by omega)
  refine (eu m x (x.i.form - 1) (aw x x.i.rm) x.i.au hx (by omega) (by omega) hl.1 (by omega) (bM hx _)).e ?_
  exact bq (show cZ x.i.form≠0 by omega) (ak rfl)
 refine⟨fun h14=>?_,fun h14=>?_⟩
 ·have hc:cZ x.i.form=2:=by rw[show x.i.form=14 from h14]; rfl
  rw[qQ hc]
  refine li ?_ (show _<=x.i.form - 14/\x.i.form - 14<=_ by omega)
  refine (bG m x x.i.rd hx.rd.1 hx.rd.2).e ?_
  refine (eu m x (x.i.form - 14) (aw x x.i.rd) (yx x) hx (by omega) (by omega) (fA hx).1 (fA hx).2 (bM hx _)).e ?_
  exact bq (show cZ x.i.form≠0 by omega) (ak rfl)
 refine⟨fun YU=>?_,fun YU=>?_⟩
 ·have hc:cZ x.i.form=2:=by rw[show x.i.form=15 from YU]; rfl
  rw[qQ hc]
  refine li ?_ (show _<=x.i.form - 14/\x.i.form - 14<=_ by omega)
  refine (bG m x x.i.rd hx.rd.1 hx.rd.2).e ?_
  refine (eu m x (x.i.form - 14) (aw x x.i.rd) (yx x) hx (by omega) (by omega) (fA hx).1 (fA hx).2 (bM hx _)).e ?_
  exact bq (show cZ x.i.form≠0 by omega) (ak rfl)
 refine⟨fun h16=>?_,fun h16=>?_⟩
 ·have hc:cZ x.i.form=2:=by rw[show x.i.form=16 from h16]; rfl
  rw[qQ hc]
  refine li ?_ (show _<=x.i.form - 14/\x.i.form - 14<=_ by omega)
  refine (bG m x x.i.rd hx.rd.1 hx.rd.2).e ?_
  refine (eu m x (x.i.form - 14) (aw x x.i.rd) (yx x) hx (by omega) (by omega) (fA hx).1 (fA hx).2 (bM hx _)).e ?_
  exact bq (show cZ x.i.form≠0 by omega) (ak rfl)
 refine⟨fun h19=>?_,fun h19=>?_⟩
 ·have hc:cZ x.i.form=3:=by rw[show x.i.form=19 from h19]; rfl
  rw[Gt hc]
  refine (bG m x x.i.rd hx.rd.1 hx.rd.2).e ?_
  refine (eu m x 3 (aw x x.i.rd) (yx x) hx (by omega) (by omega) (fA hx).1 (fA hx).2 (bM hx _)).e ?_
  exact bq (show cZ x.i.form≠0 by omega) (ak rfl)
 refine⟨fun h88=>?_,fun h88=>?_⟩
 ·have hc:cZ x.i.form=4:=by rw[show x.i.form=88 from h88]; rfl
  rw[mV hc]
  refine li ?_ (show _<=x.i.form - 88/\x.i.form - 88<=_ by omega)
  refine (bG m x x.i.rn hx.rn.1 hx.rn.2).e ?_
  refine (eu m x (x.i.form - 88) (aw x x.i.rn) (yx x) hx (by omega) (by omega) (fA hx).1 (fA hx).2 (bM hx _)).e ?_
  exact bq (show cZ x.i.form≠0 by omega) (ak rfl)
 refine⟨fun h89=>?_,fun h89=>?_⟩
 ·have hc:cZ x.i.form=4:=by rw[show x.i.form=89 from h89]; rfl
  rw[mV hc]
  refine li ?_ (show _<=x.i.form - 88/\x.i.form - 88<=_ by omega)
  refine (bG m x x.i.rn hx.rn.1 hx.rn.2).e ?_
  refine (eu m x (x.i.form - 88) (aw x x.i.rn) (yx x) hx (by omega) (by omega) (fA hx).1 (fA hx).2 (bM hx _)).e ?_
  exact bq (show cZ x.i.form≠0 by omega) (ak rfl)
 refine⟨fun h90=>?_,fun h90=>?_⟩
 ·have hc:cZ x.i.form=4:=by rw[show x.i.form=90 from h90]; rfl
  rw[mV hc]
  refine li ?_ (show _<=x.i.form - 88/\x.i.form - 88<=_ by omega)
  refine (bG m x x.i.rn hx.rn.1 hx.rn.2).e ?_
  refine (eu m x (x.i.form - 88) (aw x x.i.rn) (yx x) hx (by omega) (by omega) (fA hx).1 (fA hx).2 (bM hx _)).e ?_
  exact bq (show cZ x.i.form≠0 by omega) (ak rfl)
 refine⟨fun h91=>?_,fun h91=>?_⟩
 ·have hc:cZ x.i.form=4:=by rw[show x.i.form=91 from h91]; rfl
  rw[mV hc]
  refine li ?_ (show _<=x.i.form - 88/\x.i.form - 88<=_ by omega)
  refine (bG m x x.i.rn hx.rn.1 hx.rn.2).e ?_
  refine (eu m x (x.i.form - 88) (aw x x.i.rn) (yx x) hx (by omega) (by omega) (fA hx).1 (fA hx).2 (bM hx _)).e ?_
  exact bq (show cZ x.i.form≠0 by omega) (ak rfl)
 ·have hc:cZ x.i.form=0:=by unfold cZ; rw[if_neg (by omega),if_neg (by omega),if_neg (by omega),if_neg (by omega)]
  rw[wz hc]
  exact bq (show ¬ cZ x.i.form≠0 from fun h=>h hc) (ak rfl)
end Go.Proofs.YtbnoodjnpooocaaGreatDoor.Pw

/- What this claim is proved with: no condition. -/
import Derived.Test.YtnbngokbamifbaaGreatDoorNr13
import Derived.Test.YtnbngokbamifbaaGreatDoorNr14
import Derived.Test.YtnbngokbamifbaaGreatDoorNr19
import Derived.Test.YtnbngokbamifbaaGreatDoorNr20
import Derived.Test.YtnbngokbamifbaaGreatDoorNr21
import Derived.Test.YtnbngokbamifbaaGreatDoorNr22
import Derived.Test.YtnbngokbamifbaaGreatDoorNr9
import Derived.Test.YtnbngokbamifbaaGreatDoorRows
import Derived.ProofKit
import Derived.LaidMore
import Derived.OpenShut
import Derived.Stop.Joined
import Derived.Lib.LaidTab
import Derived.Test.YtnbngokbamifbaaGreatDoorNr11
set_option maxRecDepth 100000
set_option maxHeartbeats 16000000
set_option linter.unusedVariables false
set_option linter.unusedSimpArgs false
namespace Go.Proofs.YtnbngokbamifbaaGreatDoor.Pw
open Go Go.RowKit
theorem zk (i:IN) (s:Int) (h:ae i.form=s) (hf:1<=i.form/\i.form<=100) (hi:fe i.an) (hs:25<=s/\s<=34):ah gT 180 [bX i,.int .i64 s] (.bool (aC i (cU s))):=by
 have f:=j3 i h hf
 have r1:=iM i.an hi
 have r2:=j1 i.an hi
 rcases (show s=25\/s=26\/s=27\/s=28\/s=29\/s=30\/s=31\/s=32\/s=33\/s=34 by omega) with rfl|rfl|rfl|rfl|rfl|rfl|rfl|rfl|rfl|rfl
 all_goals
  refine Spec.enter ar Xw 100 Tryz.func180 rfl (by kernel_rfl) ?_
  repeat' ((conv=>whnf); first|(refine (And.intro (fun _=>?_) (fun _=>?_):(_->_)/\(_->_))<;>(first|(exfalso; first|contradiction|omega)|skip))|refine Or.inl (And.intro (by first|exact ax (by omega)|exact af (by omega)|exact bV (by omega)|exact cK (by omega)) ?_)|(refine And.intro (show (_:Int)≠0 by omega) (Or.inl (And.intro (show (0:Int)<=_ by omega) (And.intro (show (0:Int) < _ by omega) ?_))))|(refine And.intro (show (_:Int)≠0 by omega) (Or.inl (And.intro (show (0:Int)<=_ by omega) (And.intro (by first|exact (show (_:Int)<=9223372036854775807 by omega)|exact (show (_:Int)<=4294967295 by omega)) (And.intro (show (0:Int) < _ by omega) ?_)))))|(refine Exists.intro [] (And.intro aT ((dK _ _ _).use (by repeat' first|exact trivial|exact rfl|exact Iff.rfl|exact Or.inl rfl|refine And.intro ?_ ?_) rfl rfl ?_)))|(refine Exists.intro [] (And.intro aT ((gN _).use (by repeat' first|exact trivial|exact rfl|exact Iff.rfl|exact Or.inl rfl|refine And.intro ?_ ?_) rfl rfl ?_)))|(refine Exists.intro [] (And.intro aT ((gO i _ ?_).use (by repeat' first|exact trivial|exact rfl|exact Iff.rfl|exact Or.inl rfl|refine And.intro ?_ ?_) rfl rfl ?_)); focus (simp; done))|(refine Exists.intro [] (And.intro aT ((fv _ _).use (by repeat' first|exact trivial|exact rfl|exact Iff.rfl|exact Or.inl rfl|refine And.intro ?_ ?_) rfl rfl ?_)))|(refine Exists.intro [] (And.intro aT ((fw _).use (by repeat' first|exact trivial|exact rfl|exact Iff.rfl|exact Or.inl rfl|refine And.intro ?_ ?_) rfl rfl ?_)))|(refine And.intro (show (_:Int)≠0 by omega) (Or.inr ?_))|(refine Exists.intro [] (And.intro aT ((Bg i _ h hf hi ?_).use (by repeat' first|exact trivial|exact rfl|exact Iff.rfl|exact Or.inl rfl|refine And.intro ?_ ?_) rfl rfl ?_)); focus (decide; done))|(refine ao ?_; exact Iff.rfl)|(refine ao ?_; (first|show ¬ aC i (cU _)|show _↔aC i (cU _)|show aC i (cU _)); simp only[aC,ij,fu,gr,gK,gL,bM,cU,Lf,jU,h,reduceIte,Int.reduceEq,Bool.false_eq_true,or_true,true_or,or_false,false_or,false_and,and_false,true_and,and_true,not_true_eq_false,not_false_eq_true,ne_eq,Wc,false_implies,true_implies,implies_true]; (try unfold lX at *); (try unfold bM at *); omega)|(intro _))
theorem U4:∀ n:Fin 101,n.val=0\/(1<=ae (n.val:Int)/\ae (n.val:Int)<=34):=by decide +kernel
theorem Ig {f:Int} (h:1<=f/\f<=100):1<=ae f/\ae f<=34:=by
 have:=(U4 ⟨f.toNat,by omega⟩).resolve_left (by show ¬ f.toNat=0; omega)
 rwa [show ((f.toNat:Nat):Int)=f by omega] at this
theorem nk (i:IN) (hi:tR i):ah gT 129 [bX i] (.bool (bQ i)):=by
 have hI:=hi i.form (by simp[lW])
 have hr:=hi i.an (by simp[lW])
 refine Spec.enter ar P129 100 Tryz.func129 rfl (by kernel_rfl) ?_
 refine (iC i.form hI).u ?_
 refine⟨fun h=>?_,fun h=>?_⟩
 ·exact ao (show ¬ bQ i from fun k=>by have h':ae i.form=0:=h; have:=Ig k.1; omega)
 have h':¬ ae i.form=0:=h
 have hf:1<=i.form/\i.form<=100:=Classical.not_not.1 fun k=>h' (by unfold ae; rw[if_neg k])
 have hb:=Ig hf
 refine⟨fun h2=>?_,fun h2=>?_⟩
 ·have uN:ae i.form < 17:=h2
  by_cases h9:ae i.form<=9
  ·refine (w4 i _ rfl hf hr (by omega)).u ?_
   exact ao Iff.rfl
  ·refine (ua i _ rfl hf hr (by omega)).u ?_
   exact ao Iff.rfl
 ·have uN:¬ ae i.form < 17:=h2
  by_cases h9:ae i.form<=24
  ·refine (zh i _ rfl hf hr (by omega)).u ?_
   exact ao Iff.rfl
  ·refine (zk i _ rfl hf hr (by omega)).u ?_
   exact ao Iff.rfl
theorem iW {f:Int} (h:1<=f/\f<=100):17<=ae f↔48<=f:=by
 have h1:((List.range 100).all fun k=>decide (17<=ae ((k+1:Nat):Int)↔48<=k+1))=true:=by decide +kernel
 have h2:=of_decide_eq_true (List.all_eq_true.1 h1 (f.toNat - 1) (List.mem_range.2 (by omega)))
 rw[show (((f.toNat - 1+1:Nat)):Int)=f by omega] at h2
 omega
theorem CW {s:Int} (h:1<=s/\s<=16):s=1\/s=2\/s=3\/s=4\/s=5\/s=6\/s=7\/s=8\/s=9\/s=10\/s=11\/s=12\/s=13\/s=14\/s=15\/s=16:=by omega
theorem CX {s:Int} (h:17<=s/\s<=34):s=17\/s=18\/s=19\/s=20\/s=21\/s=22\/s=23\/s=24\/s=25\/s=26\/s=27\/s=28\/s=29\/s=30\/s=31\/s=32\/s=33\/s=34:=by omega
theorem zl (f w:Int) (hF:1<=f/\f<=100) (hw:aP w):ah gT 157 [.int .i64 f,.int .i64 w] (bX (aW f w)):=by
 have hf:fe f:=by unfold fe; omega
 rcases Cq (jX hF) with hs|hs|hs|hs|hs|hs|hs|hs|hs|hs|hs|hs|hs|hs|hs|hs|hs|hs|hs|hs|hs|hs|hs|hs|hs|hs|hs|hs|hs|hs|hs|hs|hs|hs
 ·rw[Zp hs]; exact UR f w hs hf hw
 ·rw[Zq hs]; exact US f w hs hf hw
 ·rw[Zr hs]; exact UT f w hs hf hw
 ·rw[Zs hs]; exact UU f w hs hf hw
 ·rw[Zt hs]; exact UW f w hs hf hw
 ·rw[Zu hs]; exact UX f w hs hf hw
 ·rw[Zv hs]; exact UY f w hs hf hw
 ·rw[Zw hs]; exact UZ f w hs hf hw
 ·rw[Zx hs]; exact U0 f w hs hf hw
 ·rw[OR hs]; exact Mo f w hs hf hw
 ·rw[OS hs]; exact Mp f w hs hf hw
 ·rw[OT hs]; exact Mq f w hs hf hw
 ·rw[OU hs]; exact Mr f w hs hf hw
 ·rw[OV hs]; exact Ms f w hs hf hw
 ·rw[OW hs]; exact Mt f w hs hf hw
 ·rw[OX hs]; exact Mu f w hs hf hw
 ·rw[OY hs]; exact Mv f w hs hf hw
 ·rw[OZ hs]; exact Mw f w hs hf hw
 ·rw[O0 hs]; exact Mx f w hs hf hw
 ·rw[O1 hs]; exact My f w hs hf hw
 ·rw[O2 hs]; exact Mz f w hs hf hw
 ·rw[O3 hs]; exact MA f w hs hf hw
 ·rw[O4 hs]; exact MB f w hs hf hw
 ·rw[O5 hs]; exact MC f w hs hf hw
 ·rw[O6 hs]; exact ME f w hs hf hw
 ·rw[O7 hs]; exact MF f w hs hf hw
 ·rw[O8 hs]; exact LW f w hs hf hw
 ·rw[O9 hs]; exact LX f w hs hf hw
 ·rw[O' hs]; exact LY f w hs hf hw
 ·rw[O_ hs]; exact LZ f w hs hf hw
 ·rw[Pa hs]; exact L0 f w hs hf hw
 ·rw[Pb hs]; exact L1 f w hs hf hw
 ·rw[Pc hs]; exact L2 f w hs hf hw
 ·rw[Pd hs]; exact L3 f w hs hf hw
 
theorem w7 (f w:Int) (hF:1<=f/\f<=100) (hn:¬ 48<=f) (hw:aP w):ah gT 121 [.int .i64 f,.int .u32 w] (bX (aW f w)):=by
 have We:=iW hF
 have hb:=jX hF
 rcases CW (s:=ae f) (by omega) with hs|hs|hs|hs|hs|hs|hs|hs|hs|hs|hs|hs|hs|hs|hs|hs
 ·rw[Zp hs]; exact A9 f w hF hs hw
 ·rw[Zq hs]; exact A' f w hF hs hw
 ·rw[Zr hs]; exact A_ f w hF hs hw
 ·rw[Zs hs]; exact Ba f w hF hs hw
 ·rw[Zt hs]; exact Bb f w hF hs hw
 ·rw[Zu hs]; exact Bc f w hF hs hw
 ·rw[Zv hs]; exact Bd f w hF hs hw
 ·rw[Zw hs]; exact Be f w hF hs hw
 ·rw[Zx hs]; exact Bf f w hF hs hw
 ·rw[OR hs]; exact y_ f w hF hs hw
 ·rw[OS hs]; exact za f w hF hs hw
 ·rw[OT hs]; exact zb f w hF hs hw
 ·rw[OU hs]; exact zc f w hF hs hw
 ·rw[OV hs]; exact zd f w hF hs hw
 ·rw[OW hs]; exact ze f w hF hs hw
 ·rw[OX hs]; exact zf f w hF hs hw
 
theorem Bj (f w:Int) (hF:1<=f/\f<=100) (hn:48<=f) (hw:aP w):ah gT 122 [.int .i64 f,.int .u32 w] (bX (aW f w)):=by
 have We:=iW hF
 have hb:=jX hF
 rcases CX (s:=ae f) (by omega) with hs|hs|hs|hs|hs|hs|hs|hs|hs|hs|hs|hs|hs|hs|hs|hs|hs|hs
 ·rw[OY hs]; exact El f w hF hs hw
 ·rw[OZ hs]; exact En f w hF hs hw
 ·rw[O0 hs]; exact Eo f w hF hs hw
 ·rw[O1 hs]; exact Ep f w hF hs hw
 ·rw[O2 hs]; exact Es f w hF hs hw
 ·rw[O3 hs]; exact Eu f w hF hs hw
 ·rw[O4 hs]; exact Ex f w hF hs hw
 ·rw[O5 hs]; exact Ey f w hF hs hw
 ·rw[O6 hs]; exact Ez f w hF hs hw
 ·rw[O7 hs]; exact EA f w hF hs hw
 ·rw[O8 hs]; exact EB f w hF hs hw
 ·rw[O9 hs]; exact EC f w hF hs hw
 ·rw[O' hs]; exact ED f w hF hs hw
 ·rw[O_ hs]; exact EE f w hF hs hw
 ·rw[Pa hs]; exact EF f w hF hs hw
 ·rw[Pb hs]; exact EG f w hF hs hw
 ·rw[Pc hs]; exact EH f w hF hs hw
 ·rw[Pd hs]; exact EI f w hF hs hw
 
def Wf (i:IN):Int:=((eH (dB i) (aq (ae i.form)):Nat):Int)
theorem Bk (i:IN) (hr:bQ i) (hn:¬ 48<=i.form) (hg:i.an<=9223372036854775807):ah gT 178 [bX i] (.int .u32 (Wf i)):=by
 have We:=iW hr.1
 have hb:=jX hr.1
 unfold Wf
 unfold bQ at hr
 rw[aI (by omega)]
 rcases CW (s:=ae i.form) (by omega) with hs|hs|hs|hs|hs|hs|hs|hs|hs|hs|hs|hs|hs|hs|hs|hs
 ·rw[hs] at hr ⊢; exact HK i hs hr hg
 ·rw[hs] at hr ⊢; exact HL i hs hr hg
 ·rw[hs] at hr ⊢; exact HM i hs hr hg
 ·rw[hs] at hr ⊢; exact HN i hs hr hg
 ·rw[hs] at hr ⊢; exact HO i hs hr hg
 ·rw[hs] at hr ⊢; exact HP i hs hr hg
 ·rw[hs] at hr ⊢; exact HQ i hs hr hg
 ·rw[hs] at hr ⊢; exact HR i hs hr hg
 ·rw[hs] at hr ⊢; exact HS i hs hr hg
 ·rw[hs] at hr ⊢; exact EJ i hs hr hg
 ·rw[hs] at hr ⊢; exact EK i hs hr hg
 ·rw[hs] at hr ⊢; exact EL i hs hr hg
 ·rw[hs] at hr ⊢; exact EM i hs hr hg
 ·rw[hs] at hr ⊢; exact EN i hs hr hg
 ·rw[hs] at hr ⊢; exact EO i hs hr hg
 ·rw[hs] at hr ⊢; exact EP i hs hr hg
 
theorem Ih (i:IN) (hr:bQ i) (hn:48<=i.form) (hg:i.an<=9223372036854775807):ah gT 177 [bX i] (.int .u32 (Wf i)):=by
 have We:=iW hr.1
 have hb:=jX hr.1
 unfold Wf
 unfold bQ at hr
 rcases CX (s:=ae i.form) (by omega) with hs|hs|hs|hs|hs|hs|hs|hs|hs|hs|hs|hs|hs|hs|hs|hs|hs|hs
 ·rw[aI (by omega)]; rw[hs] at hr ⊢; exact L4 i hs hr hg
 ·rw[aI (by omega)]; rw[hs] at hr ⊢; exact L5 i hs hr hg
 ·rw[aI (by omega)]; rw[hs] at hr ⊢; exact L6 i hs hr hg
 ·rw[aI (by omega)]; rw[hs] at hr ⊢; exact L7 i hs hr hg
 ·rw[aI (by omega)]; rw[hs] at hr ⊢; exact L8 i hs hr hg
 ·rw[aI (by omega)]; rw[hs] at hr ⊢; exact L9 i hs hr hg
 ·rw[aI (by omega)]; rw[hs] at hr ⊢; exact L' i hs hr hg
 ·rw[aI (by omega)]; rw[hs] at hr ⊢; exact L_ i hs hr hg
 ·rw[aI (by omega)]; rw[hs] at hr ⊢; exact Ma i hs hr hg
 ·rw[aI (by omega)]; rw[hs] at hr ⊢; exact Mb i hs hr hg
 ·rw[aI (by omega)]; rw[hs] at hr ⊢; exact Mc i hs hr hg
 ·rw[aI (by omega)]; rw[hs] at hr ⊢; exact Me i hs hr hg
 ·rw[aI (by omega)]; rw[hs] at hr ⊢; exact Mf i hs hr hg
 ·rw[aI (by omega)]; rw[hs] at hr ⊢; exact Mg i hs hr hg
 ·rw[aI (by omega)]; rw[hs] at hr ⊢; exact Mh i hs hr hg
 ·rw[aI (by omega)]; rw[hs] at hr ⊢; exact Mi i hs hr hg
 ·rw[aI (by omega)]; rw[hs] at hr ⊢; exact Mj i hs hr hg
 ·rw[hs] at hr ⊢; exact Mk i hs hr hg
theorem Bl (i:IN):eH (dB i) (aq (ae i.form)) < 4294967296:=by
 have h:=lS (dB i) (aq (ae i.form)) (gM _)
 rw[y9] at h
 exact Nat.lt_of_le_of_lt Nat.right_le_or h
theorem CY (i:IN):bits .or .u32 (jA i.form) (Wf i)=bs i:=by
 have b:=qh i.form
 have l:=Bl i
 rw[oR]
 unfold Wf
 rw[u32_or _ _ b.1 b.2 (by omega) (by omega),Int.toNat_natCast]
theorem pI (i:IN) (hr:bQ i) (hg:i.an<=9223372036854775807):ah gT 123 [bX i] (.int .u32 (bs i)):=by
 refine Spec.enter ar P123 100 Tryz.func123 rfl (by kernel_rfl) ?_
 refine (mA i.form).u ?_
 refine⟨fun h=>?_,fun h=>?_⟩
 ·refine (gU i.form).u ?_
  refine (Ih i hr h.1 hg).u ?_
  refine ao ?_
  exact CY i
 ·refine (gU i.form).u ?_
  refine (Bk i hr (fun e=>h ⟨e,hr.1.2⟩) hg).u ?_
  refine ao ?_
  exact CY i
theorem Ii:∀ k:Fin 35,(aq ((k.1:Nat):Int)).all (fun x=>decide (x.2.1+x.2.2.2<=25))=true:=by decide
theorem zm (s:Int):∀ x∈aq s,x.2.1+x.2.2.2<=25:=by
 have h:(aq s).all (fun x=>decide (x.2.1+x.2.2.2<=25))=true:=by
  by_cases h:s < 1\/34 < s
  ·rw[jm s h]; rfl
  ·have h1:=Ii ⟨s.toNat,by omega⟩
   rwa [show (((⟨s.toNat,by omega⟩:Fin 35).1:Nat):Int)=s by simp only[]; omega] at h1
 exact fun x hx=>of_decide_eq_true (List.all_eq_true.1 h x hx)
theorem ML (w:Int) (a n l:Nat) (h:l+n<=25):0<=aa w a n*2 ^ l/\aa w a n*2 ^ l<=33554432:=by
 have b:=ab w a n
 have p1:=cl l
 have p2:=cl n
 have q1:=Nat.two_pow_pos l
 have e:((aa w a n).toNat:Int)=aa w a n:=Int.toNat_of_nonneg b.1
 have h1:(aa w a n).toNat < 2 ^ n:=by omega
 have h2:(aa w a n).toNat*2 ^ l<=2 ^ n*2 ^ l:=Nat.mul_le_mul_right _ (Nat.le_of_lt h1)
 have h3:2 ^ n*2 ^ l<=2 ^ 25:=by rw[← Nat.pow_add]; exact Nat.pow_le_pow_right (by omega) (by omega)
 have e2:aa w a n*2 ^ l=(((aa w a n).toNat*2 ^ l:Nat):Int):=by rw[Int.natCast_mul,e,p1]
 rw[e2]
 have h4:(2:Nat) ^ 25=33554432:=by decide
 omega
theorem Ij (w:Int):∀ (l:List (Nat × Nat × Nat × Nat)) (a:Int),(∀ x∈l,x.2.1+x.2.2.2<=25)->a<=l.foldl (fun a x=>a+aa w x.2.2.1 x.2.2.2*2 ^ x.2.1) a/\l.foldl (fun a x=>a+aa w x.2.2.1 x.2.2.2*2 ^ x.2.1) a<=a+l.length*33554432
 | [],a,_=>by simp
 | x::l,a,h=>by
  have ih:=Ij w l (a+aa w x.2.2.1 x.2.2.2*2 ^ x.2.1) fun y hy=>h y (List.mem_cons_of_mem _ hy)
  have t:=ML w x.2.2.1 x.2.2.2 x.2.1 (h x (List.mem_cons_self ..))
  rw[List.foldl_cons,List.length_cons]
  omega
theorem ZG (s w:Int) (f:Nat):0<=xV s w f/\xV s w f<=234881024:=by
 have h:=Ij w ((aq s).filter fun x=>decide (x.1=f)) 0 fun x hx=>zm s x (List.mem_filter.1 hx).1
 have l1:((aq s).filter fun x=>decide (x.1=f)).length<=7:=Nat.le_trans (List.length_filter_le ..) (nI s)
 unfold xV
 omega
theorem oU (x:Int) (w:Nat) (hw:w<=25):x - 33554432<=cM x w/\cM x w<=x:=by
 have p:(2:Int) ^ w<=33554432/\0 < (2:Int) ^ w:=by
  have h1:(2 ^ w:Nat)<=2 ^ 25:=Nat.pow_le_pow_right (by omega) hw
  have h3:=cl w
  have:=Nat.two_pow_pos w
  have h4:(2:Nat) ^ 25=33554432:=by decide
  omega
 unfold cM; split<;>omega
theorem MM (s f x:Int) (hx:0<=x/\x<=234881024):-1099511627776<=qH s f x/\qH s f x<=1099511627776:=by
 have a:=oU x 9 (by decide)
 have b:=oU x 12 (by decide)
 have c:=oU x 21 (by decide)
 have t:=oO x 2 (by decide)
 have d:=oU (aB x 2) 25 (by decide)
 unfold qH
 (repeat' split)<;>omega
theorem CZ (f w:Int):∀ k,k < 10->-1099511627776<=ca (aW f w) k/\ca (aW f w) k<=1099511627776:=by
 intro k hk
 have x:=fun n=>ZG (ae f) w n
 match k,hk with
 | 0,_=>have:=x 0; exact⟨by show _<=xV (ae f) w 0; omega,by show xV (ae f) w 0<=_; omega⟩
 | 1,_=>have:=x 1; exact⟨by show _<=xV (ae f) w 1; omega,by show xV (ae f) w 1<=_; omega⟩
 | 2,_ =>
  have:=x 2
  have b:=ab w 0 4
  have e:-1099511627776<=XX (ae f) w (xV (ae f) w 2)/\XX (ae f) w (xV (ae f) w 2)<=1099511627776:=by unfold XX; split<;>omega
  exact e
 | 3,_=>have:=x 3; exact⟨by show _<=xV (ae f) w 3; omega,by show xV (ae f) w 3<=_; omega⟩
 | 4,_=>exact MM (ae f) f (xV (ae f) w 4) (x 4)
 | 5,_=>have:=x 5; exact⟨by show _<=xV (ae f) w 5; omega,by show xV (ae f) w 5<=_; omega⟩
 | 6,_ =>
  have:=x 6
  have e:-1099511627776<=OP (ae f) (xV (ae f) w 5) (xV (ae f) w 6)/\OP (ae f) (xV (ae f) w 5) (xV (ae f) w 6)<=1099511627776:=by unfold OP; split<;>omega
  exact e
 | 7,_=>have:=x 7; exact⟨by show _<=xV (ae f) w 7; omega,by show xV (ae f) w 7<=_; omega⟩
 | 8,_=>have:=x 8; exact⟨by show _<=xV (ae f) w 8; omega,by show xV (ae f) w 8<=_; omega⟩
 | 9,_=>have:=x 9; exact⟨by show _<=xV (ae f) w 9; omega,by show xV (ae f) w 9<=_; omega⟩
def kH (w f:Int):Prop:=bQ (aW f w)/\bs (aW f w)=w
theorem Ik {w f:Int} (h:kH w f):bits .and .u32 w (jA f)=jA f:=by
 have b:=qh f
 have e:=h.2
 rw[oR] at e
 have l:(jA (aW f w).form).toNat=(jA f).toNat:=rfl
 rw[l] at e
 have lt:=kG (show (jA f).toNat < 4294967296 by omega) (Bl (aW f w))
 obtain⟨a,ha⟩:∃ a,a=(jA f).toNat:=⟨_,rfl⟩
 obtain⟨o,ho⟩:∃ o,o=eH (dB (aW f w)) (aq (ae (aW f w).form)):=⟨_,rfl⟩
 rw[← ha,← ho] at e lt
 have ea:jA f=(a:Int):=by omega
 rw[ea,← e,u32_and _ _ (by omega) (by omega) (by omega) (by omega),Int.toNat_natCast,Int.toNat_natCast]
 congr 1
 apply Nat.eq_of_testBit_eq
 intro p
 rw[Nat.testBit_and,Nat.testBit_or]
 cases a.testBit p<;>simp
def cZ (wide:Prop) (f:Int):Prop:=(wide/\48<=f/\f<=100)\/(¬ wide/\1<=f/\f<=47)
def il (w:Int) (wide:Prop) (f:Int):Prop:=cZ wide f/\kH w f/\∀ g,cZ wide g->g < f->¬ kH w g
theorem E0 {w:Int} {wide:Prop} {f g:Int} (hf:il w wide f) (hg:il w wide g):f=g:=by
 by_cases h:f < g
 ·exact absurd hf.2.1 (hg.2.2 f hf.1 h)
 by_cases h2:g < f
 ·exact absurd hg.2.1 (hf.2.2 g hg.1 h2)
 omega
noncomputable def ri (w:Int) (wide:Prop):IN:=open Classical in if h:∃ f,il w wide f then aW h.choose w else iZ
noncomputable def sZ (w:Int) (wide:Prop):Int:=open Classical in if ∃ f,il w wide f then 0 else 40
theorem nN {w:Int} {wide:Prop} {f:Int} (h:il w wide f):ri w wide=aW f w:=by
 have e:∃ f,il w wide f:=⟨f,h⟩
 unfold ri
 rw[dif_pos e,E0 e.choose_spec h]
theorem pJ {w:Int} {wide:Prop} {f:Int} (h:il w wide f):sZ w wide=0:=if_pos ⟨f,h⟩
theorem Bm {w:Int} {wide:Prop} (h:∀ f,cZ wide f->¬ kH w f):ri w wide=iZ:=dif_neg fun ⟨f,hf⟩=>h f hf.1 hf.2.1
theorem Bn {w:Int} {wide:Prop} (h:∀ f,cZ wide f->¬ kH w f):sZ w wide=40:=if_neg fun ⟨f,hf⟩=>h f hf.1 hf.2.1
theorem MN (i:IN) (h:bQ i) (hg:i.an<=9223372036854775807):il (bs i) (48<=i.form) i.form:=by
 have hb:=back i h hg
 have Wg:kH (bs i) i.form:=by unfold kH; rw[hb]; exact⟨h,rfl⟩
 have f1:=h.1
 refine⟨by unfold cZ; omega,Wg,fun g hgf cI hh=>?_⟩
 have e:=Ec (a:=aW g (bs i)) (b:=i) hh.1 h (by show 48<=g↔48<=i.form; unfold cZ at hgf; omega) hh.2
 have:g=i.form:=e
 omega
theorem Il (i:IN) (h:bQ i) (hI:tR i):ah gT 84 [bX i] (.tup [.int .u32 (bs i),.int .i64 0]):=by
 refine Spec.enter ar P84 100 Tryz.func84 rfl (by kernel_rfl) ?_
 refine (kD i (hI i.av (by simp[lW]))).u ?_
 refine⟨fun h'=>absurd h h',fun _=>?_⟩
 refine (pI i h (hI i.an (by simp[lW])).2).u ?_
 exact rA
theorem MO (i:IN) (h:¬ bQ i) (hI:tR i):ah gT 84 [bX i] (.tup [.int .u32 0,.int .i64 10]):=by
 refine Spec.enter ar P84 100 Tryz.func84 rfl (by kernel_rfl) ?_
 refine (kD i (hI i.av (by simp[lW]))).u ?_
 refine⟨fun _=>?_,fun h'=>absurd h h'⟩
 exact rA
theorem rk {f w:Int} (hf:fe f):tR (aW f w):=by
 intro x hx
 have b:=CZ f w
 simp only[lW,List.mem_cons,List.not_mem_nil,or_false] at hx
 have key:∀ k,k < 10->fe (ca (aW f w) k):=fun k hk=>by have:=b k hk; unfold fe; omega
 rcases hx with rfl|rfl|rfl|rfl|rfl|rfl|rfl|rfl|rfl|rfl|rfl
 ·exact hf
 ·exact key 0 (by decide)
 ·exact key 1 (by decide)
 ·exact key 2 (by decide)
 ·exact key 3 (by decide)
 ·exact key 4 (by decide)
 ·exact key 5 (by decide)
 ·exact key 6 (by decide)
 ·exact key 7 (by decide)
 ·exact key 8 (by decide)
 ·exact key 9 (by decide)
theorem C0 (f w:Int):WB (aW f w):=fun k hk=>by have:=CZ f w k hk; omega
theorem C1 (w:Int) (wide:Prop) (hw:aP w):ah gT 69 [.int .u32 w,.bool wide] (.tup [bX (ri w wide),.int .i64 (sZ w wide)]):=by
 refine Spec.enter ar P69 100 Tryz.func69 rfl (by kernel_rfl) ?_
 refine SW.iw ar P69 (by kernel_rfl) (α:={k:Nat // k<=100/\∀ g:Int,cZ wide g->g < k+1->¬ kH w g}) (fun k=>[(6,.int .i64 (k.1+1:Nat))]) (fun k=>100 - k.1) ⟨0,by omega,fun g hg cI=>by unfold cZ at hg; omega⟩ 100 ?_ ?_
 ·repeat' first|exact Iff.rfl|exact trivial|exact rfl|refine And.intro ?_ ?_
 rintro⟨k,hk,tP⟩
 refine⟨fun h=>?_,fun h=>?_⟩
 ·have nm:((k+1:Nat):Int)<=100:=h
  have hF:1<=((k+1:Nat):Int)/\((k+1:Nat):Int)<=100:=⟨by omega,nm⟩
  have hf:fe ((k+1:Nat):Int):=by unfold fe; omega
  have next:¬ (cZ wide ((k+1:Nat):Int)/\kH w ((k+1:Nat):Int))->∀ g:Int,cZ wide g->g < ((k+1:Nat):Int)+1->¬ kH w g:=fun hn g hg cI hh=>by
   by_cases e:g=((k+1:Nat):Int)
   ·subst e; exact hn ⟨hg,hh⟩
   ·exact tP g hg (by omega) hh
  refine (mA ((k+1:Nat):Int)).u ?_
  refine⟨fun dt=>?_,fun heq=>?_⟩
  ·refine .inl ⟨ax (show _<=((k+1:Nat):Int)+1/\((k+1:Nat):Int)+1<=_ by omega),⟨⟨k+1,by omega,next fun hh=>dt ?_⟩,show 100 - (k+1) < 100 - k by omega,?_⟩⟩
   ·unfold cZ at hh; exact⟨fun h2=>hh.1.elim (fun e=>e.1) (fun e=>absurd h2.1 (by omega)),fun h2=>hh.1.elim (fun e=>e.2) (fun e=>absurd h2 e.1)⟩
   repeat' first|exact Iff.rfl|exact trivial|exact rfl|refine And.intro ?_ ?_
  have heq:=Classical.not_not.1 heq
  refine (gU ((k+1:Nat):Int)).u ?_
  refine (gU ((k+1:Nat):Int)).u ?_
  refine⟨fun hm=>?_,fun hm=>?_⟩
  ·refine .inl ⟨ax (show _<=((k+1:Nat):Int)+1/\((k+1:Nat):Int)+1<=_ by omega),⟨⟨k+1,by omega,next fun hh=>hm (Ik hh.2)⟩,show 100 - (k+1) < 100 - k by omega,?_⟩⟩
   repeat' first|exact Iff.rfl|exact trivial|exact rfl|refine And.intro ?_ ?_
  have qC:cZ wide ((k+1:Nat):Int):=by
   unfold cZ
   by_cases hW:wide
   ·exact .inl ⟨hW,heq.2 hW⟩
   ·refine .inr ⟨hW,by omega,?_⟩
    by_cases Ac:48<=((k+1:Nat):Int)
    ·exact absurd (heq.1 ⟨Ac,nm⟩) hW
    ·omega
  have hI:=rk (w:=w) hf
  have hR:=kD (aW ((k+1:Nat):Int) w) (hI (aW ((k+1:Nat):Int) w).av (by simp[lW]))
  by_cases hW:wide
  ·have Ac:=(heq.2 hW).1
   refine (t_ ((k+1:Nat):Int) w ((iW hF).2 Ac) hw).u ?_
   refine⟨fun _=>?_,fun hn=>absurd hW hn⟩
   refine (Bj ((k+1:Nat):Int) w hF Ac hw).u ?_
   refine hR.u ?_
   refine⟨fun hr=>?_,fun hr=>?_⟩
   ·refine (pI (aW ((k+1:Nat):Int) w) hr (hI (aW ((k+1:Nat):Int) w).an (by simp[lW])).2).u ?_
    refine⟨fun hp=>?_,fun hp=>?_⟩
    ·have s7:il w wide ((k+1:Nat):Int):=⟨qC,⟨hr,hp⟩,fun g hg cI=>tP g hg (by omega)⟩
     rw[nN s7,pJ s7]
     exact rA
    ·refine .inl ⟨ax (show _<=((k+1:Nat):Int)+1/\((k+1:Nat):Int)+1<=_ by omega),⟨⟨k+1,by omega,next fun hh=>hp hh.2.2⟩,show 100 - (k+1) < 100 - k by omega,?_⟩⟩
     repeat' first|exact Iff.rfl|exact trivial|exact rfl|refine And.intro ?_ ?_
   ·refine .inl ⟨ax (show _<=((k+1:Nat):Int)+1/\((k+1:Nat):Int)+1<=_ by omega),⟨⟨k+1,by omega,next fun hh=>hr hh.2.1⟩,show 100 - (k+1) < 100 - k by omega,?_⟩⟩
    repeat' first|exact Iff.rfl|exact trivial|exact rfl|refine And.intro ?_ ?_
  ·have Ac:¬ 48<=((k+1:Nat):Int):=fun e=>hW (heq.1 ⟨e,nm⟩)
   refine (w7 ((k+1:Nat):Int) w hF Ac hw).u ?_
   refine⟨fun h=>absurd h hW,fun _=>?_⟩
   refine hR.u ?_
   refine⟨fun hr=>?_,fun hr=>?_⟩
   ·refine (pI (aW ((k+1:Nat):Int) w) hr (hI (aW ((k+1:Nat):Int) w).an (by simp[lW])).2).u ?_
    refine⟨fun hp=>?_,fun hp=>?_⟩
    ·have s7:il w wide ((k+1:Nat):Int):=⟨qC,⟨hr,hp⟩,fun g hg cI=>tP g hg (by omega)⟩
     rw[nN s7,pJ s7]
     exact rA
    ·refine .inl ⟨ax (show _<=((k+1:Nat):Int)+1/\((k+1:Nat):Int)+1<=_ by omega),⟨⟨k+1,by omega,next fun hh=>hp hh.2.2⟩,show 100 - (k+1) < 100 - k by omega,?_⟩⟩
     repeat' first|exact Iff.rfl|exact trivial|exact rfl|refine And.intro ?_ ?_
   ·refine .inl ⟨ax (show _<=((k+1:Nat):Int)+1/\((k+1:Nat):Int)+1<=_ by omega),⟨⟨k+1,by omega,next fun hh=>hr hh.2.1⟩,show 100 - (k+1) < 100 - k by omega,?_⟩⟩
    repeat' first|exact Iff.rfl|exact trivial|exact rfl|refine And.intro ?_ ?_
 ·have nm:¬ ((k+1:Nat):Int)<=100:=h
  have du:∀ f,cZ wide f->¬ kH w f:=fun f hf=>tP f hf (by unfold cZ at hf; omega)
  rw[Bm du,Bn du]
  exact rA
theorem Im (w:Int) (wide:Prop) (hw:aP w) (hW:wide):ah gT 106 [.int .u32 w,.bool wide] (.tup [bX (ri w wide),.bool (sZ w wide=0)]):=by
 have U5:-9223372036854775808<=w/\w<=9223372036854775807:=by unfold aP at hw; omega
 have qC:∀ f:Int,cZ wide f↔48<=f/\f<=100:=fun f=>by
  unfold cZ
  constructor
  ·rintro (⟨a,b⟩|⟨a,b⟩)
   ·exact b
   ·exact absurd hW a
  ·intro h; exact .inl ⟨hW,h⟩
 refine Spec.enter ar KV 100 Tryz.func106 rfl (by kernel_rfl) ?_
 refine⟨fun h=>?_,fun h=>?_⟩
 
 ·refine SW.iw ar KV (by kernel_rfl) (α:={k:Nat // k<=53/\∀ g:Int,cZ wide g->g < 48+k->¬ kH w g}) (fun k=>[(8,.int .i64 (48+k.1:Nat))]) (fun k=>53 - k.1) ⟨0,by omega,fun g hg cI=>by have:=(qC g).1 hg; omega⟩ 100 ?_ ?_
  ·repeat' first|exact Iff.rfl|exact trivial|exact rfl|refine And.intro ?_ ?_
  rintro⟨k,hk,tP⟩
  refine⟨fun h=>?_,fun h=>?_⟩
  ·have nm:((48+k:Nat):Int)<=100:=h
   have hF:1<=((48+k:Nat):Int)/\((48+k:Nat):Int)<=100:=⟨by omega,by omega⟩
   have hf:fe ((48+k:Nat):Int):=by unfold fe; omega
   have next:¬ kH w ((48+k:Nat):Int)->∀ g:Int,cZ wide g->g < 48+(k+1:Nat)->¬ kH w g:=fun hn g hg cI hh=>by
    by_cases e:g=((48+k:Nat):Int)
    ·subst e; exact hn hh
    ·exact tP g hg (by omega) hh
   have hI:=rk (w:=w) hf
   refine .inl ⟨ax U5,?_⟩
   refine (zl ((48+k:Nat):Int) w hF hw).u ?_
   refine (nk (aW ((48+k:Nat):Int) w) hI).u ?_
   refine⟨fun hr=>?_,fun hr=>?_⟩
   ·refine (uO (aW ((48+k:Nat):Int) w) hf (C0 ((48+k:Nat):Int) w)).u ?_
    refine⟨fun hp=>?_,fun hp=>?_⟩
    ·have s7:il w wide ((48+k:Nat):Int):=⟨(qC _).2 ⟨by omega,nm⟩,⟨hr,hp⟩,fun g hg cI=>tP g hg (by omega)⟩
     rw[nN s7,pJ s7]
     exact rA
    ·refine .inl ⟨ax (show _<=((48+k:Nat):Int)+1/\((48+k:Nat):Int)+1<=_ by omega),⟨⟨k+1,by omega,next fun hh=>hp hh.2⟩,show 53 - (k+1) < 53 - k by omega,?_⟩⟩
     repeat' first|exact Iff.rfl|exact trivial|exact rfl|refine And.intro ?_ ?_
   ·refine .inl ⟨ax (show _<=((48+k:Nat):Int)+1/\((48+k:Nat):Int)+1<=_ by omega),⟨⟨k+1,by omega,next fun hh=>hr hh.1⟩,show 53 - (k+1) < 53 - k by omega,?_⟩⟩
    repeat' first|exact Iff.rfl|exact trivial|exact rfl|refine And.intro ?_ ?_
  ·have nm:¬ ((48+k:Nat):Int)<=100:=h
   have du:∀ f,cZ wide f->¬ kH w f:=fun f hf=>tP f hf (by have:=(qC f).1 hf; omega)
   rw[Bm du,Bn du]
   refine ao ?_
   (repeat' first|exact trivial|exact rfl|exact (show ¬ (40:Int)=0 by decide)|refine And.intro ?_ ?_)
 ·exact absurd hW h
theorem Bo (w:Int) (wide:Prop) (hw:aP w) (hW:¬ wide):ah gT 106 [.int .u32 w,.bool wide] (.tup [bX (ri w wide),.bool (sZ w wide=0)]):=by
 have U5:-9223372036854775808<=w/\w<=9223372036854775807:=by unfold aP at hw; omega
 have qC:∀ f:Int,cZ wide f↔1<=f/\f<=47:=fun f=>by
  unfold cZ
  constructor
  ·rintro (⟨a,b⟩|⟨a,b⟩)
   ·exact absurd a hW
   ·exact b
  ·intro h; exact .inr ⟨hW,h⟩
 refine Spec.enter ar KV 100 Tryz.func106 rfl (by kernel_rfl) ?_
 refine⟨fun h=>?_,fun h=>?_⟩
 ·exact absurd h hW
 ·refine SW.iw ar KV (by kernel_rfl) (α:={k:Nat // k<=47/\∀ g:Int,cZ wide g->g < 1+k->¬ kH w g}) (fun k=>[(8,.int .i64 (1+k.1:Nat))]) (fun k=>47 - k.1) ⟨0,by omega,fun g hg cI=>by have:=(qC g).1 hg; omega⟩ 100 ?_ ?_
  ·repeat' first|exact Iff.rfl|exact trivial|exact rfl|refine And.intro ?_ ?_
  rintro⟨k,hk,tP⟩
  refine⟨fun h=>?_,fun h=>?_⟩
  ·have nm:((1+k:Nat):Int)<=47:=h
   have hF:1<=((1+k:Nat):Int)/\((1+k:Nat):Int)<=100:=⟨by omega,by omega⟩
   have hf:fe ((1+k:Nat):Int):=by unfold fe; omega
   have next:¬ kH w ((1+k:Nat):Int)->∀ g:Int,cZ wide g->g < 1+(k+1:Nat)->¬ kH w g:=fun hn g hg cI hh=>by
    by_cases e:g=((1+k:Nat):Int)
    ·subst e; exact hn hh
    ·exact tP g hg (by omega) hh
   have hI:=rk (w:=w) hf
   refine .inl ⟨ax U5,?_⟩
   refine (zl ((1+k:Nat):Int) w hF hw).u ?_
   refine (nk (aW ((1+k:Nat):Int) w) hI).u ?_
   refine⟨fun hr=>?_,fun hr=>?_⟩
   ·refine (uO (aW ((1+k:Nat):Int) w) hf (C0 ((1+k:Nat):Int) w)).u ?_
    refine⟨fun hp=>?_,fun hp=>?_⟩
    ·have s7:il w wide ((1+k:Nat):Int):=⟨(qC _).2 ⟨by omega,nm⟩,⟨hr,hp⟩,fun g hg cI=>tP g hg (by omega)⟩
     rw[nN s7,pJ s7]
     exact rA
    ·refine .inl ⟨ax (show _<=((1+k:Nat):Int)+1/\((1+k:Nat):Int)+1<=_ by omega),⟨⟨k+1,by omega,next fun hh=>hp hh.2⟩,show 47 - (k+1) < 47 - k by omega,?_⟩⟩
     repeat' first|exact Iff.rfl|exact trivial|exact rfl|refine And.intro ?_ ?_
   ·refine .inl ⟨ax (show _<=((1+k:Nat):Int)+1/\((1+k:Nat):Int)+1<=_ by omega),⟨⟨k+1,by omega,next fun hh=>hr hh.1⟩,show 47 - (k+1) < 47 - k by omega,?_⟩⟩
    repeat' first|exact Iff.rfl|exact trivial|exact rfl|refine And.intro ?_ ?_
  ·have nm:¬ ((1+k:Nat):Int)<=47:=h
   have du:∀ f,cZ wide f->¬ kH w f:=fun f hf=>tP f hf (by have:=(qC f).1 hf; omega)
   rw[Bm du,Bn du]
   refine ao ?_
   (repeat' first|exact trivial|exact rfl|exact (show ¬ (40:Int)=0 by decide)|refine And.intro ?_ ?_)
 
theorem zn (w:Int) (wide:Prop) (hw:aP w):ah gT 106 [.int .u32 w,.bool wide] (.tup [bX (ri w wide),.bool (sZ w wide=0)]):=by
 by_cases hW:wide
 ·exact Im w wide hw hW
 ·exact Bo w wide hw hW
def cL (h:Int):Prop:=29<=h % 65536 / 2048
theorem zo (h:Int) (hh:aP h):ah gT 68 [.int .u32 h] (.bool (cL h)):=by
 have e:bits .and .u32 h 65535=h % 65536:=yB h 16 hh.1 hh.2 (by decide)
 refine Spec.enter ar P68 100 Tryz.func68 rfl (by kernel_rfl) ?_
 refine⟨by decide,?_⟩
 refine ao ?_
 show 29<=bits .and .u32 h 65535 / Ev.aD .u32 11↔cL h
 rw[e,r11]; exact Iff.rfl
def dN (f:Int):Int:=if 48<=f/\f<=100 then 4 else if 1<=f/\f<=47 then 2 else 0
theorem E1 (f:Int):ah gT 88 [.int .i64 f] (.int .i64 (dN f)):=by
 refine Spec.enter ar P88 100 Tryz.func88 rfl (by kernel_rfl) ?_
 refine (oM f).u ?_
 refine⟨fun h=>?_,fun h=>?_⟩
 ·exact ao (show (0:Int)=dN f by unfold dN; rw[if_neg (by omega),if_neg (by omega)])
 refine (mA f).u ?_
 refine⟨fun h2=>?_,fun h2=>?_⟩
 ·exact ao (show (4:Int)=dN f by unfold dN; rw[if_pos h2])
 ·exact ao (show (2:Int)=dN f by unfold dN; rw[if_neg h2,if_pos (by omega)])
theorem lZ (i:IN):ah gT 54 [bX i] (.int .i64 (dN i.form)):=by
 refine Spec.enter ar P54 100 Tryz.func54 rfl (by kernel_rfl) ?_
 refine (E1 i.form).u ?_
 exact ao rfl
theorem w8 (i:IN) (h:(lW i).all (fun x=>decide (-9223372036854775808<=x/\x<=9223372036854775807))=true):tR i:=fun x hx=>of_decide_eq_true (p:=-9223372036854775808<=x/\x<=9223372036854775807) (List.all_eq_true.1 h x hx)
theorem Op.U6 {P:Program} {t:TypeId} {S:PV->Prop} (h:Op P t S) (hS:∀ y,S y->∃ xs,y = .agg xs) {H:Type} {ec:TypeId × Value->H} {w:World} {base:Nat} {held:Bool} {vs:Array Value} {d:DataW H} {p:List MemPlace} (ht:DataW.Trod ec P w base (fun _=>true) held t (.agg vs) d p) (AJ:∀ n∈d.weights P t,n<=reachBytes) :
  ∃ y,S y/\y.Is w (In w) no (.agg vs):=by
 obtain⟨fuel,ht⟩:=ht
 obtain⟨y,hy,_,hi,_⟩:=h ec w base held fuel _ _ ht AJ
 refine⟨y,hy,?_⟩
 obtain⟨xs,rfl⟩:=hS y hy
 simp only[PV.Is]
 exact⟨vs,rfl,hi⟩
end Go.Proofs.YtnbngokbamifbaaGreatDoor.Pw
namespace Go.Proofs.YtnbngokbamifbaaGreatDoor.dU
open Go.ChangeShapes Go.WideShapes Go.ChangeAt Go.RowKit Go.Deep
def gv:List (String × DataW Unit):=[("remontoire/imm.factors",Rows.laid_remontoire_imm_factors),("remontoire/inst.shapes",Rows.laid_remontoire_inst_shapes)]
def fuel:Nat:=3000
theorem zp (os:Os) (args:Array Value):laidMetH Tryz.prog gv ((World.doorLaid Tryz.prog fuel os).forCall (fun _ _=>0) ⟨#[],args,[]⟩).memory :=
 laidMetH_of_parts3 (fuel:=8) (laidMet_of_run' 8 (by kernel_rfl) (by kernel_rfl)) (by kernel_rfl) (by kernel_rfl)
end Go.Proofs.YtnbngokbamifbaaGreatDoor.dU
namespace Go.Proofs.YtnbngokbamifbaaGreatDoor.Pw
open Go Go.RowKit
theorem C2 {W:World} (h:laidMetH Tryz.prog dU.gv W):dd gT (In W) W :=
 AM (laid:=dU.gv) (by kernel_rfl) h fun x hx=>by
  have k9:x∈[(1,Qk),(0,shP)]:=hx
  simp only[List.mem_cons,List.not_mem_nil,or_false] at k9
  rcases k9 with rfl|rfl
  ·exact⟨"remontoire/imm.factors",_,221,List.mem_cons_self,by kernel_rfl,by kernel_rfl,by kernel_rfl,nofun⟩
  ·exact⟨"remontoire/inst.shapes",_,237,List.mem_cons_of_mem _ List.mem_cons_self,by kernel_rfl,by kernel_rfl,by kernel_rfl,nofun⟩
theorem j4 {z:Int} (h:tS .u32 z):0<=z/\z<=4294967295:=by unfold tS Ev.kZ Ev.kj at h; simp only[IntKind.signed,IntKind.bits] at h; simpa using h
theorem MP {z:Int} (h:tS .u8 z):0<=z/\z<=255:=by unfold tS Ev.kZ Ev.kj at h; simp only[IntKind.signed,IntKind.bits] at h; simpa using h
theorem fh {z:Int} (h:tS .i64 z):fe z:=by unfold tS Ev.kZ Ev.kj at h; simp only[IntKind.signed,IntKind.bits] at h; unfold fe; simpa using h
theorem pK:Op Tryz.prog 39 (SInt .u32):=Cd Tryz.underlying39 (by kernel_rfl)
theorem iq:Op Tryz.prog 3 (SInt .i64):=Cd Tryz.underlying3 (by kernel_rfl)
theorem ZH:Op Tryz.prog 76 (AI (List.replicate 11 (SInt .i64))) :=
 OH (Ss:=List.replicate 11 (SInt .i64)) Tryz.underlying76
  ⟨rfl,Cd Tryz.underlying74 (by kernel_rfl),(show _=_ by kernel_rfl),iq,(show _=_ by kernel_rfl),iq,(show _=_ by kernel_rfl),iq,(show _=_ by kernel_rfl),iq,(show _=_ by kernel_rfl),iq,(show _=_ by kernel_rfl),iq,(show _=_ by kernel_rfl),iq,(show _=_ by kernel_rfl),iq,(show _=_ by kernel_rfl),iq,(show _=_ by kernel_rfl),iq,(show _=_ by kernel_rfl)⟩
theorem U7 (x:PV) (h:AI (List.replicate 11 (SInt .i64)) x):∃ i:IN,tR i/\x=bX i:=by
 obtain⟨xs,h,rfl⟩:=h
 obtain⟨_,_,rfl,⟨a0,b0,rfl⟩,h_1⟩:=cQ (S:=SInt .i64) (Ss:=List.replicate 10 (SInt .i64)) h
 obtain⟨_,_,rfl,⟨a1,b1,rfl⟩,h_2⟩:=cQ (S:=SInt .i64) (Ss:=List.replicate 9 (SInt .i64)) h_1
 obtain⟨_,_,rfl,⟨a2,b2,rfl⟩,h_3⟩:=cQ (S:=SInt .i64) (Ss:=List.replicate 8 (SInt .i64)) h_2
 obtain⟨_,_,rfl,⟨a3,b3,rfl⟩,h_4⟩:=cQ (S:=SInt .i64) (Ss:=List.replicate 7 (SInt .i64)) h_3
 obtain⟨_,_,rfl,⟨a4,b4,rfl⟩,h_5⟩:=cQ (S:=SInt .i64) (Ss:=List.replicate 6 (SInt .i64)) h_4
 obtain⟨_,_,rfl,⟨a5,b5,rfl⟩,h_6⟩:=cQ (S:=SInt .i64) (Ss:=List.replicate 5 (SInt .i64)) h_5
 obtain⟨_,_,rfl,⟨a6,b6,rfl⟩,h_7⟩:=cQ (S:=SInt .i64) (Ss:=List.replicate 4 (SInt .i64)) h_6
 obtain⟨_,_,rfl,⟨a7,b7,rfl⟩,h_8⟩:=cQ (S:=SInt .i64) (Ss:=List.replicate 3 (SInt .i64)) h_7
 obtain⟨_,_,rfl,⟨a8,b8,rfl⟩,h_9⟩:=cQ (S:=SInt .i64) (Ss:=List.replicate 2 (SInt .i64)) h_8
 obtain⟨_,_,rfl,⟨a9,b9,rfl⟩,h_10⟩:=cQ (S:=SInt .i64) (Ss:=List.replicate 1 (SInt .i64)) h_9
 obtain⟨_,_,rfl,⟨XH,b10,rfl⟩,h_11⟩:=cQ (S:=SInt .i64) (Ss:=List.replicate 0 (SInt .i64)) h_10
 obtain rfl:=yj h_11
 refine⟨⟨a0,a1,a2,a3,a4,a5,a6,a7,a8,a9,XH⟩,fun x hx=>?_,rfl⟩
 simp only[lW,List.mem_cons,List.not_mem_nil,or_false] at hx
 rcases hx with rfl|rfl|rfl|rfl|rfl|rfl|rfl|rfl|rfl|rfl|rfl
 ·exact fh b0
 ·exact fh b1
 ·exact fh b2
 ·exact fh b3
 ·exact fh b4
 ·exact fh b5
 ·exact fh b6
 ·exact fh b7
 ·exact fh b8
 ·exact fh b9
 ·exact fh b10
def SIN (x:PV):Prop:=∃ i:IN,tR i/\x=bX i
theorem ZI:Op Tryz.prog 76 SIN:=ZH.AK U7
theorem Io (y:PV) (h:SIN y):∃ xs,y = .agg xs:=by
 obtain⟨i,_,rfl⟩:=h; exact⟨_,rfl⟩
theorem Ip:Op Tryz.prog 27 (FX 1 1 (PV.int .u8) (fun z:Int=>0<=z/\z<=255)) :=
 AL (v7 (Cd Tryz.underlying5 (by kernel_rfl)) 1 1 (by kernel_rfl) Tryz.underlying27 (by kernel_rfl) (by decide) (by kernel_rfl)) fun x ⟨z,h,e⟩=>⟨z,MP h,e⟩
def Iq (l:List (Nat × Nat × Nat × Nat)):Nat:=l.foldl (fun m x=>max m (x.2.2.1+x.2.2.2)) 0
theorem zq:∀ (l:List (Nat × Nat × Nat × Nat)) (m:Nat),m<=l.foldl (fun m x=>max m (x.2.2.1+x.2.2.2)) m/\∀ x∈l,x.2.2.1+x.2.2.2<=l.foldl (fun m x=>max m (x.2.2.1+x.2.2.2)) m
 | [],m=>⟨Nat.le_refl _,fun x hx=>by cases hx⟩
 | y::l,m=>by
  have h:=zq l (max m (y.2.2.1+y.2.2.2))
  rw[List.foldl_cons]
  refine⟨by omega,fun x hx=>?_⟩
  rcases List.mem_cons.1 hx with rfl|hx
  ·omega
  ·exact h.2 x hx
theorem Ir (i:IN) (k:Nat):∀ (l:List (Nat × Nat × Nat × Nat)) (V:Nat),V < 2 ^ k->(∀ x∈l,x.2.2.1+x.2.2.2<=k)->l.foldl (fun w x=>w ||| B (ca i x.1) x.2.1 x.2.2.2 x.2.2.1) V < 2 ^ k
 | [],V,h,_=>h
 | x::l,V,h,hl=>by
  rw[List.foldl_cons]
  refine Ir i k l _ (Nat.or_lt_two_pow h ?_) fun y hy=>hl y (List.mem_cons_of_mem _ hy)
  have b:=ab (ca i x.1) x.2.1 x.2.2.2
  have e:=cl x.2.2.2
  have h1:(aa (ca i x.1) x.2.1 x.2.2.2).toNat < 2 ^ x.2.2.2:=by omega
  unfold B
  rw[Nat.shiftLeft_eq]
  calc (aa (ca i x.1) x.2.1 x.2.2.2).toNat*2 ^ x.2.2.1 < 2 ^ x.2.2.2*2 ^ x.2.2.1:=Nat.mul_lt_mul_of_pos_right h1 (Nat.two_pow_pos _)
   _=2 ^ (x.2.2.2+x.2.2.1):=(Nat.pow_add ..).symm
   _<=2 ^ k:=Nat.pow_le_pow_right (by omega) (by have:=hl x (List.mem_cons_self ..); omega)
theorem zr (a b k:Nat) (h:b < 2 ^ k):a ||| b < (a / 2 ^ k+1)*2 ^ k:=by
 have e:(a ||| b) / 2 ^ k=a / 2 ^ k:=by
  apply Nat.eq_of_testBit_eq
  intro p
  rw[Nat.testBit_div_two_pow,Nat.testBit_div_two_pow,Nat.testBit_or,Nat.testBit_lt_two_pow (x:=b) (Nat.lt_of_lt_of_le h (Nat.pow_le_pow_right (by decide) (by omega))),Bool.or_false]
 have hp:=Nat.two_pow_pos k
 have h1:=Nat.lt_mul_div_succ (a ||| b) hp
 rw[e,Nat.mul_comm] at h1
 exact h1
theorem Bp:((List.range 47).all fun k=>decide ((Lk (k+1) / 2 ^ Iq (Qz (k+1))+1)*2 ^ Iq (Qz (k+1))<=59392))=true:=by decide +kernel
theorem It:((List.range 53).all fun k=>decide (3892314112<=Lk (k+48)))=true:=by decide +kernel
theorem Bq (i:IN) (h:bQ i) (hn:¬ 48<=i.form):bs i < 59392:=by
 have f1:=h.1
 have ef:((i.form.toNat:Nat):Int)=i.form:=by omega
 have t:=of_decide_eq_true (List.all_eq_true.1 Bp (i.form.toNat - 1) (List.mem_range.2 (by omega)))
 rw[show i.form.toNat - 1+1=i.form.toNat by omega] at t
 unfold Lk Qz at t
 rw[ef] at t
 have l:=Ir (dB i) (Iq (aq (ae i.form))) (aq (ae i.form)) 0 (Nat.two_pow_pos _) fun x hx=>(zq _ 0).2 x hx
 have o:=zr (jA i.form).toNat _ _ l
 have e:bs i=(((jA i.form).toNat ||| eH (dB i) (aq (ae i.form)):Nat):Int):=oR i
 rw[e]
 have o2:((jA i.form).toNat ||| eH (dB i) (aq (ae i.form))) < 59392:=Nat.lt_of_lt_of_le o t
 omega
theorem MQ (i:IN):aP (bs i):=by
 have:=kG (show (jA i.form).toNat < 4294967296 by have:=qh i.form; omega) (Bl i)
 rw[oR]; unfold aP; omega
theorem Iu (i:IN) (h:bQ i) (hn:48<=i.form):3892314112<=bs i:=by
 have f1:=h.1
 have ef:((i.form.toNat:Nat):Int)=i.form:=by omega
 have t:=of_decide_eq_true (List.all_eq_true.1 It (i.form.toNat - 48) (List.mem_range.2 (by omega)))
 rw[show i.form.toNat - 48+48=i.form.toNat by omega] at t
 unfold Lk at t
 rw[ef] at t
 have l:(jA i.form).toNat<=(jA i.form).toNat ||| eH (dB i) (aq (ae i.form)):=Nat.left_le_or
 rw[oR]; omega
def db (l:List Int):List PV:=l.map (PV.int .u8)
def kU (i:IN):List Int:=(if 48<=i.form then [bs i / 65536 % 256,bs i / 16777216 % 256] else [])++[bs i % 256,bs i / 256 % 256]
theorem r24:Ev.aD .u32 24=16777216:=by decide
theorem uX (i:IN) (h:bQ i) (hI:tR i):ah gT 48 [bX i] (.tup [.sl 1 (db (kU i)),.int .i64 0]):=by
 have e0:=IntKind.wrap_u8' (bs i)
 have e1:=IntKind.wrap_u8' (bs i / Ev.aD .u32 8)
 have e2:=IntKind.wrap_u8' (bs i / Ev.aD .u32 16)
 have e3:=IntKind.wrap_u8' (bs i / Ev.aD .u32 24)
 have p8:Ev.aD .u32 8=256:=by decide
 have p16:Ev.aD .u32 16=65536:=by decide
 refine Spec.enter ar P48 100 Tryz.func48 rfl (by kernel_rfl) ?_
 refine (Il i h hI).u ?_
 refine⟨fun h=>absurd rfl h,fun _=>?_⟩
 refine .inr ?_
 refine⟨by decide,.inr ?_⟩
 refine (mA i.form).u ?_
 refine⟨fun hn=>?_,fun hn=>?_⟩
 ·have WD:¬ 48<=i.form:=fun e=>hn ⟨e,h.1.2⟩
  refine ao ?_
  refine And.intro ?_ (And.intro rfl trivial)
  show [PV.int .u8 (IntKind.u8.wrap (bs i)),.int .u8 (IntKind.u8.wrap (bs i / Ev.aD .u32 8))]=db (kU i)
  rw[e0,e1,p8]
  unfold kU db; rw[if_neg WD]; rfl
 ·have WD:48<=i.form:=(Classical.not_not.1 hn).1
  refine⟨by decide,.inr ?_⟩
  refine⟨by decide,.inr ?_⟩
  refine ao ?_
  refine And.intro ?_ (And.intro rfl trivial)
  show [PV.int .u8 (IntKind.u8.wrap (bs i / Ev.aD .u32 16)),.int .u8 (IntKind.u8.wrap (bs i / Ev.aD .u32 24)),PV.int .u8 (IntKind.u8.wrap (bs i)),.int .u8 (IntKind.u8.wrap (bs i / Ev.aD .u32 8))]=db (kU i)
  rw[e0,e1,e2,e3,p8,p16,r24]
  unfold kU db; rw[if_pos WD]; rfl
theorem zt (i:IN) (h:¬ bQ i) (hI:tR i):ah gT 48 [bX i] (.tup [.sl 1 [],.int .i64 10]):=by
 refine Spec.enter ar P48 100 Tryz.func48 rfl (by kernel_rfl) ?_
 refine (MO i h hI).u ?_
 refine⟨fun _=>?_,fun h=>absurd (show ¬ (10:Int)=0 by decide) h⟩
 exact rA
def w9 (l:List Int):Prop:=∀ z∈l,0<=z/\z<=255
theorem fR (a b:Int) (k:Nat) (hk:k<=24) (ha:0<=a/\a < 2 ^ k) (hb:0<=b/\b*2 ^ k<=4294967295):bits .or .u32 a (b*2 ^ k)=a+b*2 ^ k/\bits .or .u32 (b*2 ^ k) a=b*2 ^ k+a:=by
 have p:=sL k (by omega)
 have p2:(2:Int) ^ k<=16777216:=by
  have h1:(2 ^ k:Nat)<=2 ^ 24:=Nat.pow_le_pow_right (by omega) hk
  have h3:=cl k
  have h4:(2:Nat) ^ 24=16777216:=by decide
  omega
 obtain⟨x,rfl⟩:∃ x:Nat,a=x:=⟨a.toNat,by omega⟩
 obtain⟨y,rfl⟩:∃ y:Nat,b=y:=⟨b.toNat,by omega⟩
 have e:((y:Int)*2 ^ k)=((2 ^ k*y:Nat):Int):=by rw[Int.natCast_mul,cl,Int.mul_comm]
 rw[e] at hb ⊢
 have hx:x < 2 ^ k:=by have:=cl k; omega
 have h:=we y x k hx
 constructor
 ·rw[u32_or _ _ (by omega) (by omega) (by omega) (by omega),Int.toNat_natCast,Int.toNat_natCast,Nat.or_comm,← h]; omega
 ·rw[u32_or _ _ (by omega) (by omega) (by omega) (by omega),Int.toNat_natCast,Int.toNat_natCast,← h]; omega
def hN (l:List Int) (n:Nat):Int:=l.getD n 0+l.getD (n+1) 0*256
theorem dQ {l:List Int} (h:w9 l) (n:Nat):0<=l.getD n 0/\l.getD n 0<=255:=by
 rw[List.getD_eq_getElem?_getD]
 cases e:l[n]? with
 | none=>exact⟨Int.le_refl 0,by decide⟩
 | some z=>exact h z (List.mem_of_getElem? e)
theorem Iv {l:List Int} (h:w9 l) (n:Nat):0<=hN l n/\hN l n<=65535:=by
 have a:=dQ h n
 have b:=dQ h (n+1)
 unfold hN; omega
theorem getD_some {l:List Int} {n:Nat} {z:Int} (h:l[n]?=some z):l.getD n 0=z:=by rw[List.getD_eq_getElem?_getD,h]; rfl
def hW (l:List Int) (n:Nat):Int:=hN l n*65536+hN l (n+2)
noncomputable def ZJ (l:List Int) (n:Nat):IN:=open Classical in
 if l.length < n+2 then iZ else if ¬ cL (hN l n) then ri (hN l n) False else if l.length < n+4 then iZ else ri (hW l n) True
noncomputable def ZK (l:List Int) (n:Nat):Int:=open Classical in
 if l.length < n+2 then 41 else if ¬ cL (hN l n) then sZ (hN l n) False else if l.length < n+4 then 41 else sZ (hW l n) True
structure RS where
 R:Nat->Int
 N:Int
 Z:Int
 C:Int
 V:Int
structure XS where
 i:IN
 s:RS
 at_:Int
 taken:Prop
 a:Int
 b:Int
 data:Int
 words:Int
 kind:Int
 code:Int
structure MS where
 w:Nat->Int
 fl:List Int
 wait:Int
 s:RS
 full:Prop
 line:Int
 iD:Int
 kind:Int
 code:Int
def s_ (R:Nat->Int) (i v:Int):Nat->Int:=fun m=>if i=(m:Int) then v else R m
def MR (s:RS):List PV:=[.int .u32 (s.R 0),.int .u32 (s.R 1),.int .u32 (s.R 2),.int .u32 (s.R 3),.int .u32 (s.R 4),.int .u32 (s.R 5),.int .u32 (s.R 6),.int .u32 (s.R 7),.int .u32 (s.R 8),.int .u32 (s.R 9),.int .u32 (s.R 10),.int .u32 (s.R 11),.int .u32 (s.R 12),.int .u32 (s.R 13),.int .u32 (s.R 14),.int .u32 (s.R 15),.int .u32 s.N,.int .u32 s.Z,.int .u32 s.C,.int .u32 s.V]
def pf (s:RS):PV:=.agg (MR s)
def jH (k:Nat):Int:=if k=0 then 1 else if k=1 then 256 else if k=2 then 65536 else 16777216
def gy (x:Int) (k:Nat):Int:=x / jH k % 256
def fG (w:Nat->Int):List PV:=(List.range 65536).map fun k=>.int .u8 (gy (w (k / 4)) (k % 4))
def uf (w:Nat->Int):au:=⟨.dyn,5,1,.w,true,fG w⟩
def MT (fl:List Int):au:=⟨.loc,150,1,.w,true,[.sl 1 (db fl),.wref 0]⟩
def Iw (d:Md) (m:MS):au:=⟨.loc,120,1,d,true,[.ptr 1 0,.int .i64 m.wait,.int .u32 (m.s.R 0),.int .u32 (m.s.R 1),.int .u32 (m.s.R 2),.int .u32 (m.s.R 3),.int .u32 (m.s.R 4),.int .u32 (m.s.R 5),.int .u32 (m.s.R 6),.int .u32 (m.s.R 7),.int .u32 (m.s.R 8),.int .u32 (m.s.R 9),.int .u32 (m.s.R 10),.int .u32 (m.s.R 11),.int .u32 (m.s.R 12),.int .u32 (m.s.R 13),.int .u32 (m.s.R 14),.int .u32 (m.s.R 15),.int .u32 m.s.N,.int .u32 m.s.Z,.int .u32 m.s.C,.int .u32 m.s.V,.bool m.full,.int .u32 m.line,.int .i64 m.iD,.int .i64 m.kind,.int .i64 m.code]⟩
abbrev Ix (m:MS):au:=Iw .w m
def ZL (x:XS):List PV:=[.ptr 2 0,.int .i64 x.i.form,.int .i64 x.i.rd,.int .i64 x.i.rn,.int .i64 x.i.rm,.int .i64 x.i.ra,.int .i64 x.i.av,.int .i64 x.i.kind,.int .i64 x.i.bG,.int .i64 x.i.set,.int .i64 x.i.cond,.int .i64 x.i.an,.int .u32 (x.s.R 0),.int .u32 (x.s.R 1),.int .u32 (x.s.R 2),.int .u32 (x.s.R 3),.int .u32 (x.s.R 4),.int .u32 (x.s.R 5),.int .u32 (x.s.R 6),.int .u32 (x.s.R 7),.int .u32 (x.s.R 8),.int .u32 (x.s.R 9),.int .u32 (x.s.R 10),.int .u32 (x.s.R 11),.int .u32 (x.s.R 12),.int .u32 (x.s.R 13),.int .u32 (x.s.R 14),.int .u32 (x.s.R 15),.int .u32 x.s.N,.int .u32 x.s.Z,.int .u32 x.s.C,.int .u32 x.s.V,.int .u32 x.at_,.bool x.taken,.int .u32 x.a,.int .u32 x.b,.int .u32 x.data,.int .i64 x.words,.int .i64 x.kind,.int .i64 x.code]
def ZM (d:Md) (x:XS):au:=⟨.loc,125,1,d,true,ZL x⟩
def stM (m:MS):List au:=[uf m.w,MT m.fl,Ix m]
def U8 (d e:Md) (m:MS) (x:XS):List au:=[uf m.w,MT m.fl,Iw d m,ZM e x]
abbrev hZ (m:MS) (x:XS):List au:=U8 .w .w m x
def w_:PV->Bool
 | .agg _|.tup _|.clo ..|.ref ..|.pti ..|.dpt ..|.ep ..|.gp ..|.gpi ..|.val _=>false
 | _=>true
theorem zu {x:PV} (h:w_ x=true):z9 x x:=by
 cases x<;>first|(cases h; done)|exact rfl|exact trivial|exact Iff.rfl|(unfold z9; simp)
theorem fH:∀ {l:List PV},l.all w_=true->pa z9 l l
 | [],_=>trivial
 | x::l,h=>by
  simp only[List.all_cons,Bool.and_eq_true] at h
  exact⟨zu h.1,fH h.2⟩
theorem a_ {b:au} (hl:b.live=true) (hc:(bif b.k.tN then b.cs.all w_ else true)=true):gB b b:=by
 obtain⟨k,ty,n,m,live,cs⟩:=b
 simp only at hl
 subst hl
 have hm:(Nat.beq ty ty && Nat.beq n n && Md.beq m m && true && true && BK.beq k k)=true:=by
  simp only[Nat.beq_refl,Bool.and_true,Bool.true_and,Bool.and_eq_true]
  exact⟨by cases m<;>rfl,by cases k<;>rfl⟩
 show (bif (Nat.beq ty ty && Nat.beq n n && Md.beq m m && true && true && BK.beq k k) then _ else False)
 rw[hm,cond_true]
 cases k
 ·exact fH hc
 ·exact fH hc
 ·exact rfl
 ·exact rfl
def okB (b:au):Bool:=b.live && (bif b.k.tN then b.cs.all w_ else true)
theorem pL {b:au} (h:okB b=true):gB b b:=by
 unfold okB at h
 simp only[Bool.and_eq_true] at h
 exact a_ h.1 h.2
theorem ak:∀ {S:List au},S.all okB=true->sB S S
 | [],_=>trivial
 | b::S,h=>by
  simp only[List.all_cons,Bool.and_eq_true] at h
  exact⟨pL h.1,ak h.2⟩
theorem uY:∀ {S T:List au} {k:List au->Prop},S.all okB=true->k T->KY (S++T) S k
 | [],_,_,_,h=>h
 | b::S,T,k,ho,h=>by
  simp only[List.all_cons,Bool.and_eq_true] at ho
  exact⟨pL ho.1,uY (S:=S) ho.2 h⟩
theorem Spec.ZN {G:Gx} {f:FuncId} {args args':List PV} {r0:PV} {S0 S1 st T:List au} {K:PV->List au->Prop} (h:Spec G f args' S0 [] fun r S'=>r=r0/\S'=S1)
  (hc:(kQ S0 S1 && S0.all (ye S0.length) && (dZ args').all (fun l=>Nat.blt l S0.length) && r0.dx.all (fun l=>Nat.blt l S0.length) && S0.all okB)=true) (hle:pa ki args args') (z7:st=S0++T) (hK:yd S1 fun S1=>D2 S1 T (K r0)):Spec G f args st [] K:=by
 simp only[Bool.and_eq_true] at hc
 obtain⟨⟨⟨⟨h1,h2⟩,h3⟩,h4⟩,h5⟩:=hc
 subst z7
 exact h.yp h1 h2 h3 h4 hle (uY h5 hK)
def Wh (π:gS) (st:List au):List Nat->List au->Prop->Prop
 | [],[],k=>k
 | l::σ,b'::S,k=>(bD st[l]? fun b=>okB b=true/\ue π b' fun nu=>b=nu)/\Wh π st σ S k
 | _,_,_=>False
theorem C3 {π:gS} {st:List au}:∀ {σ:List Nat} {S:List au} {k:Prop},Wh π st σ S k->atK π st σ S k
 | [],[],_,h=>h
 | l::σ,b'::S,k,h=>by
  refine⟨?_,C3 h.2⟩
  obtain⟨b,hb,ho,hr⟩:=az h.1
  rw[hb]
  show ue π b' fun nu=>gB b nu
  obtain⟨k0,ty,n,m,live,cs⟩:=b'
  cases k0
  ·obtain⟨ds,h1,h2⟩:=az hr
   show bD (gl π cs) _
   rw[h1]; subst h2; exact pL ho
  ·obtain⟨ds,h1,h2⟩:=az hr
   show bD (gl π cs) _
   rw[h1]; subst h2; exact pL ho
  ·have e:b=⟨.dyn,ty,n,m,live,cs⟩:=hr
   subst e; exact pL ho
  ·have e:b=⟨.mp,ty,n,m,live,cs⟩:=hr
   subst e; exact pL ho
 | [],_::_,_,h=>h.elim
 | _::_,[],_,h=>h.elim
theorem Spec.useQ {G:Gx} {f:FuncId} {args args':List PV} {r0:PV} {S0 S1 st:List au} {K:PV->List au->Prop} (σ:List Nat) (h:Spec G f args' S0 [] fun r S'=>r=r0/\S'=S1) (hc:(kQ S0 S1 && lY σ)=true) (sw:r0.dx = []) (hle:HX (σ.map some) args args') (hK:Wh (σ.map some) st σ S0 (Wd (σ.map some) σ S1 st (K r0))):Spec G f args st [] K:=by
 simp only[Bool.and_eq_true] at hc
 exact Spec.ZB σ h hc.1 sw hc.2 hle (C3 hK)
theorem C4 {π:gS} {st:List au}:∀ {σ:List Nat} {S:List au} {k:Prop},Wh π st σ S True->k->Wh π st σ S k
 | [],[],_,_,h=>h
 | _::_,_::_,_,h,hk=>⟨h.1,C4 h.2 hk⟩
 | [],_::_,_,h,_=>h.elim
 | _::_,[],_,h,_=>h.elim
theorem Spec.e {P:Nat->Prop} {G:Gx} {f:FuncId} {args args':List PV} {r0:PV} {S0 S1 st:List au} {K:List Nat->PV->List au->Prop} (h:Spec G f args' S0 [] fun r S'=>r=r0/\S'=S1) (hK:yd S1 fun S1=>D2 S1 (st.drop S0.length) (K [] r0)) (hle:pa ki args args':=by repeat' first|exact trivial|exact rfl|exact Iff.rfl|refine And.intro ?_ ?_) (z7:st=S0++st.drop S0.length:=by rfl)
  (hc:(kQ S0 S1 && S0.all (ye S0.length) && (dZ args').all (fun l=>Nat.blt l S0.length) && r0.dx.all (fun l=>Nat.blt l S0.length) && S0.all okB)=true:=by rfl):∃ rl:List Nat,(∀ l,l∈rl->P l)/\Spec G f args st rl (K rl):=⟨[],fun _ hl=>(by cases hl),h.ZN hc hle z7 hK⟩
theorem Spec.q {P:Nat->Prop} {G:Gx} {f:FuncId} {args args':List PV} {r0:PV} {S0 S1 st:List au} {K:List Nat->PV->List au->Prop} (h:Spec G f args' S0 [] fun r S'=>r=r0/\S'=S1) (σ:List Nat) (hK:Wd (σ.map some) σ S1 st (K [] r0)) (hle:HX (σ.map some) args args':=by repeat' first|exact trivial|exact rfl|exact Iff.rfl|refine And.intro ?_ ?_) (ha:Wh (σ.map some) st σ S0 True:=by repeat' first|exact trivial|exact⟨rfl,rfl⟩|refine And.intro ?_ ?_) (hc:(kQ S0 S1 && lY σ)=true:=by rfl) (sw:r0.dx = []:=by rfl):∃ rl:List Nat,(∀ l,l∈rl->P l)/\Spec G f args st rl (K rl):=⟨[],fun _ hl=>(by cases hl),h.useQ σ hc sw hle (C4 ha hK)⟩
theorem rS {r r0:PV} {S' S1:List au} (h:ki r r0:=by repeat' first|exact trivial|exact rfl|exact Iff.rfl|refine And.intro ?_ ?_) (hs:sB S' S1:=by first|exact ak rfl|(repeat' first|exact trivial|exact rfl|exact Iff.rfl|exact not_false|refine And.intro ?_ ?_)):∃ r',AD r r'/\(fun x S'=>x=r0/\sB S' S1) r' S':=bj h hs
theorem MU (x:XS):∀ k:Nat,k < 16->(ZL x)[12+k*1]?=some (.int .u32 (x.s.R k))
 | 0,_=>rfl
 | 1,_=>rfl
 | 2,_=>rfl
 | 3,_=>rfl
 | 4,_=>rfl
 | 5,_=>rfl
 | 6,_=>rfl
 | 7,_=>rfl
 | 8,_=>rfl
 | 9,_=>rfl
 | 10,_=>rfl
 | 11,_=>rfl
 | 12,_=>rfl
 | 13,_=>rfl
 | 14,_=>rfl
 | 15,_=>rfl
 | k+16,h=>absurd h (by omega)
def al (x:XS) (r:Int):Int:=if r=15 then IntKind.u32.wrap (x.at_+4) else x.s.R r.toNat
def cg (x:XS) (r v:Int):XS:={ x with s:={ x.s with R:=s_ x.s.R r v } }
def lg (x:XS) (v:Int):XS:={ x with s:={ x.s with N:=v / 2147483648,Z:=if v=0 then 1 else 0 } }
end Go.Proofs.YtnbngokbamifbaaGreatDoor.Pw

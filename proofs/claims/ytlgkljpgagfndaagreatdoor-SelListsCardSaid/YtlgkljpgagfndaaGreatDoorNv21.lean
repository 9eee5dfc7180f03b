/- What this claim is proved with: no condition. -/
import Derived.Test.YtlgkljpgagfndaaGreatDoorNv13
import Derived.Test.YtlgkljpgagfndaaGreatDoorNv14
import Derived.Test.YtlgkljpgagfndaaGreatDoorNv18
import Derived.Test.YtlgkljpgagfndaaGreatDoorNv19
import Derived.Test.YtlgkljpgagfndaaGreatDoorNv20
import Derived.Test.YtlgkljpgagfndaaGreatDoorNv9
import Derived.Test.YtlgkljpgagfndaaGreatDoorRows
import Derived.ProofKit
import Derived.LaidMore
import Derived.OpenShut
import Derived.Stop.Joined
import Derived.Lib.LaidTab
import Derived.Test.YtlgkljpgagfndaaGreatDoorNv11
import Derived.Test.YtlgkljpgagfndaaGreatDoorNvAluB
import Derived.Test.YtlgkljpgagfndaaGreatDoorNvImmB
import Derived.Test.YtlgkljpgagfndaaGreatDoorNvPop32
set_option maxRecDepth 100000
set_option maxHeartbeats 8000000
set_option linter.unusedVariables false
set_option linter.unusedSimpArgs false
namespace Go.Proofs.YtlgkljpgagfndaaGreatDoor.Pw
open Go Go.RowKit
theorem iJ {f:Int} (h:1<=f/\f<=100):17<=aa f↔48<=f:=by
 have h1:((List.range 100).all fun k=>decide (17<=aa ((k+1:Nat):Int)↔48<=k+1))=true:=by decide +kernel
 have h2:=of_decide_eq_true (List.all_eq_true.1 h1 (f.toNat - 1) (List.mem_range.2 (by omega)))
 rw[show (((f.toNat - 1+1:Nat)):Int)=f by omega] at h2
 omega
theorem Ba {s:Int} (h:1<=s/\s<=16):s=1\/s=2\/s=3\/s=4\/s=5\/s=6\/s=7\/s=8\/s=9\/s=10\/s=11\/s=12\/s=13\/s=14\/s=15\/s=16:=by omega
theorem Bb {s:Int} (h:17<=s/\s<=34):s=17\/s=18\/s=19\/s=20\/s=21\/s=22\/s=23\/s=24\/s=25\/s=26\/s=27\/s=28\/s=29\/s=30\/s=31\/s=32\/s=33\/s=34:=by omega
theorem vo (f w:Int) (hF:1<=f/\f<=100) (hn:¬ 48<=f) (hw:a_ w):ai gT 103 [.int .i64 f,.int .u32 w] (cX (bd f w)):=by
 have Vg:=iJ hF
 have hb:=kY hF
 rcases Ba (s:=aa f) (by omega) with hs|hs|hs|hs|hs|hs|hs|hs|hs|hs|hs|hs|hs|hs|hs|hs
 ·rw[rd_1 hs]; exact zz f w hF hs hw
 ·rw[rd_2 hs]; exact zA f w hF hs hw
 ·rw[rd_3 hs]; exact zB f w hF hs hw
 ·rw[rd_4 hs]; exact zC f w hF hs hw
 ·rw[rd_5 hs]; exact zD f w hF hs hw
 ·rw[rd_6 hs]; exact zE f w hF hs hw
 ·rw[rd_7 hs]; exact zF f w hF hs hw
 ·rw[rd_8 hs]; exact zG f w hF hs hw
 ·rw[rd_9 hs]; exact zH f w hF hs hw
 ·rw[Yp hs]; exact xD f w hF hs hw
 ·rw[Yq hs]; exact xE f w hF hs hw
 ·rw[Yr hs]; exact xF f w hF hs hw
 ·rw[Ys hs]; exact xG f w hF hs hw
 ·rw[Yt hs]; exact xH f w hF hs hw
 ·rw[Yu hs]; exact xI f w hF hs hw
 ·rw[Yv hs]; exact xJ f w hF hs hw
 
theorem zK (f w:Int) (hF:1<=f/\f<=100) (hn:48<=f) (hw:a_ w):ai gT 104 [.int .i64 f,.int .u32 w] (cX (bd f w)):=by
 have Vg:=iJ hF
 have hb:=kY hF
 rcases Bb (s:=aa f) (by omega) with hs|hs|hs|hs|hs|hs|hs|hs|hs|hs|hs|hs|hs|hs|hs|hs|hs|hs
 ·rw[Yw hs]; exact C0 f w hF hs hw
 ·rw[Yx hs]; exact C1 f w hF hs hw
 ·rw[Yy hs]; exact C2 f w hF hs hw
 ·rw[Yz hs]; exact C3 f w hF hs hw
 ·rw[YA hs]; exact C5 f w hF hs hw
 ·rw[YB hs]; exact C7 f w hF hs hw
 ·rw[YC hs]; exact C9 f w hF hs hw
 ·rw[YD hs]; exact C' f w hF hs hw
 ·rw[YE hs]; exact C_ f w hF hs hw
 ·rw[YF hs]; exact Da f w hF hs hw
 ·rw[YG hs]; exact Db f w hF hs hw
 ·rw[YH hs]; exact Dc f w hF hs hw
 ·rw[YI hs]; exact Dd f w hF hs hw
 ·rw[YJ hs]; exact De f w hF hs hw
 ·rw[YK hs]; exact Df f w hF hs hw
 ·rw[YL hs]; exact Dg f w hF hs hw
 ·rw[YM hs]; exact Dh f w hF hs hw
 ·rw[YN hs]; exact Di f w hF hs hw
 
def Vh (i:IN):Int:=((eX (d_ i) (aD (aa i.form)):Nat):Int)
theorem zL (i:IN) (hr:au i) (hn:¬ 48<=i.form) (hg:i.ar<=9223372036854775807):ai gT 132 [cX i] (.int .u32 (Vh i)):=by
 have Vg:=iJ hr.1
 have hb:=kY hr.1
 unfold Vh
 unfold au at hr
 rw[aQ (by omega)]
 rcases Ba (s:=aa i.form) (by omega) with hs|hs|hs|hs|hs|hs|hs|hs|hs|hs|hs|hs|hs|hs|hs|hs
 ·rw[hs] at hr ⊢; exact GS i hs hr hg
 ·rw[hs] at hr ⊢; exact GU i hs hr hg
 ·rw[hs] at hr ⊢; exact GV i hs hr hg
 ·rw[hs] at hr ⊢; exact GW i hs hr hg
 ·rw[hs] at hr ⊢; exact GX i hs hr hg
 ·rw[hs] at hr ⊢; exact GY i hs hr hg
 ·rw[hs] at hr ⊢; exact GZ i hs hr hg
 ·rw[hs] at hr ⊢; exact G0 i hs hr hg
 ·rw[hs] at hr ⊢; exact G1 i hs hr hg
 ·rw[hs] at hr ⊢; exact Dj i hs hr hg
 ·rw[hs] at hr ⊢; exact Dk i hs hr hg
 ·rw[hs] at hr ⊢; exact Dl i hs hr hg
 ·rw[hs] at hr ⊢; exact Dm i hs hr hg
 ·rw[hs] at hr ⊢; exact Dn i hs hr hg
 ·rw[hs] at hr ⊢; exact Dp i hs hr hg
 ·rw[hs] at hr ⊢; exact Dq i hs hr hg
 
theorem Hd (i:IN) (hr:au i) (hn:48<=i.form) (hg:i.ar<=9223372036854775807):ai gT 131 [cX i] (.int .u32 (Vh i)):=by
 have Vg:=iJ hr.1
 have hb:=kY hr.1
 unfold Vh
 unfold au at hr
 rcases Bb (s:=aa i.form) (by omega) with hs|hs|hs|hs|hs|hs|hs|hs|hs|hs|hs|hs|hs|hs|hs|hs|hs|hs
 ·rw[aQ (by omega)]; rw[hs] at hr ⊢; exact Ll i hs hr hg
 ·rw[aQ (by omega)]; rw[hs] at hr ⊢; exact Lm i hs hr hg
 ·rw[aQ (by omega)]; rw[hs] at hr ⊢; exact Ln i hs hr hg
 ·rw[aQ (by omega)]; rw[hs] at hr ⊢; exact Lo i hs hr hg
 ·rw[aQ (by omega)]; rw[hs] at hr ⊢; exact Lp i hs hr hg
 ·rw[aQ (by omega)]; rw[hs] at hr ⊢; exact Lq i hs hr hg
 ·rw[aQ (by omega)]; rw[hs] at hr ⊢; exact Lr i hs hr hg
 ·rw[aQ (by omega)]; rw[hs] at hr ⊢; exact Ls i hs hr hg
 ·rw[aQ (by omega)]; rw[hs] at hr ⊢; exact Lt i hs hr hg
 ·rw[aQ (by omega)]; rw[hs] at hr ⊢; exact Lu i hs hr hg
 ·rw[aQ (by omega)]; rw[hs] at hr ⊢; exact Lv i hs hr hg
 ·rw[aQ (by omega)]; rw[hs] at hr ⊢; exact Lw i hs hr hg
 ·rw[aQ (by omega)]; rw[hs] at hr ⊢; exact Lx i hs hr hg
 ·rw[aQ (by omega)]; rw[hs] at hr ⊢; exact Ly i hs hr hg
 ·rw[aQ (by omega)]; rw[hs] at hr ⊢; exact Lz i hs hr hg
 ·rw[aQ (by omega)]; rw[hs] at hr ⊢; exact LA i hs hr hg
 ·rw[aQ (by omega)]; rw[hs] at hr ⊢; exact LB i hs hr hg
 ·rw[hs] at hr ⊢; exact LC i hs hr hg
theorem zM (i:IN):eX (d_ i) (aD (aa i.form)) < 4294967296:=by
 have h:=F0 (d_ i) (aD (aa i.form)) (Cg _)
 rw[xB] at h
 exact Nat.lt_of_le_of_lt Nat.right_le_or h
theorem Bc (i:IN):bits .or .u32 (mW i.form) (Vh i)=bC i:=by
 have b:=AM i.form
 have l:=zM i
 rw[nS]
 unfold Vh
 rw[u32_or _ _ b.1 b.2 (by omega) (by omega),Int.toNat_natCast]
theorem oV (i:IN) (hr:au i) (hg:i.ar<=9223372036854775807):ai gT 100 [cX i] (.int .u32 (bC i)):=by
 refine Spec.enter al P100 100 Tryz.func100 rfl (by kernel_rfl) ?_
 refine (lI i.form).u ?_
 refine⟨fun h=>?_,fun h=>?_⟩
 ·refine (gI i.form).u ?_
  refine (Hd i hr h.1 hg).u ?_
  refine aw ?_
  exact Bc i
 ·refine (gI i.form).u ?_
  refine (zL i hr (fun e=>h ⟨e,hr.1.2⟩) hg).u ?_
  refine aw ?_
  exact Bc i
theorem He:∀ k:Fin 35,(aD ((k.1:Nat):Int)).all (fun x=>decide (x.2.1+x.2.2.2<=25))=true:=by decide
theorem xM (s:Int):∀ x∈aD s,x.2.1+x.2.2.2<=25:=by
 have h:(aD s).all (fun x=>decide (x.2.1+x.2.2.2<=25))=true:=by
  by_cases h:s < 1\/34 < s
  ·rw[jc s h]; rfl
  ·have h1:=He ⟨s.toNat,by omega⟩
   rwa [show (((⟨s.toNat,by omega⟩:Fin 35).1:Nat):Int)=s by simp only[]; omega] at h1
 exact fun x hx=>of_decide_eq_true (List.all_eq_true.1 h x hx)
theorem LR (w:Int) (a n l:Nat) (h:l+n<=25):0<=ab w a n*2 ^ l/\ab w a n*2 ^ l<=33554432:=by
 have b:=af w a n
 have p1:=cK l
 have p2:=cK n
 have q1:=Nat.two_pow_pos l
 have e:((ab w a n).toNat:Int)=ab w a n:=Int.toNat_of_nonneg b.1
 have h1:(ab w a n).toNat < 2 ^ n:=by omega
 have h2:(ab w a n).toNat*2 ^ l<=2 ^ n*2 ^ l:=Nat.mul_le_mul_right _ (Nat.le_of_lt h1)
 have h3:2 ^ n*2 ^ l<=2 ^ 25:=by rw[← Nat.pow_add]; exact Nat.pow_le_pow_right (by omega) (by omega)
 have e2:ab w a n*2 ^ l=(((ab w a n).toNat*2 ^ l:Nat):Int):=by rw[Int.natCast_mul,e,p1]
 rw[e2]
 have h4:(2:Nat) ^ 25=33554432:=by decide
 omega
theorem Hf (w:Int):∀ (l:List (Nat × Nat × Nat × Nat)) (a:Int),(∀ x∈l,x.2.1+x.2.2.2<=25)->a<=l.foldl (fun a x=>a+ab w x.2.2.1 x.2.2.2*2 ^ x.2.1) a/\l.foldl (fun a x=>a+ab w x.2.2.1 x.2.2.2*2 ^ x.2.1) a<=a+l.length*33554432
 | [],a,_=>by simp
 | x::l,a,h=>by
  have ih:=Hf w l (a+ab w x.2.2.1 x.2.2.2*2 ^ x.2.1) fun y hy=>h y (List.mem_cons_of_mem _ hy)
  have t:=LR w x.2.2.1 x.2.2.2 x.2.1 (h x (List.mem_cons_self ..))
  rw[List.foldl_cons,List.length_cons]
  omega
theorem YV (s w:Int) (f:Nat):0<=xV s w f/\xV s w f<=234881024:=by
 have h:=Hf w ((aD s).filter fun x=>decide (x.1=f)) 0 fun x hx=>xM s x (List.mem_filter.1 hx).1
 have l1:((aD s).filter fun x=>decide (x.1=f)).length<=7:=Nat.le_trans (List.length_filter_le ..) (zn s)
 unfold xV
 omega
theorem nV (x:Int) (w:Nat) (hw:w<=25):x - 33554432<=dh x w/\dh x w<=x:=by
 have p:(2:Int) ^ w<=33554432/\0 < (2:Int) ^ w:=by
  have h1:(2 ^ w:Nat)<=2 ^ 25:=Nat.pow_le_pow_right (by omega) hw
  have h3:=cK w
  have:=Nat.two_pow_pos w
  have h4:(2:Nat) ^ 25=33554432:=by decide
  omega
 unfold dh; split<;>omega
theorem LS (s f x:Int) (hx:0<=x/\x<=234881024):-1099511627776<=pV s f x/\pV s f x<=1099511627776:=by
 have a:=nV x 9 (by decide)
 have b:=nV x 12 (by decide)
 have c:=nV x 21 (by decide)
 have t:=FY x 2 (by decide)
 have d:=nV (bL x 2) 25 (by decide)
 unfold pV
 (repeat' split)<;>omega
theorem LU (f w:Int):∀ k,k < 10->-1099511627776<=j5 (bd f w) k/\j5 (bd f w) k<=1099511627776:=by
 intro k hk
 have x:=fun n=>YV (aa f) w n
 match k,hk with
 | 0,_=>have:=x 0; exact⟨by show _<=xV (aa f) w 0; omega,by show xV (aa f) w 0<=_; omega⟩
 | 1,_=>have:=x 1; exact⟨by show _<=xV (aa f) w 1; omega,by show xV (aa f) w 1<=_; omega⟩
 | 2,_ =>
  have:=x 2
  have b:=af w 0 4
  have e:-1099511627776<=Wm (aa f) w (xV (aa f) w 2)/\Wm (aa f) w (xV (aa f) w 2)<=1099511627776:=by unfold Wm; split<;>omega
  exact e
 | 3,_=>have:=x 3; exact⟨by show _<=xV (aa f) w 3; omega,by show xV (aa f) w 3<=_; omega⟩
 | 4,_=>exact LS (aa f) f (xV (aa f) w 4) (x 4)
 | 5,_=>have:=x 5; exact⟨by show _<=xV (aa f) w 5; omega,by show xV (aa f) w 5<=_; omega⟩
 | 6,_ =>
  have:=x 6
  have e:-1099511627776<=ND (aa f) (xV (aa f) w 5) (xV (aa f) w 6)/\ND (aa f) (xV (aa f) w 5) (xV (aa f) w 6)<=1099511627776:=by unfold ND; split<;>omega
  exact e
 | 7,_=>have:=x 7; exact⟨by show _<=xV (aa f) w 7; omega,by show xV (aa f) w 7<=_; omega⟩
 | 8,_=>have:=x 8; exact⟨by show _<=xV (aa f) w 8; omega,by show xV (aa f) w 8<=_; omega⟩
 | 9,_=>have:=x 9; exact⟨by show _<=xV (aa f) w 9; omega,by show xV (aa f) w 9<=_; omega⟩
def rJ (w f:Int):Prop:=au (bd f w)/\bC (bd f w)=w
theorem Hg {w f:Int} (h:rJ w f):bits .and .u32 w (mW f)=mW f:=by
 have b:=AM f
 have e:=h.2
 rw[nS] at e
 have l:(mW (bd f w).form).toNat=(mW f).toNat:=rfl
 rw[l] at e
 have lt:=j7 (show (mW f).toNat < 4294967296 by omega) (zM (bd f w))
 obtain⟨a,ha⟩:∃ a,a=(mW f).toNat:=⟨_,rfl⟩
 obtain⟨o,ho⟩:∃ o,o=eX (d_ (bd f w)) (aD (aa (bd f w).form)):=⟨_,rfl⟩
 rw[← ha,← ho] at e lt
 have ea:mW f=(a:Int):=by omega
 rw[ea,← e,u32_and _ _ (by omega) (by omega) (by omega) (by omega),Int.toNat_natCast,Int.toNat_natCast]
 congr 1
 apply Nat.eq_of_testBit_eq
 intro p
 rw[Nat.testBit_and,Nat.testBit_or]
 cases a.testBit p<;>simp
def fq (wide:Prop) (f:Int):Prop:=(wide/\48<=f/\f<=100)\/(¬ wide/\1<=f/\f<=47)
def jl (w:Int) (wide:Prop) (f:Int):Prop:=fq wide f/\rJ w f/\∀ g,fq wide g->g < f->¬ rJ w g
theorem Dx {w:Int} {wide:Prop} {f g:Int} (hf:jl w wide f) (hg:jl w wide g):f=g:=by
 by_cases h:f < g
 ·exact absurd hf.2.1 (hg.2.2 f hf.1 h)
 by_cases h2:g < f
 ·exact absurd hg.2.1 (hf.2.2 g hg.1 h2)
 omega
noncomputable def Dy (w:Int) (wide:Prop):IN:=open Classical in if h:∃ f,jl w wide f then bd h.choose w else iZ
noncomputable def kv (w:Int) (wide:Prop):Int:=open Classical in if ∃ f,jl w wide f then 0 else 40
theorem rK {w:Int} {wide:Prop} {f:Int} (h:jl w wide f):Dy w wide=bd f w:=by
 have e:∃ f,jl w wide f:=⟨f,h⟩
 unfold Dy
 rw[dif_pos e,Dx e.choose_spec h]
theorem vp {w:Int} {wide:Prop} {f:Int} (h:jl w wide f):kv w wide=0:=if_pos ⟨f,h⟩
theorem T_ {w:Int} {wide:Prop} (h:∀ f,fq wide f->¬ rJ w f):Dy w wide=iZ:=dif_neg fun ⟨f,hf⟩=>h f hf.1 hf.2.1
theorem Ua {w:Int} {wide:Prop} (h:∀ f,fq wide f->¬ rJ w f):kv w wide=40:=if_neg fun ⟨f,hf⟩=>h f hf.1 hf.2.1
theorem LV (i:IN) (h:au i) (hg:i.ar<=9223372036854775807):jl (bC i) (48<=i.form) i.form:=by
 have hb:=back i h hg
 have hit:rJ (bC i) i.form:=by unfold rJ; rw[hb]; exact⟨h,rfl⟩
 have f1:=h.1
 refine⟨by unfold fq; omega,hit,fun g hgf cJ hh=>?_⟩
 have e:=Ck (a:=bd g (bC i)) (b:=i) hh.1 h (by show 48<=g↔48<=i.form; unfold fq at hgf; omega) hh.2
 have:g=i.form:=e
 omega
theorem Hh (i:IN) (h:au i) (hI:yw i):ai gT 67 [cX i] (.tup [.int .u32 (bC i),.int .i64 0]):=by
 refine Spec.enter al P67 100 Tryz.func67 rfl (by kernel_rfl) ?_
 refine (mH i (hI i.az (by simp[pX]))).u ?_
 refine⟨fun h'=>absurd h h',fun _=>?_⟩
 refine (oV i h (hI i.ar (by simp[pX])).2).u ?_
 exact rA
theorem Bd {f w:Int} (hf:zi f):yw (bd f w):=by
 intro x hx
 have b:=LU f w
 simp only[pX,List.mem_cons,List.not_mem_nil,or_false] at hx
 have key:∀ k,k < 10->zi (j5 (bd f w) k):=fun k hk=>by have:=b k hk; unfold zi; omega
 rcases hx with rfl|rfl|rfl|rfl|rfl|rfl|rfl|rfl|rfl|rfl|rfl
 ·exact hf
 ·exact key 0 (by decide)
 ·exact key 1 (by decide)
 ·exact key 2 (by decide)
 ·exact key 3 (by decide)
 ·exact key 4 (by decide)
 ·exact key 5 (by decide)
 ·exact key 6 (by decide)
 ·exact key 7 (by decide)
 ·exact key 8 (by decide)
 ·exact key 9 (by decide)
theorem Be (w:Int) (wide:Prop) (hw:a_ w):ai gT 74 [.int .u32 w,.bool wide] (.tup [cX (Dy w wide),.int .i64 (kv w wide)]):=by
 refine Spec.enter al P74 100 Tryz.func74 rfl (by kernel_rfl) ?_
 refine SW.q9 al P74 (by kernel_rfl) (α:={k:Nat // k<=100/\∀ g:Int,fq wide g->g < k+1->¬ rJ w g}) (fun k=>[(6,.int .i64 (k.1+1:Nat))]) (fun k=>100 - k.1) ⟨0,by omega,fun g hg cJ=>by unfold fq at hg; omega⟩ 100 ?_ ?_
 ·repeat' first|exact Iff.rfl|exact trivial|exact rfl|refine And.intro ?_ ?_
 rintro⟨k,hk,Ar⟩
 refine⟨fun h=>?_,fun h=>?_⟩
 ·have Bf:((k+1:Nat):Int)<=100:=h
  have hF:1<=((k+1:Nat):Int)/\((k+1:Nat):Int)<=100:=⟨by omega,Bf⟩
  have hf:zi ((k+1:Nat):Int):=by unfold zi; omega
  have next:¬ (fq wide ((k+1:Nat):Int)/\rJ w ((k+1:Nat):Int))->∀ g:Int,fq wide g->g < ((k+1:Nat):Int)+1->¬ rJ w g:=fun hn g hg cJ hh=>by
   by_cases e:g=((k+1:Nat):Int)
   ·subst e; exact hn ⟨hg,hh⟩
   ·exact Ar g hg (by omega) hh
  refine (lI ((k+1:Nat):Int)).u ?_
  refine⟨fun de=>?_,fun heq=>?_⟩
  ·refine .inl ⟨ao (show _<=((k+1:Nat):Int)+1/\((k+1:Nat):Int)+1<=_ by omega),⟨⟨k+1,by omega,next fun hh=>de ?_⟩,show 100 - (k+1) < 100 - k by omega,?_⟩⟩
   ·unfold fq at hh; exact⟨fun h2=>hh.1.elim (fun e=>e.1) (fun e=>absurd h2.1 (by omega)),fun h2=>hh.1.elim (fun e=>e.2) (fun e=>absurd h2 e.1)⟩
   repeat' first|exact Iff.rfl|exact trivial|exact rfl|refine And.intro ?_ ?_
  have heq:=Classical.not_not.1 heq
  refine (gI ((k+1:Nat):Int)).u ?_
  refine (gI ((k+1:Nat):Int)).u ?_
  refine⟨fun hm=>?_,fun hm=>?_⟩
  ·refine .inl ⟨ao (show _<=((k+1:Nat):Int)+1/\((k+1:Nat):Int)+1<=_ by omega),⟨⟨k+1,by omega,next fun hh=>hm (Hg hh.2)⟩,show 100 - (k+1) < 100 - k by omega,?_⟩⟩
   repeat' first|exact Iff.rfl|exact trivial|exact rfl|refine And.intro ?_ ?_
  have Al:fq wide ((k+1:Nat):Int):=by
   unfold fq
   by_cases hW:wide
   ·exact .inl ⟨hW,heq.2 hW⟩
   ·refine .inr ⟨hW,by omega,?_⟩
    by_cases sU:48<=((k+1:Nat):Int)
    ·exact absurd (heq.1 ⟨sU,Bf⟩) hW
    ·omega
  have hI:=Bd (w:=w) hf
  have hR:=mH (bd ((k+1:Nat):Int) w) (hI (bd ((k+1:Nat):Int) w).az (by simp[pX]))
  by_cases hW:wide
  ·have sU:=(heq.2 hW).1
   refine (sS ((k+1:Nat):Int) w ((iJ hF).2 sU) hw).u ?_
   refine⟨fun _=>?_,fun hn=>absurd hW hn⟩
   refine (zK ((k+1:Nat):Int) w hF sU hw).u ?_
   refine hR.u ?_
   refine⟨fun hr=>?_,fun hr=>?_⟩
   ·refine (oV (bd ((k+1:Nat):Int) w) hr (hI (bd ((k+1:Nat):Int) w).ar (by simp[pX])).2).u ?_
    refine⟨fun hp=>?_,fun hp=>?_⟩
    ·have Hi:jl w wide ((k+1:Nat):Int):=⟨Al,⟨hr,hp⟩,fun g hg cJ=>Ar g hg (by omega)⟩
     rw[rK Hi,vp Hi]
     exact rA
    ·refine .inl ⟨ao (show _<=((k+1:Nat):Int)+1/\((k+1:Nat):Int)+1<=_ by omega),⟨⟨k+1,by omega,next fun hh=>hp hh.2.2⟩,show 100 - (k+1) < 100 - k by omega,?_⟩⟩
     repeat' first|exact Iff.rfl|exact trivial|exact rfl|refine And.intro ?_ ?_
   ·refine .inl ⟨ao (show _<=((k+1:Nat):Int)+1/\((k+1:Nat):Int)+1<=_ by omega),⟨⟨k+1,by omega,next fun hh=>hr hh.2.1⟩,show 100 - (k+1) < 100 - k by omega,?_⟩⟩
    repeat' first|exact Iff.rfl|exact trivial|exact rfl|refine And.intro ?_ ?_
  ·have sU:¬ 48<=((k+1:Nat):Int):=fun e=>hW (heq.1 ⟨e,Bf⟩)
   refine (vo ((k+1:Nat):Int) w hF sU hw).u ?_
   refine⟨fun h=>absurd h hW,fun _=>?_⟩
   refine hR.u ?_
   refine⟨fun hr=>?_,fun hr=>?_⟩
   ·refine (oV (bd ((k+1:Nat):Int) w) hr (hI (bd ((k+1:Nat):Int) w).ar (by simp[pX])).2).u ?_
    refine⟨fun hp=>?_,fun hp=>?_⟩
    ·have Hi:jl w wide ((k+1:Nat):Int):=⟨Al,⟨hr,hp⟩,fun g hg cJ=>Ar g hg (by omega)⟩
     rw[rK Hi,vp Hi]
     exact rA
    ·refine .inl ⟨ao (show _<=((k+1:Nat):Int)+1/\((k+1:Nat):Int)+1<=_ by omega),⟨⟨k+1,by omega,next fun hh=>hp hh.2.2⟩,show 100 - (k+1) < 100 - k by omega,?_⟩⟩
     repeat' first|exact Iff.rfl|exact trivial|exact rfl|refine And.intro ?_ ?_
   ·refine .inl ⟨ao (show _<=((k+1:Nat):Int)+1/\((k+1:Nat):Int)+1<=_ by omega),⟨⟨k+1,by omega,next fun hh=>hr hh.2.1⟩,show 100 - (k+1) < 100 - k by omega,?_⟩⟩
    repeat' first|exact Iff.rfl|exact trivial|exact rfl|refine And.intro ?_ ?_
 ·have Bf:¬ ((k+1:Nat):Int)<=100:=h
  have dx:∀ f,fq wide f->¬ rJ w f:=fun f hf=>Ar f hf (by unfold fq at hf; omega)
  rw[T_ dx,Ua dx]
  exact rA
def ez (h:Int):Prop:=29<=h % 65536 / 2048
theorem xN (h:Int) (hh:a_ h):ai gT 73 [.int .u32 h] (.bool (ez h)):=by
 have e:bits .and .u32 h 65535=h % 65536:=w_ h 16 hh.1 hh.2 (by decide)
 refine Spec.enter al P73 100 Tryz.func73 rfl (by kernel_rfl) ?_
 refine⟨by decide,?_⟩
 refine aw ?_
 show 29<=bits .and .u32 h 65535 / Ev.aV .u32 11↔ez h
 rw[e,r11]; exact Iff.rfl
def fH (f:Int):Int:=if 48<=f/\f<=100 then 4 else if 1<=f/\f<=47 then 2 else 0
theorem Dz (f:Int):ai gT 75 [.int .i64 f] (.int .i64 (fH f)):=by
 refine Spec.enter al P75 100 Tryz.func75 rfl (by kernel_rfl) ?_
 refine (nM f).u ?_
 refine⟨fun h=>?_,fun h=>?_⟩
 ·exact aw (show (0:Int)=fH f by unfold fH; rw[if_neg (by omega),if_neg (by omega)])
 refine (lI f).u ?_
 refine⟨fun h2=>?_,fun h2=>?_⟩
 ·exact aw (show (4:Int)=fH f by unfold fH; rw[if_pos h2])
 ·exact aw (show (2:Int)=fH f by unfold fH; rw[if_neg h2,if_pos (by omega)])
theorem k_ (i:IN):ai gT 45 [cX i] (.int .i64 (fH i.form)):=by
 refine Spec.enter al P45 100 Tryz.func45 rfl (by kernel_rfl) ?_
 refine (Dz i.form).u ?_
 exact aw rfl
theorem Op.argS {P:Program} {t:TypeId} {S:PV->Prop} (h:Op P t S) (hS:∀ y,S y->∃ xs,y = .agg xs) {H:Type} {ec:TypeId × Value->H} {w:World} {base:Nat} {held:Bool} {vs:Array Value} {d:DataW H} {p:List MemPlace} (ht:DataW.Trod ec P w base (fun _=>true) held t (.agg vs) d p) (yY:∀ n∈d.weights P t,n<=reachBytes) :
  ∃ y,S y/\y.Is w (In w) no (.agg vs):=by
 obtain⟨fuel,ht⟩:=ht
 obtain⟨y,hy,_,hi,_⟩:=h ec w base held fuel _ _ ht yY
 refine⟨y,hy,?_⟩
 obtain⟨xs,rfl⟩:=hS y hy
 simp only[PV.Is]
 exact⟨vs,rfl,hi⟩
end Go.Proofs.YtlgkljpgagfndaaGreatDoor.Pw
namespace Go.Proofs.YtlgkljpgagfndaaGreatDoor.Hj
open Go.ChangeShapes Go.WideShapes Go.ChangeAt Go.RowKit Go.Deep
end Go.Proofs.YtlgkljpgagfndaaGreatDoor.Hj
namespace Go.Proofs.YtlgkljpgagfndaaGreatDoor.Pw
open Go Go.RowKit
theorem Hk {z:Int} (h:vO .u32 z):0<=z/\z<=4294967295:=by unfold vO Ev.kB Ev.ki at h; simp only[IntKind.signed,IntKind.bits] at h; simpa using h
theorem Ub:Op Tryz.prog 24 (SInt .u32):=wL Tryz.underlying24 (by kernel_rfl)
def Hl (l:List (Nat × Nat × Nat × Nat)):Nat:=l.foldl (fun m x=>max m (x.2.2.1+x.2.2.2)) 0
theorem xO:∀ (l:List (Nat × Nat × Nat × Nat)) (m:Nat),m<=l.foldl (fun m x=>max m (x.2.2.1+x.2.2.2)) m/\∀ x∈l,x.2.2.1+x.2.2.2<=l.foldl (fun m x=>max m (x.2.2.1+x.2.2.2)) m
 | [],m=>⟨Nat.le_refl _,fun x hx=>by cases hx⟩
 | y::l,m=>by
  have h:=xO l (max m (y.2.2.1+y.2.2.2))
  rw[List.foldl_cons]
  refine⟨by omega,fun x hx=>?_⟩
  rcases List.mem_cons.1 hx with rfl|hx
  ·omega
  ·exact h.2 x hx
theorem Hm (i:IN) (k:Nat):∀ (l:List (Nat × Nat × Nat × Nat)) (V:Nat),V < 2 ^ k->(∀ x∈l,x.2.2.1+x.2.2.2<=k)->l.foldl (fun w x=>w ||| B (j5 i x.1) x.2.1 x.2.2.2 x.2.2.1) V < 2 ^ k
 | [],V,h,_=>h
 | x::l,V,h,hl=>by
  rw[List.foldl_cons]
  refine Hm i k l _ (Nat.or_lt_two_pow h ?_) fun y hy=>hl y (List.mem_cons_of_mem _ hy)
  have b:=af (j5 i x.1) x.2.1 x.2.2.2
  have e:=cK x.2.2.2
  have h1:(ab (j5 i x.1) x.2.1 x.2.2.2).toNat < 2 ^ x.2.2.2:=by omega
  unfold B
  rw[Nat.shiftLeft_eq]
  calc (ab (j5 i x.1) x.2.1 x.2.2.2).toNat*2 ^ x.2.2.1 < 2 ^ x.2.2.2*2 ^ x.2.2.1:=Nat.mul_lt_mul_of_pos_right h1 (Nat.two_pow_pos _)
   _=2 ^ (x.2.2.2+x.2.2.1):=(Nat.pow_add ..).symm
   _<=2 ^ k:=Nat.pow_le_pow_right (by omega) (by have:=hl x (List.mem_cons_self ..); omega)
theorem xP (a b k:Nat) (h:b < 2 ^ k):a ||| b < (a / 2 ^ k+1)*2 ^ k:=by
 have e:(a ||| b) / 2 ^ k=a / 2 ^ k:=by
  apply Nat.eq_of_testBit_eq
  intro p
  rw[Nat.testBit_div_two_pow,Nat.testBit_div_two_pow,Nat.testBit_or,Nat.testBit_lt_two_pow (x:=b) (Nat.lt_of_lt_of_le h (Nat.pow_le_pow_right (by decide) (by omega))),Bool.or_false]
 have hp:=Nat.two_pow_pos k
 have h1:=Nat.lt_mul_div_succ (a ||| b) hp
 rw[e,Nat.mul_comm] at h1
 exact h1
theorem zN:((List.range 47).all fun k=>decide ((Ks (k+1) / 2 ^ Hl (Pb (k+1))+1)*2 ^ Hl (Pb (k+1))<=59392))=true:=by decide +kernel
theorem Hn:((List.range 53).all fun k=>decide (3892314112<=Ks (k+48)))=true:=by decide +kernel
theorem zO (i:IN) (h:au i) (hn:¬ 48<=i.form):bC i < 59392:=by
 have f1:=h.1
 have ef:((i.form.toNat:Nat):Int)=i.form:=by omega
 have t:=of_decide_eq_true (List.all_eq_true.1 zN (i.form.toNat - 1) (List.mem_range.2 (by omega)))
 rw[show i.form.toNat - 1+1=i.form.toNat by omega] at t
 unfold Ks Pb at t
 rw[ef] at t
 have l:=Hm (d_ i) (Hl (aD (aa i.form))) (aD (aa i.form)) 0 (Nat.two_pow_pos _) fun x hx=>(xO _ 0).2 x hx
 have o:=xP (mW i.form).toNat _ _ l
 have e:bC i=(((mW i.form).toNat ||| eX (d_ i) (aD (aa i.form)):Nat):Int):=nS i
 rw[e]
 have o2:((mW i.form).toNat ||| eX (d_ i) (aD (aa i.form))) < 59392:=Nat.lt_of_lt_of_le o t
 omega
theorem LW (i:IN):a_ (bC i):=by
 have:=j7 (show (mW i.form).toNat < 4294967296 by have:=AM i.form; omega) (zM i)
 rw[nS]; unfold a_; omega
theorem Ho (i:IN) (h:au i) (hn:48<=i.form):3892314112<=bC i:=by
 have f1:=h.1
 have ef:((i.form.toNat:Nat):Int)=i.form:=by omega
 have t:=of_decide_eq_true (List.all_eq_true.1 Hn (i.form.toNat - 48) (List.mem_range.2 (by omega)))
 rw[show i.form.toNat - 48+48=i.form.toNat by omega] at t
 unfold Ks at t
 rw[ef] at t
 have l:(mW i.form).toNat<=(mW i.form).toNat ||| eX (d_ i) (aD (aa i.form)):=Nat.left_le_or
 rw[nS]; omega
def gz (l:List Int):List PV:=l.map (PV.int .u8)
def mj (i:IN):List Int:=(if 48<=i.form then [bC i / 65536 % 256,bC i / 16777216 % 256] else [])++[bC i % 256,bC i / 256 % 256]
theorem r24:Ev.aV .u32 24=16777216:=by decide
theorem DA (i:IN) (h:au i) (hI:yw i):ai gT 35 [cX i] (.tup [.sl 1 (gz (mj i)),.int .i64 0]):=by
 have e0:=IntKind.wrap_u8' (bC i)
 have e1:=IntKind.wrap_u8' (bC i / Ev.aV .u32 8)
 have e2:=IntKind.wrap_u8' (bC i / Ev.aV .u32 16)
 have e3:=IntKind.wrap_u8' (bC i / Ev.aV .u32 24)
 have p8:Ev.aV .u32 8=256:=by decide
 have p16:Ev.aV .u32 16=65536:=by decide
 refine Spec.enter al P35 100 Tryz.func35 rfl (by kernel_rfl) ?_
 refine (Hh i h hI).u ?_
 refine⟨fun h=>absurd rfl h,fun _=>?_⟩
 refine .inr ?_
 refine⟨by decide,.inr ?_⟩
 refine (lI i.form).u ?_
 refine⟨fun hn=>?_,fun hn=>?_⟩
 ·have Vt:¬ 48<=i.form:=fun e=>hn ⟨e,h.1.2⟩
  refine aw ?_
  refine And.intro ?_ (And.intro rfl trivial)
  show [PV.int .u8 (IntKind.u8.wrap (bC i)),.int .u8 (IntKind.u8.wrap (bC i / Ev.aV .u32 8))]=gz (mj i)
  rw[e0,e1,p8]
  unfold mj gz; rw[if_neg Vt]; rfl
 ·have Vt:48<=i.form:=(Classical.not_not.1 hn).1
  refine⟨by decide,.inr ?_⟩
  refine⟨by decide,.inr ?_⟩
  refine aw ?_
  refine And.intro ?_ (And.intro rfl trivial)
  show [PV.int .u8 (IntKind.u8.wrap (bC i / Ev.aV .u32 16)),.int .u8 (IntKind.u8.wrap (bC i / Ev.aV .u32 24)),PV.int .u8 (IntKind.u8.wrap (bC i)),.int .u8 (IntKind.u8.wrap (bC i / Ev.aV .u32 8))]=gz (mj i)
  rw[e0,e1,e2,e3,p8,p16,r24]
  unfold mj gz; rw[if_pos Vt]; rfl
def Bg (l:List Int):Prop:=∀ z∈l,0<=z/\z<=255
theorem gE (a b:Int) (k:Nat) (hk:k<=24) (ha:0<=a/\a < 2 ^ k) (hb:0<=b/\b*2 ^ k<=4294967295):bits .or .u32 a (b*2 ^ k)=a+b*2 ^ k/\bits .or .u32 (b*2 ^ k) a=b*2 ^ k+a:=by
 have p:=ri k (by omega)
 have p2:(2:Int) ^ k<=16777216:=by
  have h1:(2 ^ k:Nat)<=2 ^ 24:=Nat.pow_le_pow_right (by omega) hk
  have h3:=cK k
  have h4:(2:Nat) ^ 24=16777216:=by decide
  omega
 obtain⟨x,rfl⟩:∃ x:Nat,a=x:=⟨a.toNat,by omega⟩
 obtain⟨y,rfl⟩:∃ y:Nat,b=y:=⟨b.toNat,by omega⟩
 have e:((y:Int)*2 ^ k)=((2 ^ k*y:Nat):Int):=by rw[Int.natCast_mul,cK,Int.mul_comm]
 rw[e] at hb ⊢
 have hx:x < 2 ^ k:=by have:=cK k; omega
 have h:=O9 y x k hx
 constructor
 ·rw[u32_or _ _ (by omega) (by omega) (by omega) (by omega),Int.toNat_natCast,Int.toNat_natCast,Nat.or_comm,← h]; omega
 ·rw[u32_or _ _ (by omega) (by omega) (by omega) (by omega),Int.toNat_natCast,Int.toNat_natCast,← h]; omega
def hN (l:List Int) (n:Nat):Int:=l.getD n 0+l.getD (n+1) 0*256
theorem e8 {l:List Int} (h:Bg l) (n:Nat):0<=l.getD n 0/\l.getD n 0<=255:=by
 rw[List.getD_eq_getElem?_getD]
 cases e:l[n]? with
 | none=>exact⟨Int.le_refl 0,by decide⟩
 | some z=>exact h z (List.mem_of_getElem? e)
theorem Hp {l:List Int} (h:Bg l) (n:Nat):0<=hN l n/\hN l n<=65535:=by
 have a:=e8 h n
 have b:=e8 h (n+1)
 unfold hN; omega
theorem getD_some {l:List Int} {n:Nat} {z:Int} (h:l[n]?=some z):l.getD n 0=z:=by rw[List.getD_eq_getElem?_getD,h]; rfl
def hW (l:List Int) (n:Nat):Int:=hN l n*65536+hN l (n+2)
noncomputable def YW (l:List Int) (n:Nat):IN:=open Classical in
 if l.length < n+2 then iZ else if ¬ ez (hN l n) then Dy (hN l n) False else if l.length < n+4 then iZ else Dy (hW l n) True
noncomputable def YX (l:List Int) (n:Nat):Int:=open Classical in
 if l.length < n+2 then 41 else if ¬ ez (hN l n) then kv (hN l n) False else if l.length < n+4 then 41 else kv (hW l n) True
structure RS where
 R:Nat->Int
 N:Int
 Z:Int
 C:Int
 V:Int
structure XS where
 i:IN
 s:RS
 at_:Int
 taken:Prop
 a:Int
 b:Int
 data:Int
 words:Int
 kind:Int
 code:Int
structure MS where
 w:Nat->Int
 fl:List Int
 wait:Int
 s:RS
 full:Prop
 line:Int
 lX:Int
 kind:Int
 code:Int
def kx (R:Nat->Int) (i v:Int):Nat->Int:=fun m=>if i=(m:Int) then v else R m
def DB (s:RS):List PV:=[.int .u32 (s.R 0),.int .u32 (s.R 1),.int .u32 (s.R 2),.int .u32 (s.R 3),.int .u32 (s.R 4),.int .u32 (s.R 5),.int .u32 (s.R 6),.int .u32 (s.R 7),.int .u32 (s.R 8),.int .u32 (s.R 9),.int .u32 (s.R 10),.int .u32 (s.R 11),.int .u32 (s.R 12),.int .u32 (s.R 13),.int .u32 (s.R 14),.int .u32 (s.R 15),.int .u32 s.N,.int .u32 s.Z,.int .u32 s.C,.int .u32 s.V]
def tS (s:RS):PV:=.agg (DB s)
def mX (k:Nat):Int:=if k=0 then 1 else if k=1 then 256 else if k=2 then 65536 else 16777216
def kl (x:Int) (k:Nat):Int:=x / mX k % 256
def g_ (w:Nat->Int):List PV:=(List.range 65536).map fun k=>.int .u8 (kl (w (k / 4)) (k % 4))
def Hq (w:Nat->Int):ak:=⟨.dyn,5,1,.w,true,g_ w⟩
def Uc (fl:List Int):ak:=⟨.loc,94,1,.w,true,[.sl 1 (gz fl),.wref 0]⟩
def Hr (d:Md) (m:MS):ak:=⟨.loc,91,1,d,true,[.ptr 1 0,.int .i64 m.wait,.int .u32 (m.s.R 0),.int .u32 (m.s.R 1),.int .u32 (m.s.R 2),.int .u32 (m.s.R 3),.int .u32 (m.s.R 4),.int .u32 (m.s.R 5),.int .u32 (m.s.R 6),.int .u32 (m.s.R 7),.int .u32 (m.s.R 8),.int .u32 (m.s.R 9),.int .u32 (m.s.R 10),.int .u32 (m.s.R 11),.int .u32 (m.s.R 12),.int .u32 (m.s.R 13),.int .u32 (m.s.R 14),.int .u32 (m.s.R 15),.int .u32 m.s.N,.int .u32 m.s.Z,.int .u32 m.s.C,.int .u32 m.s.V,.bool m.full,.int .u32 m.line,.int .i64 m.lX,.int .i64 m.kind,.int .i64 m.code]⟩
abbrev NQ (m:MS):ak:=Hr .w m
def YY (x:XS):List PV:=[.ptr 2 0,.int .i64 x.i.form,.int .i64 x.i.rd,.int .i64 x.i.rn,.int .i64 x.i.rm,.int .i64 x.i.ra,.int .i64 x.i.az,.int .i64 x.i.kind,.int .i64 x.i.bG,.int .i64 x.i.set,.int .i64 x.i.cond,.int .i64 x.i.ar,.int .u32 (x.s.R 0),.int .u32 (x.s.R 1),.int .u32 (x.s.R 2),.int .u32 (x.s.R 3),.int .u32 (x.s.R 4),.int .u32 (x.s.R 5),.int .u32 (x.s.R 6),.int .u32 (x.s.R 7),.int .u32 (x.s.R 8),.int .u32 (x.s.R 9),.int .u32 (x.s.R 10),.int .u32 (x.s.R 11),.int .u32 (x.s.R 12),.int .u32 (x.s.R 13),.int .u32 (x.s.R 14),.int .u32 (x.s.R 15),.int .u32 x.s.N,.int .u32 x.s.Z,.int .u32 x.s.C,.int .u32 x.s.V,.int .u32 x.at_,.bool x.taken,.int .u32 x.a,.int .u32 x.b,.int .u32 x.data,.int .i64 x.words,.int .i64 x.kind,.int .i64 x.code]
def YZ (d:Md) (x:XS):ak:=⟨.loc,109,1,d,true,YY x⟩
def stM (m:MS):List ak:=[Hq m.w,Uc m.fl,NQ m]
def Ud (d e:Md) (m:MS) (x:XS):List ak:=[Hq m.w,Uc m.fl,Hr d m,YZ e x]
abbrev gU (m:MS) (x:XS):List ak:=Ud .w .w m x
def LX:PV->Bool
 | .agg _|.tup _|.clo ..|.ref ..|.pti ..|.dpt ..|.ep ..|.gp ..|.gpi ..|.val _=>false
 | _=>true
theorem Hs {x:PV} (h:LX x=true):yt x x:=by
 cases x<;>first|(cases h; done)|exact rfl|exact trivial|exact Iff.rfl|(unfold yt; simp)
theorem nW:∀ {l:List PV},l.all LX=true->ny yt l l
 | [],_=>trivial
 | x::l,h=>by
  simp only[List.all_cons,Bool.and_eq_true] at h
  exact⟨Hs h.1,nW h.2⟩
theorem bj {b:ak} (hl:b.live=true) (hc:(bif b.k.sn then b.cs.all LX else true)=true):gy b b:=by
 obtain⟨k,ty,n,m,live,cs⟩:=b
 simp only at hl
 subst hl
 have hm:(Nat.beq ty ty && Nat.beq n n && Md.beq m m && true && true && BK.beq k k)=true:=by
  simp only[Nat.beq_refl,Bool.and_true,Bool.true_and,Bool.and_eq_true]
  exact⟨by cases m<;>rfl,by cases k<;>rfl⟩
 show (bif (Nat.beq ty ty && Nat.beq n n && Md.beq m m && true && true && BK.beq k k) then _ else False)
 rw[hm,cond_true]
 cases k
 ·exact nW hc
 ·exact nW hc
 ·exact rfl
 ·exact rfl
def okB (b:ak):Bool:=b.live && (bif b.k.sn then b.cs.all LX else true)
theorem oW {b:ak} (h:okB b=true):gy b b:=by
 unfold okB at h
 simp only[Bool.and_eq_true] at h
 exact bj h.1 h.2
theorem aj:∀ {S:List ak},S.all okB=true->sK S S
 | [],_=>trivial
 | b::S,h=>by
  simp only[List.all_cons,Bool.and_eq_true] at h
  exact⟨oW h.1,aj h.2⟩
theorem tT:∀ {S T:List ak} {k:List ak->Prop},S.all okB=true->k T->FA (S++T) S k
 | [],_,_,_,h=>h
 | b::S,T,k,ho,h=>by
  simp only[List.all_cons,Bool.and_eq_true] at ho
  exact⟨oW ho.1,tT (S:=S) ho.2 h⟩
theorem Spec.useE {G:Gx} {f:FuncId} {args bE:List PV} {r0:PV} {S0 S1 st T:List ak} {K:PV->List ak->Prop} (h:Spec G f bE S0 [] fun r S'=>r=r0/\S'=S1)
  (hc:(kb S0 S1 && S0.all (wG S0.length) && (eC bE).all (fun l=>Nat.blt l S0.length) && r0.dk.all (fun l=>Nat.blt l S0.length) && S0.all okB)=true) (hle:ny kt args bE) (uL:st=S0++T) (hK:uT S1 fun S1=>y1 S1 T (K r0)):Spec G f args st [] K:=by
 simp only[Bool.and_eq_true] at hc
 obtain⟨⟨⟨⟨h1,h2⟩,h3⟩,h4⟩,h5⟩:=hc
 subst uL
 exact h.uY h1 h2 h3 h4 hle (tT h5 hK)
def Vi (π:gH) (st:List ak):List Nat->List ak->Prop->Prop
 | [],[],k=>k
 | l::σ,b'::S,k=>(bu st[l]? fun b=>okB b=true/\sT π b' fun mr=>b=mr)/\Vi π st σ S k
 | _,_,_=>False
theorem Bh {π:gH} {st:List ak}:∀ {σ:List Nat} {S:List ak} {k:Prop},Vi π st σ S k->atK π st σ S k
 | [],[],_,h=>h
 | l::σ,b'::S,k,h=>by
  refine⟨?_,Bh h.2⟩
  obtain⟨b,hb,ho,hr⟩:=aA h.1
  rw[hb]
  show sT π b' fun mr=>gy b mr
  obtain⟨k0,ty,n,m,live,cs⟩:=b'
  cases k0
  ·obtain⟨ds,h1,h2⟩:=aA hr
   show bu (gk π cs) _
   rw[h1]; subst h2; exact oW ho
  ·obtain⟨ds,h1,h2⟩:=aA hr
   show bu (gk π cs) _
   rw[h1]; subst h2; exact oW ho
  ·have e:b=⟨.dyn,ty,n,m,live,cs⟩:=hr
   subst e; exact oW ho
  ·have e:b=⟨.mp,ty,n,m,live,cs⟩:=hr
   subst e; exact oW ho
 | [],_::_,_,h=>h.elim
 | _::_,[],_,h=>h.elim
theorem Spec.useQ {G:Gx} {f:FuncId} {args bE:List PV} {r0:PV} {S0 S1 st:List ak} {K:PV->List ak->Prop} (σ:List Nat) (h:Spec G f bE S0 [] fun r S'=>r=r0/\S'=S1) (hc:(kb S0 S1 && k9 σ)=true) (Fp:r0.dk = []) (hle:G3 (σ.map some) args bE) (hK:Vi (σ.map some) st σ S0 (Vf (σ.map some) σ S1 st (K r0))):Spec G f args st [] K:=by
 simp only[Bool.and_eq_true] at hc
 exact Spec.YQ σ h hc.1 Fp hc.2 hle (Bh hK)
theorem Bi {π:gH} {st:List ak}:∀ {σ:List Nat} {S:List ak} {k:Prop},Vi π st σ S True->k->Vi π st σ S k
 | [],[],_,_,h=>h
 | _::_,_::_,_,h,hk=>⟨h.1,Bi h.2 hk⟩
 | [],_::_,_,h,_=>h.elim
 | _::_,[],_,h,_=>h.elim
theorem Spec.e {P:Nat->Prop} {G:Gx} {f:FuncId} {args bE:List PV} {r0:PV} {S0 S1 st:List ak} {K:List Nat->PV->List ak->Prop} (h:Spec G f bE S0 [] fun r S'=>r=r0/\S'=S1) (hK:uT S1 fun S1=>y1 S1 (st.drop S0.length) (K [] r0)) (hle:ny kt args bE:=by repeat' first|exact trivial|exact rfl|exact Iff.rfl|refine And.intro ?_ ?_) (uL:st=S0++st.drop S0.length:=by rfl)
  (hc:(kb S0 S1 && S0.all (wG S0.length) && (eC bE).all (fun l=>Nat.blt l S0.length) && r0.dk.all (fun l=>Nat.blt l S0.length) && S0.all okB)=true:=by rfl):∃ rl:List Nat,(∀ l,l∈rl->P l)/\Spec G f args st rl (K rl):=⟨[],fun _ hl=>(by cases hl),h.useE hc hle uL hK⟩
theorem Spec.q {P:Nat->Prop} {G:Gx} {f:FuncId} {args bE:List PV} {r0:PV} {S0 S1 st:List ak} {K:List Nat->PV->List ak->Prop} (h:Spec G f bE S0 [] fun r S'=>r=r0/\S'=S1) (σ:List Nat) (hK:Vf (σ.map some) σ S1 st (K [] r0)) (hle:G3 (σ.map some) args bE:=by repeat' first|exact trivial|exact rfl|exact Iff.rfl|refine And.intro ?_ ?_) (ha:Vi (σ.map some) st σ S0 True:=by repeat' first|exact trivial|exact⟨rfl,rfl⟩|refine And.intro ?_ ?_) (hc:(kb S0 S1 && k9 σ)=true:=by rfl) (Fp:r0.dk = []:=by rfl):∃ rl:List Nat,(∀ l,l∈rl->P l)/\Spec G f args st rl (K rl):=⟨[],fun _ hl=>(by cases hl),h.useQ σ hc Fp hle (Bi ha hK)⟩
theorem rS {r r0:PV} {S' S1:List ak} (h:kt r r0:=by repeat' first|exact trivial|exact rfl|exact Iff.rfl|refine And.intro ?_ ?_) (hs:sK S' S1:=by first|exact aj rfl|(repeat' first|exact trivial|exact rfl|exact Iff.rfl|exact not_false|refine And.intro ?_ ?_)):∃ r',Aw r r'/\(fun x S'=>x=r0/\sK S' S1) r' S':=bm h hs
theorem LY (x:XS):∀ k:Nat,k < 16->(YY x)[12+k*1]?=some (.int .u32 (x.s.R k))
 | 0,_=>rfl
 | 1,_=>rfl
 | 2,_=>rfl
 | 3,_=>rfl
 | 4,_=>rfl
 | 5,_=>rfl
 | 6,_=>rfl
 | 7,_=>rfl
 | 8,_=>rfl
 | 9,_=>rfl
 | 10,_=>rfl
 | 11,_=>rfl
 | 12,_=>rfl
 | 13,_=>rfl
 | 14,_=>rfl
 | 15,_=>rfl
 | k+16,h=>absurd h (by omega)
def an (x:XS) (r:Int):Int:=if r=15 then IntKind.u32.wrap (x.at_+4) else x.s.R r.toNat
def cG (x:XS) (r v:Int):XS:={ x with s:={ x.s with R:=kx x.s.R r v } }
def qf (x:XS) (v:Int):XS:={ x with s:={ x.s with N:=v / 2147483648,Z:=if v=0 then 1 else 0 } }
theorem rL (x y c:Int) (hx:a_ x) (hy:a_ y) (hc:0<=c):ai gT 118 [.int .u32 x,.int .u32 y,.int .u32 c] (.tup [.int .u32 (Rm.fh x y c),.int .u32 (Rm.iR x y c),.int .u32 (Rm.mD x y c)]) :=
 ai.of_same (gl Tryz.func118 rfl (by kernel_rfl)) [.int .u32 x,.int .u32 y,.int .u32 c] (.tuple #[.int .u32 (Rm.fh x y c),.int .u32 (Rm.iR x y c),.int .u32 (Rm.mD x y c)]) (fun w I β bs h=>jf (l:=[(.u32,x),(.u32,y),(.u32,c)]) h) (fun w I β=>ji (ic (df ..) (ic (df ..) (ic (df ..) rh)))) (fun w=>(Kg x y c w hx.1 hx.2 hy.1 hy.2 hc).mono fun e w' ⟨h1,h2⟩=>⟨h1,h2.symm⟩)
theorem DC (x y:Int) (hx:a_ x) (hy:a_ y):ai gT 115 [.int .u32 x,.int .u32 y] (.tup [.int .u32 (x*y % 4294967296),.int .u32 (x*y / 4294967296)]) :=
 ai.of_same (gl Tryz.func115 rfl (by kernel_rfl)) [.int .u32 x,.int .u32 y] (.tuple #[.int .u32 (x*y % 4294967296),.int .u32 (x*y / 4294967296)]) (fun w I β bs h=>jf (l:=[(.u32,x),(.u32,y)]) h) (fun w I β=>ji (ic (df ..) (ic (df ..) rh))) (fun w=>(FO x y w hx.1 hx.2 hy.1 hy.2).mono fun e w' ⟨h1,h2⟩=>⟨h1,h2.symm⟩)
theorem tU (x:Int) (hx:a_ x):ai gT 129 [.int .u32 x] (.int .i64 (Lib.bitLen x.toNat)) :=
 ai.of_same (gl Tryz.func129 rfl (by kernel_rfl)) [.int .u32 x] (.int .i64 (Lib.bitLen x.toNat)) (fun w I β bs h=>jf (l:=[(.u32,x)]) h) (fun w I β=>df ..) (fun w=>(Kh x w hx.1 hx.2).mono fun e w' ⟨h1,h2⟩=>⟨h1,h2.symm⟩)
theorem LZ (x:Int) (hx:a_ x):ai gT 98 [.int .u32 x] (.int .i64 (32 - (Lib.bitLen x.toNat:Int))) :=
 ai.of_same (gl Tryz.func98 rfl (by kernel_rfl)) [.int .u32 x] (.int .i64 (32 - (Lib.bitLen x.toNat:Int))) (fun w I β bs h=>jf (l:=[(.u32,x)]) h) (fun w I β=>df ..) (fun w=>(nI x w hx.1 hx.2).mono fun e w' ⟨h1,h2⟩=>⟨h1,h2.symm⟩)
theorem rM (x:Int) (h0:0<=x) (h1:x<=65535):ai gT 108 [.int .u32 x] (.int .i64 (cl x)) :=
 ai.wK (gl Tryz.func108 rfl (by kernel_rfl)) [.int .u32 x] (.int .i64 (cl x)) (fun w I β bs h=>jf (l:=[(.u32,x)]) h) (fun w I β=>df ..) (fun w=>Dw x w h0 h1)
def gP (k x n:Int):Int:=((Rm.qc k n.toNat x.toNat:Nat):Int)
def sV (k x n c:Int):Int:=((Rm.OU k n.toNat x.toNat (min c.toNat 1):Nat):Int)
theorem pE (k x n c:Int) (uQ:0<=k) (B_:k<=3) (iQ:0<=n) (kp:n<=255) (hx:a_ x) (hc:0<=c):ai gT 148 [.int .i64 k,.int .u32 x,.int .i64 n,.int .u32 c] (.tup [.int .u32 (gP k x n),.int .u32 (sV k x n c),.int .i64 0]) :=
 ai.of_same (gl Tryz.func148 rfl (by kernel_rfl)) [.int .i64 k,.int .u32 x,.int .i64 n,.int .u32 c] (.tuple #[.int .u32 (gP k x n),.int .u32 (sV k x n c),.int .i64 0]) (fun w I β bs h=>jf (l:=[(.i64,k),(.u32,x),(.i64,n),(.u32,c)]) h) (fun w I β=>ji (ic (df ..) (ic (df ..) (ic (df ..) rh)))) (fun w=>(wV k x n c w uQ B_ iQ kp hx.1 hx.2 hc).mono fun e w' ⟨h1,h2⟩=>⟨h1,h2.symm⟩)
theorem vq (k x n c:Int) (uQ:0<=k) (B_:k<=3) (iQ:0<=n) (kp:n<=255) (hx:a_ x) (hc:0<=c):ai gT 101 [.int .i64 k,.int .u32 x,.int .i64 n,.int .u32 c] (.tup [.int .u32 (gP k x n),.int .u32 (sV k x n c)]) :=
 ai.of_same (gl Tryz.func101 rfl (by kernel_rfl)) [.int .i64 k,.int .u32 x,.int .i64 n,.int .u32 c] (.tuple #[.int .u32 (gP k x n),.int .u32 (sV k x n c)]) (fun w I β bs h=>jf (l:=[(.i64,k),(.u32,x),(.i64,n),(.u32,c)]) h) (fun w I β=>ji (ic (df ..) (ic (df ..) rh))) (fun w=>(u1 k x n c w uQ B_ iQ kp hx.1 hx.2 hc).mono fun e w' ⟨h1,h2⟩=>⟨h1,h2.symm⟩)
theorem sX (n c:Int) (h:zi n) (hc:0<=c):ai gT 147 [.int .i64 n,.int .u32 c] (.tup [.int .u32 (Rm.fR n c),.int .i64 (Rm.dz n)]) :=
 ai.FT (gl Tryz.func147 rfl (by kernel_rfl)) fun I β w bs hM hA=>by
  obtain rfl:=jf (l:=[(.i64,n),(.u32,c)]) hA
  refine⟨.tuple #[.int .u32 (Rm.fR n c),.int .i64 (Rm.dz n)],ji (ic (df ..) (ic (df ..) rh)),fun _ _ _=>ji (ic (df ..) (ic (df ..) rh)),?_⟩
  refine (Cf n c w (FU hM) h.1 h.2 hc).mono ?_
  rintro e w' ⟨rfl,rfl⟩
  exact⟨rfl,Below.refl _ _⟩
theorem jm (k x n:Int) (hx:a_ x):a_ (gP k x n):=by
 have:=Rm.jh k n.toNat x.toNat (by have:=hx.1; have:=hx.2; omega)
 unfold gP a_; omega
theorem Ht (k x n c:Int) (hx:a_ x):0<=sV k x n c/\sV k x n c<=1:=by
 have:=Rm.OV k n.toNat x.toNat (min c.toNat 1) (by have:=hx.1; have:=hx.2; omega) (by omega)
 unfold sV; omega
theorem ig (d e:Md) (m:MS) (x:XS) (r:Int) (h0:0<=r) (h1:r<=15):Spec gT 105 [.ptr 3 0,.int .i64 r] (Ud d e m x) [] fun v S'=>v = .int .u32 (an x r)/\S'=Ud d e m x:=by
 refine Spec.jS (Spec.enter al P105 100 Tryz.func105 rfl (by kernel_rfl) ?_)
 refine⟨fun h=>?_,fun h=>?_⟩
 ·have h':r=15:=h
  refine .inr ?_
  have e0:an x r=IntKind.u32.wrap (x.at_+4):=by unfold an; rw[if_pos h']
  rw[e0]
  exact rS
 ·have h':¬ r=15:=h
  have e0:an x r=x.s.R r.toNat:=by unfold an; rw[if_neg h']
  rw[e0]
  refine⟨h0,show r < 16 by omega,?_⟩
  refine .inr ⟨rfl,h0,show 12+r.toNat*1 < 40 by omega,fun c hc=>?_⟩
  obtain rfl:=Option.some.inj (hc.symm.trans (LY x r.toNat (by omega)))
  exact rS
theorem bF (m:MS) (x:XS) (r:Int) (h0:0<=r) (h1:r<=15):Spec gT 105 [.ptr 3 0,.int .i64 r] (gU m x) [] fun v S'=>v = .int .u32 (an x r)/\S'=gU m x:=ig .w .w m x r h0 h1
theorem bU (m:MS) (x:XS) (r v:Int) (h0:0<=r) (h1:r<=15):Spec gT 107 [.ptr 3 0,.int .i64 r,.int .u32 v] (gU m x) [] fun y S'=>y = .tup []/\S'=gU m (cG x r v):=by
 refine Spec.jS (Spec.enter al P107 100 Tryz.func107 rfl (by kernel_rfl) ?_)
 refine⟨h0,show r < 16 by omega,?_⟩
 refine⟨16,h0,show r < 16 by omega,show 12+r.toNat*1 < 40 by omega,?_⟩
 exact rS
theorem Hu (m:MS) (x:XS) (v:Int):Spec gT 116 [.ptr 3 0,.int .u32 v] (gU m x) [] fun y S'=>y = .tup []/\S'=gU m (qf x v):=by
 refine Spec.jS (Spec.enter al P116 100 Tryz.func116 rfl (by kernel_rfl) ?_)
 refine⟨by decide,?_⟩
 refine⟨fun h=>?_,fun h=>?_⟩
 ·have e:qf x v = { x with s:={ x.s with N:=v / 2147483648,Z:=1 } }:=by unfold qf; rw[if_pos (show v=0 from h)]
  rw[e]
  exact rS
 ·have e:qf x v = { x with s:={ x.s with N:=v / 2147483648,Z:=0 } }:=by unfold qf; rw[if_neg (show ¬ v=0 from h)]
  rw[e]
  exact rS
def ee (x:XS):Prop:=(aa x.i.form=18\/aa x.i.form=19\/aa x.i.form=21\/aa x.i.form=22\/aa x.i.form=27)->x.i.set=1
instance (x:XS):Decidable (ee x):=by unfold ee; infer_instance
theorem Bj (m:MS) (x:XS):Spec gT 149 [.ptr 3 0] (gU m x) [] fun y S'=>y = .bool (ee x)/\S'=gU m x:=by
 have Y0:=fS x.i.form
 have key:ee x↔((aa x.i.form=18\/aa x.i.form=19\/aa x.i.form=21\/aa x.i.form=22\/aa x.i.form=27)->x.i.set=1):=Iff.rfl
 refine Spec.jS (Spec.enter al P149 100 Tryz.func149 rfl (by kernel_rfl) ?_)
 refine Y0.u ?_
 generalize aa x.i.form=sh at key ⊢
 refine⟨fun h=>?_,fun h=>?_⟩
 ·exact bm (show x.i.set=1↔ee x by rw[key]; have h':sh=18:=h; simp[h']) (aj rfl)
 refine⟨fun h=>?_,fun h=>?_⟩
 ·exact bm (show x.i.set=1↔ee x by rw[key]; have h':sh=19:=h; simp[h']) (aj rfl)
 refine⟨fun h=>?_,fun h=>?_⟩
 ·exact bm (show x.i.set=1↔ee x by rw[key]; have h':sh=21:=h; simp[h']) (aj rfl)
 refine⟨fun h=>?_,fun h=>?_⟩
 ·exact bm (show x.i.set=1↔ee x by rw[key]; have h':sh=22:=h; simp[h']) (aj rfl)
 refine⟨fun h=>?_,fun h=>?_⟩
 ·exact bm (show x.i.set=1↔ee x by rw[key]; have h':sh=27:=h; simp[h']) (aj rfl)
 ·exact bm (show ee x by rw[key]; have a:¬ sh=18:=‹_›; have b:¬ sh=19:=‹_›; have c:¬ sh=21:=‹_›; have d:¬ sh=22:=‹_›; have e:¬ sh=27:=‹_›; intro h; omega) (aj rfl)
structure lY (x:XS):Prop where
 rd:0<=x.i.rd/\x.i.rd<=15
 rn:0<=x.i.rn/\x.i.rn<=15
 rm:0<=x.i.rm/\x.i.rm<=15
 ra:0<=x.i.ra/\x.i.ra<=15
 az:zi x.i.az
 bar:aa x.i.form=21\/aa x.i.form=22\/aa x.i.form=23->0<=x.i.kind/\x.i.kind<=3/\0<=x.i.bG/\x.i.bG<=255
 low:1<=x.i.form/\x.i.form<=3->0<=x.i.az/\x.i.az<=32
 idx:x.i.form=86\/x.i.form=87->0<=x.i.bG/\x.i.bG<=3
 ar:0<=x.i.ar/\x.i.ar<=65535
 r:∀ k,a_ (x.s.R k)
 n:0<=x.s.N/\x.s.N<=1
 z:0<=x.s.Z/\x.s.Z<=1
 c:0<=x.s.C/\x.s.C<=1
 v:0<=x.s.V/\x.s.V<=1
theorem wrap_u32 (z:Int):a_ (IntKind.u32.wrap z):=by
 have:=IntKind.wrap_u32' z
 unfold a_; omega
theorem bM {x:XS} (h:lY x) (r:Int):a_ (an x r):=by
 unfold an
 split
 ·exact wrap_u32 _
 ·exact h.r _
def aW (x:XS):Int:=if aa x.i.form=4\/aa x.i.form=5\/aa x.i.form=6 then an x x.i.rd else an x x.i.rn
def bV (x:XS):Int :=
 if aa x.i.form=3\/aa x.i.form=4\/aa x.i.form=24 then IntKind.u32.wrap x.i.az
 else if aa x.i.form=18\/aa x.i.form=19\/aa x.i.form=20 then Rm.eG x.i.az
 else if aa x.i.form=21\/aa x.i.form=22\/aa x.i.form=23 then gP x.i.kind (an x x.i.rm) x.i.bG
 else an x x.i.rm
def dp (x:XS):Int :=
 if aa x.i.form=3\/aa x.i.form=4\/aa x.i.form=24 then x.s.C
 else if aa x.i.form=18\/aa x.i.form=19\/aa x.i.form=20 then Rm.fR x.i.az x.s.C
 else if aa x.i.form=21\/aa x.i.form=22\/aa x.i.form=23 then sV x.i.kind (an x x.i.rm) x.i.bG x.s.C
 else x.s.C
theorem bJ {x:XS} (h:lY x):a_ (aW x):=by
 unfold aW
 split<;>exact bM h _
theorem ck {x:XS} (h:lY x):a_ (bV x):=by
 unfold bV
 split
 ·exact wrap_u32 _
 ·split
  ·exact Rm.nH _
  ·split
   ·exact jm _ _ _ (bM h _)
   ·exact bM h _
def dA (w:Int):Int:=bits .xor .u32 IntKind.u32.max w
theorem ij {w:Int} (h:a_ w):dA w=4294967295 - w:=Rm.NA w h.1 h.2
theorem dm {w:Int} (h:a_ w):a_ (dA w):=by
 rw[ij h]
 unfold a_ at h ⊢; omega
theorem xQ (m:MS) (x:XS) (hx:lY x):Spec gT 110 [.ptr 3 0] (gU m x) [] fun y S'=>y = .int .u32 (aW x)/\S'=gU m x:=by
 have Y0:=fS x.i.form
 have g1:=bF m x x.i.rd hx.rd.1 hx.rd.2
 have g2:=bF m x x.i.rn hx.rn.1 hx.rn.2
 have key:aW x=if aa x.i.form=4\/aa x.i.form=5\/aa x.i.form=6 then an x x.i.rd else an x x.i.rn:=rfl
 refine Spec.jS (Spec.enter al P110 100 Tryz.func110 rfl (by kernel_rfl) ?_)
 refine Y0.u ?_
 generalize aa x.i.form=sh at key ⊢
 refine⟨fun h=>?_,fun h=>?_⟩
 ·rw[key,if_pos (.inr (.inl (show sh=5 from h)))]
  refine (g1).e ?_
  exact rS
 refine⟨fun h=>?_,fun h=>?_⟩
 ·rw[key,if_pos (.inl (show sh=4 from h))]
  refine (g1).e ?_
  exact rS
 refine⟨fun h=>?_,fun h=>?_⟩
 ·rw[key,if_pos (.inr (.inr (show sh=6 from h)))]
  refine (g1).e ?_
  exact rS
 ·have a:¬ sh=5:=‹_›
  have b:¬ sh=4:=‹_›
  have c:¬ sh=6:=‹_›
  rw[key,if_neg (by omega)]
  refine (g2).e ?_
  exact rS
theorem tV (m:MS) (x:XS) (hx:lY x):Spec gT 111 [.ptr 3 0] (gU m x) [] fun y S'=>y = .tup [.int .u32 (bV x),.int .u32 (dp x)]/\S'=gU m x:=by
 have Y0:=fS x.i.form
 have g3:=bF m x x.i.rm hx.rm.1 hx.rm.2
 have kw:bV x=if aa x.i.form=3\/aa x.i.form=4\/aa x.i.form=24 then IntKind.u32.wrap x.i.az
  else if aa x.i.form=18\/aa x.i.form=19\/aa x.i.form=20 then Rm.eG x.i.az
  else if aa x.i.form=21\/aa x.i.form=22\/aa x.i.form=23 then gP x.i.kind (an x x.i.rm) x.i.bG
  else an x x.i.rm:=rfl
 have kc:dp x=if aa x.i.form=3\/aa x.i.form=4\/aa x.i.form=24 then x.s.C
  else if aa x.i.form=18\/aa x.i.form=19\/aa x.i.form=20 then Rm.fR x.i.az x.s.C
  else if aa x.i.form=21\/aa x.i.form=22\/aa x.i.form=23 then sV x.i.kind (an x x.i.rm) x.i.bG x.s.C
  else x.s.C:=rfl
 have hb:=hx.bar
 have cw:=nN x.i.az hx.az
 have cc:=sX x.i.az x.s.C hx.az hx.c.1
 have cs:=fun h=>pE x.i.kind (an x x.i.rm) x.i.bG x.s.C (hb h).1 (hb h).2.1 (hb h).2.2.1 (hb h).2.2.2 (bM hx _) hx.c.1
 refine Spec.jS (Spec.enter al P111 100 Tryz.func111 rfl (by kernel_rfl) ?_)
 refine Y0.u ?_
 generalize aa x.i.form=sh at kw kc hb cs ⊢
 refine⟨fun h=>?_,fun h=>?_⟩
 ·rw[if_pos (.inl (show sh=3 from h))] at kw kc
  rw[kw,kc]
  refine .inr ?_
  exact rS
 refine⟨fun h=>?_,fun h=>?_⟩
 ·rw[if_pos (.inr (.inl (show sh=4 from h)))] at kw kc
  rw[kw,kc]
  refine .inr ?_
  exact rS
 refine⟨fun h=>?_,fun h=>?_⟩
 ·rw[if_pos (.inr (.inr (show sh=24 from h)))] at kw kc
  rw[kw,kc]
  refine .inr ?_
  exact rS
 have n1:¬ (sh=3\/sh=4\/sh=24):=by
  have a:¬ sh=3:=‹_›
  have b:¬ sh=4:=‹_›
  have c:¬ sh=24:=‹_›
  omega
 rw[if_neg n1] at kw kc
 refine⟨fun h=>?_,fun h=>?_⟩
 ·rw[if_pos (.inl (show sh=18 from h))] at kw kc
  rw[kw,kc]
  refine cw.u ?_
  refine cc.u ?_
  exact rS
 refine⟨fun h=>?_,fun h=>?_⟩
 ·rw[if_pos (.inr (.inl (show sh=19 from h)))] at kw kc
  rw[kw,kc]
  refine cw.u ?_
  refine cc.u ?_
  exact rS
 refine⟨fun h=>?_,fun h=>?_⟩
 ·rw[if_pos (.inr (.inr (show sh=20 from h)))] at kw kc
  rw[kw,kc]
  refine cw.u ?_
  refine cc.u ?_
  exact rS
 have n2:¬ (sh=18\/sh=19\/sh=20):=by
  have a:¬ sh=18:=‹_›
  have b:¬ sh=19:=‹_›
  have c:¬ sh=20:=‹_›
  omega
 rw[if_neg n2] at kw kc
 have g4:=fun d e=>ig d e m x x.i.rm hx.rm.1 hx.rm.2
 refine⟨fun h=>?_,fun h=>?_⟩
 ·have hh:sh=21\/sh=22\/sh=23:=.inl (show sh=21 from h)
  rw[if_pos hh] at kw kc
  rw[kw,kc]
  refine (g4 .w .p).e ?_
  refine (cs hh).u ?_
  exact rS
 refine⟨fun h=>?_,fun h=>?_⟩
 ·have hh:sh=21\/sh=22\/sh=23:=.inr (.inl (show sh=22 from h))
  rw[if_pos hh] at kw kc
  rw[kw,kc]
  refine (g4 .w .p).e ?_
  refine (cs hh).u ?_
  exact rS
 refine⟨fun h=>?_,fun h=>?_⟩
 ·have hh:sh=21\/sh=22\/sh=23:=.inr (.inr (show sh=23 from h))
  rw[if_pos hh] at kw kc
  rw[kw,kc]
  refine (g4 .w .p).e ?_
  refine (cs hh).u ?_
  exact rS
 ·have n3:¬ (sh=21\/sh=22\/sh=23):=by
   have a:¬ sh=21:=‹_›
   have b:¬ sh=22:=‹_›
   have c:¬ sh=23:=‹_›
   omega
  rw[if_neg n3] at kw kc
  rw[kw,kc]
  refine (g4 .w .p).e ?_
  exact rS
def pF (x:XS) (c:Int):XS:={ x with s:={ x.s with C:=c } }
def la (x:XS) (c o:Int):XS:={ x with s:={ x.s with C:=c,V:=o } }
def fB (x:XS) (d v w c:Int):XS :=
 if 0<=d then cG (if ee x then la (qf x (Rm.fh v w c)) (Rm.iR v w c) (Rm.mD v w c) else x) d (Rm.fh v w c)
 else (if ee x then la (qf x (Rm.fh v w c)) (Rm.iR v w c) (Rm.mD v w c) else x)
def bX (x:XS) (d v c:Int):XS :=
 if 0<=d then cG (if ee x then pF (qf x v) c else x) d v
 else (if ee x then pF (qf x v) c else x)
theorem cW (m:MS) (x:XS) (d v w c:Int) (h1:d<=15) (hv:a_ v) (hw:a_ w) (hc:0<=c):Spec gT 112 [.ptr 3 0,.int .i64 d,.int .u32 v,.int .u32 w,.int .u32 c] (gU m x) [] fun y S'=>y = .tup []/\S'=gU m (fB x d v w c):=by
 have ha:=rL v w c hv hw hc
 have key:fB x d v w c=if 0<=d then cG (if ee x then la (qf x (Rm.fh v w c)) (Rm.iR v w c) (Rm.mD v w c) else x) d (Rm.fh v w c)
  else (if ee x then la (qf x (Rm.fh v w c)) (Rm.iR v w c) (Rm.mD v w c) else x):=rfl
 refine Spec.jS (Spec.enter al P112 100 Tryz.func112 rfl (by kernel_rfl) ?_)
 refine ha.u ?_
 generalize Rm.fh v w c=s at key ⊢
 generalize Rm.iR v w c=cy at key ⊢
 generalize Rm.mD v w c=o at key ⊢
 refine (Bj m x).e ?_
 refine⟨fun h=>?_,fun h=>?_⟩
 ·rw[if_pos (show ee x from h)] at key
  refine (Hu m x s).e ?_
  refine⟨fun h=>?_,fun h=>?_⟩
  ·rw[if_pos (show 0<=d from h)] at key
   rw[key]
   refine (bU m (la (qf x s) cy o) d s h h1).e ?_
   exact rS
  ·rw[if_neg (show ¬ 0<=d from h)] at key
   rw[key]
   exact rS
 ·rw[if_neg (show ¬ ee x from h)] at key
  refine⟨fun h=>?_,fun h=>?_⟩
  ·rw[if_pos (show 0<=d from h)] at key
   rw[key]
   refine (bU m x d s h h1).e ?_
   exact rS
  ·rw[if_neg (show ¬ 0<=d from h)] at key
   rw[key]
   exact rS
theorem cd (m:MS) (x:XS) (d v c:Int) (h1:d<=15):Spec gT 113 [.ptr 3 0,.int .i64 d,.int .u32 v,.int .u32 c] (gU m x) [] fun y S'=>y = .tup []/\S'=gU m (bX x d v c):=by
 have key:bX x d v c=if 0<=d then cG (if ee x then pF (qf x v) c else x) d v
  else (if ee x then pF (qf x v) c else x):=rfl
 refine Spec.jS (Spec.enter al P113 100 Tryz.func113 rfl (by kernel_rfl) ?_)
 refine (Bj m x).e ?_
 refine⟨fun h=>?_,fun h=>?_⟩
 ·rw[if_pos (show ee x from h)] at key
  refine (Hu m x v).e ?_
  refine⟨fun h=>?_,fun h=>?_⟩
  ·rw[if_pos (show 0<=d from h)] at key
   rw[key]
   refine (bU m (pF (qf x v) c) d v h h1).e ?_
   exact rS
  ·rw[if_neg (show ¬ 0<=d from h)] at key
   rw[key]
   exact rS
 ·rw[if_neg (show ¬ ee x from h)] at key
  refine⟨fun h=>?_,fun h=>?_⟩
  ·rw[if_pos (show 0<=d from h)] at key
   rw[key]
   refine (bU m x d v h h1).e ?_
   exact rS
  ·rw[if_neg (show ¬ 0<=d from h)] at key
   rw[key]
   exact rS
def iK (x:XS) (k v n:Int):XS:=bX x x.i.rd (gP k v n) (sV k v n x.s.C)
theorem eH (m:MS) (x:XS) (k v n:Int) (hx:lY x) (uQ:0<=k) (B_:k<=3) (iQ:0<=n) (kp:n<=255) (hv:a_ v):Spec gT 114 [.ptr 3 0,.int .i64 k,.int .u32 v,.int .i64 n] (gU m x) [] fun y S'=>y = .tup []/\S'=gU m (iK x k v n):=by
 have hs:=pE k v n x.s.C uQ B_ iQ kp hv hx.c.1
 refine Spec.jS (Spec.enter al P114 100 Tryz.func114 rfl (by kernel_rfl) ?_)
 refine hs.u ?_
 refine (cd m x x.i.rd (gP k v n) (sV k v n x.s.C) hx.rd.2).e ?_
 exact rS
end Go.Proofs.YtlgkljpgagfndaaGreatDoor.Pw

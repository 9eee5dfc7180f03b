/- What this claim is proved with: no condition. -/
import Derived.Test.YtlgkljpgagfndaaGreatDoorNs12
import Derived.Test.YtlgkljpgagfndaaGreatDoorNs13
import Derived.Test.YtlgkljpgagfndaaGreatDoorNs17
import Derived.Test.YtlgkljpgagfndaaGreatDoorNs18
import Derived.Test.YtlgkljpgagfndaaGreatDoorNs19
import Derived.Test.YtlgkljpgagfndaaGreatDoorNs9
import Derived.Test.YtlgkljpgagfndaaGreatDoorRows
import Derived.ProofKit
import Derived.LaidMore
import Derived.OpenShut
import Derived.Stop.Joined
import Derived.Lib.LaidTab
import Derived.Test.YtlgkljpgagfndaaGreatDoorNs11
import Derived.Test.YtlgkljpgagfndaaGreatDoorNsAluB
import Derived.Test.YtlgkljpgagfndaaGreatDoorNsImmB
import Derived.Test.YtlgkljpgagfndaaGreatDoorNsPop32
set_option maxRecDepth 100000
set_option maxHeartbeats 8000000
set_option linter.unusedVariables false
set_option linter.unusedSimpArgs false
namespace Go.Proofs.YtlgkljpgagfndaaGreatDoor.Pw
open Go Go.RowKit
theorem gG {f:Int} (h:1<=f/\f<=100):17<=aa f↔48<=f:=by
 have h1:((List.range 100).all fun k=>decide (17<=aa ((k+1:Nat):Int)↔48<=k+1))=true:=by decide +kernel
 have h2:=of_decide_eq_true (List.all_eq_true.1 h1 (f.toNat - 1) (List.mem_range.2 (by omega)))
 rw[show (((f.toNat - 1+1:Nat)):Int)=f by omega] at h2
 omega
theorem ye {s:Int} (h:1<=s/\s<=16):s=1\/s=2\/s=3\/s=4\/s=5\/s=6\/s=7\/s=8\/s=9\/s=10\/s=11\/s=12\/s=13\/s=14\/s=15\/s=16:=by omega
theorem yf {s:Int} (h:17<=s/\s<=34):s=17\/s=18\/s=19\/s=20\/s=21\/s=22\/s=23\/s=24\/s=25\/s=26\/s=27\/s=28\/s=29\/s=30\/s=31\/s=32\/s=33\/s=34:=by omega
theorem su (f w:Int) (hF:1<=f/\f<=100) (hn:¬ 48<=f) (hw:bO w):ai gT 103 [.int .i64 f,.int .u32 w] (cG (aU f w)):=by
 have QR:=gG hF
 have hb:=jE hF
 rcases ye (s:=aa f) (by omega) with hs|hs|hs|hs|hs|hs|hs|hs|hs|hs|hs|hs|hs|hs|hs|hs
 ·rw[XQ hs]; exact wI f w hF hs hw
 ·rw[XR hs]; exact wJ f w hF hs hw
 ·rw[XT hs]; exact wK f w hF hs hw
 ·rw[XU hs]; exact wL f w hF hs hw
 ·rw[XV hs]; exact wM f w hF hs hw
 ·rw[XW hs]; exact wN f w hF hs hw
 ·rw[XX hs]; exact wO f w hF hs hw
 ·rw[XY hs]; exact wP f w hF hs hw
 ·rw[XZ hs]; exact wQ f w hF hs hw
 ·rw[Tx hs]; exact ur f w hF hs hw
 ·rw[Ty hs]; exact uu f w hF hs hw
 ·rw[Tz hs]; exact uv f w hF hs hw
 ·rw[TA hs]; exact uw f w hF hs hw
 ·rw[TB hs]; exact ux f w hF hs hw
 ·rw[TC hs]; exact uy f w hF hs hw
 ·rw[TD hs]; exact uz f w hF hs hw
 
theorem wR (f w:Int) (hF:1<=f/\f<=100) (hn:48<=f) (hw:bO w):ai gT 104 [.int .i64 f,.int .u32 w] (cG (aU f w)):=by
 have QR:=gG hF
 have hb:=jE hF
 rcases yf (s:=aa f) (by omega) with hs|hs|hs|hs|hs|hs|hs|hs|hs|hs|hs|hs|hs|hs|hs|hs|hs|hs
 ·rw[TE hs]; exact zn f w hF hs hw
 ·rw[TF hs]; exact zo f w hF hs hw
 ·rw[TG hs]; exact zp f w hF hs hw
 ·rw[TH hs]; exact zq f w hF hs hw
 ·rw[TJ hs]; exact zt f w hF hs hw
 ·rw[TK hs]; exact zw f w hF hs hw
 ·rw[TL hs]; exact zy f w hF hs hw
 ·rw[TN hs]; exact zz f w hF hs hw
 ·rw[TO hs]; exact zA f w hF hs hw
 ·rw[TP hs]; exact zB f w hF hs hw
 ·rw[TQ hs]; exact zC f w hF hs hw
 ·rw[TR hs]; exact zD f w hF hs hw
 ·rw[TS hs]; exact zE f w hF hs hw
 ·rw[TT hs]; exact zF f w hF hs hw
 ·rw[TU hs]; exact zG f w hF hs hw
 ·rw[TV hs]; exact zH f w hF hs hw
 ·rw[TW hs]; exact zI f w hF hs hw
 ·rw[TX hs]; exact zJ f w hF hs hw
 
def QS (i:IN):Int:=((dS (du i) (ax (aa i.form)):Nat):Int)
theorem wS (i:IN) (hr:aq i) (hn:¬ 48<=i.form) (hg:i.ao<=9223372036854775807):ai gT 132 [cG i] (.int .u32 (QS i)):=by
 have QR:=gG hr.1
 have hb:=jE hr.1
 unfold QS
 unfold aq at hr
 rw[aJ (by omega)]
 rcases ye (s:=aa i.form) (by omega) with hs|hs|hs|hs|hs|hs|hs|hs|hs|hs|hs|hs|hs|hs|hs|hs
 ·rw[hs] at hr ⊢; exact Db i hs hr hg
 ·rw[hs] at hr ⊢; exact Dc i hs hr hg
 ·rw[hs] at hr ⊢; exact Dd i hs hr hg
 ·rw[hs] at hr ⊢; exact De i hs hr hg
 ·rw[hs] at hr ⊢; exact Df i hs hr hg
 ·rw[hs] at hr ⊢; exact Dg i hs hr hg
 ·rw[hs] at hr ⊢; exact Dh i hs hr hg
 ·rw[hs] at hr ⊢; exact Di i hs hr hg
 ·rw[hs] at hr ⊢; exact Dj i hs hr hg
 ·rw[hs] at hr ⊢; exact zK i hs hr hg
 ·rw[hs] at hr ⊢; exact zL i hs hr hg
 ·rw[hs] at hr ⊢; exact zM i hs hr hg
 ·rw[hs] at hr ⊢; exact zN i hs hr hg
 ·rw[hs] at hr ⊢; exact zO i hs hr hg
 ·rw[hs] at hr ⊢; exact zP i hs hr hg
 ·rw[hs] at hr ⊢; exact zQ i hs hr hg
 
theorem Dx (i:IN) (hr:aq i) (hn:48<=i.form) (hg:i.ao<=9223372036854775807):ai gT 131 [cG i] (.int .u32 (QS i)):=by
 have QR:=gG hr.1
 have hb:=jE hr.1
 unfold QS
 unfold aq at hr
 rcases yf (s:=aa i.form) (by omega) with hs|hs|hs|hs|hs|hs|hs|hs|hs|hs|hs|hs|hs|hs|hs|hs|hs|hs
 ·rw[aJ (by omega)]; rw[hs] at hr ⊢; exact GZ i hs hr hg
 ·rw[aJ (by omega)]; rw[hs] at hr ⊢; exact G0 i hs hr hg
 ·rw[aJ (by omega)]; rw[hs] at hr ⊢; exact G1 i hs hr hg
 ·rw[aJ (by omega)]; rw[hs] at hr ⊢; exact G2 i hs hr hg
 ·rw[aJ (by omega)]; rw[hs] at hr ⊢; exact G3 i hs hr hg
 ·rw[aJ (by omega)]; rw[hs] at hr ⊢; exact G4 i hs hr hg
 ·rw[aJ (by omega)]; rw[hs] at hr ⊢; exact G5 i hs hr hg
 ·rw[aJ (by omega)]; rw[hs] at hr ⊢; exact G6 i hs hr hg
 ·rw[aJ (by omega)]; rw[hs] at hr ⊢; exact G7 i hs hr hg
 ·rw[aJ (by omega)]; rw[hs] at hr ⊢; exact G8 i hs hr hg
 ·rw[aJ (by omega)]; rw[hs] at hr ⊢; exact G9 i hs hr hg
 ·rw[aJ (by omega)]; rw[hs] at hr ⊢; exact G' i hs hr hg
 ·rw[aJ (by omega)]; rw[hs] at hr ⊢; exact G_ i hs hr hg
 ·rw[aJ (by omega)]; rw[hs] at hr ⊢; exact Ha i hs hr hg
 ·rw[aJ (by omega)]; rw[hs] at hr ⊢; exact Hb i hs hr hg
 ·rw[aJ (by omega)]; rw[hs] at hr ⊢; exact Hc i hs hr hg
 ·rw[aJ (by omega)]; rw[hs] at hr ⊢; exact Hd i hs hr hg
 ·rw[hs] at hr ⊢; exact He i hs hr hg
theorem wT (i:IN):dS (du i) (ax (aa i.form)) < 4294967296:=by
 have h:=CH (du i) (ax (aa i.form)) (zb _)
 rw[uo] at h
 exact Nat.lt_of_le_of_lt Nat.right_le_or h
theorem yg (i:IN):bits .or .u32 (lp i.form) (QS i)=bs i:=by
 have b:=xQ i.form
 have l:=wT i
 rw[mb]
 unfold QS
 rw[u32_or _ _ b.1 b.2 (by omega) (by omega),Int.toNat_natCast]
theorem mQ (i:IN) (hr:aq i) (hg:i.ao<=9223372036854775807):ai gT 100 [cG i] (.int .u32 (bs i)):=by
 refine Spec.enter an Xc 100 Tryz.func100 rfl (by kernel_rfl) ?_
 refine (ka i.form).u ?_
 refine⟨fun h=>?_,fun h=>?_⟩
 ·refine (fJ i.form).u ?_
  refine (Dx i hr h.1 hg).u ?_
  refine aD ?_
  exact yg i
 ·refine (fJ i.form).u ?_
  refine (wS i hr (fun e=>h ⟨e,hr.1.2⟩) hg).u ?_
  refine aD ?_
  exact yg i
theorem Dy:∀ k:Fin 35,(ax ((k.1:Nat):Int)).all (fun x=>decide (x.2.1+x.2.2.2<=25))=true:=by decide
theorem uC (s:Int):∀ x∈ax s,x.2.1+x.2.2.2<=25:=by
 have h:(ax s).all (fun x=>decide (x.2.1+x.2.2.2<=25))=true:=by
  by_cases h:s < 1\/34 < s
  ·rw[gW s h]; rfl
  ·have h1:=Dy ⟨s.toNat,by omega⟩
   rwa [show (((⟨s.toNat,by omega⟩:Fin 35).1:Nat):Int)=s by simp only[]; omega] at h1
 exact fun x hx=>of_decide_eq_true (List.all_eq_true.1 h x hx)
theorem Hp (w:Int) (a n l:Nat) (h:l+n<=25):0<=ab w a n*2 ^ l/\ab w a n*2 ^ l<=33554432:=by
 have b:=ae w a n
 have p1:=cn l
 have p2:=cn n
 have q1:=Nat.two_pow_pos l
 have e:((ab w a n).toNat:Int)=ab w a n:=Int.toNat_of_nonneg b.1
 have h1:(ab w a n).toNat < 2 ^ n:=by omega
 have h2:(ab w a n).toNat*2 ^ l<=2 ^ n*2 ^ l:=Nat.mul_le_mul_right _ (Nat.le_of_lt h1)
 have h3:2 ^ n*2 ^ l<=2 ^ 25:=by rw[← Nat.pow_add]; exact Nat.pow_le_pow_right (by omega) (by omega)
 have e2:ab w a n*2 ^ l=(((ab w a n).toNat*2 ^ l:Nat):Int):=by rw[Int.natCast_mul,e,p1]
 rw[e2]
 have h4:(2:Nat) ^ 25=33554432:=by decide
 omega
theorem Dz (w:Int):∀ (l:List (Nat × Nat × Nat × Nat)) (a:Int),(∀ x∈l,x.2.1+x.2.2.2<=25)->a<=l.foldl (fun a x=>a+ab w x.2.2.1 x.2.2.2*2 ^ x.2.1) a/\l.foldl (fun a x=>a+ab w x.2.2.1 x.2.2.2*2 ^ x.2.1) a<=a+l.length*33554432
 | [],a,_=>by simp
 | x::l,a,h=>by
  have ih:=Dz w l (a+ab w x.2.2.1 x.2.2.2*2 ^ x.2.1) fun y hy=>h y (List.mem_cons_of_mem _ hy)
  have t:=Hp w x.2.2.1 x.2.2.2 x.2.1 (h x (List.mem_cons_self ..))
  rw[List.foldl_cons,List.length_cons]
  omega
theorem T3 (s w:Int) (f:Nat):0<=xV s w f/\xV s w f<=234881024:=by
 have h:=Dz w ((ax s).filter fun x=>decide (x.1=f)) 0 fun x hx=>uC s x (List.mem_filter.1 hx).1
 have l1:((ax s).filter fun x=>decide (x.1=f)).length<=7:=Nat.le_trans (List.length_filter_le ..) (wC s)
 unfold xV
 omega
theorem me (x:Int) (w:Nat) (hw:w<=25):x - 33554432<=cO x w/\cO x w<=x:=by
 have p:(2:Int) ^ w<=33554432/\0 < (2:Int) ^ w:=by
  have h1:(2 ^ w:Nat)<=2 ^ 25:=Nat.pow_le_pow_right (by omega) hw
  have h3:=cn w
  have:=Nat.two_pow_pos w
  have h4:(2:Nat) ^ 25=33554432:=by decide
  omega
 unfold cO; split<;>omega
theorem Hq (s f x:Int) (hx:0<=x/\x<=234881024):-1099511627776<=nK s f x/\nK s f x<=1099511627776:=by
 have a:=me x 9 (by decide)
 have b:=me x 12 (by decide)
 have c:=me x 21 (by decide)
 have t:=CF x 2 (by decide)
 have d:=me (bG x 2) 25 (by decide)
 unfold nK
 (repeat' split)<;>omega
theorem Hr (f w:Int):∀ k,k < 10->-1099511627776<=iT (aU f w) k/\iT (aU f w) k<=1099511627776:=by
 intro k hk
 have x:=fun n=>T3 (aa f) w n
 match k,hk with
 | 0,_=>have:=x 0; exact⟨by show _<=xV (aa f) w 0; omega,by show xV (aa f) w 0<=_; omega⟩
 | 1,_=>have:=x 1; exact⟨by show _<=xV (aa f) w 1; omega,by show xV (aa f) w 1<=_; omega⟩
 | 2,_ =>
  have:=x 2
  have b:=ae w 0 4
  have e:-1099511627776<=RY (aa f) w (xV (aa f) w 2)/\RY (aa f) w (xV (aa f) w 2)<=1099511627776:=by unfold RY; split<;>omega
  exact e
 | 3,_=>have:=x 3; exact⟨by show _<=xV (aa f) w 3; omega,by show xV (aa f) w 3<=_; omega⟩
 | 4,_=>exact Hq (aa f) f (xV (aa f) w 4) (x 4)
 | 5,_=>have:=x 5; exact⟨by show _<=xV (aa f) w 5; omega,by show xV (aa f) w 5<=_; omega⟩
 | 6,_ =>
  have:=x 6
  have e:-1099511627776<=JN (aa f) (xV (aa f) w 5) (xV (aa f) w 6)/\JN (aa f) (xV (aa f) w 5) (xV (aa f) w 6)<=1099511627776:=by unfold JN; split<;>omega
  exact e
 | 7,_=>have:=x 7; exact⟨by show _<=xV (aa f) w 7; omega,by show xV (aa f) w 7<=_; omega⟩
 | 8,_=>have:=x 8; exact⟨by show _<=xV (aa f) w 8; omega,by show xV (aa f) w 8<=_; omega⟩
 | 9,_=>have:=x 9; exact⟨by show _<=xV (aa f) w 9; omega,by show xV (aa f) w 9<=_; omega⟩
def pe (w f:Int):Prop:=aq (aU f w)/\bs (aU f w)=w
theorem DA {w f:Int} (h:pe w f):bits .and .u32 w (lp f)=lp f:=by
 have b:=xQ f
 have e:=h.2
 rw[mb] at e
 have l:(lp (aU f w).form).toNat=(lp f).toNat:=rfl
 rw[l] at e
 have lt:=iV (show (lp f).toNat < 4294967296 by omega) (wT (aU f w))
 obtain⟨a,ha⟩:∃ a,a=(lp f).toNat:=⟨_,rfl⟩
 obtain⟨o,ho⟩:∃ o,o=dS (du (aU f w)) (ax (aa (aU f w).form)):=⟨_,rfl⟩
 rw[← ha,← ho] at e lt
 have ea:lp f=(a:Int):=by omega
 rw[ea,← e,u32_and _ _ (by omega) (by omega) (by omega) (by omega),Int.toNat_natCast,Int.toNat_natCast]
 congr 1
 apply Nat.eq_of_testBit_eq
 intro p
 rw[Nat.testBit_and,Nat.testBit_or]
 cases a.testBit p<;>simp
def eu (wide:Prop) (f:Int):Prop:=(wide/\48<=f/\f<=100)\/(¬ wide/\1<=f/\f<=47)
def hU (w:Int) (wide:Prop) (f:Int):Prop:=eu wide f/\pe w f/\∀ g,eu wide g->g < f->¬ pe w g
theorem zU {w:Int} {wide:Prop} {f g:Int} (hf:hU w wide f) (hg:hU w wide g):f=g:=by
 by_cases h:f < g
 ·exact absurd hf.2.1 (hg.2.2 f hf.1 h)
 by_cases h2:g < f
 ·exact absurd hg.2.1 (hf.2.2 g hg.1 h2)
 omega
noncomputable def zV (w:Int) (wide:Prop):IN:=open Classical in if h:∃ f,hU w wide f then aU h.choose w else iZ
noncomputable def kx (w:Int) (wide:Prop):Int:=open Classical in if ∃ f,hU w wide f then 0 else 40
theorem pf {w:Int} {wide:Prop} {f:Int} (h:hU w wide f):zV w wide=aU f w:=by
 have e:∃ f,hU w wide f:=⟨f,h⟩
 unfold zV
 rw[dif_pos e,zU e.choose_spec h]
theorem sv {w:Int} {wide:Prop} {f:Int} (h:hU w wide f):kx w wide=0:=if_pos ⟨f,h⟩
theorem PK {w:Int} {wide:Prop} (h:∀ f,eu wide f->¬ pe w f):zV w wide=iZ:=dif_neg fun ⟨f,hf⟩=>h f hf.1 hf.2.1
theorem PL {w:Int} {wide:Prop} (h:∀ f,eu wide f->¬ pe w f):kx w wide=40:=if_neg fun ⟨f,hf⟩=>h f hf.1 hf.2.1
theorem Hs (i:IN) (h:aq i) (hg:i.ao<=9223372036854775807):hU (bs i) (48<=i.form) i.form:=by
 have hb:=back i h hg
 have hit:pe (bs i) i.form:=by unfold pe; rw[hb]; exact⟨h,rfl⟩
 have f1:=h.1
 refine⟨by unfold eu; omega,hit,fun g hgf cz hh=>?_⟩
 have e:=zf (a:=aU g (bs i)) (b:=i) hh.1 h (by show 48<=g↔48<=i.form; unfold eu at hgf; omega) hh.2
 have:g=i.form:=e
 omega
theorem DB (i:IN) (h:aq i) (hI:uA i):ai gT 67 [cG i] (.tup [.int .u32 (bs i),.int .i64 0]):=by
 refine Spec.enter an P67 100 Tryz.func67 rfl (by kernel_rfl) ?_
 refine (kX i (hI i.az (by simp[nM]))).u ?_
 refine⟨fun h'=>absurd h h',fun _=>?_⟩
 refine (mQ i h (hI i.ao (by simp[nM])).2).u ?_
 exact rA
theorem yh {f w:Int} (hf:wx f):uA (aU f w):=by
 intro x hx
 have b:=Hr f w
 simp only[nM,List.mem_cons,List.not_mem_nil,or_false] at hx
 have key:∀ k,k < 10->wx (iT (aU f w) k):=fun k hk=>by have:=b k hk; unfold wx; omega
 rcases hx with rfl|rfl|rfl|rfl|rfl|rfl|rfl|rfl|rfl|rfl|rfl
 ·exact hf
 ·exact key 0 (by decide)
 ·exact key 1 (by decide)
 ·exact key 2 (by decide)
 ·exact key 3 (by decide)
 ·exact key 4 (by decide)
 ·exact key 5 (by decide)
 ·exact key 6 (by decide)
 ·exact key 7 (by decide)
 ·exact key 8 (by decide)
 ·exact key 9 (by decide)
theorem yi (w:Int) (wide:Prop) (hw:bO w):ai gT 74 [.int .u32 w,.bool wide] (.tup [cG (zV w wide),.int .i64 (kx w wide)]):=by
 refine Spec.enter an Zr 100 Tryz.func74 rfl (by kernel_rfl) ?_
 refine SW.xJ an Zr (by kernel_rfl) (α:={k:Nat // k<=100/\∀ g:Int,eu wide g->g < k+1->¬ pe w g}) (fun k=>[(6,.int .i64 (k.1+1:Nat))]) (fun k=>100 - k.1) ⟨0,by omega,fun g hg cz=>by unfold eu at hg; omega⟩ 100 ?_ ?_
 ·repeat' first|exact Iff.rfl|exact trivial|exact rfl|refine And.intro ?_ ?_
 rintro⟨k,hk,xx⟩
 refine⟨fun h=>?_,fun h=>?_⟩
 ·have yj:((k+1:Nat):Int)<=100:=h
  have hF:1<=((k+1:Nat):Int)/\((k+1:Nat):Int)<=100:=⟨by omega,yj⟩
  have hf:wx ((k+1:Nat):Int):=by unfold wx; omega
  have next:¬ (eu wide ((k+1:Nat):Int)/\pe w ((k+1:Nat):Int))->∀ g:Int,eu wide g->g < ((k+1:Nat):Int)+1->¬ pe w g:=fun hn g hg cz hh=>by
   by_cases e:g=((k+1:Nat):Int)
   ·subst e; exact hn ⟨hg,hh⟩
   ·exact xx g hg (by omega) hh
  refine (ka ((k+1:Nat):Int)).u ?_
  refine⟨fun cZ=>?_,fun heq=>?_⟩
  ·refine .inl ⟨av (show _<=((k+1:Nat):Int)+1/\((k+1:Nat):Int)+1<=_ by omega),⟨⟨k+1,by omega,next fun hh=>cZ ?_⟩,show 100 - (k+1) < 100 - k by omega,?_⟩⟩
   ·unfold eu at hh; exact⟨fun h2=>hh.1.elim (fun e=>e.1) (fun e=>absurd h2.1 (by omega)),fun h2=>hh.1.elim (fun e=>e.2) (fun e=>absurd h2 e.1)⟩
   repeat' first|exact Iff.rfl|exact trivial|exact rfl|refine And.intro ?_ ?_
  have heq:=Classical.not_not.1 heq
  refine (fJ ((k+1:Nat):Int)).u ?_
  refine (fJ ((k+1:Nat):Int)).u ?_
  refine⟨fun hm=>?_,fun hm=>?_⟩
  ·refine .inl ⟨av (show _<=((k+1:Nat):Int)+1/\((k+1:Nat):Int)+1<=_ by omega),⟨⟨k+1,by omega,next fun hh=>hm (DA hh.2)⟩,show 100 - (k+1) < 100 - k by omega,?_⟩⟩
   repeat' first|exact Iff.rfl|exact trivial|exact rfl|refine And.intro ?_ ?_
  have xu:eu wide ((k+1:Nat):Int):=by
   unfold eu
   by_cases hW:wide
   ·exact .inl ⟨hW,heq.2 hW⟩
   ·refine .inr ⟨hW,by omega,?_⟩
    by_cases p4:48<=((k+1:Nat):Int)
    ·exact absurd (heq.1 ⟨p4,yj⟩) hW
    ·omega
  have hI:=yh (w:=w) hf
  have hR:=kX (aU ((k+1:Nat):Int) w) (hI (aU ((k+1:Nat):Int) w).az (by simp[nM]))
  by_cases hW:wide
  ·have p4:=(heq.2 hW).1
   refine (pY ((k+1:Nat):Int) w ((gG hF).2 p4) hw).u ?_
   refine⟨fun _=>?_,fun hn=>absurd hW hn⟩
   refine (wR ((k+1:Nat):Int) w hF p4 hw).u ?_
   refine hR.u ?_
   refine⟨fun hr=>?_,fun hr=>?_⟩
   ·refine (mQ (aU ((k+1:Nat):Int) w) hr (hI (aU ((k+1:Nat):Int) w).ao (by simp[nM])).2).u ?_
    refine⟨fun hp=>?_,fun hp=>?_⟩
    ·have DC:hU w wide ((k+1:Nat):Int):=⟨xu,⟨hr,hp⟩,fun g hg cz=>xx g hg (by omega)⟩
     rw[pf DC,sv DC]
     exact rA
    ·refine .inl ⟨av (show _<=((k+1:Nat):Int)+1/\((k+1:Nat):Int)+1<=_ by omega),⟨⟨k+1,by omega,next fun hh=>hp hh.2.2⟩,show 100 - (k+1) < 100 - k by omega,?_⟩⟩
     repeat' first|exact Iff.rfl|exact trivial|exact rfl|refine And.intro ?_ ?_
   ·refine .inl ⟨av (show _<=((k+1:Nat):Int)+1/\((k+1:Nat):Int)+1<=_ by omega),⟨⟨k+1,by omega,next fun hh=>hr hh.2.1⟩,show 100 - (k+1) < 100 - k by omega,?_⟩⟩
    repeat' first|exact Iff.rfl|exact trivial|exact rfl|refine And.intro ?_ ?_
  ·have p4:¬ 48<=((k+1:Nat):Int):=fun e=>hW (heq.1 ⟨e,yj⟩)
   refine (su ((k+1:Nat):Int) w hF p4 hw).u ?_
   refine⟨fun h=>absurd h hW,fun _=>?_⟩
   refine hR.u ?_
   refine⟨fun hr=>?_,fun hr=>?_⟩
   ·refine (mQ (aU ((k+1:Nat):Int) w) hr (hI (aU ((k+1:Nat):Int) w).ao (by simp[nM])).2).u ?_
    refine⟨fun hp=>?_,fun hp=>?_⟩
    ·have DC:hU w wide ((k+1:Nat):Int):=⟨xu,⟨hr,hp⟩,fun g hg cz=>xx g hg (by omega)⟩
     rw[pf DC,sv DC]
     exact rA
    ·refine .inl ⟨av (show _<=((k+1:Nat):Int)+1/\((k+1:Nat):Int)+1<=_ by omega),⟨⟨k+1,by omega,next fun hh=>hp hh.2.2⟩,show 100 - (k+1) < 100 - k by omega,?_⟩⟩
     repeat' first|exact Iff.rfl|exact trivial|exact rfl|refine And.intro ?_ ?_
   ·refine .inl ⟨av (show _<=((k+1:Nat):Int)+1/\((k+1:Nat):Int)+1<=_ by omega),⟨⟨k+1,by omega,next fun hh=>hr hh.2.1⟩,show 100 - (k+1) < 100 - k by omega,?_⟩⟩
    repeat' first|exact Iff.rfl|exact trivial|exact rfl|refine And.intro ?_ ?_
 ·have yj:¬ ((k+1:Nat):Int)<=100:=h
  have dE:∀ f,eu wide f->¬ pe w f:=fun f hf=>xx f hf (by unfold eu at hf; omega)
  rw[PK dE,PL dE]
  exact rA
def dy (h:Int):Prop:=29<=h % 65536 / 2048
theorem uD (h:Int) (hh:bO h):ai gT 73 [.int .u32 h] (.bool (dy h)):=by
 have e:bits .and .u32 h 65535=h % 65536:=t_ h 16 hh.1 hh.2 (by decide)
 refine Spec.enter an P73 100 Tryz.func73 rfl (by kernel_rfl) ?_
 refine⟨by decide,?_⟩
 refine aD ?_
 show 29<=bits .and .u32 h 65535 / Ev.aO .u32 11↔dy h
 rw[e,X0]; exact Iff.rfl
def dO (f:Int):Int:=if 48<=f/\f<=100 then 4 else if 1<=f/\f<=47 then 2 else 0
theorem zW (f:Int):ai gT 75 [.int .i64 f] (.int .i64 (dO f)):=by
 refine Spec.enter an P75 100 Tryz.func75 rfl (by kernel_rfl) ?_
 refine (l7 f).u ?_
 refine⟨fun h=>?_,fun h=>?_⟩
 ·exact aD (show (0:Int)=dO f by unfold dO; rw[if_neg (by omega),if_neg (by omega)])
 refine (ka f).u ?_
 refine⟨fun h2=>?_,fun h2=>?_⟩
 ·exact aD (show (4:Int)=dO f by unfold dO; rw[if_pos h2])
 ·exact aD (show (2:Int)=dO f by unfold dO; rw[if_neg h2,if_pos (by omega)])
theorem jI (i:IN):ai gT 45 [cG i] (.int .i64 (dO i.form)):=by
 refine Spec.enter an P45 100 Tryz.func45 rfl (by kernel_rfl) ?_
 refine (zW i.form).u ?_
 exact aD rfl
theorem Op.PM {P:Program} {t:TypeId} {S:PV->Prop} (h:Op P t S) (hS:∀ y,S y->∃ xs,y = .agg xs) {H:Type} {ec:TypeId × Value->H} {w:World} {base:Nat} {held:Bool} {vs:Array Value} {d:DataW H} {p:List MemPlace} (ht:DataW.Trod ec P w base (fun _=>true) held t (.agg vs) d p) (xE:∀ n∈d.weights P t,n<=reachBytes) :
  ∃ y,S y/\y.Is w (In w) no (.agg vs):=by
 obtain⟨fuel,ht⟩:=ht
 obtain⟨y,hy,_,hi,_⟩:=h ec w base held fuel _ _ ht xE
 refine⟨y,hy,?_⟩
 obtain⟨xs,rfl⟩:=hS y hy
 simp only[PV.Is]
 exact⟨vs,rfl,hi⟩
end Go.Proofs.YtlgkljpgagfndaaGreatDoor.Pw
namespace Go.Proofs.YtlgkljpgagfndaaGreatDoor.DD
open Go.ChangeShapes Go.WideShapes Go.ChangeAt Go.RowKit Go.Deep
end Go.Proofs.YtlgkljpgagfndaaGreatDoor.DD
namespace Go.Proofs.YtlgkljpgagfndaaGreatDoor.Pw
open Go Go.RowKit
theorem jJ {z:Int} (h:sR .u32 z):0<=z/\z<=4294967295:=by unfold sR Ev.jl Ev.jc at h; simp only[IntKind.signed,IntKind.bits] at h; simpa using h
theorem pg:Op Tryz.prog 24 (SInt .u32):=tI Tryz.underlying24 (by kernel_rfl)
def DE (l:List (Nat × Nat × Nat × Nat)):Nat:=l.foldl (fun m x=>max m (x.2.2.1+x.2.2.2)) 0
theorem uE:∀ (l:List (Nat × Nat × Nat × Nat)) (m:Nat),m<=l.foldl (fun m x=>max m (x.2.2.1+x.2.2.2)) m/\∀ x∈l,x.2.2.1+x.2.2.2<=l.foldl (fun m x=>max m (x.2.2.1+x.2.2.2)) m
 | [],m=>⟨Nat.le_refl _,fun x hx=>by cases hx⟩
 | y::l,m=>by
  have h:=uE l (max m (y.2.2.1+y.2.2.2))
  rw[List.foldl_cons]
  refine⟨by omega,fun x hx=>?_⟩
  rcases List.mem_cons.1 hx with rfl|hx
  ·omega
  ·exact h.2 x hx
theorem DF (i:IN) (k:Nat):∀ (l:List (Nat × Nat × Nat × Nat)) (V:Nat),V < 2 ^ k->(∀ x∈l,x.2.2.1+x.2.2.2<=k)->l.foldl (fun w x=>w ||| B (iT i x.1) x.2.1 x.2.2.2 x.2.2.1) V < 2 ^ k
 | [],V,h,_=>h
 | x::l,V,h,hl=>by
  rw[List.foldl_cons]
  refine DF i k l _ (Nat.or_lt_two_pow h ?_) fun y hy=>hl y (List.mem_cons_of_mem _ hy)
  have b:=ae (iT i x.1) x.2.1 x.2.2.2
  have e:=cn x.2.2.2
  have h1:(ab (iT i x.1) x.2.1 x.2.2.2).toNat < 2 ^ x.2.2.2:=by omega
  unfold B
  rw[Nat.shiftLeft_eq]
  calc (ab (iT i x.1) x.2.1 x.2.2.2).toNat*2 ^ x.2.2.1 < 2 ^ x.2.2.2*2 ^ x.2.2.1:=Nat.mul_lt_mul_of_pos_right h1 (Nat.two_pow_pos _)
   _=2 ^ (x.2.2.2+x.2.2.1):=(Nat.pow_add ..).symm
   _<=2 ^ k:=Nat.pow_le_pow_right (by omega) (by have:=hl x (List.mem_cons_self ..); omega)
theorem uF (a b k:Nat) (h:b < 2 ^ k):a ||| b < (a / 2 ^ k+1)*2 ^ k:=by
 have e:(a ||| b) / 2 ^ k=a / 2 ^ k:=by
  apply Nat.eq_of_testBit_eq
  intro p
  rw[Nat.testBit_div_two_pow,Nat.testBit_div_two_pow,Nat.testBit_or,Nat.testBit_lt_two_pow (x:=b) (Nat.lt_of_lt_of_le h (Nat.pow_le_pow_right (by decide) (by omega))),Bool.or_false]
 have hp:=Nat.two_pow_pos k
 have h1:=Nat.lt_mul_div_succ (a ||| b) hp
 rw[e,Nat.mul_comm] at h1
 exact h1
theorem wU:((List.range 47).all fun k=>decide ((Gu (k+1) / 2 ^ DE (Lb (k+1))+1)*2 ^ DE (Lb (k+1))<=59392))=true:=by decide +kernel
theorem DG:((List.range 53).all fun k=>decide (3892314112<=Gu (k+48)))=true:=by decide +kernel
theorem wV (i:IN) (h:aq i) (hn:¬ 48<=i.form):bs i < 59392:=by
 have f1:=h.1
 have ef:((i.form.toNat:Nat):Int)=i.form:=by omega
 have t:=of_decide_eq_true (List.all_eq_true.1 wU (i.form.toNat - 1) (List.mem_range.2 (by omega)))
 rw[show i.form.toNat - 1+1=i.form.toNat by omega] at t
 unfold Gu Lb at t
 rw[ef] at t
 have l:=DF (du i) (DE (ax (aa i.form))) (ax (aa i.form)) 0 (Nat.two_pow_pos _) fun x hx=>(uE _ 0).2 x hx
 have o:=uF (lp i.form).toNat _ _ l
 have e:bs i=(((lp i.form).toNat ||| dS (du i) (ax (aa i.form)):Nat):Int):=mb i
 rw[e]
 have o2:((lp i.form).toNat ||| dS (du i) (ax (aa i.form))) < 59392:=Nat.lt_of_lt_of_le o t
 omega
theorem Ht (i:IN):bO (bs i):=by
 have:=iV (show (lp i.form).toNat < 4294967296 by have:=xQ i.form; omega) (wT i)
 rw[mb]; unfold bO; omega
theorem DH (i:IN) (h:aq i) (hn:48<=i.form):3892314112<=bs i:=by
 have f1:=h.1
 have ef:((i.form.toNat:Nat):Int)=i.form:=by omega
 have t:=of_decide_eq_true (List.all_eq_true.1 DG (i.form.toNat - 48) (List.mem_range.2 (by omega)))
 rw[show i.form.toNat - 48+48=i.form.toNat by omega] at t
 unfold Gu at t
 rw[ef] at t
 have l:(lp i.form).toNat<=(lp i.form).toNat ||| dS (du i) (ax (aa i.form)):=Nat.left_le_or
 rw[mb]; omega
def gi (l:List Int):List PV:=l.map (PV.int .u8)
def kA (i:IN):List Int:=(if 48<=i.form then [bs i / 65536 % 256,bs i / 16777216 % 256] else [])++[bs i % 256,bs i / 256 % 256]
theorem r24:Ev.aO .u32 24=16777216:=by decide
theorem zX (i:IN) (h:aq i) (hI:uA i):ai gT 35 [cG i] (.tup [.sl 1 (gi (kA i)),.int .i64 0]):=by
 have e0:=IntKind.wrap_u8' (bs i)
 have e1:=IntKind.wrap_u8' (bs i / Ev.aO .u32 8)
 have e2:=IntKind.wrap_u8' (bs i / Ev.aO .u32 16)
 have e3:=IntKind.wrap_u8' (bs i / Ev.aO .u32 24)
 have p8:Ev.aO .u32 8=256:=by decide
 have p16:Ev.aO .u32 16=65536:=by decide
 refine Spec.enter an P35 100 Tryz.func35 rfl (by kernel_rfl) ?_
 refine (DB i h hI).u ?_
 refine⟨fun h=>absurd rfl h,fun _=>?_⟩
 refine .inr ?_
 refine⟨by decide,.inr ?_⟩
 refine (ka i.form).u ?_
 refine⟨fun hn=>?_,fun hn=>?_⟩
 ·have Q5:¬ 48<=i.form:=fun e=>hn ⟨e,h.1.2⟩
  refine aD ?_
  refine And.intro ?_ (And.intro rfl trivial)
  show [PV.int .u8 (IntKind.u8.wrap (bs i)),.int .u8 (IntKind.u8.wrap (bs i / Ev.aO .u32 8))]=gi (kA i)
  rw[e0,e1,p8]
  unfold kA gi; rw[if_neg Q5]; rfl
 ·have Q5:48<=i.form:=(Classical.not_not.1 hn).1
  refine⟨by decide,.inr ?_⟩
  refine⟨by decide,.inr ?_⟩
  refine aD ?_
  refine And.intro ?_ (And.intro rfl trivial)
  show [PV.int .u8 (IntKind.u8.wrap (bs i / Ev.aO .u32 16)),.int .u8 (IntKind.u8.wrap (bs i / Ev.aO .u32 24)),PV.int .u8 (IntKind.u8.wrap (bs i)),.int .u8 (IntKind.u8.wrap (bs i / Ev.aO .u32 8))]=gi (kA i)
  rw[e0,e1,e2,e3,p8,p16,r24]
  unfold kA gi; rw[if_pos Q5]; rfl
def DI (l:List Int):Prop:=∀ z∈l,0<=z/\z<=255
theorem fF (a b:Int) (k:Nat) (hk:k<=24) (ha:0<=a/\a < 2 ^ k) (hb:0<=b/\b*2 ^ k<=4294967295):bits .or .u32 a (b*2 ^ k)=a+b*2 ^ k/\bits .or .u32 (b*2 ^ k) a=b*2 ^ k+a:=by
 have p:=o4 k (by omega)
 have p2:(2:Int) ^ k<=16777216:=by
  have h1:(2 ^ k:Nat)<=2 ^ 24:=Nat.pow_le_pow_right (by omega) hk
  have h3:=cn k
  have h4:(2:Nat) ^ 24=16777216:=by decide
  omega
 obtain⟨x,rfl⟩:∃ x:Nat,a=x:=⟨a.toNat,by omega⟩
 obtain⟨y,rfl⟩:∃ y:Nat,b=y:=⟨b.toNat,by omega⟩
 have e:((y:Int)*2 ^ k)=((2 ^ k*y:Nat):Int):=by rw[Int.natCast_mul,cn,Int.mul_comm]
 rw[e] at hb ⊢
 have hx:x < 2 ^ k:=by have:=cn k; omega
 have h:=K8 y x k hx
 constructor
 ·rw[u32_or _ _ (by omega) (by omega) (by omega) (by omega),Int.toNat_natCast,Int.toNat_natCast,Nat.or_comm,← h]; omega
 ·rw[u32_or _ _ (by omega) (by omega) (by omega) (by omega),Int.toNat_natCast,Int.toNat_natCast,← h]; omega
def hN (l:List Int) (n:Nat):Int:=l.getD n 0+l.getD (n+1) 0*256
theorem gY {l:List Int} (h:DI l) (n:Nat):0<=l.getD n 0/\l.getD n 0<=255:=by
 rw[List.getD_eq_getElem?_getD]
 cases e:l[n]? with
 | none=>exact⟨Int.le_refl 0,by decide⟩
 | some z=>exact h z (List.mem_of_getElem? e)
theorem DJ {l:List Int} (h:DI l) (n:Nat):0<=hN l n/\hN l n<=65535:=by
 have a:=gY h n
 have b:=gY h (n+1)
 unfold hN; omega
def hW (l:List Int) (n:Nat):Int:=hN l n*65536+hN l (n+2)
noncomputable def T4 (l:List Int) (n:Nat):IN:=open Classical in
 if l.length < n+2 then iZ else if ¬ dy (hN l n) then zV (hN l n) False else if l.length < n+4 then iZ else zV (hW l n) True
noncomputable def T5 (l:List Int) (n:Nat):Int:=open Classical in
 if l.length < n+2 then 41 else if ¬ dy (hN l n) then kx (hN l n) False else if l.length < n+4 then 41 else kx (hW l n) True
structure RS where
 R:Nat->Int
 N:Int
 Z:Int
 C:Int
 V:Int
structure XS where
 i:IN
 s:RS
 at_:Int
 taken:Prop
 a:Int
 b:Int
 data:Int
 words:Int
 kind:Int
 code:Int
structure MS where
 w:Nat->Int
 fl:List Int
 wait:Int
 s:RS
 full:Prop
 line:Int
 gJ:Int
 kind:Int
 code:Int
def PN (R:Nat->Int) (i v:Int):Nat->Int:=fun m=>if i=(m:Int) then v else R m
def PO (s:RS):List PV:=[.int .u32 (s.R 0),.int .u32 (s.R 1),.int .u32 (s.R 2),.int .u32 (s.R 3),.int .u32 (s.R 4),.int .u32 (s.R 5),.int .u32 (s.R 6),.int .u32 (s.R 7),.int .u32 (s.R 8),.int .u32 (s.R 9),.int .u32 (s.R 10),.int .u32 (s.R 11),.int .u32 (s.R 12),.int .u32 (s.R 13),.int .u32 (s.R 14),.int .u32 (s.R 15),.int .u32 s.N,.int .u32 s.Z,.int .u32 s.C,.int .u32 s.V]
def ph (s:RS):PV:=.agg (PO s)
def lq (k:Nat):Int:=if k=0 then 1 else if k=1 then 256 else if k=2 then 65536 else 16777216
def jf (x:Int) (k:Nat):Int:=x / lq k % 256
def fX (w:Nat->Int):List PV:=(List.range 65536).map fun k=>.int .u8 (jf (w (k / 4)) (k % 4))
def zY (w:Nat->Int):ak:=⟨.dyn,5,1,.w,true,fX w⟩
def PQ (fl:List Int):ak:=⟨.loc,94,1,.w,true,[.sl 1 (gi fl),.wref 0]⟩
def DK (d:Md) (m:MS):ak:=⟨.loc,91,1,d,true,[.ptr 1 0,.int .i64 m.wait,.int .u32 (m.s.R 0),.int .u32 (m.s.R 1),.int .u32 (m.s.R 2),.int .u32 (m.s.R 3),.int .u32 (m.s.R 4),.int .u32 (m.s.R 5),.int .u32 (m.s.R 6),.int .u32 (m.s.R 7),.int .u32 (m.s.R 8),.int .u32 (m.s.R 9),.int .u32 (m.s.R 10),.int .u32 (m.s.R 11),.int .u32 (m.s.R 12),.int .u32 (m.s.R 13),.int .u32 (m.s.R 14),.int .u32 (m.s.R 15),.int .u32 m.s.N,.int .u32 m.s.Z,.int .u32 m.s.C,.int .u32 m.s.V,.bool m.full,.int .u32 m.line,.int .i64 m.gJ,.int .i64 m.kind,.int .i64 m.code]⟩
abbrev DL (m:MS):ak:=DK .w m
def T6 (x:XS):List PV:=[.ptr 2 0,.int .i64 x.i.form,.int .i64 x.i.rd,.int .i64 x.i.rn,.int .i64 x.i.rm,.int .i64 x.i.ra,.int .i64 x.i.az,.int .i64 x.i.kind,.int .i64 x.i.bC,.int .i64 x.i.set,.int .i64 x.i.cond,.int .i64 x.i.ao,.int .u32 (x.s.R 0),.int .u32 (x.s.R 1),.int .u32 (x.s.R 2),.int .u32 (x.s.R 3),.int .u32 (x.s.R 4),.int .u32 (x.s.R 5),.int .u32 (x.s.R 6),.int .u32 (x.s.R 7),.int .u32 (x.s.R 8),.int .u32 (x.s.R 9),.int .u32 (x.s.R 10),.int .u32 (x.s.R 11),.int .u32 (x.s.R 12),.int .u32 (x.s.R 13),.int .u32 (x.s.R 14),.int .u32 (x.s.R 15),.int .u32 x.s.N,.int .u32 x.s.Z,.int .u32 x.s.C,.int .u32 x.s.V,.int .u32 x.at_,.bool x.taken,.int .u32 x.a,.int .u32 x.b,.int .u32 x.data,.int .i64 x.words,.int .i64 x.kind,.int .i64 x.code]
def T7 (d:Md) (x:XS):ak:=⟨.loc,109,1,d,true,T6 x⟩
def stM (m:MS):List ak:=[zY m.w,PQ m.fl,DL m]
def PR (d e:Md) (m:MS) (x:XS):List ak:=[zY m.w,PQ m.fl,DK d m,T7 e x]
abbrev fS (m:MS) (x:XS):List ak:=PR .w .w m x
def Hu:PV->Bool
 | .agg _|.tup _|.clo ..|.ref ..|.pti ..|.dpt ..|.ep ..|.gp ..|.gpi ..|.val _=>false
 | _=>true
theorem DM {x:PV} (h:Hu x=true):vi x x:=by
 cases x<;>first|(cases h; done)|exact rfl|exact trivial|exact Iff.rfl|(unfold vi; simp)
theorem mf:∀ {l:List PV},l.all Hu=true->lN vi l l
 | [],_=>trivial
 | x::l,h=>by
  simp only[List.all_cons,Bool.and_eq_true] at h
  exact⟨DM h.1,mf h.2⟩
theorem aY {b:ak} (hl:b.live=true) (hc:(bif b.k.pJ then b.cs.all Hu else true)=true):fA b b:=by
 obtain⟨k,ty,n,m,live,cs⟩:=b
 simp only at hl
 subst hl
 have hm:(Nat.beq ty ty && Nat.beq n n && Md.beq m m && true && true && BK.beq k k)=true:=by
  simp only[Nat.beq_refl,Bool.and_true,Bool.true_and,Bool.and_eq_true]
  exact⟨by cases m<;>rfl,by cases k<;>rfl⟩
 show (bif (Nat.beq ty ty && Nat.beq n n && Md.beq m m && true && true && BK.beq k k) then _ else False)
 rw[hm,cond_true]
 cases k
 ·exact mf hc
 ·exact mf hc
 ·exact rfl
 ·exact rfl
def okB (b:ak):Bool:=b.live && (bif b.k.pJ then b.cs.all Hu else true)
theorem mR {b:ak} (h:okB b=true):fA b b:=by
 unfold okB at h
 simp only[Bool.and_eq_true] at h
 exact aY h.1 h.2
theorem ah:∀ {S:List ak},S.all okB=true->pS S S
 | [],_=>trivial
 | b::S,h=>by
  simp only[List.all_cons,Bool.and_eq_true] at h
  exact⟨mR h.1,ah h.2⟩
theorem qD:∀ {S T:List ak} {k:List ak->Prop},S.all okB=true->k T->Ck (S++T) S k
 | [],_,_,_,h=>h
 | b::S,T,k,ho,h=>by
  simp only[List.all_cons,Bool.and_eq_true] at ho
  exact⟨mR ho.1,qD (S:=S) ho.2 h⟩
theorem Spec.X' {G:Gx} {f:FuncId} {args bx:List PV} {r0:PV} {S0 S1 st T:List ak} {K:PV->List ak->Prop} (h:Spec G f bx S0 [] fun r S'=>r=r0/\S'=S1)
  (hc:(jb S0 S1 && S0.all (tF S0.length) && (dB bx).all (fun l=>Nat.blt l S0.length) && r0.cR.all (fun l=>Nat.blt l S0.length) && S0.all okB)=true) (hle:lN jj args bx) (Ku:st=S0++T) (hK:rN S1 fun S1=>vW S1 T (K r0)):Spec G f args st [] K:=by
 simp only[Bool.and_eq_true] at hc
 obtain⟨⟨⟨⟨h1,h2⟩,h3⟩,h4⟩,h5⟩:=hc
 subst Ku
 exact h.rV h1 h2 h3 h4 hle (qD h5 hK)
def QT (π:fH) (st:List ak):List Nat->List ak->Prop->Prop
 | [],[],k=>k
 | l::σ,b'::S,k=>(bq st[l]? fun b=>okB b=true/\pZ π b' fun kJ=>b=kJ)/\QT π st σ S k
 | _,_,_=>False
theorem yk {π:fH} {st:List ak}:∀ {σ:List Nat} {S:List ak} {k:Prop},QT π st σ S k->VG π st σ S k
 | [],[],_,h=>h
 | l::σ,b'::S,k,h=>by
  refine⟨?_,yk h.2⟩
  obtain⟨b,hb,ho,hr⟩:=ay h.1
  rw[hb]
  show pZ π b' fun kJ=>fA b kJ
  obtain⟨k0,ty,n,m,live,cs⟩:=b'
  cases k0
  ·obtain⟨ds,h1,h2⟩:=ay hr
   show bq (fp π cs) _
   rw[h1]; subst h2; exact mR ho
  ·obtain⟨ds,h1,h2⟩:=ay hr
   show bq (fp π cs) _
   rw[h1]; subst h2; exact mR ho
  ·have e:b=⟨.dyn,ty,n,m,live,cs⟩:=hr
   subst e; exact mR ho
  ·have e:b=⟨.mp,ty,n,m,live,cs⟩:=hr
   subst e; exact mR ho
 | [],_::_,_,h=>h.elim
 | _::_,[],_,h=>h.elim
theorem Spec.X_ {G:Gx} {f:FuncId} {args bx:List PV} {r0:PV} {S0 S1 st:List ak} {K:PV->List ak->Prop} (σ:List Nat) (h:Spec G f bx S0 [] fun r S'=>r=r0/\S'=S1) (hc:(jb S0 S1 && jH σ)=true) (Ca:r0.cR = []) (hle:Dk (σ.map some) args bx) (hK:QT (σ.map some) st σ S0 (QQ (σ.map some) σ S1 st (K r0))):Spec G f args st [] K:=by
 simp only[Bool.and_eq_true] at hc
 exact Spec.TZ σ h hc.1 Ca hc.2 hle (yk hK)
theorem yl {π:fH} {st:List ak}:∀ {σ:List Nat} {S:List ak} {k:Prop},QT π st σ S True->k->QT π st σ S k
 | [],[],_,_,h=>h
 | _::_,_::_,_,h,hk=>⟨h.1,yl h.2 hk⟩
 | [],_::_,_,h,_=>h.elim
 | _::_,[],_,h,_=>h.elim
theorem Spec.e {P:Nat->Prop} {G:Gx} {f:FuncId} {args bx:List PV} {r0:PV} {S0 S1 st:List ak} {K:List Nat->PV->List ak->Prop} (h:Spec G f bx S0 [] fun r S'=>r=r0/\S'=S1) (hK:rN S1 fun S1=>vW S1 (st.drop S0.length) (K [] r0)) (hle:lN jj args bx:=by repeat' first|exact trivial|exact rfl|exact Iff.rfl|refine And.intro ?_ ?_) (Ku:st=S0++st.drop S0.length:=by rfl)
  (hc:(jb S0 S1 && S0.all (tF S0.length) && (dB bx).all (fun l=>Nat.blt l S0.length) && r0.cR.all (fun l=>Nat.blt l S0.length) && S0.all okB)=true:=by rfl):∃ rl:List Nat,(∀ l,l∈rl->P l)/\Spec G f args st rl (K rl):=⟨[],fun _ hl=>(by cases hl),h.X' hc hle Ku hK⟩
theorem Spec.q {P:Nat->Prop} {G:Gx} {f:FuncId} {args bx:List PV} {r0:PV} {S0 S1 st:List ak} {K:List Nat->PV->List ak->Prop} (h:Spec G f bx S0 [] fun r S'=>r=r0/\S'=S1) (σ:List Nat) (hK:QQ (σ.map some) σ S1 st (K [] r0)) (hle:Dk (σ.map some) args bx:=by repeat' first|exact trivial|exact rfl|exact Iff.rfl|refine And.intro ?_ ?_) (ha:QT (σ.map some) st σ S0 True:=by repeat' first|exact trivial|exact⟨rfl,rfl⟩|refine And.intro ?_ ?_) (hc:(jb S0 S1 && jH σ)=true:=by rfl) (Ca:r0.cR = []:=by rfl):∃ rl:List Nat,(∀ l,l∈rl->P l)/\Spec G f args st rl (K rl):=⟨[],fun _ hl=>(by cases hl),h.X_ σ hc Ca hle (yl ha hK)⟩
theorem rS {r r0:PV} {S' S1:List ak} (h:jj r r0:=by repeat' first|exact trivial|exact rfl|exact Iff.rfl|refine And.intro ?_ ?_) (hs:pS S' S1:=by first|exact ah rfl|(repeat' first|exact trivial|exact rfl|exact Iff.rfl|exact not_false|refine And.intro ?_ ?_)):∃ r',xA r r'/\(fun x S'=>x=r0/\pS S' S1) r' S':=a_ h hs
theorem Hv (x:XS):∀ k:Nat,k < 16->(T6 x)[12+k*1]?=some (.int .u32 (x.s.R k))
 | 0,_=>rfl
 | 1,_=>rfl
 | 2,_=>rfl
 | 3,_=>rfl
 | 4,_=>rfl
 | 5,_=>rfl
 | 6,_=>rfl
 | 7,_=>rfl
 | 8,_=>rfl
 | 9,_=>rfl
 | 10,_=>rfl
 | 11,_=>rfl
 | 12,_=>rfl
 | 13,_=>rfl
 | 14,_=>rfl
 | 15,_=>rfl
 | k+16,h=>absurd h (by omega)
def au (x:XS) (r:Int):Int:=if r=15 then IntKind.u32.wrap (x.at_+4) else x.s.R r.toNat
def cD (x:XS) (r v:Int):XS:={ x with s:={ x.s with R:=PN x.s.R r v } }
def nY (x:XS) (v:Int):XS:={ x with s:={ x.s with N:=v / 2147483648,Z:=if v=0 then 1 else 0 } }
theorem pj (x y c:Int) (hx:bO x) (hy:bO y) (hc:0<=c):ai gT 118 [.int .u32 x,.int .u32 y,.int .u32 c] (.tup [.int .u32 (Rm.fy x y c),.int .u32 (Rm.jD x y c),.int .u32 (Rm.kS x y c)]) :=
 ai.of_same (fI Tryz.func118 rfl (by kernel_rfl)) [.int .u32 x,.int .u32 y,.int .u32 c] (.tuple #[.int .u32 (Rm.fy x y c),.int .u32 (Rm.jD x y c),.int .u32 (Rm.kS x y c)]) (fun w I β bw h=>iW (l:=[(.u32,x),(.u32,y),(.u32,c)]) h) (fun w I β=>iR (gC (da ..) (gC (da ..) (gC (da ..) pU)))) (fun w=>(Gi x y c w hx.1 hx.2 hy.1 hy.2 hc).mono fun e w' ⟨h1,h2⟩=>⟨h1,h2.symm⟩)
theorem zZ (x y:Int) (hx:bO x) (hy:bO y):ai gT 115 [.int .u32 x,.int .u32 y] (.tup [.int .u32 (x*y % 4294967296),.int .u32 (x*y / 4294967296)]) :=
 ai.of_same (fI Tryz.func115 rfl (by kernel_rfl)) [.int .u32 x,.int .u32 y] (.tuple #[.int .u32 (x*y % 4294967296),.int .u32 (x*y / 4294967296)]) (fun w I β bw h=>iW (l:=[(.u32,x),(.u32,y)]) h) (fun w I β=>iR (gC (da ..) (gC (da ..) pU))) (fun w=>(Cy x y w hx.1 hx.2 hy.1 hy.2).mono fun e w' ⟨h1,h2⟩=>⟨h1,h2.symm⟩)
theorem qE (x:Int) (hx:bO x):ai gT 129 [.int .u32 x] (.int .i64 (Lib.bitLen x.toNat)) :=
 ai.of_same (fI Tryz.func129 rfl (by kernel_rfl)) [.int .u32 x] (.int .i64 (Lib.bitLen x.toNat)) (fun w I β bw h=>iW (l:=[(.u32,x)]) h) (fun w I β=>da ..) (fun w=>(Gj x w hx.1 hx.2).mono fun e w' ⟨h1,h2⟩=>⟨h1,h2.symm⟩)
theorem Hw (x:Int) (hx:bO x):ai gT 98 [.int .u32 x] (.int .i64 (32 - (Lib.bitLen x.toNat:Int))) :=
 ai.of_same (fI Tryz.func98 rfl (by kernel_rfl)) [.int .u32 x] (.int .i64 (32 - (Lib.bitLen x.toNat:Int))) (fun w I β bw h=>iW (l:=[(.u32,x)]) h) (fun w I β=>da ..) (fun w=>(lZ x w hx.1 hx.2).mono fun e w' ⟨h1,h2⟩=>⟨h1,h2.symm⟩)
theorem pk (x:Int) (h0:0<=x) (h1:x<=65535):ai gT 108 [.int .u32 x] (.int .i64 (b_ x)) :=
 ai.tH (fI Tryz.func108 rfl (by kernel_rfl)) [.int .u32 x] (.int .i64 (b_ x)) (fun w I β bw h=>iW (l:=[(.u32,x)]) h) (fun w I β=>da ..) (fun w=>zT x w h0 h1)
def JU (k x n:Int):Int:=((Rm.v5 k n.toNat x.toNat:Nat):Int)
def Hx (k x n c:Int):Int:=((Rm.RQ k n.toNat x.toNat (min c.toNat 1):Nat):Int)
theorem ns (k x n c:Int) (xz:0<=k) (JK:k<=3) (iH:0<=n) (lv:n<=255) (hx:bO x) (hc:0<=c):ai gT 148 [.int .i64 k,.int .u32 x,.int .i64 n,.int .u32 c] (.tup [.int .u32 (JU k x n),.int .u32 (Hx k x n c),.int .i64 0]) :=
 ai.of_same (fI Tryz.func148 rfl (by kernel_rfl)) [.int .i64 k,.int .u32 x,.int .i64 n,.int .u32 c] (.tuple #[.int .u32 (JU k x n),.int .u32 (Hx k x n c),.int .i64 0]) (fun w I β bw h=>iW (l:=[(.i64,k),(.u32,x),(.i64,n),(.u32,c)]) h) (fun w I β=>iR (gC (da ..) (gC (da ..) (gC (da ..) pU)))) (fun w=>(tT k x n c w xz JK iH lv hx.1 hx.2 hc).mono fun e w' ⟨h1,h2⟩=>⟨h1,h2.symm⟩)
theorem p5 (n c:Int) (h:wx n) (hc:0<=c):ai gT 147 [.int .i64 n,.int .u32 c] (.tup [.int .u32 (Rm.fW n c),.int .i64 (Rm.c_ n)]) :=
 ai.CA (fI Tryz.func147 rfl (by kernel_rfl)) fun I β w bw hM hA=>by
  obtain rfl:=iW (l:=[(.i64,n),(.u32,c)]) hA
  refine⟨.tuple #[.int .u32 (Rm.fW n c),.int .i64 (Rm.c_ n)],iR (gC (da ..) (gC (da ..) pU)),fun _ _ _=>iR (gC (da ..) (gC (da ..) pU)),?_⟩
  refine (za n c w (CB hM) h.1 h.2 hc).mono ?_
  rintro e w' ⟨rfl,rfl⟩
  exact⟨rfl,Below.refl _ _⟩
theorem DN (k x n:Int) (hx:bO x):bO (JU k x n):=by
 have:=Rm.jC k n.toNat x.toNat (by have:=hx.1; have:=hx.2; omega)
 unfold JU bO; omega
theorem DO (k x n c:Int) (hx:bO x):0<=Hx k x n c/\Hx k x n c<=1:=by
 have:=Rm.KS k n.toNat x.toNat (min c.toNat 1) (by have:=hx.1; have:=hx.2; omega) (by omega)
 unfold Hx; omega
theorem gj (d e:Md) (m:MS) (x:XS) (r:Int) (h0:0<=r) (h1:r<=15):Spec gT 105 [.ptr 3 0,.int .i64 r] (PR d e m x) [] fun v S'=>v = .int .u32 (au x r)/\S'=PR d e m x:=by
 refine Spec.iJ (Spec.enter an Xt 100 Tryz.func105 rfl (by kernel_rfl) ?_)
 refine⟨fun h=>?_,fun h=>?_⟩
 ·have h':r=15:=h
  refine .inr ?_
  have e0:au x r=IntKind.u32.wrap (x.at_+4):=by unfold au; rw[if_pos h']
  rw[e0]
  exact rS
 ·have h':¬ r=15:=h
  have e0:au x r=x.s.R r.toNat:=by unfold au; rw[if_neg h']
  rw[e0]
  refine⟨h0,show r < 16 by omega,?_⟩
  refine .inr ⟨rfl,h0,show 12+r.toNat*1 < 40 by omega,fun c hc=>?_⟩
  obtain rfl:=Option.some.inj (hc.symm.trans (Hv x r.toNat (by omega)))
  exact rS
theorem bA (m:MS) (x:XS) (r:Int) (h0:0<=r) (h1:r<=15):Spec gT 105 [.ptr 3 0,.int .i64 r] (fS m x) [] fun v S'=>v = .int .u32 (au x r)/\S'=fS m x:=gj .w .w m x r h0 h1
theorem bU (m:MS) (x:XS) (r v:Int) (h0:0<=r) (h1:r<=15):Spec gT 107 [.ptr 3 0,.int .i64 r,.int .u32 v] (fS m x) [] fun y S'=>y = .tup []/\S'=fS m (cD x r v):=by
 refine Spec.iJ (Spec.enter an Xv 100 Tryz.func107 rfl (by kernel_rfl) ?_)
 refine⟨h0,show r < 16 by omega,?_⟩
 refine⟨16,h0,show r < 16 by omega,show 12+r.toNat*1 < 40 by omega,?_⟩
 exact rS
theorem DP (m:MS) (x:XS) (v:Int):Spec gT 116 [.ptr 3 0,.int .u32 v] (fS m x) [] fun y S'=>y = .tup []/\S'=fS m (nY x v):=by
 refine Spec.iJ (Spec.enter an XB 100 Tryz.func116 rfl (by kernel_rfl) ?_)
 refine⟨by decide,?_⟩
 refine⟨fun h=>?_,fun h=>?_⟩
 ·have e:nY x v = { x with s:={ x.s with N:=v / 2147483648,Z:=1 } }:=by unfold nY; rw[if_pos (show v=0 from h)]
  rw[e]
  exact rS
 ·have e:nY x v = { x with s:={ x.s with N:=v / 2147483648,Z:=0 } }:=by unfold nY; rw[if_neg (show ¬ v=0 from h)]
  rw[e]
  exact rS
def dK (x:XS):Prop:=(aa x.i.form=18\/aa x.i.form=19\/aa x.i.form=21\/aa x.i.form=22\/aa x.i.form=27)->x.i.set=1
instance (x:XS):Decidable (dK x):=by unfold dK; infer_instance
theorem ym (m:MS) (x:XS):Spec gT 149 [.ptr 3 0] (fS m x) [] fun y S'=>y = .bool (dK x)/\S'=fS m x:=by
 have T8:=eX x.i.form
 have key:dK x↔((aa x.i.form=18\/aa x.i.form=19\/aa x.i.form=21\/aa x.i.form=22\/aa x.i.form=27)->x.i.set=1):=Iff.rfl
 refine Spec.iJ (Spec.enter an XA 100 Tryz.func149 rfl (by kernel_rfl) ?_)
 refine T8.u ?_
 generalize aa x.i.form=sh at key ⊢
 refine⟨fun h=>?_,fun h=>?_⟩
 ·exact a_ (show x.i.set=1↔dK x by rw[key]; have h':sh=18:=h; simp[h']) (ah rfl)
 refine⟨fun h=>?_,fun h=>?_⟩
 ·exact a_ (show x.i.set=1↔dK x by rw[key]; have h':sh=19:=h; simp[h']) (ah rfl)
 refine⟨fun h=>?_,fun h=>?_⟩
 ·exact a_ (show x.i.set=1↔dK x by rw[key]; have h':sh=21:=h; simp[h']) (ah rfl)
 refine⟨fun h=>?_,fun h=>?_⟩
 ·exact a_ (show x.i.set=1↔dK x by rw[key]; have h':sh=22:=h; simp[h']) (ah rfl)
 refine⟨fun h=>?_,fun h=>?_⟩
 ·exact a_ (show x.i.set=1↔dK x by rw[key]; have h':sh=27:=h; simp[h']) (ah rfl)
 ·exact a_ (show dK x by rw[key]; have a:¬ sh=18:=‹_›; have b:¬ sh=19:=‹_›; have c:¬ sh=21:=‹_›; have d:¬ sh=22:=‹_›; have e:¬ sh=27:=‹_›; intro h; omega) (ah rfl)
structure kq (x:XS):Prop where
 rd:0<=x.i.rd/\x.i.rd<=15
 rn:0<=x.i.rn/\x.i.rn<=15
 rm:0<=x.i.rm/\x.i.rm<=15
 ra:0<=x.i.ra/\x.i.ra<=15
 az:wx x.i.az
 Z5:aa x.i.form=21\/aa x.i.form=22\/aa x.i.form=23->0<=x.i.kind/\x.i.kind<=3/\0<=x.i.bC/\x.i.bC<=255
 low:1<=x.i.form/\x.i.form<=3->0<=x.i.az/\x.i.az<=32
 idx:x.i.form=86\/x.i.form=87->0<=x.i.bC/\x.i.bC<=3
 ao:0<=x.i.ao/\x.i.ao<=65535
 r:∀ k,bO (x.s.R k)
 n:0<=x.s.N/\x.s.N<=1
 z:0<=x.s.Z/\x.s.Z<=1
 c:0<=x.s.C/\x.s.C<=1
 v:0<=x.s.V/\x.s.V<=1
theorem wrap_u32 (z:Int):bO (IntKind.u32.wrap z):=by
 have:=IntKind.wrap_u32' z
 unfold bO; omega
theorem bH {x:XS} (h:kq x) (r:Int):bO (au x r):=by
 unfold au
 split
 ·exact wrap_u32 _
 ·exact h.r _
def aQ (x:XS):Int:=if aa x.i.form=4\/aa x.i.form=5\/aa x.i.form=6 then au x x.i.rd else au x x.i.rn
def bQ (x:XS):Int :=
 if aa x.i.form=3\/aa x.i.form=4\/aa x.i.form=24 then IntKind.u32.wrap x.i.az
 else if aa x.i.form=18\/aa x.i.form=19\/aa x.i.form=20 then Rm.fB x.i.az
 else if aa x.i.form=21\/aa x.i.form=22\/aa x.i.form=23 then JU x.i.kind (au x x.i.rm) x.i.bC
 else au x x.i.rm
def cV (x:XS):Int :=
 if aa x.i.form=3\/aa x.i.form=4\/aa x.i.form=24 then x.s.C
 else if aa x.i.form=18\/aa x.i.form=19\/aa x.i.form=20 then Rm.fW x.i.az x.s.C
 else if aa x.i.form=21\/aa x.i.form=22\/aa x.i.form=23 then Hx x.i.kind (au x x.i.rm) x.i.bC x.s.C
 else x.s.C
theorem bE {x:XS} (h:kq x):bO (aQ x):=by
 unfold aQ
 split<;>exact bH h _
theorem bZ {x:XS} (h:kq x):bO (bQ x):=by
 unfold bQ
 split
 ·exact wrap_u32 _
 ·split
  ·exact Rm.oZ _
  ·split
   ·exact DN _ _ _ (bH h _)
   ·exact bH h _
def dU (w:Int):Int:=bits .xor .u32 IntKind.u32.max w
theorem Hy {w:Int} (h:bO w):dU w=4294967295 - w:=Rm.JJ w h.1 h.2
theorem cS {w:Int} (h:bO w):bO (dU w):=by
 rw[Hy h]
 unfold bO at h ⊢; omega
theorem uG (m:MS) (x:XS) (hx:kq x):Spec gT 110 [.ptr 3 0] (fS m x) [] fun y S'=>y = .int .u32 (aQ x)/\S'=fS m x:=by
 have T8:=eX x.i.form
 have g1:=bA m x x.i.rd hx.rd.1 hx.rd.2
 have g2:=bA m x x.i.rn hx.rn.1 hx.rn.2
 have key:aQ x=if aa x.i.form=4\/aa x.i.form=5\/aa x.i.form=6 then au x x.i.rd else au x x.i.rn:=rfl
 refine Spec.iJ (Spec.enter an Xx 100 Tryz.func110 rfl (by kernel_rfl) ?_)
 refine T8.u ?_
 generalize aa x.i.form=sh at key ⊢
 refine⟨fun h=>?_,fun h=>?_⟩
 ·rw[key,if_pos (.inr (.inl (show sh=5 from h)))]
  refine (g1).e ?_
  exact rS
 refine⟨fun h=>?_,fun h=>?_⟩
 ·rw[key,if_pos (.inl (show sh=4 from h))]
  refine (g1).e ?_
  exact rS
 refine⟨fun h=>?_,fun h=>?_⟩
 ·rw[key,if_pos (.inr (.inr (show sh=6 from h)))]
  refine (g1).e ?_
  exact rS
 ·have a:¬ sh=5:=‹_›
  have b:¬ sh=4:=‹_›
  have c:¬ sh=6:=‹_›
  rw[key,if_neg (by omega)]
  refine (g2).e ?_
  exact rS
theorem qF (m:MS) (x:XS) (hx:kq x):Spec gT 111 [.ptr 3 0] (fS m x) [] fun y S'=>y = .tup [.int .u32 (bQ x),.int .u32 (cV x)]/\S'=fS m x:=by
 have T8:=eX x.i.form
 have g3:=bA m x x.i.rm hx.rm.1 hx.rm.2
 have kw:bQ x=if aa x.i.form=3\/aa x.i.form=4\/aa x.i.form=24 then IntKind.u32.wrap x.i.az
  else if aa x.i.form=18\/aa x.i.form=19\/aa x.i.form=20 then Rm.fB x.i.az
  else if aa x.i.form=21\/aa x.i.form=22\/aa x.i.form=23 then JU x.i.kind (au x x.i.rm) x.i.bC
  else au x x.i.rm:=rfl
 have kc:cV x=if aa x.i.form=3\/aa x.i.form=4\/aa x.i.form=24 then x.s.C
  else if aa x.i.form=18\/aa x.i.form=19\/aa x.i.form=20 then Rm.fW x.i.az x.s.C
  else if aa x.i.form=21\/aa x.i.form=22\/aa x.i.form=23 then Hx x.i.kind (au x x.i.rm) x.i.bC x.s.C
  else x.s.C:=rfl
 have hb:=hx.Z5
 have cw:=l8 x.i.az hx.az
 have cc:=p5 x.i.az x.s.C hx.az hx.c.1
 have cs:=fun h=>ns x.i.kind (au x x.i.rm) x.i.bC x.s.C (hb h).1 (hb h).2.1 (hb h).2.2.1 (hb h).2.2.2 (bH hx _) hx.c.1
 refine Spec.iJ (Spec.enter an Xy 100 Tryz.func111 rfl (by kernel_rfl) ?_)
 refine T8.u ?_
 generalize aa x.i.form=sh at kw kc hb cs ⊢
 refine⟨fun h=>?_,fun h=>?_⟩
 ·rw[if_pos (.inl (show sh=3 from h))] at kw kc
  rw[kw,kc]
  refine .inr ?_
  exact rS
 refine⟨fun h=>?_,fun h=>?_⟩
 ·rw[if_pos (.inr (.inl (show sh=4 from h)))] at kw kc
  rw[kw,kc]
  refine .inr ?_
  exact rS
 refine⟨fun h=>?_,fun h=>?_⟩
 ·rw[if_pos (.inr (.inr (show sh=24 from h)))] at kw kc
  rw[kw,kc]
  refine .inr ?_
  exact rS
 have n1:¬ (sh=3\/sh=4\/sh=24):=by
  have a:¬ sh=3:=‹_›
  have b:¬ sh=4:=‹_›
  have c:¬ sh=24:=‹_›
  omega
 rw[if_neg n1] at kw kc
 refine⟨fun h=>?_,fun h=>?_⟩
 ·rw[if_pos (.inl (show sh=18 from h))] at kw kc
  rw[kw,kc]
  refine cw.u ?_
  refine cc.u ?_
  exact rS
 refine⟨fun h=>?_,fun h=>?_⟩
 ·rw[if_pos (.inr (.inl (show sh=19 from h)))] at kw kc
  rw[kw,kc]
  refine cw.u ?_
  refine cc.u ?_
  exact rS
 refine⟨fun h=>?_,fun h=>?_⟩
 ·rw[if_pos (.inr (.inr (show sh=20 from h)))] at kw kc
  rw[kw,kc]
  refine cw.u ?_
  refine cc.u ?_
  exact rS
 have n2:¬ (sh=18\/sh=19\/sh=20):=by
  have a:¬ sh=18:=‹_›
  have b:¬ sh=19:=‹_›
  have c:¬ sh=20:=‹_›
  omega
 rw[if_neg n2] at kw kc
 have g4:=fun d e=>gj d e m x x.i.rm hx.rm.1 hx.rm.2
 refine⟨fun h=>?_,fun h=>?_⟩
 ·have hh:sh=21\/sh=22\/sh=23:=.inl (show sh=21 from h)
  rw[if_pos hh] at kw kc
  rw[kw,kc]
  refine (g4 .w .p).e ?_
  refine (cs hh).u ?_
  exact rS
 refine⟨fun h=>?_,fun h=>?_⟩
 ·have hh:sh=21\/sh=22\/sh=23:=.inr (.inl (show sh=22 from h))
  rw[if_pos hh] at kw kc
  rw[kw,kc]
  refine (g4 .w .p).e ?_
  refine (cs hh).u ?_
  exact rS
 refine⟨fun h=>?_,fun h=>?_⟩
 ·have hh:sh=21\/sh=22\/sh=23:=.inr (.inr (show sh=23 from h))
  rw[if_pos hh] at kw kc
  rw[kw,kc]
  refine (g4 .w .p).e ?_
  refine (cs hh).u ?_
  exact rS
 ·have n3:¬ (sh=21\/sh=22\/sh=23):=by
   have a:¬ sh=21:=‹_›
   have b:¬ sh=22:=‹_›
   have c:¬ sh=23:=‹_›
   omega
  rw[if_neg n3] at kw kc
  rw[kw,kc]
  refine (g4 .w .p).e ?_
  exact rS
def nt (x:XS) (c:Int):XS:={ x with s:={ x.s with C:=c } }
def jK (x:XS) (c o:Int):XS:={ x with s:={ x.s with C:=c,V:=o } }
def gL (x:XS) (d v w c:Int):XS :=
 if 0<=d then cD (if dK x then jK (nY x (Rm.fy v w c)) (Rm.jD v w c) (Rm.kS v w c) else x) d (Rm.fy v w c)
 else (if dK x then jK (nY x (Rm.fy v w c)) (Rm.jD v w c) (Rm.kS v w c) else x)
def cQ (x:XS) (d v c:Int):XS :=
 if 0<=d then cD (if dK x then nt (nY x v) c else x) d v
 else (if dK x then nt (nY x v) c else x)
theorem cE (m:MS) (x:XS) (d v w c:Int) (h1:d<=15) (hv:bO v) (hw:bO w) (hc:0<=c):Spec gT 112 [.ptr 3 0,.int .i64 d,.int .u32 v,.int .u32 w,.int .u32 c] (fS m x) [] fun y S'=>y = .tup []/\S'=fS m (gL x d v w c):=by
 have ha:=pj v w c hv hw hc
 have key:gL x d v w c=if 0<=d then cD (if dK x then jK (nY x (Rm.fy v w c)) (Rm.jD v w c) (Rm.kS v w c) else x) d (Rm.fy v w c)
  else (if dK x then jK (nY x (Rm.fy v w c)) (Rm.jD v w c) (Rm.kS v w c) else x):=rfl
 refine Spec.iJ (Spec.enter an Xz 100 Tryz.func112 rfl (by kernel_rfl) ?_)
 refine ha.u ?_
 generalize Rm.fy v w c=s at key ⊢
 generalize Rm.jD v w c=cy at key ⊢
 generalize Rm.kS v w c=o at key ⊢
 refine (ym m x).e ?_
 refine⟨fun h=>?_,fun h=>?_⟩
 ·rw[if_pos (show dK x from h)] at key
  refine (DP m x s).e ?_
  refine⟨fun h=>?_,fun h=>?_⟩
  ·rw[if_pos (show 0<=d from h)] at key
   rw[key]
   refine (bU m (jK (nY x s) cy o) d s h h1).e ?_
   exact rS
  ·rw[if_neg (show ¬ 0<=d from h)] at key
   rw[key]
   exact rS
 ·rw[if_neg (show ¬ dK x from h)] at key
  refine⟨fun h=>?_,fun h=>?_⟩
  ·rw[if_pos (show 0<=d from h)] at key
   rw[key]
   refine (bU m x d s h h1).e ?_
   exact rS
  ·rw[if_neg (show ¬ 0<=d from h)] at key
   rw[key]
   exact rS
theorem bV (m:MS) (x:XS) (d v c:Int) (h1:d<=15):Spec gT 113 [.ptr 3 0,.int .i64 d,.int .u32 v,.int .u32 c] (fS m x) [] fun y S'=>y = .tup []/\S'=fS m (cQ x d v c):=by
 have key:cQ x d v c=if 0<=d then cD (if dK x then nt (nY x v) c else x) d v
  else (if dK x then nt (nY x v) c else x):=rfl
 refine Spec.iJ (Spec.enter an XC 100 Tryz.func113 rfl (by kernel_rfl) ?_)
 refine (ym m x).e ?_
 refine⟨fun h=>?_,fun h=>?_⟩
 ·rw[if_pos (show dK x from h)] at key
  refine (DP m x v).e ?_
  refine⟨fun h=>?_,fun h=>?_⟩
  ·rw[if_pos (show 0<=d from h)] at key
   rw[key]
   refine (bU m (nt (nY x v) c) d v h h1).e ?_
   exact rS
  ·rw[if_neg (show ¬ 0<=d from h)] at key
   rw[key]
   exact rS
 ·rw[if_neg (show ¬ dK x from h)] at key
  refine⟨fun h=>?_,fun h=>?_⟩
  ·rw[if_pos (show 0<=d from h)] at key
   rw[key]
   refine (bU m x d v h h1).e ?_
   exact rS
  ·rw[if_neg (show ¬ 0<=d from h)] at key
   rw[key]
   exact rS
def gH (x:XS) (k v n:Int):XS:=cQ x x.i.rd (JU k v n) (Hx k v n x.s.C)
theorem dC (m:MS) (x:XS) (k v n:Int) (hx:kq x) (xz:0<=k) (JK:k<=3) (iH:0<=n) (lv:n<=255) (hv:bO v):Spec gT 114 [.ptr 3 0,.int .i64 k,.int .u32 v,.int .i64 n] (fS m x) [] fun y S'=>y = .tup []/\S'=fS m (gH x k v n):=by
 have hs:=ns k v n x.s.C xz JK iH lv hv hx.c.1
 refine Spec.iJ (Spec.enter an XD 100 Tryz.func114 rfl (by kernel_rfl) ?_)
 refine hs.u ?_
 refine (bV m x x.i.rd (JU k v n) (Hx k v n x.s.C) hx.rd.2).e ?_
 exact rS
end Go.Proofs.YtlgkljpgagfndaaGreatDoor.Pw

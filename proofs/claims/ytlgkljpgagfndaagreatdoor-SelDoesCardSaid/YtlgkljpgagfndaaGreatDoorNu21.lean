/- What this claim is proved with: no condition. -/
import Derived.Test.YtlgkljpgagfndaaGreatDoorNu13
import Derived.Test.YtlgkljpgagfndaaGreatDoorNu14
import Derived.Test.YtlgkljpgagfndaaGreatDoorNu18
import Derived.Test.YtlgkljpgagfndaaGreatDoorNu19
import Derived.Test.YtlgkljpgagfndaaGreatDoorNu20
import Derived.Test.YtlgkljpgagfndaaGreatDoorNu9
import Derived.Test.YtlgkljpgagfndaaGreatDoorRows
import Derived.ProofKit
import Derived.LaidMore
import Derived.OpenShut
import Derived.Stop.Joined
import Derived.Lib.LaidTab
import Derived.Test.YtlgkljpgagfndaaGreatDoorNu11
import Derived.Test.YtlgkljpgagfndaaGreatDoorNuAluB
import Derived.Test.YtlgkljpgagfndaaGreatDoorNuImmB
import Derived.Test.YtlgkljpgagfndaaGreatDoorNuPop32
set_option maxRecDepth 100000
set_option maxHeartbeats 8000000
set_option linter.unusedVariables false
set_option linter.unusedSimpArgs false
namespace Go.Proofs.YtlgkljpgagfndaaGreatDoor.Pw
open Go Go.RowKit
theorem jb {f:Int} (h:1<=f/\f<=100):17<=aa f↔48<=f:=by
 have h1:((List.range 100).all fun k=>decide (17<=aa ((k+1:Nat):Int)↔48<=k+1))=true:=by decide +kernel
 have h2:=of_decide_eq_true (List.all_eq_true.1 h1 (f.toNat - 1) (List.mem_range.2 (by omega)))
 rw[show (((f.toNat - 1+1:Nat)):Int)=f by omega] at h2
 omega
theorem Ca {s:Int} (h:1<=s/\s<=16):s=1\/s=2\/s=3\/s=4\/s=5\/s=6\/s=7\/s=8\/s=9\/s=10\/s=11\/s=12\/s=13\/s=14\/s=15\/s=16:=by omega
theorem Cb {s:Int} (h:17<=s/\s<=34):s=17\/s=18\/s=19\/s=20\/s=21\/s=22\/s=23\/s=24\/s=25\/s=26\/s=27\/s=28\/s=29\/s=30\/s=31\/s=32\/s=33\/s=34:=by omega
theorem wy (f w:Int) (hF:1<=f/\f<=100) (hn:¬ 48<=f) (hw:aY w):ai gT 103 [.int .i64 f,.int .u32 w] (c9 (bg f w)):=by
 have WX:=jb hF
 have hb:=lN hF
 rcases Ca (s:=aa f) (by omega) with hs|hs|hs|hs|hs|hs|hs|hs|hs|hs|hs|hs|hs|hs|hs|hs
 ·rw[rd_1 hs]; exact Aw f w hF hs hw
 ·rw[rd_2 hs]; exact Ay f w hF hs hw
 ·rw[rd_3 hs]; exact Az f w hF hs hw
 ·rw[rd_4 hs]; exact AA f w hF hs hw
 ·rw[rd_5 hs]; exact AB f w hF hs hw
 ·rw[rd_6 hs]; exact AD f w hF hs hw
 ·rw[rd_7 hs]; exact AE f w hF hs hw
 ·rw[rd_8 hs]; exact AF f w hF hs hw
 ·rw[rd_9 hs]; exact AG f w hF hs hw
 ·rw[ZM hs]; exact yx f w hF hs hw
 ·rw[ZN hs]; exact yy f w hF hs hw
 ·rw[ZO hs]; exact yz f w hF hs hw
 ·rw[ZP hs]; exact yA f w hF hs hw
 ·rw[ZQ hs]; exact yC f w hF hs hw
 ·rw[ZR hs]; exact yD f w hF hs hw
 ·rw[ZS hs]; exact yE f w hF hs hw
 
theorem AJ (f w:Int) (hF:1<=f/\f<=100) (hn:48<=f) (hw:aY w):ai gT 104 [.int .i64 f,.int .u32 w] (c9 (bg f w)):=by
 have WX:=jb hF
 have hb:=lN hF
 rcases Cb (s:=aa f) (by omega) with hs|hs|hs|hs|hs|hs|hs|hs|hs|hs|hs|hs|hs|hs|hs|hs|hs|hs
 ·rw[ZT hs]; exact Du f w hF hs hw
 ·rw[ZU hs]; exact Dv f w hF hs hw
 ·rw[ZV hs]; exact Dw f w hF hs hw
 ·rw[ZW hs]; exact Dx f w hF hs hw
 ·rw[ZX hs]; exact Dz f w hF hs hw
 ·rw[ZY hs]; exact DB f w hF hs hw
 ·rw[ZZ hs]; exact DD f w hF hs hw
 ·rw[Z0 hs]; exact DE f w hF hs hw
 ·rw[Z1 hs]; exact DF f w hF hs hw
 ·rw[Z2 hs]; exact DG f w hF hs hw
 ·rw[Z3 hs]; exact DH f w hF hs hw
 ·rw[Z4 hs]; exact DI f w hF hs hw
 ·rw[Z5 hs]; exact DJ f w hF hs hw
 ·rw[Z6 hs]; exact DK f w hF hs hw
 ·rw[Z7 hs]; exact DL f w hF hs hw
 ·rw[Z8 hs]; exact DM f w hF hs hw
 ·rw[Z9 hs]; exact DN f w hF hs hw
 ·rw[Z' hs]; exact DO f w hF hs hw
 
def WY (i:IN):Int:=((fi (eh i) (aC (aa i.form)):Nat):Int)
theorem AK (i:IN) (hr:aw i) (hn:¬ 48<=i.form) (hg:i.av<=9223372036854775807):ai gT 132 [c9 i] (.int .u32 (WY i)):=by
 have WX:=jb hr.1
 have hb:=lN hr.1
 unfold WY
 unfold aw at hr
 rw[aQ (by omega)]
 rcases Ca (s:=aa i.form) (by omega) with hs|hs|hs|hs|hs|hs|hs|hs|hs|hs|hs|hs|hs|hs|hs|hs
 ·rw[hs] at hr ⊢; exact HN i hs hr hg
 ·rw[hs] at hr ⊢; exact HO i hs hr hg
 ·rw[hs] at hr ⊢; exact HP i hs hr hg
 ·rw[hs] at hr ⊢; exact HQ i hs hr hg
 ·rw[hs] at hr ⊢; exact HR i hs hr hg
 ·rw[hs] at hr ⊢; exact HS i hs hr hg
 ·rw[hs] at hr ⊢; exact HT i hs hr hg
 ·rw[hs] at hr ⊢; exact HU i hs hr hg
 ·rw[hs] at hr ⊢; exact HV i hs hr hg
 ·rw[hs] at hr ⊢; exact DP i hs hr hg
 ·rw[hs] at hr ⊢; exact DQ i hs hr hg
 ·rw[hs] at hr ⊢; exact DS i hs hr hg
 ·rw[hs] at hr ⊢; exact DT i hs hr hg
 ·rw[hs] at hr ⊢; exact DU i hs hr hg
 ·rw[hs] at hr ⊢; exact DV i hs hr hg
 ·rw[hs] at hr ⊢; exact DW i hs hr hg
 
theorem Il (i:IN) (hr:aw i) (hn:48<=i.form) (hg:i.av<=9223372036854775807):ai gT 131 [c9 i] (.int .u32 (WY i)):=by
 have WX:=jb hr.1
 have hb:=lN hr.1
 unfold WY
 unfold aw at hr
 rcases Cb (s:=aa i.form) (by omega) with hs|hs|hs|hs|hs|hs|hs|hs|hs|hs|hs|hs|hs|hs|hs|hs|hs|hs
 ·rw[aQ (by omega)]; rw[hs] at hr ⊢; exact Mc i hs hr hg
 ·rw[aQ (by omega)]; rw[hs] at hr ⊢; exact Me i hs hr hg
 ·rw[aQ (by omega)]; rw[hs] at hr ⊢; exact Mf i hs hr hg
 ·rw[aQ (by omega)]; rw[hs] at hr ⊢; exact Mg i hs hr hg
 ·rw[aQ (by omega)]; rw[hs] at hr ⊢; exact Mh i hs hr hg
 ·rw[aQ (by omega)]; rw[hs] at hr ⊢; exact Mi i hs hr hg
 ·rw[aQ (by omega)]; rw[hs] at hr ⊢; exact Mj i hs hr hg
 ·rw[aQ (by omega)]; rw[hs] at hr ⊢; exact Ml i hs hr hg
 ·rw[aQ (by omega)]; rw[hs] at hr ⊢; exact Mm i hs hr hg
 ·rw[aQ (by omega)]; rw[hs] at hr ⊢; exact Mn i hs hr hg
 ·rw[aQ (by omega)]; rw[hs] at hr ⊢; exact Mo i hs hr hg
 ·rw[aQ (by omega)]; rw[hs] at hr ⊢; exact Mp i hs hr hg
 ·rw[aQ (by omega)]; rw[hs] at hr ⊢; exact Mq i hs hr hg
 ·rw[aQ (by omega)]; rw[hs] at hr ⊢; exact Mr i hs hr hg
 ·rw[aQ (by omega)]; rw[hs] at hr ⊢; exact Ms i hs hr hg
 ·rw[aQ (by omega)]; rw[hs] at hr ⊢; exact Mt i hs hr hg
 ·rw[aQ (by omega)]; rw[hs] at hr ⊢; exact Mu i hs hr hg
 ·rw[hs] at hr ⊢; exact Mv i hs hr hg
theorem AL (i:IN):fi (eh i) (aC (aa i.form)) < 4294967296:=by
 have h:=He (eh i) (aC (aa i.form)) (Dh _)
 rw[yu] at h
 exact Nat.lt_of_le_of_lt Nat.right_le_or h
theorem Cc (i:IN):bits .or .u32 (nA i.form) (WY i)=bC i:=by
 have b:=BR i.form
 have l:=AL i
 rw[oJ]
 unfold WY
 rw[u32_or _ _ b.1 b.2 (by omega) (by omega),Int.toNat_natCast]
theorem pz (i:IN) (hr:aw i) (hg:i.av<=9223372036854775807):ai gT 100 [c9 i] (.int .u32 (bC i)):=by
 refine Spec.enter al P100 100 Tryz.func100 rfl (by kernel_rfl) ?_
 refine (ml i.form).u ?_
 refine⟨fun h=>?_,fun h=>?_⟩
 ·refine (g_ i.form).u ?_
  refine (Il i hr h.1 hg).u ?_
  refine ax ?_
  exact Cc i
 ·refine (g_ i.form).u ?_
  refine (AK i hr (fun e=>h ⟨e,hr.1.2⟩) hg).u ?_
  refine ax ?_
  exact Cc i
theorem Im:∀ k:Fin 35,(aC ((k.1:Nat):Int)).all (fun x=>decide (x.2.1+x.2.2.2<=25))=true:=by decide
theorem yG (s:Int):∀ x∈aC s,x.2.1+x.2.2.2<=25:=by
 have h:(aC s).all (fun x=>decide (x.2.1+x.2.2.2<=25))=true:=by
  by_cases h:s < 1\/34 < s
  ·rw[jA s h]; rfl
  ·have h1:=Im ⟨s.toNat,by omega⟩
   rwa [show (((⟨s.toNat,by omega⟩:Fin 35).1:Nat):Int)=s by simp only[]; omega] at h1
 exact fun x hx=>of_decide_eq_true (List.all_eq_true.1 h x hx)
theorem MJ (w:Int) (a n l:Nat) (h:l+n<=25):0<=ab w a n*2 ^ l/\ab w a n*2 ^ l<=33554432:=by
 have b:=af w a n
 have p1:=cK l
 have p2:=cK n
 have q1:=Nat.two_pow_pos l
 have e:((ab w a n).toNat:Int)=ab w a n:=Int.toNat_of_nonneg b.1
 have h1:(ab w a n).toNat < 2 ^ n:=by omega
 have h2:(ab w a n).toNat*2 ^ l<=2 ^ n*2 ^ l:=Nat.mul_le_mul_right _ (Nat.le_of_lt h1)
 have h3:2 ^ n*2 ^ l<=2 ^ 25:=by rw[← Nat.pow_add]; exact Nat.pow_le_pow_right (by omega) (by omega)
 have e2:ab w a n*2 ^ l=(((ab w a n).toNat*2 ^ l:Nat):Int):=by rw[Int.natCast_mul,e,p1]
 rw[e2]
 have h4:(2:Nat) ^ 25=33554432:=by decide
 omega
theorem Io (w:Int):∀ (l:List (Nat × Nat × Nat × Nat)) (a:Int),(∀ x∈l,x.2.1+x.2.2.2<=25)->a<=l.foldl (fun a x=>a+ab w x.2.2.1 x.2.2.2*2 ^ x.2.1) a/\l.foldl (fun a x=>a+ab w x.2.2.1 x.2.2.2*2 ^ x.2.1) a<=a+l.length*33554432
 | [],a,_=>by simp
 | x::l,a,h=>by
  have ih:=Io w l (a+ab w x.2.2.1 x.2.2.2*2 ^ x.2.1) fun y hy=>h y (List.mem_cons_of_mem _ hy)
  have t:=MJ w x.2.2.1 x.2.2.2 x.2.1 (h x (List.mem_cons_self ..))
  rw[List.foldl_cons,List.length_cons]
  omega
theorem xV_bd (s w:Int) (f:Nat):0<=xV s w f/\xV s w f<=234881024:=by
 have h:=Io w ((aC s).filter fun x=>decide (x.1=f)) 0 fun x hx=>yG s x (List.mem_filter.1 hx).1
 have l1:((aC s).filter fun x=>decide (x.1=f)).length<=7:=Nat.le_trans (List.length_filter_le ..) (Aq s)
 unfold xV
 omega
theorem oM (x:Int) (w:Nat) (hw:w<=25):x - 33554432<=dp x w/\dp x w<=x:=by
 have p:(2:Int) ^ w<=33554432/\0 < (2:Int) ^ w:=by
  have h1:(2 ^ w:Nat)<=2 ^ 25:=Nat.pow_le_pow_right (by omega) hw
  have h3:=cK w
  have:=Nat.two_pow_pos w
  have h4:(2:Nat) ^ 25=33554432:=by decide
  omega
 unfold dp; split<;>omega
theorem MK (s f x:Int) (hx:0<=x/\x<=234881024):-1099511627776<=qv s f x/\qv s f x<=1099511627776:=by
 have a:=oM x 9 (by decide)
 have b:=oM x 12 (by decide)
 have c:=oM x 21 (by decide)
 have t:=Hc x 2 (by decide)
 have d:=oM (bL x 2) 25 (by decide)
 unfold qv
 (repeat' split)<;>omega
theorem ML (f w:Int):∀ k,k < 10->-1099511627776<=kD (bg f w) k/\kD (bg f w) k<=1099511627776:=by
 intro k hk
 have x:=fun n=>xV_bd (aa f) w n
 match k,hk with
 | 0,_=>have:=x 0; exact⟨by show _<=xV (aa f) w 0; omega,by show xV (aa f) w 0<=_; omega⟩
 | 1,_=>have:=x 1; exact⟨by show _<=xV (aa f) w 1; omega,by show xV (aa f) w 1<=_; omega⟩
 | 2,_ =>
  have:=x 2
  have b:=af w 0 4
  have e:-1099511627776<=Yk (aa f) w (xV (aa f) w 2)/\Yk (aa f) w (xV (aa f) w 2)<=1099511627776:=by unfold Yk; split<;>omega
  exact e
 | 3,_=>have:=x 3; exact⟨by show _<=xV (aa f) w 3; omega,by show xV (aa f) w 3<=_; omega⟩
 | 4,_=>exact MK (aa f) f (xV (aa f) w 4) (x 4)
 | 5,_=>have:=x 5; exact⟨by show _<=xV (aa f) w 5; omega,by show xV (aa f) w 5<=_; omega⟩
 | 6,_ =>
  have:=x 6
  have e:-1099511627776<=O_ (aa f) (xV (aa f) w 5) (xV (aa f) w 6)/\O_ (aa f) (xV (aa f) w 5) (xV (aa f) w 6)<=1099511627776:=by unfold O_; split<;>omega
  exact e
 | 7,_=>have:=x 7; exact⟨by show _<=xV (aa f) w 7; omega,by show xV (aa f) w 7<=_; omega⟩
 | 8,_=>have:=x 8; exact⟨by show _<=xV (aa f) w 8; omega,by show xV (aa f) w 8<=_; omega⟩
 | 9,_=>have:=x 9; exact⟨by show _<=xV (aa f) w 9; omega,by show xV (aa f) w 9<=_; omega⟩
def sC (w f:Int):Prop:=aw (bg f w)/\bC (bg f w)=w
theorem Ip {w f:Int} (h:sC w f):bits .and .u32 w (nA f)=nA f:=by
 have b:=BR f
 have e:=h.2
 rw[oJ] at e
 have l:(nA (bg f w).form).toNat=(nA f).toNat:=rfl
 rw[l] at e
 have lt:=kG (show (nA f).toNat < 4294967296 by omega) (AL (bg f w))
 obtain⟨a,ha⟩:∃ a,a=(nA f).toNat:=⟨_,rfl⟩
 obtain⟨o,ho⟩:∃ o,o=fi (eh (bg f w)) (aC (aa (bg f w).form)):=⟨_,rfl⟩
 rw[← ha,← ho] at e lt
 have ea:nA f=(a:Int):=by omega
 rw[ea,← e,u32_and _ _ (by omega) (by omega) (by omega) (by omega),Int.toNat_natCast,Int.toNat_natCast]
 congr 1
 apply Nat.eq_of_testBit_eq
 intro p
 rw[Nat.testBit_and,Nat.testBit_or]
 cases a.testBit p<;>simp
def fF (wide:Prop) (f:Int):Prop:=(wide/\48<=f/\f<=100)\/(¬ wide/\1<=f/\f<=47)
def jJ (w:Int) (wide:Prop) (f:Int):Prop:=fF wide f/\sC w f/\∀ g,fF wide g->g < f->¬ sC w g
theorem D3 {w:Int} {wide:Prop} {f g:Int} (hf:jJ w wide f) (hg:jJ w wide g):f=g:=by
 by_cases h:f < g
 ·exact absurd hf.2.1 (hg.2.2 f hf.1 h)
 by_cases h2:g < f
 ·exact absurd hg.2.1 (hf.2.2 g hg.1 h2)
 omega
noncomputable def D4 (w:Int) (wide:Prop):IN:=open Classical in if h:∃ f,jJ w wide f then bg h.choose w else iZ
noncomputable def k_ (w:Int) (wide:Prop):Int:=open Classical in if ∃ f,jJ w wide f then 0 else 40
theorem sD {w:Int} {wide:Prop} {f:Int} (h:jJ w wide f):D4 w wide=bg f w:=by
 have e:∃ f,jJ w wide f:=⟨f,h⟩
 unfold D4
 rw[dif_pos e,D3 e.choose_spec h]
theorem wz {w:Int} {wide:Prop} {f:Int} (h:jJ w wide f):k_ w wide=0:=if_pos ⟨f,h⟩
theorem Vm {w:Int} {wide:Prop} (h:∀ f,fF wide f->¬ sC w f):D4 w wide=iZ:=dif_neg fun ⟨f,hf⟩=>h f hf.1 hf.2.1
theorem Vn {w:Int} {wide:Prop} (h:∀ f,fF wide f->¬ sC w f):k_ w wide=40:=if_neg fun ⟨f,hf⟩=>h f hf.1 hf.2.1
theorem MM (i:IN) (h:aw i) (hg:i.av<=9223372036854775807):jJ (bC i) (48<=i.form) i.form:=by
 have hb:=back i h hg
 have WZ:sC (bC i) i.form:=by unfold sC; rw[hb]; exact⟨h,rfl⟩
 have f1:=h.1
 refine⟨by unfold fF; omega,WZ,fun g hgf cE hh=>?_⟩
 have e:=Dl (a:=bg g (bC i)) (b:=i) hh.1 h (by show 48<=g↔48<=i.form; unfold fF at hgf; omega) hh.2
 have:g=i.form:=e
 omega
theorem Iq (i:IN) (h:aw i) (hI:B5 i):ai gT 67 [c9 i] (.tup [.int .u32 (bC i),.int .i64 0]):=by
 refine Spec.enter al P67 100 Tryz.func67 rfl (by kernel_rfl) ?_
 refine (nj i (hI i.ay (by simp[qx]))).u ?_
 refine⟨fun h'=>absurd h h',fun _=>?_⟩
 refine (pz i h (hI i.av (by simp[qx])).2).u ?_
 exact rA
theorem Cd {f w:Int} (hf:Al f):B5 (bg f w):=by
 intro x hx
 have b:=ML f w
 simp only[qx,List.mem_cons,List.not_mem_nil,or_false] at hx
 have key:∀ k,k < 10->Al (kD (bg f w) k):=fun k hk=>by have:=b k hk; unfold Al; omega
 rcases hx with rfl|rfl|rfl|rfl|rfl|rfl|rfl|rfl|rfl|rfl|rfl
 ·exact hf
 ·exact key 0 (by decide)
 ·exact key 1 (by decide)
 ·exact key 2 (by decide)
 ·exact key 3 (by decide)
 ·exact key 4 (by decide)
 ·exact key 5 (by decide)
 ·exact key 6 (by decide)
 ·exact key 7 (by decide)
 ·exact key 8 (by decide)
 ·exact key 9 (by decide)
theorem Ce (w:Int) (wide:Prop) (hw:aY w):ai gT 74 [.int .u32 w,.bool wide] (.tup [c9 (D4 w wide),.int .i64 (k_ w wide)]):=by
 refine Spec.enter al P74 100 Tryz.func74 rfl (by kernel_rfl) ?_
 refine SW.r9 al P74 (by kernel_rfl) (α:={k:Nat // k<=100/\∀ g:Int,fF wide g->g < k+1->¬ sC w g}) (fun k=>[(6,.int .i64 (k.1+1:Nat))]) (fun k=>100 - k.1) ⟨0,by omega,fun g hg cE=>by unfold fF at hg; omega⟩ 100 ?_ ?_
 ·repeat' first|exact Iff.rfl|exact trivial|exact rfl|refine And.intro ?_ ?_
 rintro⟨k,hk,BA⟩
 refine⟨fun h=>?_,fun h=>?_⟩
 ·have Cf:((k+1:Nat):Int)<=100:=h
  have hF:1<=((k+1:Nat):Int)/\((k+1:Nat):Int)<=100:=⟨by omega,Cf⟩
  have hf:Al ((k+1:Nat):Int):=by unfold Al; omega
  have next:¬ (fF wide ((k+1:Nat):Int)/\sC w ((k+1:Nat):Int))->∀ g:Int,fF wide g->g < ((k+1:Nat):Int)+1->¬ sC w g:=fun hn g hg cE hh=>by
   by_cases e:g=((k+1:Nat):Int)
   ·subst e; exact hn ⟨hg,hh⟩
   ·exact BA g hg (by omega) hh
  refine (ml ((k+1:Nat):Int)).u ?_
  refine⟨fun dk=>?_,fun heq=>?_⟩
  ·refine .inl ⟨aq (show _<=((k+1:Nat):Int)+1/\((k+1:Nat):Int)+1<=_ by omega),⟨⟨k+1,by omega,next fun hh=>dk ?_⟩,show 100 - (k+1) < 100 - k by omega,?_⟩⟩
   ·unfold fF at hh; exact⟨fun h2=>hh.1.elim (fun e=>e.1) (fun e=>absurd h2.1 (by omega)),fun h2=>hh.1.elim (fun e=>e.2) (fun e=>absurd h2 e.1)⟩
   repeat' first|exact Iff.rfl|exact trivial|exact rfl|refine And.intro ?_ ?_
  have heq:=Classical.not_not.1 heq
  refine (g_ ((k+1:Nat):Int)).u ?_
  refine (g_ ((k+1:Nat):Int)).u ?_
  refine⟨fun hm=>?_,fun hm=>?_⟩
  ·refine .inl ⟨aq (show _<=((k+1:Nat):Int)+1/\((k+1:Nat):Int)+1<=_ by omega),⟨⟨k+1,by omega,next fun hh=>hm (Ip hh.2)⟩,show 100 - (k+1) < 100 - k by omega,?_⟩⟩
   repeat' first|exact Iff.rfl|exact trivial|exact rfl|refine And.intro ?_ ?_
  have xu:fF wide ((k+1:Nat):Int):=by
   unfold fF
   by_cases hW:wide
   ·exact .inl ⟨hW,heq.2 hW⟩
   ·refine .inr ⟨hW,by omega,?_⟩
    by_cases tV:48<=((k+1:Nat):Int)
    ·exact absurd (heq.1 ⟨tV,Cf⟩) hW
    ·omega
  have hI:=Cd (w:=w) hf
  have hR:=nj (bg ((k+1:Nat):Int) w) (hI (bg ((k+1:Nat):Int) w).ay (by simp[qx]))
  by_cases hW:wide
  ·have tV:=(heq.2 hW).1
   refine (tT ((k+1:Nat):Int) w ((jb hF).2 tV) hw).u ?_
   refine⟨fun _=>?_,fun hn=>absurd hW hn⟩
   refine (AJ ((k+1:Nat):Int) w hF tV hw).u ?_
   refine hR.u ?_
   refine⟨fun hr=>?_,fun hr=>?_⟩
   ·refine (pz (bg ((k+1:Nat):Int) w) hr (hI (bg ((k+1:Nat):Int) w).av (by simp[qx])).2).u ?_
    refine⟨fun hp=>?_,fun hp=>?_⟩
    ·have Ir:jJ w wide ((k+1:Nat):Int):=⟨xu,⟨hr,hp⟩,fun g hg cE=>BA g hg (by omega)⟩
     rw[sD Ir,wz Ir]
     exact rA
    ·refine .inl ⟨aq (show _<=((k+1:Nat):Int)+1/\((k+1:Nat):Int)+1<=_ by omega),⟨⟨k+1,by omega,next fun hh=>hp hh.2.2⟩,show 100 - (k+1) < 100 - k by omega,?_⟩⟩
     repeat' first|exact Iff.rfl|exact trivial|exact rfl|refine And.intro ?_ ?_
   ·refine .inl ⟨aq (show _<=((k+1:Nat):Int)+1/\((k+1:Nat):Int)+1<=_ by omega),⟨⟨k+1,by omega,next fun hh=>hr hh.2.1⟩,show 100 - (k+1) < 100 - k by omega,?_⟩⟩
    repeat' first|exact Iff.rfl|exact trivial|exact rfl|refine And.intro ?_ ?_
  ·have tV:¬ 48<=((k+1:Nat):Int):=fun e=>hW (heq.1 ⟨e,Cf⟩)
   refine (wy ((k+1:Nat):Int) w hF tV hw).u ?_
   refine⟨fun h=>absurd h hW,fun _=>?_⟩
   refine hR.u ?_
   refine⟨fun hr=>?_,fun hr=>?_⟩
   ·refine (pz (bg ((k+1:Nat):Int) w) hr (hI (bg ((k+1:Nat):Int) w).av (by simp[qx])).2).u ?_
    refine⟨fun hp=>?_,fun hp=>?_⟩
    ·have Ir:jJ w wide ((k+1:Nat):Int):=⟨xu,⟨hr,hp⟩,fun g hg cE=>BA g hg (by omega)⟩
     rw[sD Ir,wz Ir]
     exact rA
    ·refine .inl ⟨aq (show _<=((k+1:Nat):Int)+1/\((k+1:Nat):Int)+1<=_ by omega),⟨⟨k+1,by omega,next fun hh=>hp hh.2.2⟩,show 100 - (k+1) < 100 - k by omega,?_⟩⟩
     repeat' first|exact Iff.rfl|exact trivial|exact rfl|refine And.intro ?_ ?_
   ·refine .inl ⟨aq (show _<=((k+1:Nat):Int)+1/\((k+1:Nat):Int)+1<=_ by omega),⟨⟨k+1,by omega,next fun hh=>hr hh.2.1⟩,show 100 - (k+1) < 100 - k by omega,?_⟩⟩
    repeat' first|exact Iff.rfl|exact trivial|exact rfl|refine And.intro ?_ ?_
 ·have Cf:¬ ((k+1:Nat):Int)<=100:=h
  have eQ:∀ f,fF wide f->¬ sC w f:=fun f hf=>BA f hf (by unfold fF at hf; omega)
  rw[Vm eQ,Vn eQ]
  exact rA
def eG (h:Int):Prop:=29<=h % 65536 / 2048
theorem yH (h:Int) (hh:aY h):ai gT 73 [.int .u32 h] (.bool (eG h)):=by
 have e:bits .and .u32 h 65535=h % 65536:=yh h 16 hh.1 hh.2 (by decide)
 refine Spec.enter al P73 100 Tryz.func73 rfl (by kernel_rfl) ?_
 refine⟨by decide,?_⟩
 refine ax ?_
 show 29<=bits .and .u32 h 65535 / Ev.aV .u32 11↔eG h
 rw[e,r11]; exact Iff.rfl
def fT (f:Int):Int:=if 48<=f/\f<=100 then 4 else if 1<=f/\f<=47 then 2 else 0
theorem D5 (f:Int):ai gT 75 [.int .i64 f] (.int .i64 (fT f)):=by
 refine Spec.enter al P75 100 Tryz.func75 rfl (by kernel_rfl) ?_
 refine (oE f).u ?_
 refine⟨fun h=>?_,fun h=>?_⟩
 ·exact ax (show (0:Int)=fT f by unfold fT; rw[if_neg (by omega),if_neg (by omega)])
 refine (ml f).u ?_
 refine⟨fun h2=>?_,fun h2=>?_⟩
 ·exact ax (show (4:Int)=fT f by unfold fT; rw[if_pos h2])
 ·exact ax (show (2:Int)=fT f by unfold fT; rw[if_neg h2,if_pos (by omega)])
theorem lR (i:IN):ai gT 45 [c9 i] (.int .i64 (fT i.form)):=by
 refine Spec.enter al P45 100 Tryz.func45 rfl (by kernel_rfl) ?_
 refine (D5 i.form).u ?_
 exact ax rfl
theorem Op.argS {P:Program} {t:TypeId} {S:PV->Prop} (h:Op P t S) (hS:∀ y,S y->∃ xs,y = .agg xs) {H:Type} {ec:TypeId × Value->H} {w:World} {base:Nat} {held:Bool} {vs:Array Value} {d:DataW H} {p:List MemPlace} (ht:DataW.Trod ec P w base (fun _=>true) held t (.agg vs) d p) (rY:∀ n∈d.weights P t,n<=reachBytes) :
  ∃ y,S y/\y.Is w (In w) no (.agg vs):=by
 obtain⟨fuel,ht⟩:=ht
 obtain⟨y,hy,_,hi,_⟩:=h ec w base held fuel _ _ ht rY
 refine⟨y,hy,?_⟩
 obtain⟨xs,rfl⟩:=hS y hy
 simp only[PV.Is]
 exact⟨vs,rfl,hi⟩
end Go.Proofs.YtlgkljpgagfndaaGreatDoor.Pw
namespace Go.Proofs.YtlgkljpgagfndaaGreatDoor.It
open Go.ChangeShapes Go.WideShapes Go.ChangeAt Go.RowKit Go.Deep
end Go.Proofs.YtlgkljpgagfndaaGreatDoor.It
namespace Go.Proofs.YtlgkljpgagfndaaGreatDoor.Pw
open Go Go.RowKit
theorem j9 {z:Int} (h:w_ .u32 z):0<=z/\z<=4294967295:=by unfold w_ Ev.lq Ev.kX at h; simp only[IntKind.signed,IntKind.bits] at h; simpa using h
theorem pA:Op Tryz.prog 24 (SInt .u32):=xX Tryz.underlying24 (by kernel_rfl)
def Iu (l:List (Nat × Nat × Nat × Nat)):Nat:=l.foldl (fun m x=>max m (x.2.2.1+x.2.2.2)) 0
theorem yI:∀ (l:List (Nat × Nat × Nat × Nat)) (m:Nat),m<=l.foldl (fun m x=>max m (x.2.2.1+x.2.2.2)) m/\∀ x∈l,x.2.2.1+x.2.2.2<=l.foldl (fun m x=>max m (x.2.2.1+x.2.2.2)) m
 | [],m=>⟨Nat.le_refl _,fun x hx=>by cases hx⟩
 | y::l,m=>by
  have h:=yI l (max m (y.2.2.1+y.2.2.2))
  rw[List.foldl_cons]
  refine⟨by omega,fun x hx=>?_⟩
  rcases List.mem_cons.1 hx with rfl|hx
  ·omega
  ·exact h.2 x hx
theorem Iv (i:IN) (k:Nat):∀ (l:List (Nat × Nat × Nat × Nat)) (V:Nat),V < 2 ^ k->(∀ x∈l,x.2.2.1+x.2.2.2<=k)->l.foldl (fun w x=>w ||| B (kD i x.1) x.2.1 x.2.2.2 x.2.2.1) V < 2 ^ k
 | [],V,h,_=>h
 | x::l,V,h,hl=>by
  rw[List.foldl_cons]
  refine Iv i k l _ (Nat.or_lt_two_pow h ?_) fun y hy=>hl y (List.mem_cons_of_mem _ hy)
  have b:=af (kD i x.1) x.2.1 x.2.2.2
  have e:=cK x.2.2.2
  have h1:(ab (kD i x.1) x.2.1 x.2.2.2).toNat < 2 ^ x.2.2.2:=by omega
  unfold B
  rw[Nat.shiftLeft_eq]
  calc (ab (kD i x.1) x.2.1 x.2.2.2).toNat*2 ^ x.2.2.1 < 2 ^ x.2.2.2*2 ^ x.2.2.1:=Nat.mul_lt_mul_of_pos_right h1 (Nat.two_pow_pos _)
   _=2 ^ (x.2.2.2+x.2.2.1):=(Nat.pow_add ..).symm
   _<=2 ^ k:=Nat.pow_le_pow_right (by omega) (by have:=hl x (List.mem_cons_self ..); omega)
theorem yJ (a b k:Nat) (h:b < 2 ^ k):a ||| b < (a / 2 ^ k+1)*2 ^ k:=by
 have e:(a ||| b) / 2 ^ k=a / 2 ^ k:=by
  apply Nat.eq_of_testBit_eq
  intro p
  rw[Nat.testBit_div_two_pow,Nat.testBit_div_two_pow,Nat.testBit_or,Nat.testBit_lt_two_pow (x:=b) (Nat.lt_of_lt_of_le h (Nat.pow_le_pow_right (by decide) (by omega))),Bool.or_false]
 have hp:=Nat.two_pow_pos k
 have h1:=Nat.lt_mul_div_succ (a ||| b) hp
 rw[e,Nat.mul_comm] at h1
 exact h1
theorem AM:((List.range 47).all fun k=>decide ((LI (k+1) / 2 ^ Iu (QL (k+1))+1)*2 ^ Iu (QL (k+1))<=59392))=true:=by decide +kernel
theorem Iw:((List.range 53).all fun k=>decide (3892314112<=LI (k+48)))=true:=by decide +kernel
theorem AN (i:IN) (h:aw i) (hn:¬ 48<=i.form):bC i < 59392:=by
 have f1:=h.1
 have ef:((i.form.toNat:Nat):Int)=i.form:=by omega
 have t:=of_decide_eq_true (List.all_eq_true.1 AM (i.form.toNat - 1) (List.mem_range.2 (by omega)))
 rw[show i.form.toNat - 1+1=i.form.toNat by omega] at t
 unfold LI QL at t
 rw[ef] at t
 have l:=Iv (eh i) (Iu (aC (aa i.form))) (aC (aa i.form)) 0 (Nat.two_pow_pos _) fun x hx=>(yI _ 0).2 x hx
 have o:=yJ (nA i.form).toNat _ _ l
 have e:bC i=(((nA i.form).toNat ||| fi (eh i) (aC (aa i.form)):Nat):Int):=oJ i
 rw[e]
 have o2:((nA i.form).toNat ||| fi (eh i) (aC (aa i.form))) < 59392:=Nat.lt_of_lt_of_le o t
 omega
theorem MN (i:IN):aY (bC i):=by
 have:=kG (show (nA i.form).toNat < 4294967296 by have:=BR i.form; omega) (AL i)
 rw[oJ]; unfold aY; omega
theorem Ix (i:IN) (h:aw i) (hn:48<=i.form):3892314112<=bC i:=by
 have f1:=h.1
 have ef:((i.form.toNat:Nat):Int)=i.form:=by omega
 have t:=of_decide_eq_true (List.all_eq_true.1 Iw (i.form.toNat - 48) (List.mem_range.2 (by omega)))
 rw[show i.form.toNat - 48+48=i.form.toNat by omega] at t
 unfold LI at t
 rw[ef] at t
 have l:(nA i.form).toNat<=(nA i.form).toNat ||| fi (eh i) (aC (aa i.form)):=Nat.left_le_or
 rw[oJ]; omega
def gI (l:List Int):List PV:=l.map (PV.int .u8)
def mN (i:IN):List Int:=(if 48<=i.form then [bC i / 65536 % 256,bC i / 16777216 % 256] else [])++[bC i % 256,bC i / 256 % 256]
theorem r24:Ev.aV .u32 24=16777216:=by decide
theorem D6 (i:IN) (h:aw i) (hI:B5 i):ai gT 35 [c9 i] (.tup [.sl 1 (gI (mN i)),.int .i64 0]):=by
 have e0:=IntKind.wrap_u8' (bC i)
 have e1:=IntKind.wrap_u8' (bC i / Ev.aV .u32 8)
 have e2:=IntKind.wrap_u8' (bC i / Ev.aV .u32 16)
 have e3:=IntKind.wrap_u8' (bC i / Ev.aV .u32 24)
 have p8:Ev.aV .u32 8=256:=by decide
 have p16:Ev.aV .u32 16=65536:=by decide
 refine Spec.enter al P35 100 Tryz.func35 rfl (by kernel_rfl) ?_
 refine (Iq i h hI).u ?_
 refine⟨fun h=>absurd rfl h,fun _=>?_⟩
 refine .inr ?_
 refine⟨by decide,.inr ?_⟩
 refine (ml i.form).u ?_
 refine⟨fun hn=>?_,fun hn=>?_⟩
 ·have Xn:¬ 48<=i.form:=fun e=>hn ⟨e,h.1.2⟩
  refine ax ?_
  refine And.intro ?_ (And.intro rfl trivial)
  show [PV.int .u8 (IntKind.u8.wrap (bC i)),.int .u8 (IntKind.u8.wrap (bC i / Ev.aV .u32 8))]=gI (mN i)
  rw[e0,e1,p8]
  unfold mN gI; rw[if_neg Xn]; rfl
 ·have Xn:48<=i.form:=(Classical.not_not.1 hn).1
  refine⟨by decide,.inr ?_⟩
  refine⟨by decide,.inr ?_⟩
  refine ax ?_
  refine And.intro ?_ (And.intro rfl trivial)
  show [PV.int .u8 (IntKind.u8.wrap (bC i / Ev.aV .u32 16)),.int .u8 (IntKind.u8.wrap (bC i / Ev.aV .u32 24)),PV.int .u8 (IntKind.u8.wrap (bC i)),.int .u8 (IntKind.u8.wrap (bC i / Ev.aV .u32 8))]=gI (mN i)
  rw[e0,e1,e2,e3,p8,p16,r24]
  unfold mN gI; rw[if_pos Xn]; rfl
def Cg (l:List Int):Prop:=∀ z∈l,0<=z/\z<=255
theorem gS (a b:Int) (k:Nat) (hk:k<=24) (ha:0<=a/\a < 2 ^ k) (hb:0<=b/\b*2 ^ k<=4294967295):bits .or .u32 a (b*2 ^ k)=a+b*2 ^ k/\bits .or .u32 (b*2 ^ k) a=b*2 ^ k+a:=by
 have p:=si k (by omega)
 have p2:(2:Int) ^ k<=16777216:=by
  have h1:(2 ^ k:Nat)<=2 ^ 24:=Nat.pow_le_pow_right (by omega) hk
  have h3:=cK k
  have h4:(2:Nat) ^ 24=16777216:=by decide
  omega
 obtain⟨x,rfl⟩:∃ x:Nat,a=x:=⟨a.toNat,by omega⟩
 obtain⟨y,rfl⟩:∃ y:Nat,b=y:=⟨b.toNat,by omega⟩
 have e:((y:Int)*2 ^ k)=((2 ^ k*y:Nat):Int):=by rw[Int.natCast_mul,cK,Int.mul_comm]
 rw[e] at hb ⊢
 have hx:x < 2 ^ k:=by have:=cK k; omega
 have h:=QH y x k hx
 constructor
 ·rw[u32_or _ _ (by omega) (by omega) (by omega) (by omega),Int.toNat_natCast,Int.toNat_natCast,Nat.or_comm,← h]; omega
 ·rw[u32_or _ _ (by omega) (by omega) (by omega) (by omega),Int.toNat_natCast,Int.toNat_natCast,← h]; omega
def hN (l:List Int) (n:Nat):Int:=l.getD n 0+l.getD (n+1) 0*256
theorem fp {l:List Int} (h:Cg l) (n:Nat):0<=l.getD n 0/\l.getD n 0<=255:=by
 rw[List.getD_eq_getElem?_getD]
 cases e:l[n]? with
 | none=>exact⟨Int.le_refl 0,by decide⟩
 | some z=>exact h z (List.mem_of_getElem? e)
theorem Iy {l:List Int} (h:Cg l) (n:Nat):0<=hN l n/\hN l n<=65535:=by
 have a:=fp h n
 have b:=fp h (n+1)
 unfold hN; omega
theorem getD_some {l:List Int} {n:Nat} {z:Int} (h:l[n]?=some z):l.getD n 0=z:=by rw[List.getD_eq_getElem?_getD,h]; rfl
def hW (l:List Int) (n:Nat):Int:=hN l n*65536+hN l (n+2)
noncomputable def atI (l:List Int) (n:Nat):IN:=open Classical in
 if l.length < n+2 then iZ else if ¬ eG (hN l n) then D4 (hN l n) False else if l.length < n+4 then iZ else D4 (hW l n) True
noncomputable def atE (l:List Int) (n:Nat):Int:=open Classical in
 if l.length < n+2 then 41 else if ¬ eG (hN l n) then k_ (hN l n) False else if l.length < n+4 then 41 else k_ (hW l n) True
structure RS where
 R:Nat->Int
 N:Int
 Z:Int
 C:Int
 V:Int
structure XS where
 i:IN
 s:RS
 at_:Int
 taken:Prop
 a:Int
 b:Int
 data:Int
 words:Int
 kind:Int
 code:Int
structure MS where
 w:Nat->Int
 fl:List Int
 wait:Int
 s:RS
 full:Prop
 line:Int
 mB:Int
 kind:Int
 code:Int
def kS (R:Nat->Int) (i v:Int):Nat->Int:=fun m=>if i=(m:Int) then v else R m
def AO (s:RS):List PV:=[.int .u32 (s.R 0),.int .u32 (s.R 1),.int .u32 (s.R 2),.int .u32 (s.R 3),.int .u32 (s.R 4),.int .u32 (s.R 5),.int .u32 (s.R 6),.int .u32 (s.R 7),.int .u32 (s.R 8),.int .u32 (s.R 9),.int .u32 (s.R 10),.int .u32 (s.R 11),.int .u32 (s.R 12),.int .u32 (s.R 13),.int .u32 (s.R 14),.int .u32 (s.R 15),.int .u32 s.N,.int .u32 s.Z,.int .u32 s.C,.int .u32 s.V]
def qy (s:RS):PV:=.agg (AO s)
def jQ (k:Nat):Int:=if k=0 then 1 else if k=1 then 256 else if k=2 then 65536 else 16777216
def gK (x:Int) (k:Nat):Int:=x / jQ k % 256
def gr (w:Nat->Int):List PV:=(List.range 65536).map fun k=>.int .u8 (gK (w (k / 4)) (k % 4))
def AP (w:Nat->Int):an:=⟨.dyn,5,1,.w,true,gr w⟩
def MO (fl:List Int):an:=⟨.loc,94,1,.w,true,[.sl 1 (gI fl),.wref 0]⟩
def Iz (d:Md) (m:MS):an:=⟨.loc,91,1,d,true,[.ptr 1 0,.int .i64 m.wait,.int .u32 (m.s.R 0),.int .u32 (m.s.R 1),.int .u32 (m.s.R 2),.int .u32 (m.s.R 3),.int .u32 (m.s.R 4),.int .u32 (m.s.R 5),.int .u32 (m.s.R 6),.int .u32 (m.s.R 7),.int .u32 (m.s.R 8),.int .u32 (m.s.R 9),.int .u32 (m.s.R 10),.int .u32 (m.s.R 11),.int .u32 (m.s.R 12),.int .u32 (m.s.R 13),.int .u32 (m.s.R 14),.int .u32 (m.s.R 15),.int .u32 m.s.N,.int .u32 m.s.Z,.int .u32 m.s.C,.int .u32 m.s.V,.bool m.full,.int .u32 m.line,.int .i64 m.mB,.int .i64 m.kind,.int .i64 m.code]⟩
abbrev IA (m:MS):an:=Iz .w m
def xsFs (x:XS):List PV:=[.ptr 2 0,.int .i64 x.i.form,.int .i64 x.i.rd,.int .i64 x.i.rn,.int .i64 x.i.rm,.int .i64 x.i.ra,.int .i64 x.i.ay,.int .i64 x.i.kind,.int .i64 x.i.bF,.int .i64 x.i.set,.int .i64 x.i.cond,.int .i64 x.i.av,.int .u32 (x.s.R 0),.int .u32 (x.s.R 1),.int .u32 (x.s.R 2),.int .u32 (x.s.R 3),.int .u32 (x.s.R 4),.int .u32 (x.s.R 5),.int .u32 (x.s.R 6),.int .u32 (x.s.R 7),.int .u32 (x.s.R 8),.int .u32 (x.s.R 9),.int .u32 (x.s.R 10),.int .u32 (x.s.R 11),.int .u32 (x.s.R 12),.int .u32 (x.s.R 13),.int .u32 (x.s.R 14),.int .u32 (x.s.R 15),.int .u32 x.s.N,.int .u32 x.s.Z,.int .u32 x.s.C,.int .u32 x.s.V,.int .u32 x.at_,.bool x.taken,.int .u32 x.a,.int .u32 x.b,.int .u32 x.data,.int .i64 x.words,.int .i64 x.kind,.int .i64 x.code]
def runBM (d:Md) (x:XS):an:=⟨.loc,109,1,d,true,xsFs x⟩
def stM (m:MS):List an:=[AP m.w,MO m.fl,IA m]
def Vo (d e:Md) (m:MS) (x:XS):List an:=[AP m.w,MO m.fl,Iz d m,runBM e x]
abbrev iq (m:MS) (x:XS):List an:=Vo .w .w m x
def MP:PV->Bool
 | .agg _|.tup _|.clo ..|.ref ..|.pti ..|.dpt ..|.ep ..|.gp ..|.gpi ..|.val _=>false
 | _=>true
theorem IB {x:PV} (h:MP x=true):zw x x:=by
 cases x<;>first|(cases h; done)|exact rfl|exact trivial|exact Iff.rfl|(unfold zw; simp)
theorem oN:∀ {l:List PV},l.all MP=true->oa zw l l
 | [],_=>trivial
 | x::l,h=>by
  simp only[List.all_cons,Bool.and_eq_true] at h
  exact⟨IB h.1,oN h.2⟩
theorem bm {b:an} (hl:b.live=true) (hc:(bif b.k.tD then b.cs.all MP else true)=true):gN b b:=by
 obtain⟨k,ty,n,m,live,cs⟩:=b
 simp only at hl
 subst hl
 have hm:(Nat.beq ty ty && Nat.beq n n && Md.beq m m && true && true && BK.beq k k)=true:=by
  simp only[Nat.beq_refl,Bool.and_true,Bool.true_and,Bool.and_eq_true]
  exact⟨by cases m<;>rfl,by cases k<;>rfl⟩
 show (bif (Nat.beq ty ty && Nat.beq n n && Md.beq m m && true && true && BK.beq k k) then _ else False)
 rw[hm,cond_true]
 cases k
 ·exact oN hc
 ·exact oN hc
 ·exact rfl
 ·exact rfl
def okB (b:an):Bool:=b.live && (bif b.k.tD then b.cs.all MP else true)
theorem pB {b:an} (h:okB b=true):gN b b:=by
 unfold okB at h
 simp only[Bool.and_eq_true] at h
 exact bm h.1 h.2
theorem aj:∀ {S:List an},S.all okB=true->r_ S S
 | [],_=>trivial
 | b::S,h=>by
  simp only[List.all_cons,Bool.and_eq_true] at h
  exact⟨pB h.1,aj h.2⟩
theorem uL:∀ {S T:List an} {k:List an->Prop},S.all okB=true->k T->GR (S++T) S k
 | [],_,_,_,h=>h
 | b::S,T,k,ho,h=>by
  simp only[List.all_cons,Bool.and_eq_true] at ho
  exact⟨pB ho.1,uL (S:=S) ho.2 h⟩
theorem Spec.useE {G:Gx} {f:FuncId} {args bE:List PV} {r0:PV} {S0 S1 st T:List an} {K:PV->List an->Prop} (h:Spec G f bE S0 [] fun r S'=>r=r0/\S'=S1)
  (hc:(kQ S0 S1 && S0.all (xQ S0.length) && (eO bE).all (fun l=>Nat.blt l S0.length) && r0.dv.all (fun l=>Nat.blt l S0.length) && S0.all okB)=true) (hle:oa kZ args bE) (zu:st=S0++T) (hK:vN S1 fun S1=>z5 S1 T (K r0)):Spec G f args st [] K:=by
 simp only[Bool.and_eq_true] at hc
 obtain⟨⟨⟨⟨h1,h2⟩,h3⟩,h4⟩,h5⟩:=hc
 subst zu
 exact h.vU h1 h2 h3 h4 hle (uL h5 hK)
def W0 (π:gZ) (st:List an):List Nat->List an->Prop->Prop
 | [],[],k=>k
 | l::σ,b'::S,k=>(bB st[l]? fun b=>okB b=true/\tU π b' fun mW=>b=mW)/\W0 π st σ S k
 | _,_,_=>False
theorem Ch {π:gZ} {st:List an}:∀ {σ:List Nat} {S:List an} {k:Prop},W0 π st σ S k->atK π st σ S k
 | [],[],_,h=>h
 | l::σ,b'::S,k,h=>by
  refine⟨?_,Ch h.2⟩
  obtain⟨b,hb,ho,hr⟩:=aD h.1
  rw[hb]
  show tU π b' fun mW=>gN b mW
  obtain⟨k0,ty,n,m,live,cs⟩:=b'
  cases k0
  ·obtain⟨ds,h1,h2⟩:=aD hr
   show bB (gF π cs) _
   rw[h1]; subst h2; exact pB ho
  ·obtain⟨ds,h1,h2⟩:=aD hr
   show bB (gF π cs) _
   rw[h1]; subst h2; exact pB ho
  ·have e:b=⟨.dyn,ty,n,m,live,cs⟩:=hr
   subst e; exact pB ho
  ·have e:b=⟨.mp,ty,n,m,live,cs⟩:=hr
   subst e; exact pB ho
 | [],_::_,_,h=>h.elim
 | _::_,[],_,h=>h.elim
theorem Spec.useQ {G:Gx} {f:FuncId} {args bE:List PV} {r0:PV} {S0 S1 st:List an} {K:PV->List an->Prop} (σ:List Nat) (h:Spec G f bE S0 [] fun r S'=>r=r0/\S'=S1) (hc:(kQ S0 S1 && lQ σ)=true) (GH:r0.dv = []) (hle:HX (σ.map some) args bE) (hK:W0 (σ.map some) st σ S0 (WW (σ.map some) σ S1 st (K r0))):Spec G f args st [] K:=by
 simp only[Bool.and_eq_true] at hc
 exact Spec.useP σ h hc.1 GH hc.2 hle (Ch hK)
theorem Ci {π:gZ} {st:List an}:∀ {σ:List Nat} {S:List an} {k:Prop},W0 π st σ S True->k->W0 π st σ S k
 | [],[],_,_,h=>h
 | _::_,_::_,_,h,hk=>⟨h.1,Ci h.2 hk⟩
 | [],_::_,_,h,_=>h.elim
 | _::_,[],_,h,_=>h.elim
theorem Spec.e {P:Nat->Prop} {G:Gx} {f:FuncId} {args bE:List PV} {r0:PV} {S0 S1 st:List an} {K:List Nat->PV->List an->Prop} (h:Spec G f bE S0 [] fun r S'=>r=r0/\S'=S1) (hK:vN S1 fun S1=>z5 S1 (st.drop S0.length) (K [] r0)) (hle:oa kZ args bE:=by repeat' first|exact trivial|exact rfl|exact Iff.rfl|refine And.intro ?_ ?_) (zu:st=S0++st.drop S0.length:=by rfl)
  (hc:(kQ S0 S1 && S0.all (xQ S0.length) && (eO bE).all (fun l=>Nat.blt l S0.length) && r0.dv.all (fun l=>Nat.blt l S0.length) && S0.all okB)=true:=by rfl):∃ rl:List Nat,(∀ l,l∈rl->P l)/\Spec G f args st rl (K rl):=⟨[],fun _ hl=>(by cases hl),h.useE hc hle zu hK⟩
theorem Spec.q {P:Nat->Prop} {G:Gx} {f:FuncId} {args bE:List PV} {r0:PV} {S0 S1 st:List an} {K:List Nat->PV->List an->Prop} (h:Spec G f bE S0 [] fun r S'=>r=r0/\S'=S1) (σ:List Nat) (hK:WW (σ.map some) σ S1 st (K [] r0)) (hle:HX (σ.map some) args bE:=by repeat' first|exact trivial|exact rfl|exact Iff.rfl|refine And.intro ?_ ?_) (ha:W0 (σ.map some) st σ S0 True:=by repeat' first|exact trivial|exact⟨rfl,rfl⟩|refine And.intro ?_ ?_) (hc:(kQ S0 S1 && lQ σ)=true:=by rfl) (GH:r0.dv = []:=by rfl):∃ rl:List Nat,(∀ l,l∈rl->P l)/\Spec G f args st rl (K rl):=⟨[],fun _ hl=>(by cases hl),h.useQ σ hc GH hle (Ci ha hK)⟩
theorem rS {r r0:PV} {S' S1:List an} (h:kZ r r0:=by repeat' first|exact trivial|exact rfl|exact Iff.rfl|refine And.intro ?_ ?_) (hs:r_ S' S1:=by first|exact aj rfl|(repeat' first|exact trivial|exact rfl|exact Iff.rfl|exact not_false|refine And.intro ?_ ?_)):∃ r',zx r r'/\(fun x S'=>x=r0/\r_ S' S1) r' S':=bo h hs
theorem MQ (x:XS):∀ k:Nat,k < 16->(xsFs x)[12+k*1]?=some (.int .u32 (x.s.R k))
 | 0,_=>rfl
 | 1,_=>rfl
 | 2,_=>rfl
 | 3,_=>rfl
 | 4,_=>rfl
 | 5,_=>rfl
 | 6,_=>rfl
 | 7,_=>rfl
 | 8,_=>rfl
 | 9,_=>rfl
 | 10,_=>rfl
 | 11,_=>rfl
 | 12,_=>rfl
 | 13,_=>rfl
 | 14,_=>rfl
 | 15,_=>rfl
 | k+16,h=>absurd h (by omega)
def ao (x:XS) (r:Int):Int:=if r=15 then IntKind.u32.wrap (x.at_+4) else x.s.R r.toNat
def cI (x:XS) (r v:Int):XS:={ x with s:={ x.s with R:=kS x.s.R r v } }
def qQ (x:XS) (v:Int):XS:={ x with s:={ x.s with N:=v / 2147483648,Z:=if v=0 then 1 else 0 } }
theorem sF (x y c:Int) (hx:aY x) (hy:aY y) (hc:0<=c):ai gT 118 [.int .u32 x,.int .u32 y,.int .u32 c] (.tup [.int .u32 (Rm.fj x y c),.int .u32 (Rm.iG x y c),.int .u32 (Rm.nf x y c)]) :=
 ai.of_same (fY Tryz.func118 rfl (by kernel_rfl)) [.int .u32 x,.int .u32 y,.int .u32 c] (.tuple #[.int .u32 (Rm.fj x y c),.int .u32 (Rm.iG x y c),.int .u32 (Rm.nf x y c)]) (fun w I β vals h=>jC (l:=[(.u32,x),(.u32,y),(.u32,c)]) h) (fun w I β=>jI (iy (dn ..) (iy (dn ..) (iy (dn ..) sg)))) (fun w=>(Lv x y c w hx.1 hx.2 hy.1 hy.2 hc).mono fun e w' ⟨h1,h2⟩=>⟨h1,h2.symm⟩)
theorem D7 (x y:Int) (hx:aY x) (hy:aY y):ai gT 115 [.int .u32 x,.int .u32 y] (.tup [.int .u32 (x*y % 4294967296),.int .u32 (x*y / 4294967296)]) :=
 ai.of_same (fY Tryz.func115 rfl (by kernel_rfl)) [.int .u32 x,.int .u32 y] (.tuple #[.int .u32 (x*y % 4294967296),.int .u32 (x*y / 4294967296)]) (fun w I β vals h=>jC (l:=[(.u32,x),(.u32,y)]) h) (fun w I β=>jI (iy (dn ..) (iy (dn ..) sg))) (fun w=>(G5 x y w hx.1 hx.2 hy.1 hy.2).mono fun e w' ⟨h1,h2⟩=>⟨h1,h2.symm⟩)
theorem uM (x:Int) (hx:aY x):ai gT 129 [.int .u32 x] (.int .i64 (Lib.bitLen x.toNat)) :=
 ai.of_same (fY Tryz.func129 rfl (by kernel_rfl)) [.int .u32 x] (.int .i64 (Lib.bitLen x.toNat)) (fun w I β vals h=>jC (l:=[(.u32,x)]) h) (fun w I β=>dn ..) (fun w=>(Lw x w hx.1 hx.2).mono fun e w' ⟨h1,h2⟩=>⟨h1,h2.symm⟩)
theorem MR (x:Int) (hx:aY x):ai gT 98 [.int .u32 x] (.int .i64 (32 - (Lib.bitLen x.toNat:Int))) :=
 ai.of_same (fY Tryz.func98 rfl (by kernel_rfl)) [.int .u32 x] (.int .i64 (32 - (Lib.bitLen x.toNat:Int))) (fun w I β vals h=>jC (l:=[(.u32,x)]) h) (fun w I β=>dn ..) (fun w=>(oz x w hx.1 hx.2).mono fun e w' ⟨h1,h2⟩=>⟨h1,h2.symm⟩)
theorem sG (x:Int) (h0:0<=x) (h1:x<=65535):ai gT 108 [.int .u32 x] (.int .i64 (cl x)) :=
 ai.xW (fY Tryz.func108 rfl (by kernel_rfl)) [.int .u32 x] (.int .i64 (cl x)) (fun w I β vals h=>jC (l:=[(.u32,x)]) h) (fun w I β=>dn ..) (fun w=>D2 x w h0 h1)
def il (k x n:Int):Int:=((Rm.qO k n.toNat x.toNat:Nat):Int)
def tW (k x n c:Int):Int:=((Rm.C7 k n.toNat x.toNat (min c.toNat 1):Nat):Int)
theorem qa (k x n c:Int) (vK:0<=k) (Da:k<=3) (jk:0<=n) (l6:n<=255) (hx:aY x) (hc:0<=c):ai gT 148 [.int .i64 k,.int .u32 x,.int .i64 n,.int .u32 c] (.tup [.int .u32 (il k x n),.int .u32 (tW k x n c),.int .i64 0]) :=
 ai.of_same (fY Tryz.func148 rfl (by kernel_rfl)) [.int .i64 k,.int .u32 x,.int .i64 n,.int .u32 c] (.tuple #[.int .u32 (il k x n),.int .u32 (tW k x n c),.int .i64 0]) (fun w I β vals h=>jC (l:=[(.i64,k),(.u32,x),(.i64,n),(.u32,c)]) h) (fun w I β=>jI (iy (dn ..) (iy (dn ..) (iy (dn ..) sg)))) (fun w=>(ya k x n c w vK Da jk l6 hx.1 hx.2 hc).mono fun e w' ⟨h1,h2⟩=>⟨h1,h2.symm⟩)
theorem wA (k x n c:Int) (vK:0<=k) (Da:k<=3) (jk:0<=n) (l6:n<=255) (hx:aY x) (hc:0<=c):ai gT 101 [.int .i64 k,.int .u32 x,.int .i64 n,.int .u32 c] (.tup [.int .u32 (il k x n),.int .u32 (tW k x n c)]) :=
 ai.of_same (fY Tryz.func101 rfl (by kernel_rfl)) [.int .i64 k,.int .u32 x,.int .i64 n,.int .u32 c] (.tuple #[.int .u32 (il k x n),.int .u32 (tW k x n c)]) (fun w I β vals h=>jC (l:=[(.i64,k),(.u32,x),(.i64,n),(.u32,c)]) h) (fun w I β=>jI (iy (dn ..) (iy (dn ..) sg))) (fun w=>(vW k x n c w vK Da jk l6 hx.1 hx.2 hc).mono fun e w' ⟨h1,h2⟩=>⟨h1,h2.symm⟩)
theorem tX (n c:Int) (h:Al n) (hc:0<=c):ai gT 147 [.int .i64 n,.int .u32 c] (.tup [.int .u32 (Rm.gg n c),.int .i64 (Rm.dF n)]) :=
 ai.G9 (fY Tryz.func147 rfl (by kernel_rfl)) fun I β w vals hM hA=>by
  obtain rfl:=jC (l:=[(.i64,n),(.u32,c)]) hA
  refine⟨.tuple #[.int .u32 (Rm.gg n c),.int .i64 (Rm.dF n)],jI (iy (dn ..) (iy (dn ..) sg)),fun _ _ _=>jI (iy (dn ..) (iy (dn ..) sg)),?_⟩
  refine (Dg n c w (G' hM) h.1 h.2 hc).mono ?_
  rintro e w' ⟨rfl,rfl⟩
  exact⟨rfl,Below.refl _ _⟩
theorem jK (k x n:Int) (hx:aY x):aY (il k x n):=by
 have:=Rm.jH k n.toNat x.toNat (by have:=hx.1; have:=hx.2; omega)
 unfold il aY; omega
theorem IC (k x n c:Int) (hx:aY x):0<=tW k x n c/\tW k x n c<=1:=by
 have:=Rm.Qt k n.toNat x.toNat (min c.toNat 1) (by have:=hx.1; have:=hx.2; omega) (by omega)
 unfold tW; omega
theorem iI (d e:Md) (m:MS) (x:XS) (r:Int) (h0:0<=r) (h1:r<=15):Spec gT 105 [.ptr 3 0,.int .i64 r] (Vo d e m x) [] fun v S'=>v = .int .u32 (ao x r)/\S'=Vo d e m x:=by
 refine Spec.jP (Spec.enter al P105 100 Tryz.func105 rfl (by kernel_rfl) ?_)
 refine⟨fun h=>?_,fun h=>?_⟩
 ·have h':r=15:=h
  refine .inr ?_
  have e0:ao x r=IntKind.u32.wrap (x.at_+4):=by unfold ao; rw[if_pos h']
  rw[e0]
  exact rS
 ·have h':¬ r=15:=h
  have e0:ao x r=x.s.R r.toNat:=by unfold ao; rw[if_neg h']
  rw[e0]
  refine⟨h0,show r < 16 by omega,?_⟩
  refine .inr ⟨rfl,h0,show 12+r.toNat*1 < 40 by omega,fun c hc=>?_⟩
  obtain rfl:=Option.some.inj (hc.symm.trans (MQ x r.toNat (by omega)))
  exact rS
theorem bH (m:MS) (x:XS) (r:Int) (h0:0<=r) (h1:r<=15):Spec gT 105 [.ptr 3 0,.int .i64 r] (iq m x) [] fun v S'=>v = .int .u32 (ao x r)/\S'=iq m x:=iI .w .w m x r h0 h1
theorem bV (m:MS) (x:XS) (r v:Int) (h0:0<=r) (h1:r<=15):Spec gT 107 [.ptr 3 0,.int .i64 r,.int .u32 v] (iq m x) [] fun y S'=>y = .tup []/\S'=iq m (cI x r v):=by
 refine Spec.jP (Spec.enter al P107 100 Tryz.func107 rfl (by kernel_rfl) ?_)
 refine⟨h0,show r < 16 by omega,?_⟩
 refine⟨16,h0,show r < 16 by omega,show 12+r.toNat*1 < 40 by omega,?_⟩
 exact rS
theorem ID (m:MS) (x:XS) (v:Int):Spec gT 116 [.ptr 3 0,.int .u32 v] (iq m x) [] fun y S'=>y = .tup []/\S'=iq m (qQ x v):=by
 refine Spec.jP (Spec.enter al P116 100 Tryz.func116 rfl (by kernel_rfl) ?_)
 refine⟨by decide,?_⟩
 refine⟨fun h=>?_,fun h=>?_⟩
 ·have e:qQ x v = { x with s:={ x.s with N:=v / 2147483648,Z:=1 } }:=by unfold qQ; rw[if_pos (show v=0 from h)]
  rw[e]
  exact rS
 ·have e:qQ x v = { x with s:={ x.s with N:=v / 2147483648,Z:=0 } }:=by unfold qQ; rw[if_neg (show ¬ v=0 from h)]
  rw[e]
  exact rS
def en (x:XS):Prop:=(aa x.i.form=18\/aa x.i.form=19\/aa x.i.form=21\/aa x.i.form=22\/aa x.i.form=27)->x.i.set=1
instance (x:XS):Decidable (en x):=by unfold en; infer_instance
theorem Cj (m:MS) (x:XS):Spec gT 149 [.ptr 3 0] (iq m x) [] fun y S'=>y = .bool (en x)/\S'=iq m x:=by
 have hsh:=gh x.i.form
 have key:en x↔((aa x.i.form=18\/aa x.i.form=19\/aa x.i.form=21\/aa x.i.form=22\/aa x.i.form=27)->x.i.set=1):=Iff.rfl
 refine Spec.jP (Spec.enter al P149 100 Tryz.func149 rfl (by kernel_rfl) ?_)
 refine hsh.u ?_
 generalize aa x.i.form=sh at key ⊢
 refine⟨fun h=>?_,fun h=>?_⟩
 ·exact bo (show x.i.set=1↔en x by rw[key]; have h':sh=18:=h; simp[h']) (aj rfl)
 refine⟨fun h=>?_,fun h=>?_⟩
 ·exact bo (show x.i.set=1↔en x by rw[key]; have h':sh=19:=h; simp[h']) (aj rfl)
 refine⟨fun h=>?_,fun h=>?_⟩
 ·exact bo (show x.i.set=1↔en x by rw[key]; have h':sh=21:=h; simp[h']) (aj rfl)
 refine⟨fun h=>?_,fun h=>?_⟩
 ·exact bo (show x.i.set=1↔en x by rw[key]; have h':sh=22:=h; simp[h']) (aj rfl)
 refine⟨fun h=>?_,fun h=>?_⟩
 ·exact bo (show x.i.set=1↔en x by rw[key]; have h':sh=27:=h; simp[h']) (aj rfl)
 ·exact bo (show en x by rw[key]; have a:¬ sh=18:=‹_›; have b:¬ sh=19:=‹_›; have c:¬ sh=21:=‹_›; have d:¬ sh=22:=‹_›; have e:¬ sh=27:=‹_›; intro h; omega) (aj rfl)
structure mC (x:XS):Prop where
 rd:0<=x.i.rd/\x.i.rd<=15
 rn:0<=x.i.rn/\x.i.rn<=15
 rm:0<=x.i.rm/\x.i.rm<=15
 ra:0<=x.i.ra/\x.i.ra<=15
 ay:Al x.i.ay
 bar:aa x.i.form=21\/aa x.i.form=22\/aa x.i.form=23->0<=x.i.kind/\x.i.kind<=3/\0<=x.i.bF/\x.i.bF<=255
 low:1<=x.i.form/\x.i.form<=3->0<=x.i.ay/\x.i.ay<=32
 idx:x.i.form=86\/x.i.form=87->0<=x.i.bF/\x.i.bF<=3
 av:0<=x.i.av/\x.i.av<=65535
 r:∀ k,aY (x.s.R k)
 n:0<=x.s.N/\x.s.N<=1
 z:0<=x.s.Z/\x.s.Z<=1
 c:0<=x.s.C/\x.s.C<=1
 v:0<=x.s.V/\x.s.V<=1
theorem wrap_u32 (z:Int):aY (IntKind.u32.wrap z):=by
 have:=IntKind.wrap_u32' z
 unfold aY; omega
theorem bM {x:XS} (h:mC x) (r:Int):aY (ao x r):=by
 unfold ao
 split
 ·exact wrap_u32 _
 ·exact h.r _
def aW (x:XS):Int:=if aa x.i.form=4\/aa x.i.form=5\/aa x.i.form=6 then ao x x.i.rd else ao x x.i.rn
def bX (x:XS):Int :=
 if aa x.i.form=3\/aa x.i.form=4\/aa x.i.form=24 then IntKind.u32.wrap x.i.ay
 else if aa x.i.form=18\/aa x.i.form=19\/aa x.i.form=20 then Rm.dD x.i.ay
 else if aa x.i.form=21\/aa x.i.form=22\/aa x.i.form=23 then il x.i.kind (ao x x.i.rm) x.i.bF
 else ao x x.i.rm
def dz (x:XS):Int :=
 if aa x.i.form=3\/aa x.i.form=4\/aa x.i.form=24 then x.s.C
 else if aa x.i.form=18\/aa x.i.form=19\/aa x.i.form=20 then Rm.gg x.i.ay x.s.C
 else if aa x.i.form=21\/aa x.i.form=22\/aa x.i.form=23 then tW x.i.kind (ao x x.i.rm) x.i.bF x.s.C
 else x.s.C
theorem bJ {x:XS} (h:mC x):aY (aW x):=by
 unfold aW
 split<;>exact bM h _
theorem ck {x:XS} (h:mC x):aY (bX x):=by
 unfold bX
 split
 ·exact wrap_u32 _
 ·split
  ·exact Rm.lM _
  ·split
   ·exact jK _ _ _ (bM h _)
   ·exact bM h _
def dt (w:Int):Int:=bits .xor .u32 IntKind.u32.max w
theorem gH {w:Int} (h:aY w):dt w=4294967295 - w:=Rm.O8 w h.1 h.2
theorem dx {w:Int} (h:aY w):aY (dt w):=by
 rw[gH h]
 unfold aY at h ⊢; omega
theorem yK (m:MS) (x:XS) (hx:mC x):Spec gT 110 [.ptr 3 0] (iq m x) [] fun y S'=>y = .int .u32 (aW x)/\S'=iq m x:=by
 have hsh:=gh x.i.form
 have g1:=bH m x x.i.rd hx.rd.1 hx.rd.2
 have g2:=bH m x x.i.rn hx.rn.1 hx.rn.2
 have key:aW x=if aa x.i.form=4\/aa x.i.form=5\/aa x.i.form=6 then ao x x.i.rd else ao x x.i.rn:=rfl
 refine Spec.jP (Spec.enter al P110 100 Tryz.func110 rfl (by kernel_rfl) ?_)
 refine hsh.u ?_
 generalize aa x.i.form=sh at key ⊢
 refine⟨fun h=>?_,fun h=>?_⟩
 ·rw[key,if_pos (.inr (.inl (show sh=5 from h)))]
  refine (g1).e ?_
  exact rS
 refine⟨fun h=>?_,fun h=>?_⟩
 ·rw[key,if_pos (.inl (show sh=4 from h))]
  refine (g1).e ?_
  exact rS
 refine⟨fun h=>?_,fun h=>?_⟩
 ·rw[key,if_pos (.inr (.inr (show sh=6 from h)))]
  refine (g1).e ?_
  exact rS
 ·have a:¬ sh=5:=‹_›
  have b:¬ sh=4:=‹_›
  have c:¬ sh=6:=‹_›
  rw[key,if_neg (by omega)]
  refine (g2).e ?_
  exact rS
theorem uN (m:MS) (x:XS) (hx:mC x):Spec gT 111 [.ptr 3 0] (iq m x) [] fun y S'=>y = .tup [.int .u32 (bX x),.int .u32 (dz x)]/\S'=iq m x:=by
 have hsh:=gh x.i.form
 have g3:=bH m x x.i.rm hx.rm.1 hx.rm.2
 have kw:bX x=if aa x.i.form=3\/aa x.i.form=4\/aa x.i.form=24 then IntKind.u32.wrap x.i.ay
  else if aa x.i.form=18\/aa x.i.form=19\/aa x.i.form=20 then Rm.dD x.i.ay
  else if aa x.i.form=21\/aa x.i.form=22\/aa x.i.form=23 then il x.i.kind (ao x x.i.rm) x.i.bF
  else ao x x.i.rm:=rfl
 have kc:dz x=if aa x.i.form=3\/aa x.i.form=4\/aa x.i.form=24 then x.s.C
  else if aa x.i.form=18\/aa x.i.form=19\/aa x.i.form=20 then Rm.gg x.i.ay x.s.C
  else if aa x.i.form=21\/aa x.i.form=22\/aa x.i.form=23 then tW x.i.kind (ao x x.i.rm) x.i.bF x.s.C
  else x.s.C:=rfl
 have hb:=hx.bar
 have cw:=oF x.i.ay hx.ay
 have cc:=tX x.i.ay x.s.C hx.ay hx.c.1
 have cs:=fun h=>qa x.i.kind (ao x x.i.rm) x.i.bF x.s.C (hb h).1 (hb h).2.1 (hb h).2.2.1 (hb h).2.2.2 (bM hx _) hx.c.1
 refine Spec.jP (Spec.enter al P111 100 Tryz.func111 rfl (by kernel_rfl) ?_)
 refine hsh.u ?_
 generalize aa x.i.form=sh at kw kc hb cs ⊢
 refine⟨fun h=>?_,fun h=>?_⟩
 ·rw[if_pos (.inl (show sh=3 from h))] at kw kc
  rw[kw,kc]
  refine .inr ?_
  exact rS
 refine⟨fun h=>?_,fun h=>?_⟩
 ·rw[if_pos (.inr (.inl (show sh=4 from h)))] at kw kc
  rw[kw,kc]
  refine .inr ?_
  exact rS
 refine⟨fun h=>?_,fun h=>?_⟩
 ·rw[if_pos (.inr (.inr (show sh=24 from h)))] at kw kc
  rw[kw,kc]
  refine .inr ?_
  exact rS
 have n1:¬ (sh=3\/sh=4\/sh=24):=by
  have a:¬ sh=3:=‹_›
  have b:¬ sh=4:=‹_›
  have c:¬ sh=24:=‹_›
  omega
 rw[if_neg n1] at kw kc
 refine⟨fun h=>?_,fun h=>?_⟩
 ·rw[if_pos (.inl (show sh=18 from h))] at kw kc
  rw[kw,kc]
  refine cw.u ?_
  refine cc.u ?_
  exact rS
 refine⟨fun h=>?_,fun h=>?_⟩
 ·rw[if_pos (.inr (.inl (show sh=19 from h)))] at kw kc
  rw[kw,kc]
  refine cw.u ?_
  refine cc.u ?_
  exact rS
 refine⟨fun h=>?_,fun h=>?_⟩
 ·rw[if_pos (.inr (.inr (show sh=20 from h)))] at kw kc
  rw[kw,kc]
  refine cw.u ?_
  refine cc.u ?_
  exact rS
 have n2:¬ (sh=18\/sh=19\/sh=20):=by
  have a:¬ sh=18:=‹_›
  have b:¬ sh=19:=‹_›
  have c:¬ sh=20:=‹_›
  omega
 rw[if_neg n2] at kw kc
 have g4:=fun d e=>iI d e m x x.i.rm hx.rm.1 hx.rm.2
 refine⟨fun h=>?_,fun h=>?_⟩
 ·have hh:sh=21\/sh=22\/sh=23:=.inl (show sh=21 from h)
  rw[if_pos hh] at kw kc
  rw[kw,kc]
  refine (g4 .w .p).e ?_
  refine (cs hh).u ?_
  exact rS
 refine⟨fun h=>?_,fun h=>?_⟩
 ·have hh:sh=21\/sh=22\/sh=23:=.inr (.inl (show sh=22 from h))
  rw[if_pos hh] at kw kc
  rw[kw,kc]
  refine (g4 .w .p).e ?_
  refine (cs hh).u ?_
  exact rS
 refine⟨fun h=>?_,fun h=>?_⟩
 ·have hh:sh=21\/sh=22\/sh=23:=.inr (.inr (show sh=23 from h))
  rw[if_pos hh] at kw kc
  rw[kw,kc]
  refine (g4 .w .p).e ?_
  refine (cs hh).u ?_
  exact rS
 ·have n3:¬ (sh=21\/sh=22\/sh=23):=by
   have a:¬ sh=21:=‹_›
   have b:¬ sh=22:=‹_›
   have c:¬ sh=23:=‹_›
   omega
  rw[if_neg n3] at kw kc
  rw[kw,kc]
  refine (g4 .w .p).e ?_
  exact rS
def qb (x:XS) (c:Int):XS:={ x with s:={ x.s with C:=c } }
def lS (x:XS) (c o:Int):XS:={ x with s:={ x.s with C:=c,V:=o } }
def fm (x:XS) (d v w c:Int):XS :=
 if 0<=d then cI (if en x then lS (qQ x (Rm.fj v w c)) (Rm.iG v w c) (Rm.nf v w c) else x) d (Rm.fj v w c)
 else (if en x then lS (qQ x (Rm.fj v w c)) (Rm.iG v w c) (Rm.nf v w c) else x)
def bZ (x:XS) (d v c:Int):XS :=
 if 0<=d then cI (if en x then qb (qQ x v) c else x) d v
 else (if en x then qb (qQ x v) c else x)
theorem c8 (m:MS) (x:XS) (d v w c:Int) (h1:d<=15) (hv:aY v) (hw:aY w) (hc:0<=c):Spec gT 112 [.ptr 3 0,.int .i64 d,.int .u32 v,.int .u32 w,.int .u32 c] (iq m x) [] fun y S'=>y = .tup []/\S'=iq m (fm x d v w c):=by
 have ha:=sF v w c hv hw hc
 have key:fm x d v w c=if 0<=d then cI (if en x then lS (qQ x (Rm.fj v w c)) (Rm.iG v w c) (Rm.nf v w c) else x) d (Rm.fj v w c)
  else (if en x then lS (qQ x (Rm.fj v w c)) (Rm.iG v w c) (Rm.nf v w c) else x):=rfl
 refine Spec.jP (Spec.enter al P112 100 Tryz.func112 rfl (by kernel_rfl) ?_)
 refine ha.u ?_
 generalize Rm.fj v w c=s at key ⊢
 generalize Rm.iG v w c=cy at key ⊢
 generalize Rm.nf v w c=o at key ⊢
 refine (Cj m x).e ?_
 refine⟨fun h=>?_,fun h=>?_⟩
 ·rw[if_pos (show en x from h)] at key
  refine (ID m x s).e ?_
  refine⟨fun h=>?_,fun h=>?_⟩
  ·rw[if_pos (show 0<=d from h)] at key
   rw[key]
   refine (bV m (lS (qQ x s) cy o) d s h h1).e ?_
   exact rS
  ·rw[if_neg (show ¬ 0<=d from h)] at key
   rw[key]
   exact rS
 ·rw[if_neg (show ¬ en x from h)] at key
  refine⟨fun h=>?_,fun h=>?_⟩
  ·rw[if_pos (show 0<=d from h)] at key
   rw[key]
   refine (bV m x d s h h1).e ?_
   exact rS
  ·rw[if_neg (show ¬ 0<=d from h)] at key
   rw[key]
   exact rS
theorem cd (m:MS) (x:XS) (d v c:Int) (h1:d<=15):Spec gT 113 [.ptr 3 0,.int .i64 d,.int .u32 v,.int .u32 c] (iq m x) [] fun y S'=>y = .tup []/\S'=iq m (bZ x d v c):=by
 have key:bZ x d v c=if 0<=d then cI (if en x then qb (qQ x v) c else x) d v
  else (if en x then qb (qQ x v) c else x):=rfl
 refine Spec.jP (Spec.enter al P113 100 Tryz.func113 rfl (by kernel_rfl) ?_)
 refine (Cj m x).e ?_
 refine⟨fun h=>?_,fun h=>?_⟩
 ·rw[if_pos (show en x from h)] at key
  refine (ID m x v).e ?_
  refine⟨fun h=>?_,fun h=>?_⟩
  ·rw[if_pos (show 0<=d from h)] at key
   rw[key]
   refine (bV m (qb (qQ x v) c) d v h h1).e ?_
   exact rS
  ·rw[if_neg (show ¬ 0<=d from h)] at key
   rw[key]
   exact rS
 ·rw[if_neg (show ¬ en x from h)] at key
  refine⟨fun h=>?_,fun h=>?_⟩
  ·rw[if_pos (show 0<=d from h)] at key
   rw[key]
   refine (bV m x d v h h1).e ?_
   exact rS
  ·rw[if_neg (show ¬ 0<=d from h)] at key
   rw[key]
   exact rS
def jc (x:XS) (k v n:Int):XS:=bZ x x.i.rd (il k v n) (tW k v n x.s.C)
theorem eS (m:MS) (x:XS) (k v n:Int) (hx:mC x) (vK:0<=k) (Da:k<=3) (jk:0<=n) (l6:n<=255) (hv:aY v):Spec gT 114 [.ptr 3 0,.int .i64 k,.int .u32 v,.int .i64 n] (iq m x) [] fun y S'=>y = .tup []/\S'=iq m (jc x k v n):=by
 have hs:=qa k v n x.s.C vK Da jk l6 hv hx.c.1
 refine Spec.jP (Spec.enter al P114 100 Tryz.func114 rfl (by kernel_rfl) ?_)
 refine hs.u ?_
 refine (cd m x x.i.rd (il k v n) (tW k v n x.s.C) hx.rd.2).e ?_
 exact rS
end Go.Proofs.YtlgkljpgagfndaaGreatDoor.Pw

/- What this claim is proved with: no condition. -/
import Derived.Test.YtlgkljpgagfndaaGreatDoorNv22
import Derived.Test.YtlgkljpgagfndaaGreatDoorNv21
set_option maxRecDepth 100000
set_option maxHeartbeats 8000000
set_option linter.unusedVariables false
set_option linter.unusedSimpArgs false
namespace Go.Proofs.YtlgkljpgagfndaaGreatDoor.Pw
open Go Go.RowKit
def bY (f:Int):Int :=
 if f=32 then 1 else if f=34\/f=33 then 2 else if f=36\/f=35\/f=85\/f=84 then 3 else if f=38\/f=37 then 4 else if f=87\/f=86 then 5 else 0
def iT (x:XS):Int :=
 if bY x.i.form=1 then (IntKind.u32.wrap (bits .andNot .u32 (an x 15) 3+(IntKind.u32.wrap x.i.az))) else if bY x.i.form=2 then (IntKind.u32.wrap (an x x.i.rn+an x x.i.rm)) else if bY x.i.form=3 then (IntKind.u32.wrap (an x x.i.rn+(IntKind.u32.wrap x.i.az))) else if bY x.i.form=4 then (IntKind.u32.wrap (an x 13+(IntKind.u32.wrap x.i.az))) else if bY x.i.form=5 then (IntKind.u32.wrap (an x x.i.rn+IntKind.u32.wrap (an x x.i.rm*Ev.aV .u32 x.i.bG))) else 0
theorem Ue {x:XS} (h:bY x.i.form=1):iT x=(IntKind.u32.wrap (bits .andNot .u32 (an x 15) 3+(IntKind.u32.wrap x.i.az))):=by unfold iT; rw[if_pos h]
theorem HO {x:XS} (h:bY x.i.form=2):iT x=(IntKind.u32.wrap (an x x.i.rn+an x x.i.rm)):=by unfold iT; rw[if_neg (by omega),if_pos h]
theorem vw {x:XS} (h:bY x.i.form=3):iT x=(IntKind.u32.wrap (an x x.i.rn+(IntKind.u32.wrap x.i.az))):=by unfold iT; rw[if_neg (by omega),if_neg (by omega),if_pos h]
theorem HP {x:XS} (h:bY x.i.form=4):iT x=(IntKind.u32.wrap (an x 13+(IntKind.u32.wrap x.i.az))):=by unfold iT; rw[if_neg (by omega),if_neg (by omega),if_neg (by omega),if_pos h]
theorem HQ {x:XS} (h:bY x.i.form=5):iT x=(IntKind.u32.wrap (an x x.i.rn+IntKind.u32.wrap (an x x.i.rm*Ev.aV .u32 x.i.bG))):=by unfold iT; rw[if_neg (by omega),if_neg (by omega),if_neg (by omega),if_neg (by omega),if_pos h]
theorem Uf {x:XS} (h:bY x.i.form=0):iT x=0:=by unfold iT; rw[if_neg (by omega),if_neg (by omega),if_neg (by omega),if_neg (by omega),if_neg (by omega)]
theorem zP (m:MS) (x:XS) (hx:lY x):Spec gT 76 [.ptr 3 0] (gU m x) [] fun y S'=>y = .tup [.int .u32 (iT x),.bool (bY x.i.form≠0)]/\S'=gU m x:=by
 refine Spec.jS (Spec.enter al P76 100 Tryz.func76 rfl (by kernel_rfl) ?_)
 refine .inr ?_
 refine⟨fun Kt=>?_,fun Kt=>?_⟩
 ·have hc:bY x.i.form=1:=by rw[show x.i.form=32 from Kt]; rfl
  rw[Ue hc]
  refine (bF m x 15 (by decide) (by decide)).e ?_
  refine .inr ?_
  exact bm (And.intro rfl (And.intro (show bY x.i.form≠0 by omega) trivial)) (aj rfl)
 refine⟨fun Y5=>?_,fun Y5=>?_⟩
 ·have hc:bY x.i.form=2:=by rw[show x.i.form=34 from Y5]; rfl
  rw[HO hc]
  refine (bF m x x.i.rn hx.rn.1 hx.rn.2).e ?_
  refine (bF m x x.i.rm hx.rm.1 hx.rm.2).e ?_
  refine .inr ?_
  exact bm (And.intro rfl (And.intro (show bY x.i.form≠0 by omega) trivial)) (aj rfl)
 refine⟨fun Y6=>?_,fun Y6=>?_⟩
 ·have hc:bY x.i.form=2:=by rw[show x.i.form=33 from Y6]; rfl
  rw[HO hc]
  refine (bF m x x.i.rn hx.rn.1 hx.rn.2).e ?_
  refine (bF m x x.i.rm hx.rm.1 hx.rm.2).e ?_
  refine .inr ?_
  exact bm (And.intro rfl (And.intro (show bY x.i.form≠0 by omega) trivial)) (aj rfl)
 refine⟨fun Y7=>?_,fun Y7=>?_⟩
 ·have hc:bY x.i.form=3:=by rw[show x.i.form=36 from Y7]; rfl
  rw[vw hc]
  refine (bF m x x.i.rn hx.rn.1 hx.rn.2).e ?_
  refine .inr ?_
  exact bm (And.intro rfl (And.intro (show bY x.i.form≠0 by omega) trivial)) (aj rfl)
 refine⟨fun Y8=>?_,fun Y8=>?_⟩
 ·have hc:bY x.i.form=3:=by rw[show x.i.form=35 from Y8]; rfl
  rw[vw hc]
  refine (bF m x x.i.rn hx.rn.1 hx.rn.2).e ?_
  refine .inr ?_
  exact bm (And.intro rfl (And.intro (show bY x.i.form≠0 by omega) trivial)) (aj rfl)
 refine⟨fun Y9=>?_,fun Y9=>?_⟩
 ·have hc:bY x.i.form=3:=by rw[show x.i.form=85 from Y9]; rfl
  rw[vw hc]
  refine (bF m x x.i.rn hx.rn.1 hx.rn.2).e ?_
  refine .inr ?_
  exact bm (And.intro rfl (And.intro (show bY x.i.form≠0 by omega) trivial)) (aj rfl)
 refine⟨fun Y'=>?_,fun Y'=>?_⟩
 ·have hc:bY x.i.form=3:=by rw[show x.i.form=84 from Y']; rfl
  rw[vw hc]
  refine (bF m x x.i.rn hx.rn.1 hx.rn.2).e ?_
  refine .inr ?_
  exact bm (And.intro rfl (And.intro (show bY x.i.form≠0 by omega) trivial)) (aj rfl)
 refine⟨fun Y_=>?_,fun Y_=>?_⟩
 ·have hc:bY x.i.form=4:=by rw[show x.i.form=38 from Y_]; rfl
  rw[HP hc]
  refine (bF m x 13 (by decide) (by decide)).e ?_
  refine .inr ?_
  exact bm (And.intro rfl (And.intro (show bY x.i.form≠0 by omega) trivial)) (aj rfl)
 refine⟨fun Za=>?_,fun Za=>?_⟩
 ·have hc:bY x.i.form=4:=by rw[show x.i.form=37 from Za]; rfl
  rw[HP hc]
  refine (bF m x 13 (by decide) (by decide)).e ?_
  refine .inr ?_
  exact bm (And.intro rfl (And.intro (show bY x.i.form≠0 by omega) trivial)) (aj rfl)
 refine⟨fun Zb=>?_,fun Zb=>?_⟩
 ·have hc:bY x.i.form=5:=by rw[show x.i.form=87 from Zb]; rfl
  rw[HQ hc]
  refine (bF m x x.i.rn hx.rn.1 hx.rn.2).e ?_
  refine (bF m x x.i.rm hx.rm.1 hx.rm.2).e ?_
  refine⟨(hx.idx (by omega)).1,.inr ?_⟩
  refine .inr ?_
  exact bm (And.intro rfl (And.intro (show bY x.i.form≠0 by omega) trivial)) (aj rfl)
 refine⟨fun Zc=>?_,fun Zc=>?_⟩
 ·have hc:bY x.i.form=5:=by rw[show x.i.form=86 from Zc]; rfl
  rw[HQ hc]
  refine (bF m x x.i.rn hx.rn.1 hx.rn.2).e ?_
  refine (bF m x x.i.rm hx.rm.1 hx.rm.2).e ?_
  refine⟨(hx.idx (by omega)).1,.inr ?_⟩
  refine .inr ?_
  exact bm (And.intro rfl (And.intro (show bY x.i.form≠0 by omega) trivial)) (aj rfl)
 ·have hc:bY x.i.form=0:=by unfold bY; rw[if_neg (by omega),if_neg (by omega),if_neg (by omega),if_neg (by omega),if_neg (by omega)]
  rw[Uf hc]
  exact bm (And.intro rfl (And.intro (show ¬ bY x.i.form≠0 from fun h=>h hc) trivial)) (aj rfl)
def j8 (x:XS):XS:={ x with taken:=bf x.s x.i.cond }
def cL (f:Int):Int :=
 if f=46\/f=99 then 1 else if f=47\/f=100 then 2 else if f=31 then 3 else if f=45 then 4 else 0
def fU (x:XS):XS :=
 if cL x.i.form=1 then (if bf x.s x.i.cond then cG (j8 x) 15 (IntKind.u32.wrap (an x 15+(IntKind.u32.wrap x.i.az))) else j8 x) else if cL x.i.form=2 then cG x 15 (IntKind.u32.wrap (an x 15+(IntKind.u32.wrap x.i.az))) else if cL x.i.form=3 then jL x (an x x.i.rm) else if cL x.i.form=4 then { x with kind:=2,code:=x.i.az } else x
theorem xU {x:XS} (h:cL x.i.form=1):fU x=(if bf x.s x.i.cond then cG (j8 x) 15 (IntKind.u32.wrap (an x 15+(IntKind.u32.wrap x.i.az))) else j8 x):=by unfold fU; rw[if_pos h]
theorem xW {x:XS} (h:cL x.i.form=2):fU x=cG x 15 (IntKind.u32.wrap (an x 15+(IntKind.u32.wrap x.i.az))):=by unfold fU; rw[if_neg (by omega),if_pos h]
theorem HR {x:XS} (h:cL x.i.form=3):fU x=jL x (an x x.i.rm):=by unfold fU; rw[if_neg (by omega),if_neg (by omega),if_pos h]
theorem HS {x:XS} (h:cL x.i.form=4):fU x = { x with kind:=2,code:=x.i.az }:=by unfold fU; rw[if_neg (by omega),if_neg (by omega),if_neg (by omega),if_pos h]
theorem xX {x:XS} (h:cL x.i.form=0):fU x=x:=by unfold fU; rw[if_neg (by omega),if_neg (by omega),if_neg (by omega),if_neg (by omega)]
theorem HT (m:MS) (x:XS) (hx:lY x):Spec gT 85 [.ptr 3 0] (gU m x) [] fun y S'=>y = .bool (cL x.i.form≠0)/\S'=gU m (fU x):=by
 refine Spec.jS (Spec.enter al P85 100 Tryz.func85 rfl (by kernel_rfl) ?_)
 refine⟨fun Zd=>?_,fun Zd=>?_⟩
 ·have hc:cL x.i.form=1:=by rw[show x.i.form=46 from Zd]; rfl
  rw[xU hc]
  refine (rN x.s x.i.cond).u ?_
  refine⟨fun hn=>?_,fun hp=>?_⟩
  ·rw[if_neg (show ¬ bf x.s x.i.cond from hn)]
   exact bm (show cL x.i.form≠0 by omega) (by first|exact aj rfl|(repeat' first|exact trivial|exact rfl|exact Iff.rfl|exact not_false|refine And.intro ?_ ?_))
  rw[if_pos (Classical.not_not.1 (show ¬ ¬ bf x.s x.i.cond from hp))]
  refine .inr ?_
  refine (bF m (j8 x) 15 (by decide) (by decide)).e ?_
  refine .inr ?_
  refine (bU m (j8 x) 15 (IntKind.u32.wrap (an x 15+(IntKind.u32.wrap x.i.az))) (by decide) (by decide)).e ?_
  exact bm (show cL x.i.form≠0 by omega) (by first|exact aj rfl|(repeat' first|exact trivial|exact rfl|exact Iff.rfl|exact not_false|refine And.intro ?_ ?_))
 refine⟨fun Ze=>?_,fun Ze=>?_⟩
 ·have hc:cL x.i.form=1:=by rw[show x.i.form=99 from Ze]; rfl
  rw[xU hc]
  refine (rN x.s x.i.cond).u ?_
  refine⟨fun hn=>?_,fun hp=>?_⟩
  ·rw[if_neg (show ¬ bf x.s x.i.cond from hn)]
   exact bm (show cL x.i.form≠0 by omega) (by first|exact aj rfl|(repeat' first|exact trivial|exact rfl|exact Iff.rfl|exact not_false|refine And.intro ?_ ?_))
  rw[if_pos (Classical.not_not.1 (show ¬ ¬ bf x.s x.i.cond from hp))]
  refine .inr ?_
  refine (bF m (j8 x) 15 (by decide) (by decide)).e ?_
  refine .inr ?_
  refine (bU m (j8 x) 15 (IntKind.u32.wrap (an x 15+(IntKind.u32.wrap x.i.az))) (by decide) (by decide)).e ?_
  exact bm (show cL x.i.form≠0 by omega) (by first|exact aj rfl|(repeat' first|exact trivial|exact rfl|exact Iff.rfl|exact not_false|refine And.intro ?_ ?_))
 refine⟨fun Zf=>?_,fun Zf=>?_⟩
 ·have hc:cL x.i.form=2:=by rw[show x.i.form=47 from Zf]; rfl
  rw[xW hc]
  refine .inr ?_
  refine (bF m x 15 (by decide) (by decide)).e ?_
  refine .inr ?_
  refine (bU m x 15 (IntKind.u32.wrap (an x 15+(IntKind.u32.wrap x.i.az))) (by decide) (by decide)).e ?_
  exact bm (show cL x.i.form≠0 by omega) (by first|exact aj rfl|(repeat' first|exact trivial|exact rfl|exact Iff.rfl|exact not_false|refine And.intro ?_ ?_))
 refine⟨fun HU=>?_,fun HU=>?_⟩
 ·have hc:cL x.i.form=2:=by rw[show x.i.form=100 from HU]; rfl
  rw[xW hc]
  refine .inr ?_
  refine (bF m x 15 (by decide) (by decide)).e ?_
  refine .inr ?_
  refine (bU m x 15 (IntKind.u32.wrap (an x 15+(IntKind.u32.wrap x.i.az))) (by decide) (by decide)).e ?_
  exact bm (show cL x.i.form≠0 by omega) (by first|exact aj rfl|(repeat' first|exact trivial|exact rfl|exact Iff.rfl|exact not_false|refine And.intro ?_ ?_))
 refine⟨fun HV=>?_,fun HV=>?_⟩
 ·have hc:cL x.i.form=3:=by rw[show x.i.form=31 from HV]; rfl
  rw[HR hc]
  refine (bF m x x.i.rm hx.rm.1 hx.rm.2).e ?_
  refine (Bm m x (an x x.i.rm)).e ?_
  exact bm (show cL x.i.form≠0 by omega) (by first|exact aj rfl|(repeat' first|exact trivial|exact rfl|exact Iff.rfl|exact not_false|refine And.intro ?_ ?_))
 refine⟨fun h45=>?_,fun h45=>?_⟩
 ·have hc:cL x.i.form=4:=by rw[show x.i.form=45 from h45]; rfl
  rw[HS hc]
  exact bm (show cL x.i.form≠0 by omega) (by first|exact aj rfl|(repeat' first|exact trivial|exact rfl|exact Iff.rfl|exact not_false|refine And.intro ?_ ?_))
 ·have hc:cL x.i.form=0:=by unfold cL; rw[if_neg (by omega),if_neg (by omega),if_neg (by omega),if_neg (by omega)]
  rw[xX hc]
  exact bm (show ¬ cL x.i.form≠0 from fun h=>h hc) (by first|exact aj rfl|(repeat' first|exact trivial|exact rfl|exact Iff.rfl|exact not_false|refine And.intro ?_ ?_))
def n7 (w:Nat->Int) (k:Nat):PV:=.int .u8 (kl (w (k / 4)) (k % 4))
theorem Bp (w:Nat->Int):g_ w=(List.range 65536).map (n7 w):=rfl
theorem n8 (w:Nat->Int):(g_ w).length=65536:=by rw[Bp,List.length_map,List.length_range]
theorem xY (w:Nat->Int) (k:Nat):(g_ w)[k]?=if k < 65536 then some (n7 w k) else none:=by
 rw[Bp,List.getElem?_map]
 split
 ·rename_i h; rw[List.getElem?_range h]; rfl
 ·rename_i h; rw[List.getElem?_eq_none (by rw[List.length_range]; omega)]; rfl
def sY (w:Nat->Int) (j:Nat) (x:Int):Nat->Int:=fun m=>if m=j then x else w m
theorem HW (w:Nat->Int) (j:Nat) (x:Int) (hj:j < 16384) :
  ((((g_ w).set (4*j) (.int .u8 (kl x 0))).set (4*j+1) (.int .u8 (kl x 1))).set (4*j+2) (.int .u8 (kl x 2))).set (4*j+3) (.int .u8 (kl x 3))=g_ (sY w j x):=by
 refine List.ext_getElem? fun k=>?_
 simp only[List.getElem?_set,List.length_set,n8,xY]
 have e:∀ r:Nat,r < 4->n7 (sY w j x) (4*j+r) = .int .u8 (kl x r):=fun r hr=>by
  unfold n7 sY
  rw[if_pos (by omega),show (4*j+r) % 4=r by omega]
 by_cases h0:k=4*j
 ·subst h0; simp[show 4*j < 65536 by omega]; exact (e 0 (by omega)).symm
 by_cases h1:k=4*j+1
 ·subst h1; simp[show 4*j+1 < 65536 by omega]; exact (e 1 (by omega)).symm
 by_cases h2:k=4*j+2
 ·subst h2; simp[show 4*j+2 < 65536 by omega]; exact (e 2 (by omega)).symm
 by_cases h3:k=4*j+3
 ·subst h3; simp[show 4*j+3 < 65536 by omega]; exact (e 3 (by omega)).symm
 rw[if_neg (by omega),if_neg (by omega),if_neg (by omega),if_neg (by omega)]
 split
 ·have:n7 (sY w j x) k=n7 w k:=by unfold n7 sY; rw[if_neg (by omega)]
  rw[this]
 ·rfl
theorem vx (x:Int) (k:Nat):0<=kl x k/\kl x k<=255:=by unfold kl; omega
theorem Mj (x:Int) (h:a_ x):kl x 0+kl x 1*256+kl x 2*65536+kl x 3*16777216=x:=by
 unfold a_ at h
 show x / 1 % 256+x / 256 % 256*256+x / 65536 % 256*65536+x / 16777216 % 256*16777216=x
 omega
theorem xZ (a b c d:Int) (ha:0<=a/\a<=255) (hb:0<=b/\b<=255) (hc:0<=c/\c<=255) (hd:0<=d/\d<=255) :
  bits .or .u32 (bits .or .u32 (bits .or .u32 (bits .or .u32 0 a) (b*256)) (c*65536)) (d*16777216)=a+b*256+c*65536+d*16777216:=by
 have h0:=(gE 0 a 0 (by decide) (by decide) (show 0<=a/\a*1<=_ by omega)).1
 have h1:=(gE a b 8 (by decide) (show 0<=a/\a < 256 by omega) (show 0<=b/\b*256<=_ by omega)).1
 have h2:=(gE (a+b*256) c 16 (by decide) (show 0<=_/\_ < (65536:Int) by omega) (show 0<=c/\c*65536<=_ by omega)).1
 have h3:=(gE (a+b*256+c*65536) d 24 (by decide) (show 0<=_/\_ < (16777216:Int) by omega) (show 0<=d/\d*16777216<=_ by omega)).1
 replace h0:bits .or .u32 0 (a*1)=0+a*1:=h0
 replace h1:bits .or .u32 a (b*256)=a+b*256:=h1
 replace h2:bits .or .u32 (a+b*256) (c*65536)=a+b*256+c*65536:=h2
 replace h3:bits .or .u32 (a+b*256+c*65536) (d*16777216)=a+b*256+c*65536+d*16777216:=h3
 rw[Int.mul_one,Int.zero_add] at h0
 rw[h0,h1,h2,h3]
def dH (at_:Int):Prop:=536870912<=at_/\at_<=536936444
instance (a:Int):Decidable (dH a):=by unfold dH; infer_instance
def iL (fl:List Int) (at_ n:Int):Prop:=134217728<=at_/\at_ - 134217728+n<=fl.length
instance (fl:List Int) (a n:Int):Decidable (iL fl a n):=by unfold iL; infer_instance
def c8 (at_:Int):Nat:=(at_ - 134217728).toNat
def sZ (at_:Int):Nat:=(at_ - 536870912).toNat / 4
def jr (fl:List Int) (at_:Int):Int:=if at_ % 4≠0 then 60 else if dH at_ then 0 else if iL fl at_ 4 then 0 else 61
def t_ (fl:List Int) (w:Nat->Int) (at_:Int):Int:=if at_ % 4≠0 then 0 else if dH at_ then w (sZ at_) else if iL fl at_ 4 then hN fl (c8 at_)+hN fl (c8 at_+2)*65536 else 0
def jT (at_:Int):Int:=if at_ % 4≠0 then 60 else if 134217728<=at_/\at_ < 134283264 then 62 else if dH at_ then 0 else 61
def yx (w:Nat->Int) (at_ x:Int):Nat->Int:=if jT at_=0 then sY w (sZ at_) x else w
def o9 (fl:List Int) (at_:Int):Int:=if at_ % 2≠0 then 60 else if iL fl at_ 2 then 0 else 61
def km (fl:List Int) (at_:Int):Int:=if at_ % 2≠0 then 0 else if iL fl at_ 2 then hN fl (c8 at_) else 0
def yr (w:Nat->Int) (fl:List Int):List ak:=[Hq w,Uc fl]
theorem cut4 {l:List Int} {i:Nat} (h:i+4<=l.length):((gz l).drop i).take 4 = [.int .u8 (l.getD i 0),.int .u8 (l.getD (i+1) 0),.int .u8 (l.getD (i+2) 0),.int .u8 (l.getD (i+3) 0)]:=by
 refine List.ext_getElem? fun k=>?_
 have g:∀ j,j < l.length->l[j]?=some (l.getD j 0):=fun j hj=>by rw[List.getD_eq_getElem?_getD,List.getElem?_eq_getElem hj]; rfl
 rw[List.getElem?_take]
 split
 ·rw[List.getElem?_drop,gz,List.getElem?_map,g _ (by omega)]
  match k,‹k < 4› with
  | 0,_=>rfl
  | 1,_=>rfl
  | 2,_=>rfl
  | 3,_=>rfl
 ·rw[List.getElem?_eq_none]; simp; omega
theorem cut2 {l:List Int} {i:Nat} (h:i+2<=l.length):((gz l).drop i).take 2 = [.int .u8 (l.getD i 0),.int .u8 (l.getD (i+1) 0)]:=by
 refine List.ext_getElem? fun k=>?_
 have g:∀ j,j < l.length->l[j]?=some (l.getD j 0):=fun j hj=>by rw[List.getD_eq_getElem?_getD,List.getElem?_eq_getElem hj]; rfl
 rw[List.getElem?_take]
 split
 ·rw[List.getElem?_drop,gz,List.getElem?_map,g _ (by omega)]
  match k,‹k < 2› with
  | 0,_=>rfl
  | 1,_=>rfl
 ·rw[List.getElem?_eq_none]; simp; omega
theorem ua (fl:List Int) (at_:Int) (n:Nat) (hn:n=2\/n=4) (ha:a_ at_) (hl:fl.length<=65536) (h:iL fl at_ n) :
  ai gT 38 [.sl 1 (gz fl),.int .u32 134217728,.int .u32 at_,.int .i64 n] (.sl 1 (((gz fl).drop (c8 at_)).take n)):=by
 have el:(gz fl).length=fl.length:=List.length_map ..
 obtain⟨h1,h2⟩:=h
 unfold a_ at ha
 refine Spec.enter al P38 100 Tryz.func38 rfl (by kernel_rfl) ?_
 refine⟨fun h=>absurd (show at_ < 134217728 from h) (by omega),fun _=>?_⟩
 refine lu ?_ (show _<=at_ - 134217728/\at_ - 134217728<=_ by omega)
 refine li ?_ (show _<=at_ - 134217728/\at_ - 134217728<=_ by omega)
 refine fun hm=>?_
 refine li ?_ (show _<=(((gz fl).length:Nat):Int) - (n:Int)/\(((gz fl).length:Nat):Int) - (n:Int)<=_ by omega)
 refine⟨fun h=>absurd (show (((gz fl).length:Nat):Int) - (n:Int) < at_ - 134217728 from h) (by omega),fun _=>?_⟩
 refine lu ?_ (show _<=at_ - 134217728/\at_ - 134217728<=_ by omega)
 refine li ?_ (show _<=at_ - 134217728/\at_ - 134217728<=_ by omega)
 refine li ?_ (show _<=at_ - 134217728+(n:Int)/\at_ - 134217728+(n:Int)<=_ by omega)
 refine⟨show 0<=at_ - 134217728 by omega,show at_ - 134217728<=at_ - 134217728+(n:Int) by omega,show at_ - 134217728+(n:Int)<=(((gz fl).length:Nat):Int) by omega,?_⟩
 refine aw ?_
 show List.take (at_ - 134217728+(n:Int) - (at_ - 134217728)).toNat (List.drop (at_ - 134217728).toNat (gz fl))=_
 rw[show (at_ - 134217728+(n:Int) - (at_ - 134217728)).toNat=n by omega]; rfl
theorem ub (fl:List Int) (at_:Int) (n:Nat) (hn:n=2\/n=4) (ha:a_ at_) (hl:fl.length<=65536) (h:¬ iL fl at_ n) :
  ai gT 38 [.sl 1 (gz fl),.int .u32 134217728,.int .u32 at_,.int .i64 n] .nil:=by
 have el:(gz fl).length=fl.length:=List.length_map ..
 unfold iL at h
 unfold a_ at ha
 refine Spec.enter al P38 100 Tryz.func38 rfl (by kernel_rfl) ?_
 refine⟨fun h=>?_,fun h0=>?_⟩
 ·exact aw trivial
 have h0':¬ at_ < 134217728:=h0
 refine lu ?_ (show _<=at_ - 134217728/\at_ - 134217728<=_ by omega)
 refine li ?_ (show _<=at_ - 134217728/\at_ - 134217728<=_ by omega)
 refine fun hm=>?_
 refine li ?_ (show _<=(((gz fl).length:Nat):Int) - (n:Int)/\(((gz fl).length:Nat):Int) - (n:Int)<=_ by omega)
 refine⟨fun h=>?_,fun h1=>absurd (show ¬ (((gz fl).length:Nat):Int) - (n:Int) < at_ - 134217728 from h1) (by omega)⟩
 exact aw trivial
theorem Bq (w:Nat->Int) (fl:List Int) (at_:Int) (ha:a_ at_) (hb:Bg fl) (hl:fl.length<=65536):Spec gT 72 [.ptr 1 0,.int .u32 at_] (yr w fl) [] fun y S'=>y = .tup [.int .u32 (km fl at_),.int .i64 (o9 fl at_)]/\S'=yr w fl:=by
 refine Spec.jS (Spec.enter al P72 100 Tryz.func72 rfl (by kernel_rfl) ?_)
 refine And.intro (show (2:Int)≠0 by decide) (.inl ⟨ha.1,show (0:Int) < 2 by decide,?_⟩)
 refine⟨fun h=>?_,fun h=>?_⟩
 ·have h':at_ % 2≠0:=h
  have e1:km fl at_=0:=by unfold km; rw[if_pos h']
  have e2:o9 fl at_=60:=by unfold o9; rw[if_pos h']
  rw[e1,e2]
  exact rS
 have h':¬ at_ % 2≠0:=h
 by_cases hf:iL fl at_ 2
 ·have e1:km fl at_=hN fl (c8 at_):=by unfold km; rw[if_neg h',if_pos hf]
  have e2:o9 fl at_=0:=by unfold o9; rw[if_neg h',if_pos hf]
  rw[e1,e2]
  have hw:=ua fl at_ 2 (.inl rfl) ha hl hf
  have Al:c8 at_+2<=fl.length:=by obtain⟨q1,q2⟩:=hf; unfold c8; omega
  rw[cut2 Al] at hw
  have b0:=e8 hb (c8 at_)
  have b1:=e8 hb (c8 at_+1)
  unfold hN
  generalize fl.getD (c8 at_) 0=p at hw b0 ⊢
  generalize fl.getD (c8 at_+1) 0=q at hw b1 ⊢
  refine hw.u ?_
  refine .inl ⟨show 2≠0 by decide,?_⟩
  refine⟨Int,[p,q],PV.int .u8,rfl,show (0:Int)<=0 by decide,show (0:Int) < 2 by decide,fun x hx=>?_⟩
  obtain rfl:p=x:=Option.some.inj hx
  refine⟨Int,[p,q],PV.int .u8,rfl,show (0:Int)<=1 by decide,show (1:Int) < 2 by decide,fun x hx=>?_⟩
  obtain rfl:q=x:=Option.some.inj hx
  refine lu ?_ (show 0<=p/\p<=_ by omega)
  refine lu ?_ (show 0<=q/\q<=_ by omega)
  refine⟨by decide,.inl ⟨ah (show 0<=q*256/\q*256<=_ by omega),?_⟩⟩
  have e:bits .or .u32 p (q*256)=p+q*256:=(gE p q 8 (by decide) (show 0<=p/\p < 256 by omega) (show 0<=q/\q*256<=_ by omega)).1
  exact bm (And.intro e (And.intro rfl trivial)) (aj rfl)
 ·have e1:km fl at_=0:=by unfold km; rw[if_neg h',if_neg hf]
  have e2:o9 fl at_=61:=by unfold o9; rw[if_neg h',if_neg hf]
  rw[e1,e2]
  refine (ub fl at_ 2 (.inl rfl) ha hl hf).u ?_
  exact rS
theorem HX (l o n:Nat):kt (.ref l o n) (.ref l o n):=by
 show (if (Nat.beq l l && Nat.beq o o && Nat.beq n n)=true then True else False)
 rw[if_pos (by simp only[Nat.beq_refl,Bool.and_self])]; trivial
def zQ (at_:Int):Nat:=(at_ - 536870912).toNat
theorem Ml {at_:Int} (h:dH at_):at_=((zQ at_:Nat):Int)+536870912/\zQ at_<=65532:=by
 obtain⟨a,b⟩:=h
 unfold zQ; omega
theorem jn (w:Nat->Int) (fl:List Int) (at_:Int) (ha:a_ at_) (h:¬ dH at_) (h4:at_ % 4=0):Spec gT 38 [.wref 0,.int .u32 536870912,.int .u32 at_,.int .i64 4] (yr w fl) [] fun y S'=>y = .nil/\S'=yr w fl:=by
 have el:=n8 w
 unfold dH at h
 unfold a_ at ha
 refine Spec.jS (Spec.enter al P38 100 Tryz.func38 rfl (by kernel_rfl) ?_)
 refine⟨fun h=>?_,fun h0=>?_⟩
 ·exact rS
 have h0':¬ at_ < 536870912:=h0
 refine lu ?_ (show _<=at_ - 536870912/\at_ - 536870912<=_ by omega)
 refine li ?_ (show _<=at_ - 536870912/\at_ - 536870912<=_ by omega)
 refine fun hm=>?_
 refine li ?_ (show _<=(((g_ w).length:Nat):Int) - 4/\(((g_ w).length:Nat):Int) - 4<=_ by rw[el]; decide)
 refine⟨fun h=>?_,fun h1=>absurd (show ¬ (((g_ w).length:Nat):Int) - 4 < at_ - 536870912 from h1) (by rw[el]; omega)⟩
 exact rS
theorem lf (w:Nat->Int) (fl:List Int) (at_:Int) (ha:a_ at_) (h:dH at_):Spec gT 38 [.wref 0,.int .u32 536870912,.int .u32 at_,.int .i64 4] (yr w fl) [] fun y S'=>y = .ref 0 (zQ at_) 4/\S'=yr w fl:=by
 have el:=n8 w
 obtain⟨e,hle⟩:=Ml h
 unfold a_ at ha
 generalize zQ at_=o at e hle ⊢
 subst e
 refine Spec.jS (Spec.enter al P38 100 Tryz.func38 rfl (by kernel_rfl) ?_)
 refine⟨fun h=>absurd (show (o:Int)+536870912 < 536870912 from h) (by omega),fun _=>?_⟩
 refine lu ?_ (show _<=(o:Int)+536870912 - 536870912/\(o:Int)+536870912 - 536870912<=_ by omega)
 refine li ?_ (show _<=(o:Int)+536870912 - 536870912/\(o:Int)+536870912 - 536870912<=_ by omega)
 refine fun hm=>?_
 refine li ?_ (show _<=(((g_ w).length:Nat):Int) - 4/\(((g_ w).length:Nat):Int) - 4<=_ by rw[el]; decide)
 refine⟨fun h1=>absurd (show (((g_ w).length:Nat):Int) - 4 < (o:Int)+536870912 - 536870912 from h1) (by rw[el]; omega),fun _=>?_⟩
 refine lu ?_ (show _<=(o:Int)+536870912 - 536870912/\(o:Int)+536870912 - 536870912<=_ by omega)
 refine li ?_ (show _<=(o:Int)+536870912 - 536870912/\(o:Int)+536870912 - 536870912<=_ by omega)
 refine li ?_ (show _<=(o:Int)+536870912 - 536870912+4/\(o:Int)+536870912 - 536870912+4<=_ by omega)
 refine⟨o,o+4,show (o:Int)+536870912 - 536870912=(o:Int) by omega,show (o:Int)+536870912 - 536870912+4=((o+4:Nat):Int) by omega,by omega,show o+4<=(g_ w).length by rw[el]; omega,show o < (g_ w).length by rw[el]; omega,?_⟩
 exact bm (show kt (.ref 0 (o*1) (o+4 - o)) (.ref 0 o 4) by rw[Nat.mul_one,Nat.add_sub_cancel_left]; exact HX _ _ _) (aj rfl)
theorem qg (w:Nat->Int) (j r:Nat) (hr:r < 4):n7 w (4*j+r) = .int .u8 (kl (w j) r):=by
 unfold n7; rw[show (4*j+r) / 4=j by omega,show (4*j+r) % 4=r by omega]
theorem H' (w:Nat->Int) (fl:List Int) (j:Nat) (hj:j < 16384) (hw:a_ (w j)):Spec gT 93 [.ref 0 (4*j) 4] (yr w fl) [] fun y S'=>y = .int .u32 (w j)/\S'=yr w fl:=by
 have el:(List.range 65536).length=65536:=List.length_range
 have hg:∀ r x:Nat,r < 4->(List.range 65536)[4*j+r]?=some x->x=4*j+r:=fun r x hr hx=>by
  rw[List.getElem?_range (by omega)] at hx; exact (Option.some.inj hx).symm
 have e0:=qg w j 0 (by decide)
 have e1:=qg w j 1 (by decide)
 have e2:=qg w j 2 (by decide)
 have e3:=qg w j 3 (by decide)
 have b0:=vx (w j) 0
 have b1:=vx (w j) 1
 have b2:=vx (w j) 2
 have b3:=vx (w j) 3
 have hsum:=Mj (w j) hw
 have d0:mX 0=1:=rfl
 have d1:mX 1=256:=rfl
 have d2:mX 2=65536:=rfl
 have d3:mX 3=16777216:=rfl
 refine Spec.jS (Spec.enter al P93 100 Tryz.func93 rfl (by kernel_rfl) ?_)
 refine SW.rounds al P93 (by kernel_rfl) (N:=60) 5 ?_
 refine⟨Nat,List.range 65536,n7 w,rfl,show 4*j+0 < (List.range 65536).length by rw[el]; omega,fun x hx=>?_⟩
 obtain rfl:=hg 0 x (by decide) hx
 rw[e0]
 refine lu ?_ (show 0<=kl (w j) 0/\kl (w j) 0<=_ by omega)
 refine⟨by decide,.inl ⟨ah (show 0<=kl (w j) 0*mX 0/\kl (w j) 0*mX 0<=_ by rw[d0]; omega),?_⟩⟩
 refine⟨Nat,List.range 65536,n7 w,rfl,show 4*j+1 < (List.range 65536).length by rw[el]; omega,fun x hx=>?_⟩
 obtain rfl:=hg 1 x (by decide) hx
 rw[e1]
 refine lu ?_ (show 0<=kl (w j) 1/\kl (w j) 1<=_ by omega)
 refine⟨by decide,.inl ⟨ah (show 0<=kl (w j) 1*mX 1/\kl (w j) 1*mX 1<=_ by rw[d1]; omega),?_⟩⟩
 refine⟨Nat,List.range 65536,n7 w,rfl,show 4*j+2 < (List.range 65536).length by rw[el]; omega,fun x hx=>?_⟩
 obtain rfl:=hg 2 x (by decide) hx
 rw[e2]
 refine lu ?_ (show 0<=kl (w j) 2/\kl (w j) 2<=_ by omega)
 refine⟨by decide,.inl ⟨ah (show 0<=kl (w j) 2*mX 2/\kl (w j) 2*mX 2<=_ by rw[d2]; omega),?_⟩⟩
 refine⟨Nat,List.range 65536,n7 w,rfl,show 4*j+3 < (List.range 65536).length by rw[el]; omega,fun x hx=>?_⟩
 obtain rfl:=hg 3 x (by decide) hx
 rw[e3]
 refine lu ?_ (show 0<=kl (w j) 3/\kl (w j) 3<=_ by omega)
 refine⟨by decide,.inl ⟨ah (show 0<=kl (w j) 3*mX 3/\kl (w j) 3*mX 3<=_ by rw[d3]; omega),?_⟩⟩
 exact bm (show bits .or .u32 (bits .or .u32 (bits .or .u32 (bits .or .u32 0 (kl (w j) 0*1)) (kl (w j) 1*256)) (kl (w j) 2*65536)) (kl (w j) 3*16777216)=w j by rw[Int.mul_one,xZ _ _ _ _ b0 b1 b2 b3,hsum]) (aj rfl)
theorem Mm (a b c d:Int) (ha:0<=a/\a<=255) (hb:0<=b/\b<=255) (hc:0<=c/\c<=255) (hd:0<=d/\d<=255):ai gT 93 [.sl 1 [.int .u8 a,.int .u8 b,.int .u8 c,.int .u8 d]] (.int .u32 (a+b*256+c*65536+d*16777216)):=by
 have d0:mX 0=1:=rfl
 have d1:mX 1=256:=rfl
 have d2:mX 2=65536:=rfl
 have d3:mX 3=16777216:=rfl
 refine Spec.enter al P93 100 Tryz.func93 rfl (by kernel_rfl) ?_
 refine fun _=>?_
 refine SW.rounds al P93 (by kernel_rfl) (N:=60) 5 ?_
 refine⟨fun _=>?_,fun h=>absurd (show (0:Int) < 4 by decide) h⟩
 refine⟨Int,[a,b,c,d],PV.int .u8,rfl,show (0:Int)<=0 by decide,show (0:Int) < 4 by decide,fun x hx=>?_⟩
 obtain rfl:a=x:=Option.some.inj hx
 refine lu ?_ (show 0<=a/\a<=_ by omega)
 refine⟨by decide,.inl ⟨ah (show 0<=a*mX 0/\a*mX 0<=_ by rw[d0]; omega),?_⟩⟩
 refine⟨fun _=>?_,fun h=>absurd (show (1:Int) < 4 by decide) h⟩
 refine⟨Int,[a,b,c,d],PV.int .u8,rfl,show (0:Int)<=1 by decide,show (1:Int) < 4 by decide,fun x hx=>?_⟩
 obtain rfl:b=x:=Option.some.inj hx
 refine lu ?_ (show 0<=b/\b<=_ by omega)
 refine⟨by decide,.inl ⟨ah (show 0<=b*mX 1/\b*mX 1<=_ by rw[d1]; omega),?_⟩⟩
 refine⟨fun _=>?_,fun h=>absurd (show (2:Int) < 4 by decide) h⟩
 refine⟨Int,[a,b,c,d],PV.int .u8,rfl,show (0:Int)<=2 by decide,show (2:Int) < 4 by decide,fun x hx=>?_⟩
 obtain rfl:c=x:=Option.some.inj hx
 refine lu ?_ (show 0<=c/\c<=_ by omega)
 refine⟨by decide,.inl ⟨ah (show 0<=c*mX 2/\c*mX 2<=_ by rw[d2]; omega),?_⟩⟩
 refine⟨fun _=>?_,fun h=>absurd (show (3:Int) < 4 by decide) h⟩
 refine⟨Int,[a,b,c,d],PV.int .u8,rfl,show (0:Int)<=3 by decide,show (3:Int) < 4 by decide,fun x hx=>?_⟩
 obtain rfl:d=x:=Option.some.inj hx
 refine lu ?_ (show 0<=d/\d<=_ by omega)
 refine⟨by decide,.inl ⟨ah (show 0<=d*mX 3/\d*mX 3<=_ by rw[d3]; omega),?_⟩⟩
 refine⟨fun h=>absurd (show (4:Int) < 4 from h) (by decide),fun _=>?_⟩
 refine aw ?_
 show bits .or .u32 (bits .or .u32 (bits .or .u32 (bits .or .u32 0 (a*1)) (b*256)) (c*65536)) (d*16777216)=_
 rw[Int.mul_one,xZ _ _ _ _ ha hb hc hd]
theorem Ug {fl:List Int} {a:Int} (h:a % 4≠0):jr fl a=60:=by unfold jr; rw[if_pos h]
theorem Mn {fl:List Int} {a:Int} (h:¬ a % 4≠0) (h1:dH a):jr fl a=0:=by unfold jr; rw[if_neg h,if_pos h1]
theorem Uh {fl:List Int} {a:Int} (h:¬ a % 4≠0) (h1:¬ dH a) (h2:iL fl a 4):jr fl a=0:=by unfold jr; rw[if_neg h,if_neg h1,if_pos h2]
theorem Ui {fl:List Int} {a:Int} (h:¬ a % 4≠0) (h1:¬ dH a) (h2:¬ iL fl a 4):jr fl a=61:=by unfold jr; rw[if_neg h,if_neg h1,if_neg h2]
theorem Uj {fl:List Int} {w:Nat->Int} {a:Int} (h:a % 4≠0):t_ fl w a=0:=by unfold t_; rw[if_pos h]
theorem Mo {fl:List Int} {w:Nat->Int} {a:Int} (h:¬ a % 4≠0) (h1:dH a):t_ fl w a=w (sZ a):=by unfold t_; rw[if_neg h,if_pos h1]
theorem Uk {fl:List Int} {w:Nat->Int} {a:Int} (h:¬ a % 4≠0) (h1:¬ dH a) (h2:iL fl a 4):t_ fl w a=hN fl (c8 a)+hN fl (c8 a+2)*65536:=by unfold t_; rw[if_neg h,if_neg h1,if_pos h2]
theorem Ul {fl:List Int} {w:Nat->Int} {a:Int} (h:¬ a % 4≠0) (h1:¬ dH a) (h2:¬ iL fl a 4):t_ fl w a=0:=by unfold t_; rw[if_neg h,if_neg h1,if_neg h2]
theorem NS {a:Int} (h:¬ a % 4≠0) (h1:dH a):zQ a=4*sZ a/\sZ a < 16384:=by
 obtain⟨q1,q2⟩:=h1
 unfold zQ sZ
 have:a % 4=0:=Classical.not_not.1 h
 omega
theorem Br (w:Nat->Int) (fl:List Int) (at_:Int) (ha:a_ at_) (hb:Bg fl) (hl:fl.length<=65536) (hw:∀ k,a_ (w k)):Spec gT 106 [.ptr 1 0,.int .u32 at_] (yr w fl) [] fun y S'=>y = .tup [.int .u32 (t_ fl w at_),.int .i64 (jr fl at_)]/\S'=yr w fl:=by
 refine Spec.jS (Spec.enter al P106 100 Tryz.func106 rfl (by kernel_rfl) ?_)
 refine And.intro (show (4:Int)≠0 by decide) (.inl ⟨ha.1,show (0:Int) < 4 by decide,?_⟩)
 refine⟨fun h=>?_,fun h=>?_⟩
 ·rw[Ug h,Uj h]
  exact rS
 have h4:¬ at_ % 4≠0:=h
 by_cases hr:dH at_
 ·obtain⟨e,hj⟩:=NS h4 hr
  have hy:=lf w fl at_ ha hr
  rw[e] at hy
  rw[Mn h4 hr,Mo h4 hr]
  refine (hy).e ?_
  refine⟨[],bn,(H' w fl (sZ at_) hj (hw _)).uY rfl rfl rfl rfl ⟨HX _ _ _,trivial⟩ (And.intro (bj rfl rfl) (And.intro (bj rfl rfl) ?_))⟩
  exact rS
 ·refine (jn w fl at_ ha hr (Classical.not_not.1 h4)).e ?_
  by_cases hf:iL fl at_ 4
  ·rw[Uh h4 hr hf,Uk h4 hr hf]
   have hy:=ua fl at_ 4 (.inr rfl) ha hl hf
   have Al:c8 at_+4<=fl.length:=by obtain⟨q1,q2⟩:=hf; unfold c8; omega
   rw[cut4 Al] at hy
   have b0:=e8 hb (c8 at_)
   have b1:=e8 hb (c8 at_+1)
   have b2:=e8 hb (c8 at_+2)
   have b3:=e8 hb (c8 at_+3)
   have e:hN fl (c8 at_)+hN fl (c8 at_+2)*65536=fl.getD (c8 at_) 0+fl.getD (c8 at_+1) 0*256+fl.getD (c8 at_+2) 0*65536+fl.getD (c8 at_+3) 0*16777216:=by unfold hN; rw[show c8 at_+2+1=c8 at_+3 by omega]; omega
   rw[e]
   have hz:=Mm _ _ _ _ b0 b1 b2 b3
   refine hy.u ?_
   refine .inl ⟨show 4≠0 by decide,?_⟩
   refine hz.u ?_
   exact rS
  ·rw[Ui h4 hr hf,Ul h4 hr hf]
   refine (ub fl at_ 4 (.inr rfl) ha hl hf).u ?_
   exact rS
theorem H_ {a:Int} (h:a % 4≠0):jT a=60:=by unfold jT; rw[if_pos h]
theorem Ia {a:Int} (h:¬ a % 4≠0) (h1:134217728<=a/\a < 134283264):jT a=62:=by unfold jT; rw[if_neg h,if_pos h1]
theorem Ib {a:Int} (h:¬ a % 4≠0) (h2:dH a):jT a=0:=by unfold jT; rw[if_neg h,if_neg (by obtain⟨q1,q2⟩:=h2; omega),if_pos h2]
theorem Ic {a:Int} (h:¬ a % 4≠0) (h1:¬ (134217728<=a/\a < 134283264)) (h2:¬ dH a):jT a=61:=by unfold jT; rw[if_neg h,if_neg h1,if_neg h2]
theorem vy {w:Nat->Int} {a x:Int} (h:jT a≠0):yx w a x=w:=by unfold yx; rw[if_neg h]
theorem Um {w:Nat->Int} {a x:Int} (h:jT a=0):yx w a x=sY w (sZ a) x:=by unfold yx; rw[if_pos h]
theorem qh (x:Int) (k:Nat):IntKind.u8.wrap (x / mX k)=kl x k:=IntKind.wrap_u8' _
theorem jM (w:Nat->Int) (fl:List Int) (at_ x:Int) (ha:a_ at_):Spec gT 12 [.ptr 1 0,.int .u32 at_,.int .u32 x] (yr w fl) [] fun y S'=>y = .int .i64 (jT at_)/\S'=yr (yx w at_ x) fl:=by
 have el:=n8 w
 refine Spec.jS (Spec.enter al P12 100 Tryz.func12 rfl (by kernel_rfl) ?_)
 refine And.intro (show (4:Int)≠0 by decide) (.inl ⟨ha.1,show (0:Int) < 4 by decide,?_⟩)
 refine⟨fun h=>?_,fun h=>?_⟩
 ·rw[vy (by rw[H_ h]; decide),H_ h]
  exact rS
 have h4:¬ at_ % 4≠0:=h
 by_cases hf:134217728<=at_/\at_ < 134283264
 ·rw[vy (by rw[Ia h4 hf]; decide),Ia h4 hf]
  refine⟨fun _=>?_,fun h=>absurd hf.1 h⟩
  refine⟨fun _=>?_,fun h=>absurd hf.2 h⟩
  exact rS
 by_cases hr:dH at_
 ·obtain⟨e,hj⟩:=NS h4 hr
  have hy:=lf w fl at_ ha hr
  rw[e] at hy
  rw[Um (Ib h4 hr),Ib h4 hr]
  have pM:=HW w (sZ at_) x hj
  generalize sZ at_=j at hj hy pM ⊢
  refine⟨fun _=>?_,fun h=>absurd (show 134217728<=at_ by have:=hr.1; omega) h⟩
  refine⟨fun h=>absurd h (show ¬ at_ < 134283264 by have:=hr.1; omega),fun _=>?_⟩
  refine (hy).e ?_
  refine SW.rounds al P12 (by kernel_rfl) (N:=60) 5 ?_
  refine⟨by decide,.inr ?_⟩
  refine⟨show 4*j+0 < (g_ w).length by rw[el]; omega,?_⟩
  refine⟨by decide,.inr ?_⟩
  refine⟨show 4*j+1 < ((g_ w).set (4*j+0) _).length by rw[List.length_set,el]; omega,?_⟩
  refine⟨by decide,.inr ?_⟩
  refine⟨show 4*j+2 < (((g_ w).set (4*j+0) _).set (4*j+1) _).length by rw[List.length_set,List.length_set,el]; omega,?_⟩
  refine⟨by decide,.inr ?_⟩
  refine⟨show 4*j+3 < ((((g_ w).set (4*j+0) _).set (4*j+1) _).set (4*j+2) _).length by rw[List.length_set,List.length_set,List.length_set,el]; omega,?_⟩
  refine bm rfl (And.intro ?_ (And.intro (bj rfl rfl) trivial))
  show ((((g_ w).set (4*j) (.int .u8 (IntKind.u8.wrap (x / mX 0)))).set (4*j+1) (.int .u8 (IntKind.u8.wrap (x / mX 1)))).set (4*j+2) (.int .u8 (IntKind.u8.wrap (x / mX 2)))).set (4*j+3) (.int .u8 (IntKind.u8.wrap (x / mX 3)))=g_ (sY w j x)
  rw[qh,qh,qh,qh]
  exact pM
 ·rw[vy (by rw[Ic h4 hf hr]; decide),Ic h4 hf hr]
  refine⟨fun h1=>?_,fun h1=>?_⟩
  ·refine⟨fun h2=>absurd ⟨h1,h2⟩ hf,fun _=>?_⟩
   refine (jn w fl at_ ha hr (Classical.not_not.1 h4)).e ?_
   exact rS
  ·refine (jn w fl at_ ha hr (Classical.not_not.1 h4)).e ?_
   exact rS
structure Ie (m:MS):Prop where
 w:∀ k,a_ (m.w k)
 fl:Bg m.fl
 len:m.fl.length<=65536
def lg (f:Int):Prop:=f=33\/f=35\/f=84\/f=37\/f=86
instance (f:Int):Decidable (lg f):=by unfold lg; infer_instance
def dJ (x:XS) (a n:Int):XS:={ x with data:=a,words:=n }
def lZ (m:MS) (x:XS) (a:Int):Nat->Int:=if lg x.i.form then yx m.w a (an x x.i.rd) else m.w
def j9 (m:MS) (x:XS) (a:Int):XS:=if lg x.i.form then dJ x a 1 else if jr m.fl a=0 then cG (dJ x a 1) x.i.rd (t_ m.fl m.w a) else dJ x a 1
def mQ (m:MS) (x:XS) (a:Int):Int:=if lg x.i.form then jT a else jr m.fl a
def lh (m:MS) (w:Nat->Int):MS:={ m with w:=w }
theorem DI (m:MS) (x:XS) (a:Int) (hm:Ie m) (hx:lY x) (ha:a_ a):Spec gT 77 [.ptr 3 0,.int .u32 a] (gU m x) [] fun y S'=>y = .int .i64 (mQ m x a)/\S'=gU (lh m (lZ m x a)) (j9 m x a):=by
 refine Spec.jS (Spec.enter al P77 100 Tryz.func77 rfl (by kernel_rfl) ?_)
 refine⟨fun h1=>?_,fun h1=>?_⟩
 ·have hs:lg x.i.form:=by unfold lg; omega
  have e1:lZ m x a=yx m.w a (an x x.i.rd):=by unfold lZ; rw[if_pos hs]
  have e2:j9 m x a=dJ x a 1:=by unfold j9; rw[if_pos hs]
  have e3:mQ m x a=jT a:=by unfold mQ; rw[if_pos hs]
  rw[e1,e2,e3]
  refine⟨[],bn,(ig .p .p m (dJ x a 1) x.i.rd hx.rd.1 hx.rd.2).uY rfl rfl rfl rfl (by repeat' first|exact trivial|exact rfl|exact Iff.rfl|refine And.intro ?_ ?_) (And.intro (by first|exact bj rfl rfl|(repeat' first|exact trivial|exact rfl|exact Iff.rfl|exact Or.inl rfl|exact not_false|refine And.intro ?_ ?_)) (And.intro (by first|exact bj rfl rfl|(repeat' first|exact trivial|exact rfl|exact Iff.rfl|exact Or.inl rfl|exact not_false|refine And.intro ?_ ?_)) (And.intro (by first|exact bj rfl rfl|(repeat' first|exact trivial|exact rfl|exact Iff.rfl|exact Or.inl rfl|exact not_false|refine And.intro ?_ ?_)) (And.intro (by first|exact bj rfl rfl|(repeat' first|exact trivial|exact rfl|exact Iff.rfl|exact Or.inl rfl|exact not_false|refine And.intro ?_ ?_)) ?_))))⟩
  refine (jM m.w m.fl a (an x x.i.rd) ha).e ?_
  exact rS
 refine⟨fun h2=>?_,fun h2=>?_⟩
 ·have hs:lg x.i.form:=by unfold lg; omega
  have e1:lZ m x a=yx m.w a (an x x.i.rd):=by unfold lZ; rw[if_pos hs]
  have e2:j9 m x a=dJ x a 1:=by unfold j9; rw[if_pos hs]
  have e3:mQ m x a=jT a:=by unfold mQ; rw[if_pos hs]
  rw[e1,e2,e3]
  refine⟨[],bn,(ig .p .p m (dJ x a 1) x.i.rd hx.rd.1 hx.rd.2).uY rfl rfl rfl rfl (by repeat' first|exact trivial|exact rfl|exact Iff.rfl|refine And.intro ?_ ?_) (And.intro (by first|exact bj rfl rfl|(repeat' first|exact trivial|exact rfl|exact Iff.rfl|exact Or.inl rfl|exact not_false|refine And.intro ?_ ?_)) (And.intro (by first|exact bj rfl rfl|(repeat' first|exact trivial|exact rfl|exact Iff.rfl|exact Or.inl rfl|exact not_false|refine And.intro ?_ ?_)) (And.intro (by first|exact bj rfl rfl|(repeat' first|exact trivial|exact rfl|exact Iff.rfl|exact Or.inl rfl|exact not_false|refine And.intro ?_ ?_)) (And.intro (by first|exact bj rfl rfl|(repeat' first|exact trivial|exact rfl|exact Iff.rfl|exact Or.inl rfl|exact not_false|refine And.intro ?_ ?_)) ?_))))⟩
  refine (jM m.w m.fl a (an x x.i.rd) ha).e ?_
  exact rS
 refine⟨fun h3=>?_,fun h3=>?_⟩
 ·have hs:lg x.i.form:=by unfold lg; omega
  have e1:lZ m x a=yx m.w a (an x x.i.rd):=by unfold lZ; rw[if_pos hs]
  have e2:j9 m x a=dJ x a 1:=by unfold j9; rw[if_pos hs]
  have e3:mQ m x a=jT a:=by unfold mQ; rw[if_pos hs]
  rw[e1,e2,e3]
  refine⟨[],bn,(ig .p .p m (dJ x a 1) x.i.rd hx.rd.1 hx.rd.2).uY rfl rfl rfl rfl (by repeat' first|exact trivial|exact rfl|exact Iff.rfl|refine And.intro ?_ ?_) (And.intro (by first|exact bj rfl rfl|(repeat' first|exact trivial|exact rfl|exact Iff.rfl|exact Or.inl rfl|exact not_false|refine And.intro ?_ ?_)) (And.intro (by first|exact bj rfl rfl|(repeat' first|exact trivial|exact rfl|exact Iff.rfl|exact Or.inl rfl|exact not_false|refine And.intro ?_ ?_)) (And.intro (by first|exact bj rfl rfl|(repeat' first|exact trivial|exact rfl|exact Iff.rfl|exact Or.inl rfl|exact not_false|refine And.intro ?_ ?_)) (And.intro (by first|exact bj rfl rfl|(repeat' first|exact trivial|exact rfl|exact Iff.rfl|exact Or.inl rfl|exact not_false|refine And.intro ?_ ?_)) ?_))))⟩
  refine (jM m.w m.fl a (an x x.i.rd) ha).e ?_
  exact rS
 refine⟨fun h4=>?_,fun h4=>?_⟩
 ·have hs:lg x.i.form:=by unfold lg; omega
  have e1:lZ m x a=yx m.w a (an x x.i.rd):=by unfold lZ; rw[if_pos hs]
  have e2:j9 m x a=dJ x a 1:=by unfold j9; rw[if_pos hs]
  have e3:mQ m x a=jT a:=by unfold mQ; rw[if_pos hs]
  rw[e1,e2,e3]
  refine⟨[],bn,(ig .p .p m (dJ x a 1) x.i.rd hx.rd.1 hx.rd.2).uY rfl rfl rfl rfl (by repeat' first|exact trivial|exact rfl|exact Iff.rfl|refine And.intro ?_ ?_) (And.intro (by first|exact bj rfl rfl|(repeat' first|exact trivial|exact rfl|exact Iff.rfl|exact Or.inl rfl|exact not_false|refine And.intro ?_ ?_)) (And.intro (by first|exact bj rfl rfl|(repeat' first|exact trivial|exact rfl|exact Iff.rfl|exact Or.inl rfl|exact not_false|refine And.intro ?_ ?_)) (And.intro (by first|exact bj rfl rfl|(repeat' first|exact trivial|exact rfl|exact Iff.rfl|exact Or.inl rfl|exact not_false|refine And.intro ?_ ?_)) (And.intro (by first|exact bj rfl rfl|(repeat' first|exact trivial|exact rfl|exact Iff.rfl|exact Or.inl rfl|exact not_false|refine And.intro ?_ ?_)) ?_))))⟩
  refine (jM m.w m.fl a (an x x.i.rd) ha).e ?_
  exact rS
 refine⟨fun h5=>?_,fun h5=>?_⟩
 ·have hs:lg x.i.form:=by unfold lg; omega
  have e1:lZ m x a=yx m.w a (an x x.i.rd):=by unfold lZ; rw[if_pos hs]
  have e2:j9 m x a=dJ x a 1:=by unfold j9; rw[if_pos hs]
  have e3:mQ m x a=jT a:=by unfold mQ; rw[if_pos hs]
  rw[e1,e2,e3]
  refine⟨[],bn,(ig .p .p m (dJ x a 1) x.i.rd hx.rd.1 hx.rd.2).uY rfl rfl rfl rfl (by repeat' first|exact trivial|exact rfl|exact Iff.rfl|refine And.intro ?_ ?_) (And.intro (by first|exact bj rfl rfl|(repeat' first|exact trivial|exact rfl|exact Iff.rfl|exact Or.inl rfl|exact not_false|refine And.intro ?_ ?_)) (And.intro (by first|exact bj rfl rfl|(repeat' first|exact trivial|exact rfl|exact Iff.rfl|exact Or.inl rfl|exact not_false|refine And.intro ?_ ?_)) (And.intro (by first|exact bj rfl rfl|(repeat' first|exact trivial|exact rfl|exact Iff.rfl|exact Or.inl rfl|exact not_false|refine And.intro ?_ ?_)) (And.intro (by first|exact bj rfl rfl|(repeat' first|exact trivial|exact rfl|exact Iff.rfl|exact Or.inl rfl|exact not_false|refine And.intro ?_ ?_)) ?_))))⟩
  refine (jM m.w m.fl a (an x x.i.rd) ha).e ?_
  exact rS
 ·have hs:¬ lg x.i.form:=by unfold lg; omega
  have e1:lZ m x a=m.w:=by unfold lZ; rw[if_neg hs]
  have e3:mQ m x a=jr m.fl a:=by unfold mQ; rw[if_neg hs]
  have e2:j9 m x a=if jr m.fl a=0 then cG (dJ x a 1) x.i.rd (t_ m.fl m.w a) else dJ x a 1:=by unfold j9; rw[if_neg hs]
  rw[e1,e2,e3]
  refine (Br m.w m.fl a ha hm.fl hm.len hm.w).e ?_
  refine⟨fun h=>?_,fun h=>?_⟩
  ·rw[if_pos h]
   refine⟨[],bn,(bU m (dJ x a 1) x.i.rd (t_ m.fl m.w a) hx.rd.1 hx.rd.2).uY rfl rfl rfl rfl (by repeat' first|exact trivial|exact rfl|exact Iff.rfl|refine And.intro ?_ ?_) (And.intro (by first|exact bj rfl rfl|(repeat' first|exact trivial|exact rfl|exact Iff.rfl|exact Or.inl rfl|exact not_false|refine And.intro ?_ ?_)) (And.intro (by first|exact bj rfl rfl|(repeat' first|exact trivial|exact rfl|exact Iff.rfl|exact Or.inl rfl|exact not_false|refine And.intro ?_ ?_)) (And.intro (by first|exact bj rfl rfl|(repeat' first|exact trivial|exact rfl|exact Iff.rfl|exact Or.inl rfl|exact not_false|refine And.intro ?_ ?_)) (And.intro (by first|exact bj rfl rfl|(repeat' first|exact trivial|exact rfl|exact Iff.rfl|exact Or.inl rfl|exact not_false|refine And.intro ?_ ?_)) ?_))))⟩
   exact rS
  ·rw[if_neg h]
   exact rS
def rQ (ar:Int) (r:Nat):Int:=bits .and .i64 (ar / Ev.aV .i64 (r:Int)) 1
def cf (x:XS) (w:Nat->Int) (a:Int):Nat->(Nat->Int) × Int × Int
 | 0=>(w,a,0)
 | r+1=>if (cf x w a r).2.2≠0 then cf x w a r else if rQ x.i.ar r=0 then cf x w a r
  else if jT (cf x w a r).2.1≠0 then ((cf x w a r).1,(cf x w a r).2.1,jT (cf x w a r).2.1)
  else (yx (cf x w a r).1 (cf x w a r).2.1 (an x r),IntKind.u32.wrap ((cf x w a r).2.1+4),0)
theorem pG {x:XS} {w:Nat->Int} {a:Int} {r:Nat} (h:(cf x w a r).2.2≠0):∀ n,cf x w a (r+n)=cf x w a r
 | 0=>rfl
 | n+1=>by rw[← Nat.add_assoc,cf,pG h n,if_pos h]
theorem zR {x:XS} {w:Nat->Int} {a:Int} {r:Nat} (h:(cf x w a r).2.2=0) (hb:rQ x.i.ar r=0):cf x w a (r+1)=cf x w a r:=by rw[cf,if_neg (by omega),if_pos hb]
theorem DJ {x:XS} {w:Nat->Int} {a:Int} {r:Nat} (h:(cf x w a r).2.2=0) (hb:¬ rQ x.i.ar r=0) (he:jT (cf x w a r).2.1≠0):cf x w a (r+1)=((cf x w a r).1,(cf x w a r).2.1,jT (cf x w a r).2.1):=by rw[cf,if_neg (by omega),if_neg hb,if_pos he]
theorem Ig {x:XS} {w:Nat->Int} {a:Int} {r:Nat} (h:(cf x w a r).2.2=0) (hb:¬ rQ x.i.ar r=0) (he:¬ jT (cf x w a r).2.1≠0):cf x w a (r+1)=(yx (cf x w a r).1 (cf x w a r).2.1 (an x r),IntKind.u32.wrap ((cf x w a r).2.1+4),0):=by rw[cf,if_neg (by omega),if_neg hb,if_neg he]
theorem x4 {x:XS} {w:Nat->Int} {a:Int} (ha:a_ a):∀ r,a_ (cf x w a r).2.1
 | 0=>ha
 | r+1=>by
  have ih:=x4 (x:=x) (w:=w) ha r
  rw[cf]
  split
  ·exact ih
  ·split
   ·exact ih
   ·split
    ·exact ih
    ·exact wrap_u32 _
def dd (x:XS):Int:=IntKind.u32.wrap (an x 13 - IntKind.u32.wrap (4*cl x.i.ar))
def lj (m:MS) (x:XS):(Nat->Int) × Int × Int:=cf x m.w (dd x) 15
def n9 (m:MS) (x:XS):XS:=if (lj m x).2.2=0 then cG (dJ x (dd x) (cl x.i.ar)) 13 (dd x) else dJ x (dd x) (cl x.i.ar)
theorem Mp (m:MS) (x:XS) (hx:lY x):Spec gT 78 [.ptr 3 0] (gU m x) [] fun y S'=>y = .int .i64 (lj m x).2.2/\S'=gU (lh m (lj m x).1) (n9 m x):=by
 have hA:a_ (dd x):=wrap_u32 _
 have hbits:=oU x.i.ar hx.ar.1 hx.ar.2
 have ew:IntKind.u32.wrap x.i.ar=x.i.ar:=by rw[IntKind.wrap_u32']; have:=hx.ar; omega
 refine Spec.jS (Spec.enter al P78 100 Tryz.func78 rfl (by kernel_rfl) ?_)
 refine lu ?_ (show 0<=x.i.ar/\x.i.ar<=_ by have:=hx.ar; omega)
 refine (rM x.i.ar hx.ar.1 hx.ar.2).u ?_
 refine li ?_ (show _<=4*cl x.i.ar/\4*cl x.i.ar<=_ by omega)
 refine .inr ?_
 refine (ig .w .p m { x with words:=cl x.i.ar } 13 (by decide) (by decide)).e ?_
 refine .inr ?_
 have e0:cf x m.w (dd x) 0=(m.w,dd x,0):=rfl
 refine SW.mh al P78 (by kernel_rfl) (α:={r:Nat // r<=15/\(cf x m.w (dd x) r).2.2=0}) (fun r=>[(0,.ptr 3 0),(3,.int .u32 (cf x m.w (dd x) r.1).2.1),(32,.int .i64 r.1)]) (fun r=>gU (lh m (cf x m.w (dd x) r.1).1) (dJ x (dd x) (cl x.i.ar))) (fun r=>15 - r.1) ⟨0,by omega,rfl⟩ 60 [some 0,some 1,some 2,some 3] ?_ ?_
 ·repeat' first|exact trivial|exact rfl|exact Iff.rfl|refine And.intro ?_ ?_
 rintro⟨r,hr,hz⟩
 have hP:=x4 (x:=x) (w:=m.w) hA r
 refine⟨fun h=>?_,fun h=>?_⟩
 ·have h':(r:Int) < 15:=h
  refine⟨show (0:Int)<=(r:Int) by omega,?_⟩
  refine⟨fun hb=>?_,fun hb=>?_⟩
  ·have hs:=zR (x:=x) (w:=m.w) (a:=dd x) hz hb
   refine .inl ⟨ao (show _<=(r:Int)+1/\(r:Int)+1<=_ by omega),⟨⟨r+1,by omega,by rw[hs]; exact hz⟩,[some 0,some 1,some 2,some 3],show 15 - (r+1) < 15 - r by omega,?_⟩⟩
   show gC _ _ _ (bb.bare _ [(0,.ptr 3 0),(3,.int .u32 (cf x m.w (dd x) (r+1)).2.1),(32,.int .i64 (r+1:Nat))] (gU (lh m (cf x m.w (dd x) (r+1)).1) (dJ x (dd x) (cl x.i.ar))))
   rw[hs]
   repeat' first|exact trivial|exact rfl|exact Iff.rfl|refine And.intro ?_ ?_
  ·refine (ig .p .p (lh m (cf x m.w (dd x) r).1) (dJ x (dd x) (cl x.i.ar)) (r:Int) (by omega) (by omega)).e ?_
   refine (jM (cf x m.w (dd x) r).1 m.fl (cf x m.w (dd x) r).2.1 (an x r) hP).e ?_
   refine⟨fun he=>?_,fun he=>?_⟩
   ·have hE:=DJ (x:=x) (w:=m.w) (a:=dd x) hz hb he
    have hF:lj m x=((cf x m.w (dd x) r).1,(cf x m.w (dd x) r).2.1,jT (cf x m.w (dd x) r).2.1):=by
     have hs:=pG (x:=x) (w:=m.w) (a:=dd x) (r:=r+1) (by rw[hE]; exact he) (14 - r)
     unfold lj
     rw[show 15=r+1+(14 - r) by omega,hs,hE]
    have hX:n9 m x=dJ x (dd x) (cl x.i.ar):=by unfold n9; rw[hF,if_neg (show ¬ jT _=0 from he)]
    rw[hF,hX]
    exact bm rfl (And.intro (show g_ (yx _ _ _)=g_ _ by rw[vy he]; rfl) (And.intro (bj rfl rfl) (aj rfl)))
   ·have hs:=Ig (x:=x) (w:=m.w) (a:=dd x) hz hb he
    refine .inr ?_
    refine .inl ⟨ao (show _<=(r:Int)+1/\(r:Int)+1<=_ by omega),⟨⟨r+1,by omega,by rw[hs]⟩,[some 0,some 1,some 2,some 3],show 15 - (r+1) < 15 - r by omega,?_⟩⟩
    show gC _ _ _ (bb.bare _ [(0,.ptr 3 0),(3,.int .u32 (cf x m.w (dd x) (r+1)).2.1),(32,.int .i64 (r+1:Nat))] (gU (lh m (cf x m.w (dd x) (r+1)).1) (dJ x (dd x) (cl x.i.ar))))
    rw[hs]
    repeat' first|exact trivial|exact rfl|exact Iff.rfl|refine And.intro ?_ ?_
 ·have h':¬ (r:Int) < 15:=h
  obtain rfl:r=15:=by omega
  have hX:n9 m x=cG (dJ x (dd x) (cl x.i.ar)) 13 (dd x):=by unfold n9; rw[if_pos (show (lj m x).2.2=0 from hz)]
  rw[show (lj m x).2.2=0 from hz,hX]
  refine (bU (lh m (cf x m.w (dd x) 15).1) (dJ x (dd x) (cl x.i.ar)) 13 (dd x) (by decide) (by decide)).e ?_
  exact bm rfl (aj rfl)
def ct (m:MS) (x:XS) (a:Int):Nat->XS × Int × Int
 | 0=>(x,a,0)
 | r+1=>if (ct m x a r).2.2≠0 then ct m x a r else if rQ x.i.ar r=0 then ct m x a r
  else if jr m.fl (ct m x a r).2.1≠0 then ((ct m x a r).1,(ct m x a r).2.1,jr m.fl (ct m x a r).2.1)
  else if r=15 then (jL (ct m x a r).1 (t_ m.fl m.w (ct m x a r).2.1),IntKind.u32.wrap ((ct m x a r).2.1+4),0)
  else (cG (ct m x a r).1 r (t_ m.fl m.w (ct m x a r).2.1),IntKind.u32.wrap ((ct m x a r).2.1+4),0)
theorem rR {m:MS} {x:XS} {a:Int} {r:Nat} (h:(ct m x a r).2.2≠0):∀ n,ct m x a (r+n)=ct m x a r
 | 0=>rfl
 | n+1=>by rw[← Nat.add_assoc,ct,rR h n,if_pos h]
theorem DK {m:MS} {x:XS} {a:Int} {r:Nat} (h:(ct m x a r).2.2=0) (hb:rQ x.i.ar r=0):ct m x a (r+1)=ct m x a r:=by rw[ct,if_neg (by omega),if_pos hb]
theorem Ih {m:MS} {x:XS} {a:Int} {r:Nat} (h:(ct m x a r).2.2=0) (hb:¬ rQ x.i.ar r=0) (he:jr m.fl (ct m x a r).2.1≠0):ct m x a (r+1)=((ct m x a r).1,(ct m x a r).2.1,jr m.fl (ct m x a r).2.1):=by rw[ct,if_neg (by omega),if_neg hb,if_pos he]
theorem DL {m:MS} {x:XS} {a:Int} {r:Nat} (h:(ct m x a r).2.2=0) (hb:¬ rQ x.i.ar r=0) (he:¬ jr m.fl (ct m x a r).2.1≠0) (hr:r=15):ct m x a (r+1)=(jL (ct m x a r).1 (t_ m.fl m.w (ct m x a r).2.1),IntKind.u32.wrap ((ct m x a r).2.1+4),0):=by rw[ct,if_neg (by omega),if_neg hb,if_neg he,if_pos hr]
theorem Ii {m:MS} {x:XS} {a:Int} {r:Nat} (h:(ct m x a r).2.2=0) (hb:¬ rQ x.i.ar r=0) (he:¬ jr m.fl (ct m x a r).2.1≠0) (hr:¬ r=15):ct m x a (r+1)=(cG (ct m x a r).1 r (t_ m.fl m.w (ct m x a r).2.1),IntKind.u32.wrap ((ct m x a r).2.1+4),0):=by rw[ct,if_neg (by omega),if_neg hb,if_neg he,if_neg hr]
theorem Mq (x:XS) (v:Int):(jL x v).i=x.i:=by unfold jL; split<;>rfl
theorem vz {m:MS} {x:XS} {a:Int} (ha:a_ a):∀ r,a_ (ct m x a r).2.1/\(ct m x a r).1.i=x.i
 | 0=>⟨ha,rfl⟩
 | r+1=>by
  have ih:=vz (m:=m) (x:=x) ha r
  rw[ct]
  split
  ·exact ih
  ·split
   ·exact ih
   ·split
    ·exact ih
    ·split
     ·exact⟨wrap_u32 _,(Mq _ _).trans ih.2⟩
     ·exact⟨wrap_u32 _,ih.2⟩
def rT (m:MS) (x:XS):XS × Int × Int:=ct m (dJ x (an x 13) (cl x.i.ar)) (an x 13) 16
def vB (m:MS) (x:XS):XS:=if (rT m x).2.2=0 then cG (rT m x).1 13 (rT m x).2.1 else (rT m x).1
theorem Mr (m:MS) (x:XS) (hm:Ie m) (hx:lY x):Spec gT 79 [.ptr 3 0] (gU m x) [] fun y S'=>y = .int .i64 (rT m x).2.2/\S'=gU m (vB m x):=by
 have hA:a_ (an x 13):=bM hx _
 refine Spec.jS (Spec.enter al P79 100 Tryz.func79 rfl (by kernel_rfl) ?_)
 refine lu ?_ (show 0<=x.i.ar/\x.i.ar<=_ by have:=hx.ar; omega)
 refine (rM x.i.ar hx.ar.1 hx.ar.2).u ?_
 refine (bF m { x with words:=cl x.i.ar } 13 (by decide) (by decide)).e ?_
 generalize hx2:dJ x (an x 13) (cl x.i.ar)=x2
 have hR:rT m x=ct m x2 (an x 13) 16:=by unfold rT; rw[hx2]
 have hi:x2.i=x.i:=by rw[← hx2]; rfl
 refine SW.mh al P79 (by kernel_rfl) (α:={r:Nat // r<=16/\(ct m x2 (an x 13) r).2.2=0}) (fun r=>[(0,.ptr 3 0),(3,.int .u32 (ct m x2 (an x 13) r.1).2.1),(26,.int .i64 r.1)]) (fun r=>gU m (ct m x2 (an x 13) r.1).1) (fun r=>16 - r.1) ⟨0,by omega,rfl⟩ 60 [some 0,some 1,some 2,some 3] ?_ ?_
 ·show gC _ _ _ (bb.bare _ [(0,.ptr 3 0),(3,.int .u32 (an x 13)),(26,.int .i64 (0:Nat))] (gU m x2))
  rw[← hx2]
  repeat' first|exact trivial|exact rfl|exact Iff.rfl|refine And.intro ?_ ?_
 rintro⟨r,hr,hz⟩
 obtain⟨hP,hI⟩:=vz (m:=m) (x:=x2) hA r
 refine⟨fun h=>?_,fun h=>?_⟩
 ·have h':(r:Int) < 16:=h
  refine⟨show (0:Int)<=(r:Int) by omega,?_⟩
  refine⟨fun hb=>?_,fun hb=>?_⟩
  ·have dq:rQ x2.i.ar r=0:=by rw[← hI]; exact hb
   have hs:=DK (m:=m) (x:=x2) (a:=an x 13) hz dq
   refine .inl ⟨ao (show _<=(r:Int)+1/\(r:Int)+1<=_ by omega),⟨⟨r+1,by omega,by rw[hs]; exact hz⟩,[some 0,some 1,some 2,some 3],show 16 - (r+1) < 16 - r by omega,?_⟩⟩
   show gC _ _ _ (bb.bare _ [(0,.ptr 3 0),(3,.int .u32 (ct m x2 (an x 13) (r+1)).2.1),(26,.int .i64 (r+1:Nat))] (gU m (ct m x2 (an x 13) (r+1)).1))
   rw[hs]
   repeat' first|exact trivial|exact rfl|exact Iff.rfl|refine And.intro ?_ ?_
  ·have dq:¬ rQ x2.i.ar r=0:=by rw[← hI]; exact hb
   refine (Br m.w m.fl (ct m x2 (an x 13) r).2.1 hP hm.fl hm.len hm.w).e ?_
   refine⟨fun he=>?_,fun he=>?_⟩
   ·have hE:=Ih (m:=m) (x:=x2) (a:=an x 13) hz dq he
    have hF:rT m x=((ct m x2 (an x 13) r).1,(ct m x2 (an x 13) r).2.1,jr m.fl (ct m x2 (an x 13) r).2.1):=by
     have hs:=rR (m:=m) (x:=x2) (a:=an x 13) (r:=r+1) (by rw[hE]; exact he) (15 - r)
     rw[hR,show 16=r+1+(15 - r) by omega,hs,hE]
    have hX:vB m x=(ct m x2 (an x 13) r).1:=by unfold vB; rw[hF,if_neg (show ¬ jr m.fl _=0 from he)]
    rw[hF,hX]
    exact bm rfl (aj rfl)
   ·refine .inr ?_
    refine⟨fun Vj=>?_,fun Vj=>?_⟩
    ·have hs:=DL (m:=m) (x:=x2) (a:=an x 13) hz dq he (show r=15 by have:(r:Int)=15:=Vj; omega)
     refine (Bm m (ct m x2 (an x 13) r).1 (t_ m.fl m.w (ct m x2 (an x 13) r).2.1)).e ?_
     refine .inl ⟨ao (show _<=(r:Int)+1/\(r:Int)+1<=_ by omega),⟨⟨r+1,by omega,by rw[hs]⟩,[some 0,some 1,some 2,some 3],show 16 - (r+1) < 16 - r by omega,?_⟩⟩
     show gC _ _ _ (bb.bare _ [(0,.ptr 3 0),(3,.int .u32 (ct m x2 (an x 13) (r+1)).2.1),(26,.int .i64 (r+1:Nat))] (gU m (ct m x2 (an x 13) (r+1)).1))
     rw[hs]
     repeat' first|exact trivial|exact rfl|exact Iff.rfl|refine And.intro ?_ ?_
    ·have hs:=Ii (m:=m) (x:=x2) (a:=an x 13) hz dq he (show ¬ r=15 from fun e=>Vj (show (r:Int)=15 by omega))
     refine (bU m (ct m x2 (an x 13) r).1 (r:Int) (t_ m.fl m.w (ct m x2 (an x 13) r).2.1) (by omega) (by omega)).e ?_
     refine .inl ⟨ao (show _<=(r:Int)+1/\(r:Int)+1<=_ by omega),⟨⟨r+1,by omega,by rw[hs]⟩,[some 0,some 1,some 2,some 3],show 16 - (r+1) < 16 - r by omega,?_⟩⟩
     show gC _ _ _ (bb.bare _ [(0,.ptr 3 0),(3,.int .u32 (ct m x2 (an x 13) (r+1)).2.1),(26,.int .i64 (r+1:Nat))] (gU m (ct m x2 (an x 13) (r+1)).1))
     rw[hs]
     repeat' first|exact trivial|exact rfl|exact Iff.rfl|refine And.intro ?_ ?_
 ·have h':¬ (r:Int) < 16:=h
  obtain rfl:r=16:=by omega
  have hX:vB m x=cG (ct m x2 (an x 13) 16).1 13 (ct m x2 (an x 13) 16).2.1:=by unfold vB; rw[hR,if_pos hz]
  rw[show (rT m x).2.2=0 by rw[hR]; exact hz,hX]
  refine (bU m (ct m x2 (an x 13) 16).1 13 (ct m x2 (an x 13) 16).2.1 (by decide) (by decide)).e ?_
  exact bm rfl (aj rfl)
end Go.Proofs.YtlgkljpgagfndaaGreatDoor.Pw

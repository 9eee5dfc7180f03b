/- What this claim is proved with: no condition. -/
import Derived.Test.YtlgkljpgagfndaaGreatDoorNu22
import Derived.Test.YtlgkljpgagfndaaGreatDoorNu21
set_option maxRecDepth 100000
set_option maxHeartbeats 8000000
set_option linter.unusedVariables false
set_option linter.unusedSimpArgs false
namespace Go.Proofs.YtlgkljpgagfndaaGreatDoor.Pw
open Go Go.RowKit
def bw (f:Int):Int :=
 if f=32 then 1 else if f=34\/f=33 then 2 else if f=36\/f=35\/f=85\/f=84 then 3 else if f=38\/f=37 then 4 else if f=87\/f=86 then 5 else 0
def fU (x:XS):Int :=
 if bw x.i.form=1 then (IntKind.u32.wrap (bits .andNot .u32 (ao x 15) 3+(IntKind.u32.wrap x.i.ay))) else if bw x.i.form=2 then (IntKind.u32.wrap (ao x x.i.rn+ao x x.i.rm)) else if bw x.i.form=3 then (IntKind.u32.wrap (ao x x.i.rn+(IntKind.u32.wrap x.i.ay))) else if bw x.i.form=4 then (IntKind.u32.wrap (ao x 13+(IntKind.u32.wrap x.i.ay))) else if bw x.i.form=5 then (IntKind.u32.wrap (ao x x.i.rn+IntKind.u32.wrap (ao x x.i.rm*Ev.aV .u32 x.i.bF))) else 0
theorem Vp {x:XS} (h:bw x.i.form=1):fU x=(IntKind.u32.wrap (bits .andNot .u32 (ao x 15) 3+(IntKind.u32.wrap x.i.ay))):=by unfold fU; rw[if_pos h]
theorem IW {x:XS} (h:bw x.i.form=2):fU x=(IntKind.u32.wrap (ao x x.i.rn+ao x x.i.rm)):=by unfold fU; rw[if_neg (by omega),if_pos h]
theorem wF {x:XS} (h:bw x.i.form=3):fU x=(IntKind.u32.wrap (ao x x.i.rn+(IntKind.u32.wrap x.i.ay))):=by unfold fU; rw[if_neg (by omega),if_neg (by omega),if_pos h]
theorem wG {x:XS} (h:bw x.i.form=4):fU x=(IntKind.u32.wrap (ao x 13+(IntKind.u32.wrap x.i.ay))):=by unfold fU; rw[if_neg (by omega),if_neg (by omega),if_neg (by omega),if_pos h]
theorem wH {x:XS} (h:bw x.i.form=5):fU x=(IntKind.u32.wrap (ao x x.i.rn+IntKind.u32.wrap (ao x x.i.rm*Ev.aV .u32 x.i.bF))):=by unfold fU; rw[if_neg (by omega),if_neg (by omega),if_neg (by omega),if_neg (by omega),if_pos h]
theorem Vq {x:XS} (h:bw x.i.form=0):fU x=0:=by unfold fU; rw[if_neg (by omega),if_neg (by omega),if_neg (by omega),if_neg (by omega),if_neg (by omega)]
theorem AQ (m:MS) (x:XS) (hx:mC x):Spec gT 76 [.ptr 3 0] (iq m x) [] fun y S'=>y = .tup [.int .u32 (fU x),.bool (bw x.i.form≠0)]/\S'=iq m x:=by
 refine Spec.jP (Spec.enter al P76 100 Tryz.func76 rfl (by kernel_rfl) ?_)
 refine .inr ?_
 refine⟨fun LJ=>?_,fun LJ=>?_⟩
 ·have hc:bw x.i.form=1:=by rw[show x.i.form=32 from LJ]; rfl
  rw[Vp hc]
  refine (bH m x 15 (by decide) (by decide)).e ?_
  refine .inr ?_
  exact bo (And.intro rfl (And.intro (show bw x.i.form≠0 by omega) trivial)) (aj rfl)
 refine⟨fun h34=>?_,fun h34=>?_⟩
 ·have hc:bw x.i.form=2:=by rw[show x.i.form=34 from h34]; rfl
  rw[IW hc]
  refine (bH m x x.i.rn hx.rn.1 hx.rn.2).e ?_
  refine (bH m x x.i.rm hx.rm.1 hx.rm.2).e ?_
  refine .inr ?_
  exact bo (And.intro rfl (And.intro (show bw x.i.form≠0 by omega) trivial)) (aj rfl)
 refine⟨fun h33=>?_,fun h33=>?_⟩
 ·have hc:bw x.i.form=2:=by rw[show x.i.form=33 from h33]; rfl
  rw[IW hc]
  refine (bH m x x.i.rn hx.rn.1 hx.rn.2).e ?_
  refine (bH m x x.i.rm hx.rm.1 hx.rm.2).e ?_
  refine .inr ?_
  exact bo (And.intro rfl (And.intro (show bw x.i.form≠0 by omega) trivial)) (aj rfl)
 refine⟨fun h36=>?_,fun h36=>?_⟩
 ·have hc:bw x.i.form=3:=by rw[show x.i.form=36 from h36]; rfl
  rw[wF hc]
  refine (bH m x x.i.rn hx.rn.1 hx.rn.2).e ?_
  refine .inr ?_
  exact bo (And.intro rfl (And.intro (show bw x.i.form≠0 by omega) trivial)) (aj rfl)
 refine⟨fun h35=>?_,fun h35=>?_⟩
 ·have hc:bw x.i.form=3:=by rw[show x.i.form=35 from h35]; rfl
  rw[wF hc]
  refine (bH m x x.i.rn hx.rn.1 hx.rn.2).e ?_
  refine .inr ?_
  exact bo (And.intro rfl (And.intro (show bw x.i.form≠0 by omega) trivial)) (aj rfl)
 refine⟨fun h85=>?_,fun h85=>?_⟩
 ·have hc:bw x.i.form=3:=by rw[show x.i.form=85 from h85]; rfl
  rw[wF hc]
  refine (bH m x x.i.rn hx.rn.1 hx.rn.2).e ?_
  refine .inr ?_
  exact bo (And.intro rfl (And.intro (show bw x.i.form≠0 by omega) trivial)) (aj rfl)
 refine⟨fun h84=>?_,fun h84=>?_⟩
 ·have hc:bw x.i.form=3:=by rw[show x.i.form=84 from h84]; rfl
  rw[wF hc]
  refine (bH m x x.i.rn hx.rn.1 hx.rn.2).e ?_
  refine .inr ?_
  exact bo (And.intro rfl (And.intro (show bw x.i.form≠0 by omega) trivial)) (aj rfl)
 refine⟨fun h38=>?_,fun h38=>?_⟩
 ·have hc:bw x.i.form=4:=by rw[show x.i.form=38 from h38]; rfl
  rw[wG hc]
  refine (bH m x 13 (by decide) (by decide)).e ?_
  refine .inr ?_
  exact bo (And.intro rfl (And.intro (show bw x.i.form≠0 by omega) trivial)) (aj rfl)
 refine⟨fun h37=>?_,fun h37=>?_⟩
 ·have hc:bw x.i.form=4:=by rw[show x.i.form=37 from h37]; rfl
  rw[wG hc]
  refine (bH m x 13 (by decide) (by decide)).e ?_
  refine .inr ?_
  exact bo (And.intro rfl (And.intro (show bw x.i.form≠0 by omega) trivial)) (aj rfl)
 refine⟨fun h87=>?_,fun h87=>?_⟩
 ·have hc:bw x.i.form=5:=by rw[show x.i.form=87 from h87]; rfl
  rw[wH hc]
  refine (bH m x x.i.rn hx.rn.1 hx.rn.2).e ?_
  refine (bH m x x.i.rm hx.rm.1 hx.rm.2).e ?_
  refine⟨(hx.idx (by omega)).1,.inr ?_⟩
  refine .inr ?_
  exact bo (And.intro rfl (And.intro (show bw x.i.form≠0 by omega) trivial)) (aj rfl)
 refine⟨fun h86=>?_,fun h86=>?_⟩
 ·have hc:bw x.i.form=5:=by rw[show x.i.form=86 from h86]; rfl
  rw[wH hc]
  refine (bH m x x.i.rn hx.rn.1 hx.rn.2).e ?_
  refine (bH m x x.i.rm hx.rm.1 hx.rm.2).e ?_
  refine⟨(hx.idx (by omega)).1,.inr ?_⟩
  refine .inr ?_
  exact bo (And.intro rfl (And.intro (show bw x.i.form≠0 by omega) trivial)) (aj rfl)
 ·have hc:bw x.i.form=0:=by unfold bw; rw[if_neg (by omega),if_neg (by omega),if_neg (by omega),if_neg (by omega),if_neg (by omega)]
  rw[Vq hc]
  exact bo (And.intro rfl (And.intro (show ¬ bw x.i.form≠0 from fun h=>h hc) trivial)) (aj rfl)
def kH (x:XS):XS:={ x with taken:=aT x.s x.i.cond }
def cM (f:Int):Int :=
 if f=46\/f=99 then 1 else if f=47\/f=100 then 2 else if f=31 then 3 else if f=45 then 4 else 0
def gi (x:XS):XS :=
 if cM x.i.form=1 then (if aT x.s x.i.cond then cI (kH x) 15 (IntKind.u32.wrap (ao x 15+(IntKind.u32.wrap x.i.ay))) else kH x) else if cM x.i.form=2 then cI x 15 (IntKind.u32.wrap (ao x 15+(IntKind.u32.wrap x.i.ay))) else if cM x.i.form=3 then j' x (ao x x.i.rm) else if cM x.i.form=4 then { x with kind:=2,code:=x.i.ay } else x
theorem yN {x:XS} (h:cM x.i.form=1):gi x=(if aT x.s x.i.cond then cI (kH x) 15 (IntKind.u32.wrap (ao x 15+(IntKind.u32.wrap x.i.ay))) else kH x):=by unfold gi; rw[if_pos h]
theorem yO {x:XS} (h:cM x.i.form=2):gi x=cI x 15 (IntKind.u32.wrap (ao x 15+(IntKind.u32.wrap x.i.ay))):=by unfold gi; rw[if_neg (by omega),if_pos h]
theorem IX {x:XS} (h:cM x.i.form=3):gi x=j' x (ao x x.i.rm):=by unfold gi; rw[if_neg (by omega),if_neg (by omega),if_pos h]
theorem IY {x:XS} (h:cM x.i.form=4):gi x = { x with kind:=2,code:=x.i.ay }:=by unfold gi; rw[if_neg (by omega),if_neg (by omega),if_neg (by omega),if_pos h]
theorem yP {x:XS} (h:cM x.i.form=0):gi x=x:=by unfold gi; rw[if_neg (by omega),if_neg (by omega),if_neg (by omega),if_neg (by omega)]
theorem IZ (m:MS) (x:XS) (hx:mC x):Spec gT 85 [.ptr 3 0] (iq m x) [] fun y S'=>y = .bool (cM x.i.form≠0)/\S'=iq m (gi x):=by
 refine Spec.jP (Spec.enter al P85 100 Tryz.func85 rfl (by kernel_rfl) ?_)
 refine⟨fun h46=>?_,fun h46=>?_⟩
 ·have hc:cM x.i.form=1:=by rw[show x.i.form=46 from h46]; rfl
  rw[yN hc]
  refine (sH x.s x.i.cond).u ?_
  refine⟨fun hn=>?_,fun hp=>?_⟩
  ·rw[if_neg (show ¬ aT x.s x.i.cond from hn)]
   exact bo (show cM x.i.form≠0 by omega) (by first|exact aj rfl|(repeat' first|exact trivial|exact rfl|exact Iff.rfl|exact not_false|refine And.intro ?_ ?_))
  rw[if_pos (Classical.not_not.1 (show ¬ ¬ aT x.s x.i.cond from hp))]
  refine .inr ?_
  refine (bH m (kH x) 15 (by decide) (by decide)).e ?_
  refine .inr ?_
  refine (bV m (kH x) 15 (IntKind.u32.wrap (ao x 15+(IntKind.u32.wrap x.i.ay))) (by decide) (by decide)).e ?_
  exact bo (show cM x.i.form≠0 by omega) (by first|exact aj rfl|(repeat' first|exact trivial|exact rfl|exact Iff.rfl|exact not_false|refine And.intro ?_ ?_))
 refine⟨fun h99=>?_,fun h99=>?_⟩
 ·have hc:cM x.i.form=1:=by rw[show x.i.form=99 from h99]; rfl
  rw[yN hc]
  refine (sH x.s x.i.cond).u ?_
  refine⟨fun hn=>?_,fun hp=>?_⟩
  ·rw[if_neg (show ¬ aT x.s x.i.cond from hn)]
   exact bo (show cM x.i.form≠0 by omega) (by first|exact aj rfl|(repeat' first|exact trivial|exact rfl|exact Iff.rfl|exact not_false|refine And.intro ?_ ?_))
  rw[if_pos (Classical.not_not.1 (show ¬ ¬ aT x.s x.i.cond from hp))]
  refine .inr ?_
  refine (bH m (kH x) 15 (by decide) (by decide)).e ?_
  refine .inr ?_
  refine (bV m (kH x) 15 (IntKind.u32.wrap (ao x 15+(IntKind.u32.wrap x.i.ay))) (by decide) (by decide)).e ?_
  exact bo (show cM x.i.form≠0 by omega) (by first|exact aj rfl|(repeat' first|exact trivial|exact rfl|exact Iff.rfl|exact not_false|refine And.intro ?_ ?_))
 refine⟨fun h47=>?_,fun h47=>?_⟩
 ·have hc:cM x.i.form=2:=by rw[show x.i.form=47 from h47]; rfl
  rw[yO hc]
  refine .inr ?_
  refine (bH m x 15 (by decide) (by decide)).e ?_
  refine .inr ?_
  refine (bV m x 15 (IntKind.u32.wrap (ao x 15+(IntKind.u32.wrap x.i.ay))) (by decide) (by decide)).e ?_
  exact bo (show cM x.i.form≠0 by omega) (by first|exact aj rfl|(repeat' first|exact trivial|exact rfl|exact Iff.rfl|exact not_false|refine And.intro ?_ ?_))
 refine⟨fun I_=>?_,fun I_=>?_⟩
 ·have hc:cM x.i.form=2:=by rw[show x.i.form=100 from I_]; rfl
  rw[yO hc]
  refine .inr ?_
  refine (bH m x 15 (by decide) (by decide)).e ?_
  refine .inr ?_
  refine (bV m x 15 (IntKind.u32.wrap (ao x 15+(IntKind.u32.wrap x.i.ay))) (by decide) (by decide)).e ?_
  exact bo (show cM x.i.form≠0 by omega) (by first|exact aj rfl|(repeat' first|exact trivial|exact rfl|exact Iff.rfl|exact not_false|refine And.intro ?_ ?_))
 refine⟨fun Ja=>?_,fun Ja=>?_⟩
 ·have hc:cM x.i.form=3:=by rw[show x.i.form=31 from Ja]; rfl
  rw[IX hc]
  refine (bH m x x.i.rm hx.rm.1 hx.rm.2).e ?_
  refine (Cm m x (ao x x.i.rm)).e ?_
  exact bo (show cM x.i.form≠0 by omega) (by first|exact aj rfl|(repeat' first|exact trivial|exact rfl|exact Iff.rfl|exact not_false|refine And.intro ?_ ?_))
 refine⟨fun h45=>?_,fun h45=>?_⟩
 ·have hc:cM x.i.form=4:=by rw[show x.i.form=45 from h45]; rfl
  rw[IY hc]
  exact bo (show cM x.i.form≠0 by omega) (by first|exact aj rfl|(repeat' first|exact trivial|exact rfl|exact Iff.rfl|exact not_false|refine And.intro ?_ ?_))
 ·have hc:cM x.i.form=0:=by unfold cM; rw[if_neg (by omega),if_neg (by omega),if_neg (by omega),if_neg (by omega)]
  rw[yP hc]
  exact bo (show ¬ cM x.i.form≠0 from fun h=>h hc) (by first|exact aj rfl|(repeat' first|exact trivial|exact rfl|exact Iff.rfl|exact not_false|refine And.intro ?_ ?_))
def la (w:Nat->Int) (k:Nat):PV:=.int .u8 (gK (w (k / 4)) (k % 4))
theorem Cp (w:Nat->Int):gr w=(List.range 65536).map (la w):=rfl
theorem j_ (w:Nat->Int):(gr w).length=65536:=by rw[Cp,List.length_map,List.length_range]
theorem yQ (w:Nat->Int) (k:Nat):(gr w)[k]?=if k < 65536 then some (la w k) else none:=by
 rw[Cp,List.getElem?_map]
 split
 ·rename_i h; rw[List.getElem?_range h]; rfl
 ·rename_i h; rw[List.getElem?_eq_none (by rw[List.length_range]; omega)]; rfl
def sM (w:Nat->Int) (j:Nat) (x:Int):Nat->Int:=fun m=>if m=j then x else w m
theorem Jb (w:Nat->Int) (j:Nat) (x:Int) (hj:j < 16384) :
  ((((gr w).set (4*j) (.int .u8 (gK x 0))).set (4*j+1) (.int .u8 (gK x 1))).set (4*j+2) (.int .u8 (gK x 2))).set (4*j+3) (.int .u8 (gK x 3))=gr (sM w j x):=by
 refine List.ext_getElem? fun k=>?_
 simp only[List.getElem?_set,List.length_set,j_,yQ]
 have e:∀ r:Nat,r < 4->la (sM w j x) (4*j+r) = .int .u8 (gK x r):=fun r hr=>by
  unfold la sM
  rw[if_pos (by omega),show (4*j+r) % 4=r by omega]
 by_cases h0:k=4*j
 ·subst h0; simp[show 4*j < 65536 by omega]; exact (e 0 (by omega)).symm
 by_cases h1:k=4*j+1
 ·subst h1; simp[show 4*j+1 < 65536 by omega]; exact (e 1 (by omega)).symm
 by_cases h2:k=4*j+2
 ·subst h2; simp[show 4*j+2 < 65536 by omega]; exact (e 2 (by omega)).symm
 by_cases h3:k=4*j+3
 ·subst h3; simp[show 4*j+3 < 65536 by omega]; exact (e 3 (by omega)).symm
 rw[if_neg (by omega),if_neg (by omega),if_neg (by omega),if_neg (by omega)]
 split
 ·have:la (sM w j x) k=la w k:=by unfold la sM; rw[if_neg (by omega)]
  rw[this]
 ·rfl
theorem lT (x:Int) (k:Nat):0<=gK x k/\gK x k<=255:=by unfold gK; omega
theorem Cq (x:Int) (h:aY x):gK x 0+gK x 1*256+gK x 2*65536+gK x 3*16777216=x:=by
 unfold aY at h
 show x / 1 % 256+x / 256 % 256*256+x / 65536 % 256*65536+x / 16777216 % 256*16777216=x
 omega
theorem sN (a b c d:Int) (ha:0<=a/\a<=255) (hb:0<=b/\b<=255) (hc:0<=c/\c<=255) (hd:0<=d/\d<=255) :
  bits .or .u32 (bits .or .u32 (bits .or .u32 (bits .or .u32 0 a) (b*256)) (c*65536)) (d*16777216)=a+b*256+c*65536+d*16777216:=by
 have h0:=(gS 0 a 0 (by decide) (by decide) (show 0<=a/\a*1<=_ by omega)).1
 have h1:=(gS a b 8 (by decide) (show 0<=a/\a < 256 by omega) (show 0<=b/\b*256<=_ by omega)).1
 have h2:=(gS (a+b*256) c 16 (by decide) (show 0<=_/\_ < (65536:Int) by omega) (show 0<=c/\c*65536<=_ by omega)).1
 have h3:=(gS (a+b*256+c*65536) d 24 (by decide) (show 0<=_/\_ < (16777216:Int) by omega) (show 0<=d/\d*16777216<=_ by omega)).1
 replace h0:bits .or .u32 0 (a*1)=0+a*1:=h0
 replace h1:bits .or .u32 a (b*256)=a+b*256:=h1
 replace h2:bits .or .u32 (a+b*256) (c*65536)=a+b*256+c*65536:=h2
 replace h3:bits .or .u32 (a+b*256+c*65536) (d*16777216)=a+b*256+c*65536+d*16777216:=h3
 rw[Int.mul_one,Int.zero_add] at h0
 rw[h0,h1,h2,h3]
def da (at_:Int):Prop:=536870912<=at_/\at_<=536936444
instance (a:Int):Decidable (da a):=by unfold da; infer_instance
def gV (fl:List Int) (at_ n:Int):Prop:=134217728<=at_/\at_ - 134217728+n<=fl.length
instance (fl:List Int) (a n:Int):Decidable (gV fl a n):=by unfold gV; infer_instance
def dc (at_:Int):Nat:=(at_ - 134217728).toNat
def mD (at_:Int):Nat:=(at_ - 536870912).toNat / 4
def jj (fl:List Int) (at_:Int):Int:=if at_ % 4≠0 then 60 else if da at_ then 0 else if gV fl at_ 4 then 0 else 61
def nB (fl:List Int) (w:Nat->Int) (at_:Int):Int:=if at_ % 4≠0 then 0 else if da at_ then w (mD at_) else if gV fl at_ 4 then hN fl (dc at_)+hN fl (dc at_+2)*65536 else 0
def jD (at_:Int):Int:=if at_ % 4≠0 then 60 else if 134217728<=at_/\at_ < 134283264 then 62 else if da at_ then 0 else 61
def wI (w:Nat->Int) (at_ x:Int):Nat->Int:=if jD at_=0 then sM w (mD at_) x else w
def pL (fl:List Int) (at_:Int):Int:=if at_ % 2≠0 then 60 else if gV fl at_ 2 then 0 else 61
def lf (fl:List Int) (at_:Int):Int:=if at_ % 2≠0 then 0 else if gV fl at_ 2 then hN fl (dc at_) else 0
def qp (w:Nat->Int) (fl:List Int):List an:=[AP w,MO fl]
theorem cut4 {l:List Int} {i:Nat} (h:i+4<=l.length):((gI l).drop i).take 4 = [.int .u8 (l.getD i 0),.int .u8 (l.getD (i+1) 0),.int .u8 (l.getD (i+2) 0),.int .u8 (l.getD (i+3) 0)]:=by
 refine List.ext_getElem? fun k=>?_
 have g:∀ j,j < l.length->l[j]?=some (l.getD j 0):=fun j hj=>by rw[List.getD_eq_getElem?_getD,List.getElem?_eq_getElem hj]; rfl
 rw[List.getElem?_take]
 split
 ·rw[List.getElem?_drop,gI,List.getElem?_map,g _ (by omega)]
  match k,‹k < 4› with
  | 0,_=>rfl
  | 1,_=>rfl
  | 2,_=>rfl
  | 3,_=>rfl
 ·rw[List.getElem?_eq_none]; simp; omega
theorem cut2 {l:List Int} {i:Nat} (h:i+2<=l.length):((gI l).drop i).take 2 = [.int .u8 (l.getD i 0),.int .u8 (l.getD (i+1) 0)]:=by
 refine List.ext_getElem? fun k=>?_
 have g:∀ j,j < l.length->l[j]?=some (l.getD j 0):=fun j hj=>by rw[List.getD_eq_getElem?_getD,List.getElem?_eq_getElem hj]; rfl
 rw[List.getElem?_take]
 split
 ·rw[List.getElem?_drop,gI,List.getElem?_map,g _ (by omega)]
  match k,‹k < 2› with
  | 0,_=>rfl
  | 1,_=>rfl
 ·rw[List.getElem?_eq_none]; simp; omega
theorem uS (fl:List Int) (at_:Int) (n:Nat) (hn:n=2\/n=4) (ha:aY at_) (hl:fl.length<=65536) (h:gV fl at_ n) :
  ai gT 38 [.sl 1 (gI fl),.int .u32 134217728,.int .u32 at_,.int .i64 n] (.sl 1 (((gI fl).drop (dc at_)).take n)):=by
 have el:(gI fl).length=fl.length:=List.length_map ..
 obtain⟨h1,h2⟩:=h
 unfold aY at ha
 refine Spec.enter al P38 100 Tryz.func38 rfl (by kernel_rfl) ?_
 refine⟨fun h=>absurd (show at_ < 134217728 from h) (by omega),fun _=>?_⟩
 refine lu ?_ (show _<=at_ - 134217728/\at_ - 134217728<=_ by omega)
 refine li ?_ (show _<=at_ - 134217728/\at_ - 134217728<=_ by omega)
 refine fun hm=>?_
 refine li ?_ (show _<=(((gI fl).length:Nat):Int) - (n:Int)/\(((gI fl).length:Nat):Int) - (n:Int)<=_ by omega)
 refine⟨fun h=>absurd (show (((gI fl).length:Nat):Int) - (n:Int) < at_ - 134217728 from h) (by omega),fun _=>?_⟩
 refine lu ?_ (show _<=at_ - 134217728/\at_ - 134217728<=_ by omega)
 refine li ?_ (show _<=at_ - 134217728/\at_ - 134217728<=_ by omega)
 refine li ?_ (show _<=at_ - 134217728+(n:Int)/\at_ - 134217728+(n:Int)<=_ by omega)
 refine⟨show 0<=at_ - 134217728 by omega,show at_ - 134217728<=at_ - 134217728+(n:Int) by omega,show at_ - 134217728+(n:Int)<=(((gI fl).length:Nat):Int) by omega,?_⟩
 refine ax ?_
 show List.take (at_ - 134217728+(n:Int) - (at_ - 134217728)).toNat (List.drop (at_ - 134217728).toNat (gI fl))=_
 rw[show (at_ - 134217728+(n:Int) - (at_ - 134217728)).toNat=n by omega]; rfl
theorem uT (fl:List Int) (at_:Int) (n:Nat) (hn:n=2\/n=4) (ha:aY at_) (hl:fl.length<=65536) (h:¬ gV fl at_ n) :
  ai gT 38 [.sl 1 (gI fl),.int .u32 134217728,.int .u32 at_,.int .i64 n] .nil:=by
 have el:(gI fl).length=fl.length:=List.length_map ..
 unfold gV at h
 unfold aY at ha
 refine Spec.enter al P38 100 Tryz.func38 rfl (by kernel_rfl) ?_
 refine⟨fun h=>?_,fun h0=>?_⟩
 ·exact ax trivial
 have h0':¬ at_ < 134217728:=h0
 refine lu ?_ (show _<=at_ - 134217728/\at_ - 134217728<=_ by omega)
 refine li ?_ (show _<=at_ - 134217728/\at_ - 134217728<=_ by omega)
 refine fun hm=>?_
 refine li ?_ (show _<=(((gI fl).length:Nat):Int) - (n:Int)/\(((gI fl).length:Nat):Int) - (n:Int)<=_ by omega)
 refine⟨fun h=>?_,fun h1=>absurd (show ¬ (((gI fl).length:Nat):Int) - (n:Int) < at_ - 134217728 from h1) (by omega)⟩
 exact ax trivial
theorem Cr (w:Nat->Int) (fl:List Int) (at_:Int) (ha:aY at_) (hb:Cg fl) (hl:fl.length<=65536):Spec gT 72 [.ptr 1 0,.int .u32 at_] (qp w fl) [] fun y S'=>y = .tup [.int .u32 (lf fl at_),.int .i64 (pL fl at_)]/\S'=qp w fl:=by
 refine Spec.jP (Spec.enter al P72 100 Tryz.func72 rfl (by kernel_rfl) ?_)
 refine And.intro (show (2:Int)≠0 by decide) (.inl ⟨ha.1,show (0:Int) < 2 by decide,?_⟩)
 refine⟨fun h=>?_,fun h=>?_⟩
 ·have h':at_ % 2≠0:=h
  have e1:lf fl at_=0:=by unfold lf; rw[if_pos h']
  have e2:pL fl at_=60:=by unfold pL; rw[if_pos h']
  rw[e1,e2]
  exact rS
 have h':¬ at_ % 2≠0:=h
 by_cases hf:gV fl at_ 2
 ·have e1:lf fl at_=hN fl (dc at_):=by unfold lf; rw[if_neg h',if_pos hf]
  have e2:pL fl at_=0:=by unfold pL; rw[if_neg h',if_pos hf]
  rw[e1,e2]
  have hw:=uS fl at_ 2 (.inl rfl) ha hl hf
  have xu:dc at_+2<=fl.length:=by obtain⟨q1,q2⟩:=hf; unfold dc; omega
  rw[cut2 xu] at hw
  have b0:=fp hb (dc at_)
  have b1:=fp hb (dc at_+1)
  unfold hN
  generalize fl.getD (dc at_) 0=p at hw b0 ⊢
  generalize fl.getD (dc at_+1) 0=q at hw b1 ⊢
  refine hw.u ?_
  refine .inl ⟨show 2≠0 by decide,?_⟩
  refine⟨Int,[p,q],PV.int .u8,rfl,show (0:Int)<=0 by decide,show (0:Int) < 2 by decide,fun x hx=>?_⟩
  obtain rfl:p=x:=Option.some.inj hx
  refine⟨Int,[p,q],PV.int .u8,rfl,show (0:Int)<=1 by decide,show (1:Int) < 2 by decide,fun x hx=>?_⟩
  obtain rfl:q=x:=Option.some.inj hx
  refine lu ?_ (show 0<=p/\p<=_ by omega)
  refine lu ?_ (show 0<=q/\q<=_ by omega)
  refine⟨by decide,.inl ⟨ah (show 0<=q*256/\q*256<=_ by omega),?_⟩⟩
  have e:bits .or .u32 p (q*256)=p+q*256:=(gS p q 8 (by decide) (show 0<=p/\p < 256 by omega) (show 0<=q/\q*256<=_ by omega)).1
  exact bo (And.intro e (And.intro rfl trivial)) (aj rfl)
 ·have e1:lf fl at_=0:=by unfold lf; rw[if_neg h',if_neg hf]
  have e2:pL fl at_=61:=by unfold pL; rw[if_neg h',if_neg hf]
  rw[e1,e2]
  refine (uT fl at_ 2 (.inl rfl) ha hl hf).u ?_
  exact rS
theorem AR (l o n:Nat):kZ (.ref l o n) (.ref l o n):=by
 show (if (Nat.beq l l && Nat.beq o o && Nat.beq n n)=true then True else False)
 rw[if_pos (by simp only[Nat.beq_refl,Bool.and_self])]; trivial
def AS (at_:Int):Nat:=(at_ - 536870912).toNat
theorem Nc {at_:Int} (h:da at_):at_=((AS at_:Nat):Int)+536870912/\AS at_<=65532:=by
 obtain⟨a,b⟩:=h
 unfold AS; omega
theorem jL (w:Nat->Int) (fl:List Int) (at_:Int) (ha:aY at_) (h:¬ da at_) (h4:at_ % 4=0):Spec gT 38 [.wref 0,.int .u32 536870912,.int .u32 at_,.int .i64 4] (qp w fl) [] fun y S'=>y = .nil/\S'=qp w fl:=by
 have el:=j_ w
 unfold da at h
 unfold aY at ha
 refine Spec.jP (Spec.enter al P38 100 Tryz.func38 rfl (by kernel_rfl) ?_)
 refine⟨fun h=>?_,fun h0=>?_⟩
 ·exact rS
 have h0':¬ at_ < 536870912:=h0
 refine lu ?_ (show _<=at_ - 536870912/\at_ - 536870912<=_ by omega)
 refine li ?_ (show _<=at_ - 536870912/\at_ - 536870912<=_ by omega)
 refine fun hm=>?_
 refine li ?_ (show _<=(((gr w).length:Nat):Int) - 4/\(((gr w).length:Nat):Int) - 4<=_ by rw[el]; decide)
 refine⟨fun h=>?_,fun h1=>absurd (show ¬ (((gr w).length:Nat):Int) - 4 < at_ - 536870912 from h1) (by rw[el]; omega)⟩
 exact rS
theorem lU (w:Nat->Int) (fl:List Int) (at_:Int) (ha:aY at_) (h:da at_):Spec gT 38 [.wref 0,.int .u32 536870912,.int .u32 at_,.int .i64 4] (qp w fl) [] fun y S'=>y = .ref 0 (AS at_) 4/\S'=qp w fl:=by
 have el:=j_ w
 obtain⟨e,hle⟩:=Nc h
 unfold aY at ha
 generalize AS at_=o at e hle ⊢
 subst e
 refine Spec.jP (Spec.enter al P38 100 Tryz.func38 rfl (by kernel_rfl) ?_)
 refine⟨fun h=>absurd (show (o:Int)+536870912 < 536870912 from h) (by omega),fun _=>?_⟩
 refine lu ?_ (show _<=(o:Int)+536870912 - 536870912/\(o:Int)+536870912 - 536870912<=_ by omega)
 refine li ?_ (show _<=(o:Int)+536870912 - 536870912/\(o:Int)+536870912 - 536870912<=_ by omega)
 refine fun hm=>?_
 refine li ?_ (show _<=(((gr w).length:Nat):Int) - 4/\(((gr w).length:Nat):Int) - 4<=_ by rw[el]; decide)
 refine⟨fun h1=>absurd (show (((gr w).length:Nat):Int) - 4 < (o:Int)+536870912 - 536870912 from h1) (by rw[el]; omega),fun _=>?_⟩
 refine lu ?_ (show _<=(o:Int)+536870912 - 536870912/\(o:Int)+536870912 - 536870912<=_ by omega)
 refine li ?_ (show _<=(o:Int)+536870912 - 536870912/\(o:Int)+536870912 - 536870912<=_ by omega)
 refine li ?_ (show _<=(o:Int)+536870912 - 536870912+4/\(o:Int)+536870912 - 536870912+4<=_ by omega)
 refine⟨o,o+4,show (o:Int)+536870912 - 536870912=(o:Int) by omega,show (o:Int)+536870912 - 536870912+4=((o+4:Nat):Int) by omega,by omega,show o+4<=(gr w).length by rw[el]; omega,show o < (gr w).length by rw[el]; omega,?_⟩
 exact bo (show kZ (.ref 0 (o*1) (o+4 - o)) (.ref 0 o 4) by rw[Nat.mul_one,Nat.add_sub_cancel_left]; exact AR _ _ _) (aj rfl)
theorem jE (w:Nat->Int) (j r:Nat) (hr:r < 4):la w (4*j+r) = .int .u8 (gK (w j) r):=by
 unfold la; rw[show (4*j+r) / 4=j by omega,show (4*j+r) % 4=r by omega]
theorem Jc (w:Nat->Int) (fl:List Int) (j:Nat) (hj:j < 16384) (hw:aY (w j)):Spec gT 93 [.ref 0 (4*j) 4] (qp w fl) [] fun y S'=>y = .int .u32 (w j)/\S'=qp w fl:=by
 have el:(List.range 65536).length=65536:=List.length_range
 have hg:∀ r x:Nat,r < 4->(List.range 65536)[4*j+r]?=some x->x=4*j+r:=fun r x hr hx=>by
  rw[List.getElem?_range (by omega)] at hx; exact (Option.some.inj hx).symm
 have e0:=jE w j 0 (by decide)
 have e1:=jE w j 1 (by decide)
 have e2:=jE w j 2 (by decide)
 have e3:=jE w j 3 (by decide)
 have b0:=lT (w j) 0
 have b1:=lT (w j) 1
 have b2:=lT (w j) 2
 have b3:=lT (w j) 3
 have Vr:=Cq (w j) hw
 have d0:jQ 0=1:=rfl
 have d1:jQ 1=256:=rfl
 have d2:jQ 2=65536:=rfl
 have d3:jQ 3=16777216:=rfl
 refine Spec.jP (Spec.enter al WO 100 Tryz.func93 rfl (by kernel_rfl) ?_)
 refine SW.rounds al WO (by kernel_rfl) (N:=60) 5 ?_
 refine⟨Nat,List.range 65536,la w,rfl,show 4*j+0 < (List.range 65536).length by rw[el]; omega,fun x hx=>?_⟩
 obtain rfl:=hg 0 x (by decide) hx
 rw[e0]
 refine lu ?_ (show 0<=gK (w j) 0/\gK (w j) 0<=_ by omega)
 refine⟨by decide,.inl ⟨ah (show 0<=gK (w j) 0*jQ 0/\gK (w j) 0*jQ 0<=_ by rw[d0]; omega),?_⟩⟩
 refine⟨Nat,List.range 65536,la w,rfl,show 4*j+1 < (List.range 65536).length by rw[el]; omega,fun x hx=>?_⟩
 obtain rfl:=hg 1 x (by decide) hx
 rw[e1]
 refine lu ?_ (show 0<=gK (w j) 1/\gK (w j) 1<=_ by omega)
 refine⟨by decide,.inl ⟨ah (show 0<=gK (w j) 1*jQ 1/\gK (w j) 1*jQ 1<=_ by rw[d1]; omega),?_⟩⟩
 refine⟨Nat,List.range 65536,la w,rfl,show 4*j+2 < (List.range 65536).length by rw[el]; omega,fun x hx=>?_⟩
 obtain rfl:=hg 2 x (by decide) hx
 rw[e2]
 refine lu ?_ (show 0<=gK (w j) 2/\gK (w j) 2<=_ by omega)
 refine⟨by decide,.inl ⟨ah (show 0<=gK (w j) 2*jQ 2/\gK (w j) 2*jQ 2<=_ by rw[d2]; omega),?_⟩⟩
 refine⟨Nat,List.range 65536,la w,rfl,show 4*j+3 < (List.range 65536).length by rw[el]; omega,fun x hx=>?_⟩
 obtain rfl:=hg 3 x (by decide) hx
 rw[e3]
 refine lu ?_ (show 0<=gK (w j) 3/\gK (w j) 3<=_ by omega)
 refine⟨by decide,.inl ⟨ah (show 0<=gK (w j) 3*jQ 3/\gK (w j) 3*jQ 3<=_ by rw[d3]; omega),?_⟩⟩
 exact bo (show bits .or .u32 (bits .or .u32 (bits .or .u32 (bits .or .u32 0 (gK (w j) 0*1)) (gK (w j) 1*256)) (gK (w j) 2*65536)) (gK (w j) 3*16777216)=w j by rw[Int.mul_one,sN _ _ _ _ b0 b1 b2 b3,Vr]) (aj rfl)
theorem Nd (a b c d:Int) (ha:0<=a/\a<=255) (hb:0<=b/\b<=255) (hc:0<=c/\c<=255) (hd:0<=d/\d<=255):ai gT 93 [.sl 1 [.int .u8 a,.int .u8 b,.int .u8 c,.int .u8 d]] (.int .u32 (a+b*256+c*65536+d*16777216)):=by
 have d0:jQ 0=1:=rfl
 have d1:jQ 1=256:=rfl
 have d2:jQ 2=65536:=rfl
 have d3:jQ 3=16777216:=rfl
 refine Spec.enter al WO 100 Tryz.func93 rfl (by kernel_rfl) ?_
 refine fun _=>?_
 refine SW.rounds al WO (by kernel_rfl) (N:=60) 5 ?_
 refine⟨fun _=>?_,fun h=>absurd (show (0:Int) < 4 by decide) h⟩
 refine⟨Int,[a,b,c,d],PV.int .u8,rfl,show (0:Int)<=0 by decide,show (0:Int) < 4 by decide,fun x hx=>?_⟩
 obtain rfl:a=x:=Option.some.inj hx
 refine lu ?_ (show 0<=a/\a<=_ by omega)
 refine⟨by decide,.inl ⟨ah (show 0<=a*jQ 0/\a*jQ 0<=_ by rw[d0]; omega),?_⟩⟩
 refine⟨fun _=>?_,fun h=>absurd (show (1:Int) < 4 by decide) h⟩
 refine⟨Int,[a,b,c,d],PV.int .u8,rfl,show (0:Int)<=1 by decide,show (1:Int) < 4 by decide,fun x hx=>?_⟩
 obtain rfl:b=x:=Option.some.inj hx
 refine lu ?_ (show 0<=b/\b<=_ by omega)
 refine⟨by decide,.inl ⟨ah (show 0<=b*jQ 1/\b*jQ 1<=_ by rw[d1]; omega),?_⟩⟩
 refine⟨fun _=>?_,fun h=>absurd (show (2:Int) < 4 by decide) h⟩
 refine⟨Int,[a,b,c,d],PV.int .u8,rfl,show (0:Int)<=2 by decide,show (2:Int) < 4 by decide,fun x hx=>?_⟩
 obtain rfl:c=x:=Option.some.inj hx
 refine lu ?_ (show 0<=c/\c<=_ by omega)
 refine⟨by decide,.inl ⟨ah (show 0<=c*jQ 2/\c*jQ 2<=_ by rw[d2]; omega),?_⟩⟩
 refine⟨fun _=>?_,fun h=>absurd (show (3:Int) < 4 by decide) h⟩
 refine⟨Int,[a,b,c,d],PV.int .u8,rfl,show (0:Int)<=3 by decide,show (3:Int) < 4 by decide,fun x hx=>?_⟩
 obtain rfl:d=x:=Option.some.inj hx
 refine lu ?_ (show 0<=d/\d<=_ by omega)
 refine⟨by decide,.inl ⟨ah (show 0<=d*jQ 3/\d*jQ 3<=_ by rw[d3]; omega),?_⟩⟩
 refine⟨fun h=>absurd (show (4:Int) < 4 from h) (by decide),fun _=>?_⟩
 refine ax ?_
 show bits .or .u32 (bits .or .u32 (bits .or .u32 (bits .or .u32 0 (a*1)) (b*256)) (c*65536)) (d*16777216)=_
 rw[Int.mul_one,sN _ _ _ _ ha hb hc hd]
theorem Vs {fl:List Int} {a:Int} (h:a % 4≠0):jj fl a=60:=by unfold jj; rw[if_pos h]
theorem Cs {fl:List Int} {a:Int} (h:¬ a % 4≠0) (h1:da a):jj fl a=0:=by unfold jj; rw[if_neg h,if_pos h1]
theorem Vt {fl:List Int} {a:Int} (h:¬ a % 4≠0) (h1:¬ da a) (h2:gV fl a 4):jj fl a=0:=by unfold jj; rw[if_neg h,if_neg h1,if_pos h2]
theorem Vu {fl:List Int} {a:Int} (h:¬ a % 4≠0) (h1:¬ da a) (h2:¬ gV fl a 4):jj fl a=61:=by unfold jj; rw[if_neg h,if_neg h1,if_neg h2]
theorem Vv {fl:List Int} {w:Nat->Int} {a:Int} (h:a % 4≠0):nB fl w a=0:=by unfold nB; rw[if_pos h]
theorem Ct {fl:List Int} {w:Nat->Int} {a:Int} (h:¬ a % 4≠0) (h1:da a):nB fl w a=w (mD a):=by unfold nB; rw[if_neg h,if_pos h1]
theorem Vw {fl:List Int} {w:Nat->Int} {a:Int} (h:¬ a % 4≠0) (h1:¬ da a) (h2:gV fl a 4):nB fl w a=hN fl (dc a)+hN fl (dc a+2)*65536:=by unfold nB; rw[if_neg h,if_neg h1,if_pos h2]
theorem Vx {fl:List Int} {w:Nat->Int} {a:Int} (h:¬ a % 4≠0) (h1:¬ da a) (h2:¬ gV fl a 4):nB fl w a=0:=by unfold nB; rw[if_neg h,if_neg h1,if_neg h2]
theorem Pk {a:Int} (h:¬ a % 4≠0) (h1:da a):AS a=4*mD a/\mD a < 16384:=by
 obtain⟨q1,q2⟩:=h1
 unfold AS mD
 have:a % 4=0:=Classical.not_not.1 h
 omega
theorem Cu (w:Nat->Int) (fl:List Int) (at_:Int) (ha:aY at_) (hb:Cg fl) (hl:fl.length<=65536) (hw:∀ k,aY (w k)):Spec gT 106 [.ptr 1 0,.int .u32 at_] (qp w fl) [] fun y S'=>y = .tup [.int .u32 (nB fl w at_),.int .i64 (jj fl at_)]/\S'=qp w fl:=by
 refine Spec.jP (Spec.enter al P106 100 Tryz.func106 rfl (by kernel_rfl) ?_)
 refine And.intro (show (4:Int)≠0 by decide) (.inl ⟨ha.1,show (0:Int) < 4 by decide,?_⟩)
 refine⟨fun h=>?_,fun h=>?_⟩
 ·rw[Vs h,Vv h]
  exact rS
 have h4:¬ at_ % 4≠0:=h
 by_cases hr:da at_
 ·obtain⟨e,hj⟩:=Pk h4 hr
  have hy:=lU w fl at_ ha hr
  rw[e] at hy
  rw[Cs h4 hr,Ct h4 hr]
  refine (hy).e ?_
  refine⟨[],bf,(Jc w fl (mD at_) hj (hw _)).vU rfl rfl rfl rfl ⟨AR _ _ _,trivial⟩ (And.intro (bm rfl rfl) (And.intro (bm rfl rfl) ?_))⟩
  exact rS
 ·refine (jL w fl at_ ha hr (Classical.not_not.1 h4)).e ?_
  by_cases hf:gV fl at_ 4
  ·rw[Vt h4 hr hf,Vw h4 hr hf]
   have hy:=uS fl at_ 4 (.inr rfl) ha hl hf
   have xu:dc at_+4<=fl.length:=by obtain⟨q1,q2⟩:=hf; unfold dc; omega
   rw[cut4 xu] at hy
   have b0:=fp hb (dc at_)
   have b1:=fp hb (dc at_+1)
   have b2:=fp hb (dc at_+2)
   have b3:=fp hb (dc at_+3)
   have e:hN fl (dc at_)+hN fl (dc at_+2)*65536=fl.getD (dc at_) 0+fl.getD (dc at_+1) 0*256+fl.getD (dc at_+2) 0*65536+fl.getD (dc at_+3) 0*16777216:=by unfold hN; rw[show dc at_+2+1=dc at_+3 by omega]; omega
   rw[e]
   have hz:=Nd _ _ _ _ b0 b1 b2 b3
   refine hy.u ?_
   refine .inl ⟨show 4≠0 by decide,?_⟩
   refine hz.u ?_
   exact rS
  ·rw[Vu h4 hr hf,Vx h4 hr hf]
   refine (uT fl at_ 4 (.inr rfl) ha hl hf).u ?_
   exact rS
theorem Jd {a:Int} (h:a % 4≠0):jD a=60:=by unfold jD; rw[if_pos h]
theorem Je {a:Int} (h:¬ a % 4≠0) (h1:134217728<=a/\a < 134283264):jD a=62:=by unfold jD; rw[if_neg h,if_pos h1]
theorem Jf {a:Int} (h:¬ a % 4≠0) (h2:da a):jD a=0:=by unfold jD; rw[if_neg h,if_neg (by obtain⟨q1,q2⟩:=h2; omega),if_pos h2]
theorem Jg {a:Int} (h:¬ a % 4≠0) (h1:¬ (134217728<=a/\a < 134283264)) (h2:¬ da a):jD a=61:=by unfold jD; rw[if_neg h,if_neg h1,if_neg h2]
theorem wJ {w:Nat->Int} {a x:Int} (h:jD a≠0):wI w a x=w:=by unfold wI; rw[if_neg h]
theorem Vy {w:Nat->Int} {a x:Int} (h:jD a=0):wI w a x=sM w (mD a) x:=by unfold wI; rw[if_pos h]
theorem qR (x:Int) (k:Nat):IntKind.u8.wrap (x / jQ k)=gK x k:=IntKind.wrap_u8' _
theorem jd (w:Nat->Int) (fl:List Int) (at_ x:Int) (ha:aY at_):Spec gT 12 [.ptr 1 0,.int .u32 at_,.int .u32 x] (qp w fl) [] fun y S'=>y = .int .i64 (jD at_)/\S'=qp (wI w at_ x) fl:=by
 have el:=j_ w
 refine Spec.jP (Spec.enter al P12 100 Tryz.func12 rfl (by kernel_rfl) ?_)
 refine And.intro (show (4:Int)≠0 by decide) (.inl ⟨ha.1,show (0:Int) < 4 by decide,?_⟩)
 refine⟨fun h=>?_,fun h=>?_⟩
 ·rw[wJ (by rw[Jd h]; decide),Jd h]
  exact rS
 have h4:¬ at_ % 4≠0:=h
 by_cases hf:134217728<=at_/\at_ < 134283264
 ·rw[wJ (by rw[Je h4 hf]; decide),Je h4 hf]
  refine⟨fun _=>?_,fun h=>absurd hf.1 h⟩
  refine⟨fun _=>?_,fun h=>absurd hf.2 h⟩
  exact rS
 by_cases hr:da at_
 ·obtain⟨e,hj⟩:=Pk h4 hr
  have hy:=lU w fl at_ ha hr
  rw[e] at hy
  rw[Vy (Jf h4 hr),Jf h4 hr]
  have qn:=Jb w (mD at_) x hj
  generalize mD at_=j at hj hy qn ⊢
  refine⟨fun _=>?_,fun h=>absurd (show 134217728<=at_ by have:=hr.1; omega) h⟩
  refine⟨fun h=>absurd h (show ¬ at_ < 134283264 by have:=hr.1; omega),fun _=>?_⟩
  refine (hy).e ?_
  refine SW.rounds al P12 (by kernel_rfl) (N:=60) 5 ?_
  refine⟨by decide,.inr ?_⟩
  refine⟨show 4*j+0 < (gr w).length by rw[el]; omega,?_⟩
  refine⟨by decide,.inr ?_⟩
  refine⟨show 4*j+1 < ((gr w).set (4*j+0) _).length by rw[List.length_set,el]; omega,?_⟩
  refine⟨by decide,.inr ?_⟩
  refine⟨show 4*j+2 < (((gr w).set (4*j+0) _).set (4*j+1) _).length by rw[List.length_set,List.length_set,el]; omega,?_⟩
  refine⟨by decide,.inr ?_⟩
  refine⟨show 4*j+3 < ((((gr w).set (4*j+0) _).set (4*j+1) _).set (4*j+2) _).length by rw[List.length_set,List.length_set,List.length_set,el]; omega,?_⟩
  refine bo rfl (And.intro ?_ (And.intro (bm rfl rfl) trivial))
  show ((((gr w).set (4*j) (.int .u8 (IntKind.u8.wrap (x / jQ 0)))).set (4*j+1) (.int .u8 (IntKind.u8.wrap (x / jQ 1)))).set (4*j+2) (.int .u8 (IntKind.u8.wrap (x / jQ 2)))).set (4*j+3) (.int .u8 (IntKind.u8.wrap (x / jQ 3)))=gr (sM w j x)
  rw[qR,qR,qR,qR]
  exact qn
 ·rw[wJ (by rw[Jg h4 hf hr]; decide),Jg h4 hf hr]
  refine⟨fun h1=>?_,fun h1=>?_⟩
  ·refine⟨fun h2=>absurd ⟨h1,h2⟩ hf,fun _=>?_⟩
   refine (jL w fl at_ ha hr (Classical.not_not.1 h4)).e ?_
   exact rS
  ·refine (jL w fl at_ ha hr (Classical.not_not.1 h4)).e ?_
   exact rS
structure Jh (m:MS):Prop where
 w:∀ k,aY (m.w k)
 fl:Cg m.fl
 len:m.fl.length<=65536
def gW (f:Int):Prop:=f=33\/f=35\/f=84\/f=37\/f=86
instance (f:Int):Decidable (gW f):=by unfold gW; infer_instance
def dO (x:XS) (a n:Int):XS:={ x with data:=a,words:=n }
def kJ (m:MS) (x:XS) (a:Int):Nat->Int:=if gW x.i.form then wI m.w a (ao x x.i.rd) else m.w
def je (m:MS) (x:XS) (a:Int):XS:=if gW x.i.form then dO x a 1 else if jj m.fl a=0 then cI (dO x a 1) x.i.rd (nB m.fl m.w a) else dO x a 1
def jm (m:MS) (x:XS) (a:Int):Int:=if gW x.i.form then jD a else jj m.fl a
def fM (m:MS) (w:Nat->Int):MS:={ m with w:=w }
theorem Eb (m:MS) (x:XS) (a:Int) (hm:Jh m) (hx:mC x) (ha:aY a):Spec gT 77 [.ptr 3 0,.int .u32 a] (iq m x) [] fun y S'=>y = .int .i64 (jm m x a)/\S'=iq (fM m (kJ m x a)) (je m x a):=by
 refine Spec.jP (Spec.enter al P77 100 Tryz.func77 rfl (by kernel_rfl) ?_)
 refine⟨fun h1=>?_,fun h1=>?_⟩
 ·have hs:gW x.i.form:=by unfold gW; omega
  have e1:kJ m x a=wI m.w a (ao x x.i.rd):=by unfold kJ; rw[if_pos hs]
  have e2:je m x a=dO x a 1:=by unfold je; rw[if_pos hs]
  have e3:jm m x a=jD a:=by unfold jm; rw[if_pos hs]
  rw[e1,e2,e3]
  refine⟨[],bf,(iI .p .p m (dO x a 1) x.i.rd hx.rd.1 hx.rd.2).vU rfl rfl rfl rfl (by repeat' first|exact trivial|exact rfl|exact Iff.rfl|refine And.intro ?_ ?_) (And.intro (by first|exact bm rfl rfl|(repeat' first|exact trivial|exact rfl|exact Iff.rfl|exact Or.inl rfl|exact not_false|refine And.intro ?_ ?_)) (And.intro (by first|exact bm rfl rfl|(repeat' first|exact trivial|exact rfl|exact Iff.rfl|exact Or.inl rfl|exact not_false|refine And.intro ?_ ?_)) (And.intro (by first|exact bm rfl rfl|(repeat' first|exact trivial|exact rfl|exact Iff.rfl|exact Or.inl rfl|exact not_false|refine And.intro ?_ ?_)) (And.intro (by first|exact bm rfl rfl|(repeat' first|exact trivial|exact rfl|exact Iff.rfl|exact Or.inl rfl|exact not_false|refine And.intro ?_ ?_)) ?_))))⟩
  refine (jd m.w m.fl a (ao x x.i.rd) ha).e ?_
  exact rS
 refine⟨fun h2=>?_,fun h2=>?_⟩
 ·have hs:gW x.i.form:=by unfold gW; omega
  have e1:kJ m x a=wI m.w a (ao x x.i.rd):=by unfold kJ; rw[if_pos hs]
  have e2:je m x a=dO x a 1:=by unfold je; rw[if_pos hs]
  have e3:jm m x a=jD a:=by unfold jm; rw[if_pos hs]
  rw[e1,e2,e3]
  refine⟨[],bf,(iI .p .p m (dO x a 1) x.i.rd hx.rd.1 hx.rd.2).vU rfl rfl rfl rfl (by repeat' first|exact trivial|exact rfl|exact Iff.rfl|refine And.intro ?_ ?_) (And.intro (by first|exact bm rfl rfl|(repeat' first|exact trivial|exact rfl|exact Iff.rfl|exact Or.inl rfl|exact not_false|refine And.intro ?_ ?_)) (And.intro (by first|exact bm rfl rfl|(repeat' first|exact trivial|exact rfl|exact Iff.rfl|exact Or.inl rfl|exact not_false|refine And.intro ?_ ?_)) (And.intro (by first|exact bm rfl rfl|(repeat' first|exact trivial|exact rfl|exact Iff.rfl|exact Or.inl rfl|exact not_false|refine And.intro ?_ ?_)) (And.intro (by first|exact bm rfl rfl|(repeat' first|exact trivial|exact rfl|exact Iff.rfl|exact Or.inl rfl|exact not_false|refine And.intro ?_ ?_)) ?_))))⟩
  refine (jd m.w m.fl a (ao x x.i.rd) ha).e ?_
  exact rS
 refine⟨fun h3=>?_,fun h3=>?_⟩
 ·have hs:gW x.i.form:=by unfold gW; omega
  have e1:kJ m x a=wI m.w a (ao x x.i.rd):=by unfold kJ; rw[if_pos hs]
  have e2:je m x a=dO x a 1:=by unfold je; rw[if_pos hs]
  have e3:jm m x a=jD a:=by unfold jm; rw[if_pos hs]
  rw[e1,e2,e3]
  refine⟨[],bf,(iI .p .p m (dO x a 1) x.i.rd hx.rd.1 hx.rd.2).vU rfl rfl rfl rfl (by repeat' first|exact trivial|exact rfl|exact Iff.rfl|refine And.intro ?_ ?_) (And.intro (by first|exact bm rfl rfl|(repeat' first|exact trivial|exact rfl|exact Iff.rfl|exact Or.inl rfl|exact not_false|refine And.intro ?_ ?_)) (And.intro (by first|exact bm rfl rfl|(repeat' first|exact trivial|exact rfl|exact Iff.rfl|exact Or.inl rfl|exact not_false|refine And.intro ?_ ?_)) (And.intro (by first|exact bm rfl rfl|(repeat' first|exact trivial|exact rfl|exact Iff.rfl|exact Or.inl rfl|exact not_false|refine And.intro ?_ ?_)) (And.intro (by first|exact bm rfl rfl|(repeat' first|exact trivial|exact rfl|exact Iff.rfl|exact Or.inl rfl|exact not_false|refine And.intro ?_ ?_)) ?_))))⟩
  refine (jd m.w m.fl a (ao x x.i.rd) ha).e ?_
  exact rS
 refine⟨fun h4=>?_,fun h4=>?_⟩
 ·have hs:gW x.i.form:=by unfold gW; omega
  have e1:kJ m x a=wI m.w a (ao x x.i.rd):=by unfold kJ; rw[if_pos hs]
  have e2:je m x a=dO x a 1:=by unfold je; rw[if_pos hs]
  have e3:jm m x a=jD a:=by unfold jm; rw[if_pos hs]
  rw[e1,e2,e3]
  refine⟨[],bf,(iI .p .p m (dO x a 1) x.i.rd hx.rd.1 hx.rd.2).vU rfl rfl rfl rfl (by repeat' first|exact trivial|exact rfl|exact Iff.rfl|refine And.intro ?_ ?_) (And.intro (by first|exact bm rfl rfl|(repeat' first|exact trivial|exact rfl|exact Iff.rfl|exact Or.inl rfl|exact not_false|refine And.intro ?_ ?_)) (And.intro (by first|exact bm rfl rfl|(repeat' first|exact trivial|exact rfl|exact Iff.rfl|exact Or.inl rfl|exact not_false|refine And.intro ?_ ?_)) (And.intro (by first|exact bm rfl rfl|(repeat' first|exact trivial|exact rfl|exact Iff.rfl|exact Or.inl rfl|exact not_false|refine And.intro ?_ ?_)) (And.intro (by first|exact bm rfl rfl|(repeat' first|exact trivial|exact rfl|exact Iff.rfl|exact Or.inl rfl|exact not_false|refine And.intro ?_ ?_)) ?_))))⟩
  refine (jd m.w m.fl a (ao x x.i.rd) ha).e ?_
  exact rS
 refine⟨fun h5=>?_,fun h5=>?_⟩
 ·have hs:gW x.i.form:=by unfold gW; omega
  have e1:kJ m x a=wI m.w a (ao x x.i.rd):=by unfold kJ; rw[if_pos hs]
  have e2:je m x a=dO x a 1:=by unfold je; rw[if_pos hs]
  have e3:jm m x a=jD a:=by unfold jm; rw[if_pos hs]
  rw[e1,e2,e3]
  refine⟨[],bf,(iI .p .p m (dO x a 1) x.i.rd hx.rd.1 hx.rd.2).vU rfl rfl rfl rfl (by repeat' first|exact trivial|exact rfl|exact Iff.rfl|refine And.intro ?_ ?_) (And.intro (by first|exact bm rfl rfl|(repeat' first|exact trivial|exact rfl|exact Iff.rfl|exact Or.inl rfl|exact not_false|refine And.intro ?_ ?_)) (And.intro (by first|exact bm rfl rfl|(repeat' first|exact trivial|exact rfl|exact Iff.rfl|exact Or.inl rfl|exact not_false|refine And.intro ?_ ?_)) (And.intro (by first|exact bm rfl rfl|(repeat' first|exact trivial|exact rfl|exact Iff.rfl|exact Or.inl rfl|exact not_false|refine And.intro ?_ ?_)) (And.intro (by first|exact bm rfl rfl|(repeat' first|exact trivial|exact rfl|exact Iff.rfl|exact Or.inl rfl|exact not_false|refine And.intro ?_ ?_)) ?_))))⟩
  refine (jd m.w m.fl a (ao x x.i.rd) ha).e ?_
  exact rS
 ·have hs:¬ gW x.i.form:=by unfold gW; omega
  have e1:kJ m x a=m.w:=by unfold kJ; rw[if_neg hs]
  have e3:jm m x a=jj m.fl a:=by unfold jm; rw[if_neg hs]
  have e2:je m x a=if jj m.fl a=0 then cI (dO x a 1) x.i.rd (nB m.fl m.w a) else dO x a 1:=by unfold je; rw[if_neg hs]
  rw[e1,e2,e3]
  refine (Cu m.w m.fl a ha hm.fl hm.len hm.w).e ?_
  refine⟨fun h=>?_,fun h=>?_⟩
  ·rw[if_pos h]
   refine⟨[],bf,(bV m (dO x a 1) x.i.rd (nB m.fl m.w a) hx.rd.1 hx.rd.2).vU rfl rfl rfl rfl (by repeat' first|exact trivial|exact rfl|exact Iff.rfl|refine And.intro ?_ ?_) (And.intro (by first|exact bm rfl rfl|(repeat' first|exact trivial|exact rfl|exact Iff.rfl|exact Or.inl rfl|exact not_false|refine And.intro ?_ ?_)) (And.intro (by first|exact bm rfl rfl|(repeat' first|exact trivial|exact rfl|exact Iff.rfl|exact Or.inl rfl|exact not_false|refine And.intro ?_ ?_)) (And.intro (by first|exact bm rfl rfl|(repeat' first|exact trivial|exact rfl|exact Iff.rfl|exact Or.inl rfl|exact not_false|refine And.intro ?_ ?_)) (And.intro (by first|exact bm rfl rfl|(repeat' first|exact trivial|exact rfl|exact Iff.rfl|exact Or.inl rfl|exact not_false|refine And.intro ?_ ?_)) ?_))))⟩
   exact rS
  ·rw[if_neg h]
   exact rS
def sO (av:Int) (r:Nat):Int:=bits .and .i64 (av / Ev.aV .i64 (r:Int)) 1
def cf (x:XS) (w:Nat->Int) (a:Int):Nat->(Nat->Int) × Int × Int
 | 0=>(w,a,0)
 | r+1=>if (cf x w a r).2.2≠0 then cf x w a r else if sO x.i.av r=0 then cf x w a r
  else if jD (cf x w a r).2.1≠0 then ((cf x w a r).1,(cf x w a r).2.1,jD (cf x w a r).2.1)
  else (wI (cf x w a r).1 (cf x w a r).2.1 (ao x r),IntKind.u32.wrap ((cf x w a r).2.1+4),0)
theorem qc {x:XS} {w:Nat->Int} {a:Int} {r:Nat} (h:(cf x w a r).2.2≠0):∀ n,cf x w a (r+n)=cf x w a r
 | 0=>rfl
 | n+1=>by rw[← Nat.add_assoc,cf,qc h n,if_pos h]
theorem AU {x:XS} {w:Nat->Int} {a:Int} {r:Nat} (h:(cf x w a r).2.2=0) (hb:sO x.i.av r=0):cf x w a (r+1)=cf x w a r:=by rw[cf,if_neg (by omega),if_pos hb]
theorem Ec {x:XS} {w:Nat->Int} {a:Int} {r:Nat} (h:(cf x w a r).2.2=0) (hb:¬ sO x.i.av r=0) (he:jD (cf x w a r).2.1≠0):cf x w a (r+1)=((cf x w a r).1,(cf x w a r).2.1,jD (cf x w a r).2.1):=by rw[cf,if_neg (by omega),if_neg hb,if_pos he]
theorem Ji {x:XS} {w:Nat->Int} {a:Int} {r:Nat} (h:(cf x w a r).2.2=0) (hb:¬ sO x.i.av r=0) (he:¬ jD (cf x w a r).2.1≠0):cf x w a (r+1)=(wI (cf x w a r).1 (cf x w a r).2.1 (ao x r),IntKind.u32.wrap ((cf x w a r).2.1+4),0):=by rw[cf,if_neg (by omega),if_neg hb,if_neg he]
theorem yR {x:XS} {w:Nat->Int} {a:Int} (ha:aY a):∀ r,aY (cf x w a r).2.1
 | 0=>ha
 | r+1=>by
  have ih:=yR (x:=x) (w:=w) ha r
  rw[cf]
  split
  ·exact ih
  ·split
   ·exact ih
   ·split
    ·exact ih
    ·exact wrap_u32 _
def di (x:XS):Int:=IntKind.u32.wrap (ao x 13 - IntKind.u32.wrap (4*cl x.i.av))
def lV (m:MS) (x:XS):(Nat->Int) × Int × Int:=cf x m.w (di x) 15
def oR (m:MS) (x:XS):XS:=if (lV m x).2.2=0 then cI (dO x (di x) (cl x.i.av)) 13 (di x) else dO x (di x) (cl x.i.av)
theorem Nf (m:MS) (x:XS) (hx:mC x):Spec gT 78 [.ptr 3 0] (iq m x) [] fun y S'=>y = .int .i64 (lV m x).2.2/\S'=iq (fM m (lV m x).1) (oR m x):=by
 have hA:aY (di x):=wrap_u32 _
 have hbits:=py x.i.av hx.av.1 hx.av.2
 have ew:IntKind.u32.wrap x.i.av=x.i.av:=by rw[IntKind.wrap_u32']; have:=hx.av; omega
 refine Spec.jP (Spec.enter al P78 100 Tryz.func78 rfl (by kernel_rfl) ?_)
 refine lu ?_ (show 0<=x.i.av/\x.i.av<=_ by have:=hx.av; omega)
 refine (sG x.i.av hx.av.1 hx.av.2).u ?_
 refine li ?_ (show _<=4*cl x.i.av/\4*cl x.i.av<=_ by omega)
 refine .inr ?_
 refine (iI .w .p m { x with words:=cl x.i.av } 13 (by decide) (by decide)).e ?_
 refine .inr ?_
 have e0:cf x m.w (di x) 0=(m.w,di x,0):=rfl
 refine SW.p_ al P78 (by kernel_rfl) (α:={r:Nat // r<=15/\(cf x m.w (di x) r).2.2=0}) (fun r=>[(0,.ptr 3 0),(3,.int .u32 (cf x m.w (di x) r.1).2.1),(32,.int .i64 r.1)]) (fun r=>iq (fM m (cf x m.w (di x) r.1).1) (dO x (di x) (cl x.i.av))) (fun r=>15 - r.1) ⟨0,by omega,rfl⟩ 60 [some 0,some 1,some 2,some 3] ?_ ?_
 ·repeat' first|exact trivial|exact rfl|exact Iff.rfl|refine And.intro ?_ ?_
 rintro⟨r,hr,hz⟩
 have hP:=yR (x:=x) (w:=m.w) hA r
 refine⟨fun h=>?_,fun h=>?_⟩
 ·have h':(r:Int) < 15:=h
  refine⟨show (0:Int)<=(r:Int) by omega,?_⟩
  refine⟨fun hb=>?_,fun hb=>?_⟩
  ·have hs:=AU (x:=x) (w:=m.w) (a:=di x) hz hb
   refine .inl ⟨aq (show _<=(r:Int)+1/\(r:Int)+1<=_ by omega),⟨⟨r+1,by omega,by rw[hs]; exact hz⟩,[some 0,some 1,some 2,some 3],show 15 - (r+1) < 15 - r by omega,?_⟩⟩
   show fD _ _ _ (ba.bare _ [(0,.ptr 3 0),(3,.int .u32 (cf x m.w (di x) (r+1)).2.1),(32,.int .i64 (r+1:Nat))] (iq (fM m (cf x m.w (di x) (r+1)).1) (dO x (di x) (cl x.i.av))))
   rw[hs]
   repeat' first|exact trivial|exact rfl|exact Iff.rfl|refine And.intro ?_ ?_
  ·refine (iI .p .p (fM m (cf x m.w (di x) r).1) (dO x (di x) (cl x.i.av)) (r:Int) (by omega) (by omega)).e ?_
   refine (jd (cf x m.w (di x) r).1 m.fl (cf x m.w (di x) r).2.1 (ao x r) hP).e ?_
   refine⟨fun he=>?_,fun he=>?_⟩
   ·have hE:=Ec (x:=x) (w:=m.w) (a:=di x) hz hb he
    have hF:lV m x=((cf x m.w (di x) r).1,(cf x m.w (di x) r).2.1,jD (cf x m.w (di x) r).2.1):=by
     have hs:=qc (x:=x) (w:=m.w) (a:=di x) (r:=r+1) (by rw[hE]; exact he) (14 - r)
     unfold lV
     rw[show 15=r+1+(14 - r) by omega,hs,hE]
    have hX:oR m x=dO x (di x) (cl x.i.av):=by unfold oR; rw[hF,if_neg (show ¬ jD _=0 from he)]
    rw[hF,hX]
    exact bo rfl (And.intro (show gr (wI _ _ _)=gr _ by rw[wJ he]; rfl) (And.intro (bm rfl rfl) (aj rfl)))
   ·have hs:=Ji (x:=x) (w:=m.w) (a:=di x) hz hb he
    refine .inr ?_
    refine .inl ⟨aq (show _<=(r:Int)+1/\(r:Int)+1<=_ by omega),⟨⟨r+1,by omega,by rw[hs]⟩,[some 0,some 1,some 2,some 3],show 15 - (r+1) < 15 - r by omega,?_⟩⟩
    show fD _ _ _ (ba.bare _ [(0,.ptr 3 0),(3,.int .u32 (cf x m.w (di x) (r+1)).2.1),(32,.int .i64 (r+1:Nat))] (iq (fM m (cf x m.w (di x) (r+1)).1) (dO x (di x) (cl x.i.av))))
    rw[hs]
    repeat' first|exact trivial|exact rfl|exact Iff.rfl|refine And.intro ?_ ?_
 ·have h':¬ (r:Int) < 15:=h
  obtain rfl:r=15:=by omega
  have hX:oR m x=cI (dO x (di x) (cl x.i.av)) 13 (di x):=by unfold oR; rw[if_pos (show (lV m x).2.2=0 from hz)]
  rw[show (lV m x).2.2=0 from hz,hX]
  refine (bV (fM m (cf x m.w (di x) 15).1) (dO x (di x) (cl x.i.av)) 13 (di x) (by decide) (by decide)).e ?_
  exact bo rfl (aj rfl)
def ct (m:MS) (x:XS) (a:Int):Nat->XS × Int × Int
 | 0=>(x,a,0)
 | r+1=>if (ct m x a r).2.2≠0 then ct m x a r else if sO x.i.av r=0 then ct m x a r
  else if jj m.fl (ct m x a r).2.1≠0 then ((ct m x a r).1,(ct m x a r).2.1,jj m.fl (ct m x a r).2.1)
  else if r=15 then (j' (ct m x a r).1 (nB m.fl m.w (ct m x a r).2.1),IntKind.u32.wrap ((ct m x a r).2.1+4),0)
  else (cI (ct m x a r).1 r (nB m.fl m.w (ct m x a r).2.1),IntKind.u32.wrap ((ct m x a r).2.1+4),0)
theorem sQ {m:MS} {x:XS} {a:Int} {r:Nat} (h:(ct m x a r).2.2≠0):∀ n,ct m x a (r+n)=ct m x a r
 | 0=>rfl
 | n+1=>by rw[← Nat.add_assoc,ct,sQ h n,if_pos h]
theorem Ed {m:MS} {x:XS} {a:Int} {r:Nat} (h:(ct m x a r).2.2=0) (hb:sO x.i.av r=0):ct m x a (r+1)=ct m x a r:=by rw[ct,if_neg (by omega),if_pos hb]
theorem Jj {m:MS} {x:XS} {a:Int} {r:Nat} (h:(ct m x a r).2.2=0) (hb:¬ sO x.i.av r=0) (he:jj m.fl (ct m x a r).2.1≠0):ct m x a (r+1)=((ct m x a r).1,(ct m x a r).2.1,jj m.fl (ct m x a r).2.1):=by rw[ct,if_neg (by omega),if_neg hb,if_pos he]
theorem Ee {m:MS} {x:XS} {a:Int} {r:Nat} (h:(ct m x a r).2.2=0) (hb:¬ sO x.i.av r=0) (he:¬ jj m.fl (ct m x a r).2.1≠0) (hr:r=15):ct m x a (r+1)=(j' (ct m x a r).1 (nB m.fl m.w (ct m x a r).2.1),IntKind.u32.wrap ((ct m x a r).2.1+4),0):=by rw[ct,if_neg (by omega),if_neg hb,if_neg he,if_pos hr]
theorem Jk {m:MS} {x:XS} {a:Int} {r:Nat} (h:(ct m x a r).2.2=0) (hb:¬ sO x.i.av r=0) (he:¬ jj m.fl (ct m x a r).2.1≠0) (hr:¬ r=15):ct m x a (r+1)=(cI (ct m x a r).1 r (nB m.fl m.w (ct m x a r).2.1),IntKind.u32.wrap ((ct m x a r).2.1+4),0):=by rw[ct,if_neg (by omega),if_neg hb,if_neg he,if_neg hr]
theorem Ng (x:XS) (v:Int):(j' x v).i=x.i:=by unfold j'; split<;>rfl
theorem wK {m:MS} {x:XS} {a:Int} (ha:aY a):∀ r,aY (ct m x a r).2.1/\(ct m x a r).1.i=x.i
 | 0=>⟨ha,rfl⟩
 | r+1=>by
  have ih:=wK (m:=m) (x:=x) ha r
  rw[ct]
  split
  ·exact ih
  ·split
   ·exact ih
   ·split
    ·exact ih
    ·split
     ·exact⟨wrap_u32 _,(Ng _ _).trans ih.2⟩
     ·exact⟨wrap_u32 _,ih.2⟩
def sR (m:MS) (x:XS):XS × Int × Int:=ct m (dO x (ao x 13) (cl x.i.av)) (ao x 13) 16
def wL (m:MS) (x:XS):XS:=if (sR m x).2.2=0 then cI (sR m x).1 13 (sR m x).2.1 else (sR m x).1
theorem Nh (m:MS) (x:XS) (hm:Jh m) (hx:mC x):Spec gT 79 [.ptr 3 0] (iq m x) [] fun y S'=>y = .int .i64 (sR m x).2.2/\S'=iq m (wL m x):=by
 have hA:aY (ao x 13):=bM hx _
 refine Spec.jP (Spec.enter al P79 100 Tryz.func79 rfl (by kernel_rfl) ?_)
 refine lu ?_ (show 0<=x.i.av/\x.i.av<=_ by have:=hx.av; omega)
 refine (sG x.i.av hx.av.1 hx.av.2).u ?_
 refine (bH m { x with words:=cl x.i.av } 13 (by decide) (by decide)).e ?_
 generalize hx2:dO x (ao x 13) (cl x.i.av)=x2
 have hR:sR m x=ct m x2 (ao x 13) 16:=by unfold sR; rw[hx2]
 have hi:x2.i=x.i:=by rw[← hx2]; rfl
 refine SW.p_ al P79 (by kernel_rfl) (α:={r:Nat // r<=16/\(ct m x2 (ao x 13) r).2.2=0}) (fun r=>[(0,.ptr 3 0),(3,.int .u32 (ct m x2 (ao x 13) r.1).2.1),(26,.int .i64 r.1)]) (fun r=>iq m (ct m x2 (ao x 13) r.1).1) (fun r=>16 - r.1) ⟨0,by omega,rfl⟩ 60 [some 0,some 1,some 2,some 3] ?_ ?_
 ·show fD _ _ _ (ba.bare _ [(0,.ptr 3 0),(3,.int .u32 (ao x 13)),(26,.int .i64 (0:Nat))] (iq m x2))
  rw[← hx2]
  repeat' first|exact trivial|exact rfl|exact Iff.rfl|refine And.intro ?_ ?_
 rintro⟨r,hr,hz⟩
 obtain⟨hP,hI⟩:=wK (m:=m) (x:=x2) hA r
 refine⟨fun h=>?_,fun h=>?_⟩
 ·have h':(r:Int) < 16:=h
  refine⟨show (0:Int)<=(r:Int) by omega,?_⟩
  refine⟨fun hb=>?_,fun hb=>?_⟩
  ·have dw:sO x2.i.av r=0:=by rw[← hI]; exact hb
   have hs:=Ed (m:=m) (x:=x2) (a:=ao x 13) hz dw
   refine .inl ⟨aq (show _<=(r:Int)+1/\(r:Int)+1<=_ by omega),⟨⟨r+1,by omega,by rw[hs]; exact hz⟩,[some 0,some 1,some 2,some 3],show 16 - (r+1) < 16 - r by omega,?_⟩⟩
   show fD _ _ _ (ba.bare _ [(0,.ptr 3 0),(3,.int .u32 (ct m x2 (ao x 13) (r+1)).2.1),(26,.int .i64 (r+1:Nat))] (iq m (ct m x2 (ao x 13) (r+1)).1))
   rw[hs]
   repeat' first|exact trivial|exact rfl|exact Iff.rfl|refine And.intro ?_ ?_
  ·have dw:¬ sO x2.i.av r=0:=by rw[← hI]; exact hb
   refine (Cu m.w m.fl (ct m x2 (ao x 13) r).2.1 hP hm.fl hm.len hm.w).e ?_
   refine⟨fun he=>?_,fun he=>?_⟩
   ·have hE:=Jj (m:=m) (x:=x2) (a:=ao x 13) hz dw he
    have hF:sR m x=((ct m x2 (ao x 13) r).1,(ct m x2 (ao x 13) r).2.1,jj m.fl (ct m x2 (ao x 13) r).2.1):=by
     have hs:=sQ (m:=m) (x:=x2) (a:=ao x 13) (r:=r+1) (by rw[hE]; exact he) (15 - r)
     rw[hR,show 16=r+1+(15 - r) by omega,hs,hE]
    have hX:wL m x=(ct m x2 (ao x 13) r).1:=by unfold wL; rw[hF,if_neg (show ¬ jj m.fl _=0 from he)]
    rw[hF,hX]
    exact bo rfl (aj rfl)
   ·refine .inr ?_
    refine⟨fun W6=>?_,fun W6=>?_⟩
    ·have hs:=Ee (m:=m) (x:=x2) (a:=ao x 13) hz dw he (show r=15 by have:(r:Int)=15:=W6; omega)
     refine (Cm m (ct m x2 (ao x 13) r).1 (nB m.fl m.w (ct m x2 (ao x 13) r).2.1)).e ?_
     refine .inl ⟨aq (show _<=(r:Int)+1/\(r:Int)+1<=_ by omega),⟨⟨r+1,by omega,by rw[hs]⟩,[some 0,some 1,some 2,some 3],show 16 - (r+1) < 16 - r by omega,?_⟩⟩
     show fD _ _ _ (ba.bare _ [(0,.ptr 3 0),(3,.int .u32 (ct m x2 (ao x 13) (r+1)).2.1),(26,.int .i64 (r+1:Nat))] (iq m (ct m x2 (ao x 13) (r+1)).1))
     rw[hs]
     repeat' first|exact trivial|exact rfl|exact Iff.rfl|refine And.intro ?_ ?_
    ·have hs:=Jk (m:=m) (x:=x2) (a:=ao x 13) hz dw he (show ¬ r=15 from fun e=>W6 (show (r:Int)=15 by omega))
     refine (bV m (ct m x2 (ao x 13) r).1 (r:Int) (nB m.fl m.w (ct m x2 (ao x 13) r).2.1) (by omega) (by omega)).e ?_
     refine .inl ⟨aq (show _<=(r:Int)+1/\(r:Int)+1<=_ by omega),⟨⟨r+1,by omega,by rw[hs]⟩,[some 0,some 1,some 2,some 3],show 16 - (r+1) < 16 - r by omega,?_⟩⟩
     show fD _ _ _ (ba.bare _ [(0,.ptr 3 0),(3,.int .u32 (ct m x2 (ao x 13) (r+1)).2.1),(26,.int .i64 (r+1:Nat))] (iq m (ct m x2 (ao x 13) (r+1)).1))
     rw[hs]
     repeat' first|exact trivial|exact rfl|exact Iff.rfl|refine And.intro ?_ ?_
 ·have h':¬ (r:Int) < 16:=h
  obtain rfl:r=16:=by omega
  have hX:wL m x=cI (ct m x2 (ao x 13) 16).1 13 (ct m x2 (ao x 13) 16).2.1:=by unfold wL; rw[hR,if_pos hz]
  rw[show (sR m x).2.2=0 by rw[hR]; exact hz,hX]
  refine (bV m (ct m x2 (ao x 13) 16).1 13 (ct m x2 (ao x 13) 16).2.1 (by decide) (by decide)).e ?_
  exact bo rfl (aj rfl)
end Go.Proofs.YtlgkljpgagfndaaGreatDoor.Pw

/- What this claim is proved with: no condition. -/
import Derived.Test.YtlgkljpgagfndaaGreatDoorNs21
import Derived.Test.YtlgkljpgagfndaaGreatDoorNs20
set_option maxRecDepth 100000
set_option maxHeartbeats 8000000
set_option linter.unusedVariables false
set_option linter.unusedSimpArgs false
namespace Go.Proofs.YtlgkljpgagfndaaGreatDoor.Pw
open Go Go.RowKit
def bR (f:Int):Int :=
 if f=32 then 1 else if f=34\/f=33 then 2 else if f=36\/f=35\/f=85\/f=84 then 3 else if f=38\/f=37 then 4 else if f=87\/f=86 then 5 else 0
def gM (x:XS):Int :=
 if bR x.i.form=1 then (IntKind.u32.wrap (bits .andNot .u32 (au x 15) 3+(IntKind.u32.wrap x.i.az))) else if bR x.i.form=2 then (IntKind.u32.wrap (au x x.i.rn+au x x.i.rm)) else if bR x.i.form=3 then (IntKind.u32.wrap (au x x.i.rn+(IntKind.u32.wrap x.i.az))) else if bR x.i.form=4 then (IntKind.u32.wrap (au x 13+(IntKind.u32.wrap x.i.az))) else if bR x.i.form=5 then (IntKind.u32.wrap (au x x.i.rn+IntKind.u32.wrap (au x x.i.rm*Ev.aO .u32 x.i.bC))) else 0
theorem PS {x:XS} (h:bR x.i.form=1):gM x=(IntKind.u32.wrap (bits .andNot .u32 (au x 15) 3+(IntKind.u32.wrap x.i.az))):=by unfold gM; rw[if_pos h]
theorem D6 {x:XS} (h:bR x.i.form=2):gM x=(IntKind.u32.wrap (au x x.i.rn+au x x.i.rm)):=by unfold gM; rw[if_neg (by omega),if_pos h]
theorem sD {x:XS} (h:bR x.i.form=3):gM x=(IntKind.u32.wrap (au x x.i.rn+(IntKind.u32.wrap x.i.az))):=by unfold gM; rw[if_neg (by omega),if_neg (by omega),if_pos h]
theorem D7 {x:XS} (h:bR x.i.form=4):gM x=(IntKind.u32.wrap (au x 13+(IntKind.u32.wrap x.i.az))):=by unfold gM; rw[if_neg (by omega),if_neg (by omega),if_neg (by omega),if_pos h]
theorem D8 {x:XS} (h:bR x.i.form=5):gM x=(IntKind.u32.wrap (au x x.i.rn+IntKind.u32.wrap (au x x.i.rm*Ev.aO .u32 x.i.bC))):=by unfold gM; rw[if_neg (by omega),if_neg (by omega),if_neg (by omega),if_neg (by omega),if_pos h]
theorem PT {x:XS} (h:bR x.i.form=0):gM x=0:=by unfold gM; rw[if_neg (by omega),if_neg (by omega),if_neg (by omega),if_neg (by omega),if_neg (by omega)]
theorem wW (m:MS) (x:XS) (hx:kq x):Spec gT 76 [.ptr 3 0] (fS m x) [] fun y S'=>y = .tup [.int .u32 (gM x),.bool (bR x.i.form≠0)]/\S'=fS m x:=by
 refine Spec.iJ (Spec.enter an P76 100 Tryz.func76 rfl (by kernel_rfl) ?_)
 refine .inr ?_
 refine⟨fun Gv=>?_,fun Gv=>?_⟩
 ·have hc:bR x.i.form=1:=by rw[show x.i.form=32 from Gv]; rfl
  rw[PS hc]
  refine (bA m x 15 (by decide) (by decide)).e ?_
  refine .inr ?_
  exact a_ (And.intro rfl (And.intro (show bR x.i.form≠0 by omega) trivial)) (ah rfl)
 refine⟨fun Ua=>?_,fun Ua=>?_⟩
 ·have hc:bR x.i.form=2:=by rw[show x.i.form=34 from Ua]; rfl
  rw[D6 hc]
  refine (bA m x x.i.rn hx.rn.1 hx.rn.2).e ?_
  refine (bA m x x.i.rm hx.rm.1 hx.rm.2).e ?_
  refine .inr ?_
  exact a_ (And.intro rfl (And.intro (show bR x.i.form≠0 by omega) trivial)) (ah rfl)
 refine⟨fun Ub=>?_,fun Ub=>?_⟩
 ·have hc:bR x.i.form=2:=by rw[show x.i.form=33 from Ub]; rfl
  rw[D6 hc]
  refine (bA m x x.i.rn hx.rn.1 hx.rn.2).e ?_
  refine (bA m x x.i.rm hx.rm.1 hx.rm.2).e ?_
  refine .inr ?_
  exact a_ (And.intro rfl (And.intro (show bR x.i.form≠0 by omega) trivial)) (ah rfl)
 refine⟨fun Uc=>?_,fun Uc=>?_⟩
 ·have hc:bR x.i.form=3:=by rw[show x.i.form=36 from Uc]; rfl
  rw[sD hc]
  refine (bA m x x.i.rn hx.rn.1 hx.rn.2).e ?_
  refine .inr ?_
  exact a_ (And.intro rfl (And.intro (show bR x.i.form≠0 by omega) trivial)) (ah rfl)
 refine⟨fun Ud=>?_,fun Ud=>?_⟩
 ·have hc:bR x.i.form=3:=by rw[show x.i.form=35 from Ud]; rfl
  rw[sD hc]
  refine (bA m x x.i.rn hx.rn.1 hx.rn.2).e ?_
  refine .inr ?_
  exact a_ (And.intro rfl (And.intro (show bR x.i.form≠0 by omega) trivial)) (ah rfl)
 refine⟨fun Ue=>?_,fun Ue=>?_⟩
 ·have hc:bR x.i.form=3:=by rw[show x.i.form=85 from Ue]; rfl
  rw[sD hc]
  refine (bA m x x.i.rn hx.rn.1 hx.rn.2).e ?_
  refine .inr ?_
  exact a_ (And.intro rfl (And.intro (show bR x.i.form≠0 by omega) trivial)) (ah rfl)
 refine⟨fun Uf=>?_,fun Uf=>?_⟩
 ·have hc:bR x.i.form=3:=by rw[show x.i.form=84 from Uf]; rfl
  rw[sD hc]
  refine (bA m x x.i.rn hx.rn.1 hx.rn.2).e ?_
  refine .inr ?_
  exact a_ (And.intro rfl (And.intro (show bR x.i.form≠0 by omega) trivial)) (ah rfl)
 refine⟨fun Ug=>?_,fun Ug=>?_⟩
 ·have hc:bR x.i.form=4:=by rw[show x.i.form=38 from Ug]; rfl
  rw[D7 hc]
  refine (bA m x 13 (by decide) (by decide)).e ?_
  refine .inr ?_
  exact a_ (And.intro rfl (And.intro (show bR x.i.form≠0 by omega) trivial)) (ah rfl)
 refine⟨fun Uh=>?_,fun Uh=>?_⟩
 ·have hc:bR x.i.form=4:=by rw[show x.i.form=37 from Uh]; rfl
  rw[D7 hc]
  refine (bA m x 13 (by decide) (by decide)).e ?_
  refine .inr ?_
  exact a_ (And.intro rfl (And.intro (show bR x.i.form≠0 by omega) trivial)) (ah rfl)
 refine⟨fun Ui=>?_,fun Ui=>?_⟩
 ·have hc:bR x.i.form=5:=by rw[show x.i.form=87 from Ui]; rfl
  rw[D8 hc]
  refine (bA m x x.i.rn hx.rn.1 hx.rn.2).e ?_
  refine (bA m x x.i.rm hx.rm.1 hx.rm.2).e ?_
  refine⟨(hx.idx (by omega)).1,.inr ?_⟩
  refine .inr ?_
  exact a_ (And.intro rfl (And.intro (show bR x.i.form≠0 by omega) trivial)) (ah rfl)
 refine⟨fun Uj=>?_,fun Uj=>?_⟩
 ·have hc:bR x.i.form=5:=by rw[show x.i.form=86 from Uj]; rfl
  rw[D8 hc]
  refine (bA m x x.i.rn hx.rn.1 hx.rn.2).e ?_
  refine (bA m x x.i.rm hx.rm.1 hx.rm.2).e ?_
  refine⟨(hx.idx (by omega)).1,.inr ?_⟩
  refine .inr ?_
  exact a_ (And.intro rfl (And.intro (show bR x.i.form≠0 by omega) trivial)) (ah rfl)
 ·have hc:bR x.i.form=0:=by unfold bR; rw[if_neg (by omega),if_neg (by omega),if_neg (by omega),if_neg (by omega),if_neg (by omega)]
  rw[PT hc]
  exact a_ (And.intro rfl (And.intro (show ¬ bR x.i.form≠0 from fun h=>h hc) trivial)) (ah rfl)
def iX (x:XS):XS:={ x with taken:=aW x.s x.i.cond }
def cp (f:Int):Int :=
 if f=46\/f=99 then 1 else if f=47\/f=100 then 2 else if f=31 then 3 else if f=45 then 4 else 0
def eZ (x:XS):XS :=
 if cp x.i.form=1 then (if aW x.s x.i.cond then cD (iX x) 15 (IntKind.u32.wrap (au x 15+(IntKind.u32.wrap x.i.az))) else iX x) else if cp x.i.form=2 then cD x 15 (IntKind.u32.wrap (au x 15+(IntKind.u32.wrap x.i.az))) else if cp x.i.form=3 then iB x (au x x.i.rm) else if cp x.i.form=4 then { x with kind:=2,code:=x.i.az } else x
theorem uJ {x:XS} (h:cp x.i.form=1):eZ x=(if aW x.s x.i.cond then cD (iX x) 15 (IntKind.u32.wrap (au x 15+(IntKind.u32.wrap x.i.az))) else iX x):=by unfold eZ; rw[if_pos h]
theorem uK {x:XS} (h:cp x.i.form=2):eZ x=cD x 15 (IntKind.u32.wrap (au x 15+(IntKind.u32.wrap x.i.az))):=by unfold eZ; rw[if_neg (by omega),if_pos h]
theorem D9 {x:XS} (h:cp x.i.form=3):eZ x=iB x (au x x.i.rm):=by unfold eZ; rw[if_neg (by omega),if_neg (by omega),if_pos h]
theorem D' {x:XS} (h:cp x.i.form=4):eZ x = { x with kind:=2,code:=x.i.az }:=by unfold eZ; rw[if_neg (by omega),if_neg (by omega),if_neg (by omega),if_pos h]
theorem uL {x:XS} (h:cp x.i.form=0):eZ x=x:=by unfold eZ; rw[if_neg (by omega),if_neg (by omega),if_neg (by omega),if_neg (by omega)]
theorem D_ (m:MS) (x:XS) (hx:kq x):Spec gT 85 [.ptr 3 0] (fS m x) [] fun y S'=>y = .bool (cp x.i.form≠0)/\S'=fS m (eZ x):=by
 refine Spec.iJ (Spec.enter an P85 100 Tryz.func85 rfl (by kernel_rfl) ?_)
 refine⟨fun Uk=>?_,fun Uk=>?_⟩
 ·have hc:cp x.i.form=1:=by rw[show x.i.form=46 from Uk]; rfl
  rw[uJ hc]
  refine (pn x.s x.i.cond).u ?_
  refine⟨fun hn=>?_,fun hp=>?_⟩
  ·rw[if_neg (show ¬ aW x.s x.i.cond from hn)]
   exact a_ (show cp x.i.form≠0 by omega) (by first|exact ah rfl|(repeat' first|exact trivial|exact rfl|exact Iff.rfl|exact not_false|refine And.intro ?_ ?_))
  rw[if_pos (Classical.not_not.1 (show ¬ ¬ aW x.s x.i.cond from hp))]
  refine .inr ?_
  refine (bA m (iX x) 15 (by decide) (by decide)).e ?_
  refine .inr ?_
  refine (bU m (iX x) 15 (IntKind.u32.wrap (au x 15+(IntKind.u32.wrap x.i.az))) (by decide) (by decide)).e ?_
  exact a_ (show cp x.i.form≠0 by omega) (by first|exact ah rfl|(repeat' first|exact trivial|exact rfl|exact Iff.rfl|exact not_false|refine And.intro ?_ ?_))
 refine⟨fun Ul=>?_,fun Ul=>?_⟩
 ·have hc:cp x.i.form=1:=by rw[show x.i.form=99 from Ul]; rfl
  rw[uJ hc]
  refine (pn x.s x.i.cond).u ?_
  refine⟨fun hn=>?_,fun hp=>?_⟩
  ·rw[if_neg (show ¬ aW x.s x.i.cond from hn)]
   exact a_ (show cp x.i.form≠0 by omega) (by first|exact ah rfl|(repeat' first|exact trivial|exact rfl|exact Iff.rfl|exact not_false|refine And.intro ?_ ?_))
  rw[if_pos (Classical.not_not.1 (show ¬ ¬ aW x.s x.i.cond from hp))]
  refine .inr ?_
  refine (bA m (iX x) 15 (by decide) (by decide)).e ?_
  refine .inr ?_
  refine (bU m (iX x) 15 (IntKind.u32.wrap (au x 15+(IntKind.u32.wrap x.i.az))) (by decide) (by decide)).e ?_
  exact a_ (show cp x.i.form≠0 by omega) (by first|exact ah rfl|(repeat' first|exact trivial|exact rfl|exact Iff.rfl|exact not_false|refine And.intro ?_ ?_))
 refine⟨fun Um=>?_,fun Um=>?_⟩
 ·have hc:cp x.i.form=2:=by rw[show x.i.form=47 from Um]; rfl
  rw[uK hc]
  refine .inr ?_
  refine (bA m x 15 (by decide) (by decide)).e ?_
  refine .inr ?_
  refine (bU m x 15 (IntKind.u32.wrap (au x 15+(IntKind.u32.wrap x.i.az))) (by decide) (by decide)).e ?_
  exact a_ (show cp x.i.form≠0 by omega) (by first|exact ah rfl|(repeat' first|exact trivial|exact rfl|exact Iff.rfl|exact not_false|refine And.intro ?_ ?_))
 refine⟨fun Ea=>?_,fun Ea=>?_⟩
 ·have hc:cp x.i.form=2:=by rw[show x.i.form=100 from Ea]; rfl
  rw[uK hc]
  refine .inr ?_
  refine (bA m x 15 (by decide) (by decide)).e ?_
  refine .inr ?_
  refine (bU m x 15 (IntKind.u32.wrap (au x 15+(IntKind.u32.wrap x.i.az))) (by decide) (by decide)).e ?_
  exact a_ (show cp x.i.form≠0 by omega) (by first|exact ah rfl|(repeat' first|exact trivial|exact rfl|exact Iff.rfl|exact not_false|refine And.intro ?_ ?_))
 refine⟨fun Un=>?_,fun Un=>?_⟩
 ·have hc:cp x.i.form=3:=by rw[show x.i.form=31 from Un]; rfl
  rw[D9 hc]
  refine (bA m x x.i.rm hx.rm.1 hx.rm.2).e ?_
  refine (yp m x (au x x.i.rm)).e ?_
  exact a_ (show cp x.i.form≠0 by omega) (by first|exact ah rfl|(repeat' first|exact trivial|exact rfl|exact Iff.rfl|exact not_false|refine And.intro ?_ ?_))
 refine⟨fun h45=>?_,fun h45=>?_⟩
 ·have hc:cp x.i.form=4:=by rw[show x.i.form=45 from h45]; rfl
  rw[D' hc]
  exact a_ (show cp x.i.form≠0 by omega) (by first|exact ah rfl|(repeat' first|exact trivial|exact rfl|exact Iff.rfl|exact not_false|refine And.intro ?_ ?_))
 ·have hc:cp x.i.form=0:=by unfold cp; rw[if_neg (by omega),if_neg (by omega),if_neg (by omega),if_neg (by omega)]
  rw[uL hc]
  exact a_ (show ¬ cp x.i.form≠0 from fun h=>h hc) (by first|exact ah rfl|(repeat' first|exact trivial|exact rfl|exact Iff.rfl|exact not_false|refine And.intro ?_ ?_))
def mj (w:Nat->Int) (k:Nat):PV:=.int .u8 (jf (w (k / 4)) (k % 4))
theorem yt (w:Nat->Int):fX w=(List.range 65536).map (mj w):=rfl
theorem ml (w:Nat->Int):(fX w).length=65536:=by rw[yt,List.length_map,List.length_range]
theorem uM (w:Nat->Int) (k:Nat):(fX w)[k]?=if k < 65536 then some (mj w k) else none:=by
 rw[yt,List.getElem?_map]
 split
 ·rename_i h; rw[List.getElem?_range h]; rfl
 ·rename_i h; rw[List.getElem?_eq_none (by rw[List.length_range]; omega)]; rfl
def p6 (w:Nat->Int) (j:Nat) (x:Int):Nat->Int:=fun m=>if m=j then x else w m
theorem Eb (w:Nat->Int) (j:Nat) (x:Int) (hj:j < 16384) :
  ((((fX w).set (4*j) (.int .u8 (jf x 0))).set (4*j+1) (.int .u8 (jf x 1))).set (4*j+2) (.int .u8 (jf x 2))).set (4*j+3) (.int .u8 (jf x 3))=fX (p6 w j x):=by
 refine List.ext_getElem? fun k=>?_
 simp only[List.getElem?_set,List.length_set,ml,uM]
 have e:∀ r:Nat,r < 4->mj (p6 w j x) (4*j+r) = .int .u8 (jf x r):=fun r hr=>by
  unfold mj p6
  rw[if_pos (by omega),show (4*j+r) % 4=r by omega]
 by_cases h0:k=4*j
 ·subst h0; simp[show 4*j < 65536 by omega]; exact (e 0 (by omega)).symm
 by_cases h1:k=4*j+1
 ·subst h1; simp[show 4*j+1 < 65536 by omega]; exact (e 1 (by omega)).symm
 by_cases h2:k=4*j+2
 ·subst h2; simp[show 4*j+2 < 65536 by omega]; exact (e 2 (by omega)).symm
 by_cases h3:k=4*j+3
 ·subst h3; simp[show 4*j+3 < 65536 by omega]; exact (e 3 (by omega)).symm
 rw[if_neg (by omega),if_neg (by omega),if_neg (by omega),if_neg (by omega)]
 split
 ·have:mj (p6 w j x) k=mj w k:=by unfold mj p6; rw[if_neg (by omega)]
  rw[this]
 ·rfl
theorem sE (x:Int) (k:Nat):0<=jf x k/\jf x k<=255:=by unfold jf; omega
theorem HV (x:Int) (h:bO x):jf x 0+jf x 1*256+jf x 2*65536+jf x 3*16777216=x:=by
 unfold bO at h
 show x / 1 % 256+x / 256 % 256*256+x / 65536 % 256*65536+x / 16777216 % 256*16777216=x
 omega
theorem uN (a b c d:Int) (ha:0<=a/\a<=255) (hb:0<=b/\b<=255) (hc:0<=c/\c<=255) (hd:0<=d/\d<=255) :
  bits .or .u32 (bits .or .u32 (bits .or .u32 (bits .or .u32 0 a) (b*256)) (c*65536)) (d*16777216)=a+b*256+c*65536+d*16777216:=by
 have h0:=(fF 0 a 0 (by decide) (by decide) (show 0<=a/\a*1<=_ by omega)).1
 have h1:=(fF a b 8 (by decide) (show 0<=a/\a < 256 by omega) (show 0<=b/\b*256<=_ by omega)).1
 have h2:=(fF (a+b*256) c 16 (by decide) (show 0<=_/\_ < (65536:Int) by omega) (show 0<=c/\c*65536<=_ by omega)).1
 have h3:=(fF (a+b*256+c*65536) d 24 (by decide) (show 0<=_/\_ < (16777216:Int) by omega) (show 0<=d/\d*16777216<=_ by omega)).1
 replace h0:bits .or .u32 0 (a*1)=0+a*1:=h0
 replace h1:bits .or .u32 a (b*256)=a+b*256:=h1
 replace h2:bits .or .u32 (a+b*256) (c*65536)=a+b*256+c*65536:=h2
 replace h3:bits .or .u32 (a+b*256+c*65536) (d*16777216)=a+b*256+c*65536+d*16777216:=h3
 rw[Int.mul_one,Int.zero_add] at h0
 rw[h0,h1,h2,h3]
def e_ (at_:Int):Prop:=536870912<=at_/\at_<=536936444
instance (a:Int):Decidable (e_ a):=by unfold e_; infer_instance
def jL (fl:List Int) (at_ n:Int):Prop:=134217728<=at_/\at_ - 134217728+n<=fl.length
instance (fl:List Int) (a n:Int):Decidable (jL fl a n):=by unfold jL; infer_instance
def eI (at_:Int):Nat:=(at_ - 134217728).toNat
def p7 (at_:Int):Nat:=(at_ - 536870912).toNat / 4
def p9 (fl:List Int) (at_:Int):Int:=if at_ % 4≠0 then 60 else if e_ at_ then 0 else if jL fl at_ 4 then 0 else 61
def qK (fl:List Int) (w:Nat->Int) (at_:Int):Int:=if at_ % 4≠0 then 0 else if e_ at_ then w (p7 at_) else if jL fl at_ 4 then hN fl (eI at_)+hN fl (eI at_+2)*65536 else 0
def nN (at_:Int):Int:=if at_ % 4≠0 then 60 else if 134217728<=at_/\at_ < 134283264 then 62 else if e_ at_ then 0 else 61
def vl (w:Nat->Int) (at_ x:Int):Nat->Int:=if nN at_=0 then p6 w (p7 at_) x else w
def m5 (fl:List Int) (at_:Int):Int:=if at_ % 2≠0 then 60 else if jL fl at_ 2 then 0 else 61
def jg (fl:List Int) (at_:Int):Int:=if at_ % 2≠0 then 0 else if jL fl at_ 2 then hN fl (eI at_) else 0
def vg (w:Nat->Int) (fl:List Int):List ak:=[zY w,PQ fl]
theorem Yb {l:List Int} {i:Nat} (h:i+4<=l.length):((gi l).drop i).take 4 = [.int .u8 (l.getD i 0),.int .u8 (l.getD (i+1) 0),.int .u8 (l.getD (i+2) 0),.int .u8 (l.getD (i+3) 0)]:=by
 refine List.ext_getElem? fun k=>?_
 have g:∀ j,j < l.length->l[j]?=some (l.getD j 0):=fun j hj=>by rw[List.getD_eq_getElem?_getD,List.getElem?_eq_getElem hj]; rfl
 rw[List.getElem?_take]
 split
 ·rw[List.getElem?_drop,gi,List.getElem?_map,g _ (by omega)]
  match k,‹k < 4› with
  | 0,_=>rfl
  | 1,_=>rfl
  | 2,_=>rfl
  | 3,_=>rfl
 ·rw[List.getElem?_eq_none]; simp; omega
theorem Yc {l:List Int} {i:Nat} (h:i+2<=l.length):((gi l).drop i).take 2 = [.int .u8 (l.getD i 0),.int .u8 (l.getD (i+1) 0)]:=by
 refine List.ext_getElem? fun k=>?_
 have g:∀ j,j < l.length->l[j]?=some (l.getD j 0):=fun j hj=>by rw[List.getD_eq_getElem?_getD,List.getElem?_eq_getElem hj]; rfl
 rw[List.getElem?_take]
 split
 ·rw[List.getElem?_drop,gi,List.getElem?_map,g _ (by omega)]
  match k,‹k < 2› with
  | 0,_=>rfl
  | 1,_=>rfl
 ·rw[List.getElem?_eq_none]; simp; omega
theorem qL (fl:List Int) (at_:Int) (n:Nat) (hn:n=2\/n=4) (ha:bO at_) (hl:fl.length<=65536) (h:jL fl at_ n) :
  ai gT 38 [.sl 1 (gi fl),.int .u32 134217728,.int .u32 at_,.int .i64 n] (.sl 1 (((gi fl).drop (eI at_)).take n)):=by
 have el:(gi fl).length=fl.length:=List.length_map ..
 obtain⟨h1,h2⟩:=h
 unfold bO at ha
 refine Spec.enter an Vv 100 Tryz.func38 rfl (by kernel_rfl) ?_
 refine⟨fun h=>absurd (show at_ < 134217728 from h) (by omega),fun _=>?_⟩
 refine lu ?_ (show _<=at_ - 134217728/\at_ - 134217728<=_ by omega)
 refine li ?_ (show _<=at_ - 134217728/\at_ - 134217728<=_ by omega)
 refine fun hm=>?_
 refine li ?_ (show _<=(((gi fl).length:Nat):Int) - (n:Int)/\(((gi fl).length:Nat):Int) - (n:Int)<=_ by omega)
 refine⟨fun h=>absurd (show (((gi fl).length:Nat):Int) - (n:Int) < at_ - 134217728 from h) (by omega),fun _=>?_⟩
 refine lu ?_ (show _<=at_ - 134217728/\at_ - 134217728<=_ by omega)
 refine li ?_ (show _<=at_ - 134217728/\at_ - 134217728<=_ by omega)
 refine li ?_ (show _<=at_ - 134217728+(n:Int)/\at_ - 134217728+(n:Int)<=_ by omega)
 refine⟨show 0<=at_ - 134217728 by omega,show at_ - 134217728<=at_ - 134217728+(n:Int) by omega,show at_ - 134217728+(n:Int)<=(((gi fl).length:Nat):Int) by omega,?_⟩
 refine aD ?_
 show List.take (at_ - 134217728+(n:Int) - (at_ - 134217728)).toNat (List.drop (at_ - 134217728).toNat (gi fl))=_
 rw[show (at_ - 134217728+(n:Int) - (at_ - 134217728)).toNat=n by omega]; rfl
theorem qM (fl:List Int) (at_:Int) (n:Nat) (hn:n=2\/n=4) (ha:bO at_) (hl:fl.length<=65536) (h:¬ jL fl at_ n) :
  ai gT 38 [.sl 1 (gi fl),.int .u32 134217728,.int .u32 at_,.int .i64 n] .nil:=by
 have el:(gi fl).length=fl.length:=List.length_map ..
 unfold jL at h
 unfold bO at ha
 refine Spec.enter an Vv 100 Tryz.func38 rfl (by kernel_rfl) ?_
 refine⟨fun h=>?_,fun h0=>?_⟩
 ·exact aD trivial
 have h0':¬ at_ < 134217728:=h0
 refine lu ?_ (show _<=at_ - 134217728/\at_ - 134217728<=_ by omega)
 refine li ?_ (show _<=at_ - 134217728/\at_ - 134217728<=_ by omega)
 refine fun hm=>?_
 refine li ?_ (show _<=(((gi fl).length:Nat):Int) - (n:Int)/\(((gi fl).length:Nat):Int) - (n:Int)<=_ by omega)
 refine⟨fun h=>?_,fun h1=>absurd (show ¬ (((gi fl).length:Nat):Int) - (n:Int) < at_ - 134217728 from h1) (by omega)⟩
 exact aD trivial
theorem yu (w:Nat->Int) (fl:List Int) (at_:Int) (ha:bO at_) (hb:DI fl) (hl:fl.length<=65536):Spec gT 72 [.ptr 1 0,.int .u32 at_] (vg w fl) [] fun y S'=>y = .tup [.int .u32 (jg fl at_),.int .i64 (m5 fl at_)]/\S'=vg w fl:=by
 refine Spec.iJ (Spec.enter an P72 100 Tryz.func72 rfl (by kernel_rfl) ?_)
 refine And.intro (show (2:Int)≠0 by decide) (.inl ⟨ha.1,show (0:Int) < 2 by decide,?_⟩)
 refine⟨fun h=>?_,fun h=>?_⟩
 ·have h':at_ % 2≠0:=h
  have e1:jg fl at_=0:=by unfold jg; rw[if_pos h']
  have e2:m5 fl at_=60:=by unfold m5; rw[if_pos h']
  rw[e1,e2]
  exact rS
 have h':¬ at_ % 2≠0:=h
 by_cases hf:jL fl at_ 2
 ·have e1:jg fl at_=hN fl (eI at_):=by unfold jg; rw[if_neg h',if_pos hf]
  have e2:m5 fl at_=0:=by unfold m5; rw[if_neg h',if_pos hf]
  rw[e1,e2]
  have hw:=qL fl at_ 2 (.inl rfl) ha hl hf
  have xu:eI at_+2<=fl.length:=by obtain⟨q1,q2⟩:=hf; unfold eI; omega
  rw[Yc xu] at hw
  have b0:=gY hb (eI at_)
  have b1:=gY hb (eI at_+1)
  unfold hN
  generalize fl.getD (eI at_) 0=p at hw b0 ⊢
  generalize fl.getD (eI at_+1) 0=q at hw b1 ⊢
  refine hw.u ?_
  refine .inl ⟨show 2≠0 by decide,?_⟩
  refine⟨Int,[p,q],PV.int .u8,rfl,show (0:Int)<=0 by decide,show (0:Int) < 2 by decide,fun x hx=>?_⟩
  obtain rfl:p=x:=Option.some.inj hx
  refine⟨Int,[p,q],PV.int .u8,rfl,show (0:Int)<=1 by decide,show (1:Int) < 2 by decide,fun x hx=>?_⟩
  obtain rfl:q=x:=Option.some.inj hx
  refine lu ?_ (show 0<=p/\p<=_ by omega)
  refine lu ?_ (show 0<=q/\q<=_ by omega)
  refine⟨by decide,.inl ⟨af (show 0<=q*256/\q*256<=_ by omega),?_⟩⟩
  have e:bits .or .u32 p (q*256)=p+q*256:=(fF p q 8 (by decide) (show 0<=p/\p < 256 by omega) (show 0<=q/\q*256<=_ by omega)).1
  exact a_ (And.intro e (And.intro rfl trivial)) (ah rfl)
 ·have e1:jg fl at_=0:=by unfold jg; rw[if_neg h',if_neg hf]
  have e2:m5 fl at_=61:=by unfold m5; rw[if_neg h',if_neg hf]
  rw[e1,e2]
  refine (qM fl at_ 2 (.inl rfl) ha hl hf).u ?_
  exact rS
theorem Ec (l o n:Nat):jj (.ref l o n) (.ref l o n):=by
 show (if (Nat.beq l l && Nat.beq o o && Nat.beq n n)=true then True else False)
 rw[if_pos (by simp only[Nat.beq_refl,Bool.and_self])]; trivial
def wX (at_:Int):Nat:=(at_ - 536870912).toNat
theorem HW {at_:Int} (h:e_ at_):at_=((wX at_:Nat):Int)+536870912/\wX at_<=65532:=by
 obtain⟨a,b⟩:=h
 unfold wX; omega
theorem hZ (w:Nat->Int) (fl:List Int) (at_:Int) (ha:bO at_) (h:¬ e_ at_) (h4:at_ % 4=0):Spec gT 38 [.wref 0,.int .u32 536870912,.int .u32 at_,.int .i64 4] (vg w fl) [] fun y S'=>y = .nil/\S'=vg w fl:=by
 have el:=ml w
 unfold e_ at h
 unfold bO at ha
 refine Spec.iJ (Spec.enter an Vv 100 Tryz.func38 rfl (by kernel_rfl) ?_)
 refine⟨fun h=>?_,fun h0=>?_⟩
 ·exact rS
 have h0':¬ at_ < 536870912:=h0
 refine lu ?_ (show _<=at_ - 536870912/\at_ - 536870912<=_ by omega)
 refine li ?_ (show _<=at_ - 536870912/\at_ - 536870912<=_ by omega)
 refine fun hm=>?_
 refine li ?_ (show _<=(((fX w).length:Nat):Int) - 4/\(((fX w).length:Nat):Int) - 4<=_ by rw[el]; decide)
 refine⟨fun h=>?_,fun h1=>absurd (show ¬ (((fX w).length:Nat):Int) - 4 < at_ - 536870912 from h1) (by rw[el]; omega)⟩
 exact rS
theorem jM (w:Nat->Int) (fl:List Int) (at_:Int) (ha:bO at_) (h:e_ at_):Spec gT 38 [.wref 0,.int .u32 536870912,.int .u32 at_,.int .i64 4] (vg w fl) [] fun y S'=>y = .ref 0 (wX at_) 4/\S'=vg w fl:=by
 have el:=ml w
 obtain⟨e,hle⟩:=HW h
 unfold bO at ha
 generalize wX at_=o at e hle ⊢
 subst e
 refine Spec.iJ (Spec.enter an Vv 100 Tryz.func38 rfl (by kernel_rfl) ?_)
 refine⟨fun h=>absurd (show (o:Int)+536870912 < 536870912 from h) (by omega),fun _=>?_⟩
 refine lu ?_ (show _<=(o:Int)+536870912 - 536870912/\(o:Int)+536870912 - 536870912<=_ by omega)
 refine li ?_ (show _<=(o:Int)+536870912 - 536870912/\(o:Int)+536870912 - 536870912<=_ by omega)
 refine fun hm=>?_
 refine li ?_ (show _<=(((fX w).length:Nat):Int) - 4/\(((fX w).length:Nat):Int) - 4<=_ by rw[el]; decide)
 refine⟨fun h1=>absurd (show (((fX w).length:Nat):Int) - 4 < (o:Int)+536870912 - 536870912 from h1) (by rw[el]; omega),fun _=>?_⟩
 refine lu ?_ (show _<=(o:Int)+536870912 - 536870912/\(o:Int)+536870912 - 536870912<=_ by omega)
 refine li ?_ (show _<=(o:Int)+536870912 - 536870912/\(o:Int)+536870912 - 536870912<=_ by omega)
 refine li ?_ (show _<=(o:Int)+536870912 - 536870912+4/\(o:Int)+536870912 - 536870912+4<=_ by omega)
 refine⟨o,o+4,show (o:Int)+536870912 - 536870912=(o:Int) by omega,show (o:Int)+536870912 - 536870912+4=((o+4:Nat):Int) by omega,by omega,show o+4<=(fX w).length by rw[el]; omega,show o < (fX w).length by rw[el]; omega,?_⟩
 exact a_ (show jj (.ref 0 (o*1) (o+4 - o)) (.ref 0 o 4) by rw[Nat.mul_one,Nat.add_sub_cancel_left]; exact Ec _ _ _) (ah rfl)
theorem nZ (w:Nat->Int) (j r:Nat) (hr:r < 4):mj w (4*j+r) = .int .u8 (jf (w j) r):=by
 unfold mj; rw[show (4*j+r) / 4=j by omega,show (4*j+r) % 4=r by omega]
theorem Ed (w:Nat->Int) (fl:List Int) (j:Nat) (hj:j < 16384) (hw:bO (w j)):Spec gT 93 [.ref 0 (4*j) 4] (vg w fl) [] fun y S'=>y = .int .u32 (w j)/\S'=vg w fl:=by
 have el:(List.range 65536).length=65536:=List.length_range
 have hg:∀ r x:Nat,r < 4->(List.range 65536)[4*j+r]?=some x->x=4*j+r:=fun r x hr hx=>by
  rw[List.getElem?_range (by omega)] at hx; exact (Option.some.inj hx).symm
 have e0:=nZ w j 0 (by decide)
 have e1:=nZ w j 1 (by decide)
 have e2:=nZ w j 2 (by decide)
 have e3:=nZ w j 3 (by decide)
 have b0:=sE (w j) 0
 have b1:=sE (w j) 1
 have b2:=sE (w j) 2
 have b3:=sE (w j) 3
 have Yd:=HV (w j) hw
 have d0:lq 0=1:=rfl
 have d1:lq 1=256:=rfl
 have d2:lq 2=65536:=rfl
 have d3:lq 3=16777216:=rfl
 refine Spec.iJ (Spec.enter an Vw 100 Tryz.func93 rfl (by kernel_rfl) ?_)
 refine SW.rounds an Vw (by kernel_rfl) (N:=60) 5 ?_
 refine⟨Nat,List.range 65536,mj w,rfl,show 4*j+0 < (List.range 65536).length by rw[el]; omega,fun x hx=>?_⟩
 obtain rfl:=hg 0 x (by decide) hx
 rw[e0]
 refine lu ?_ (show 0<=jf (w j) 0/\jf (w j) 0<=_ by omega)
 refine⟨by decide,.inl ⟨af (show 0<=jf (w j) 0*lq 0/\jf (w j) 0*lq 0<=_ by rw[d0]; omega),?_⟩⟩
 refine⟨Nat,List.range 65536,mj w,rfl,show 4*j+1 < (List.range 65536).length by rw[el]; omega,fun x hx=>?_⟩
 obtain rfl:=hg 1 x (by decide) hx
 rw[e1]
 refine lu ?_ (show 0<=jf (w j) 1/\jf (w j) 1<=_ by omega)
 refine⟨by decide,.inl ⟨af (show 0<=jf (w j) 1*lq 1/\jf (w j) 1*lq 1<=_ by rw[d1]; omega),?_⟩⟩
 refine⟨Nat,List.range 65536,mj w,rfl,show 4*j+2 < (List.range 65536).length by rw[el]; omega,fun x hx=>?_⟩
 obtain rfl:=hg 2 x (by decide) hx
 rw[e2]
 refine lu ?_ (show 0<=jf (w j) 2/\jf (w j) 2<=_ by omega)
 refine⟨by decide,.inl ⟨af (show 0<=jf (w j) 2*lq 2/\jf (w j) 2*lq 2<=_ by rw[d2]; omega),?_⟩⟩
 refine⟨Nat,List.range 65536,mj w,rfl,show 4*j+3 < (List.range 65536).length by rw[el]; omega,fun x hx=>?_⟩
 obtain rfl:=hg 3 x (by decide) hx
 rw[e3]
 refine lu ?_ (show 0<=jf (w j) 3/\jf (w j) 3<=_ by omega)
 refine⟨by decide,.inl ⟨af (show 0<=jf (w j) 3*lq 3/\jf (w j) 3*lq 3<=_ by rw[d3]; omega),?_⟩⟩
 exact a_ (show bits .or .u32 (bits .or .u32 (bits .or .u32 (bits .or .u32 0 (jf (w j) 0*1)) (jf (w j) 1*256)) (jf (w j) 2*65536)) (jf (w j) 3*16777216)=w j by rw[Int.mul_one,uN _ _ _ _ b0 b1 b2 b3,Yd]) (ah rfl)
theorem HX (a b c d:Int) (ha:0<=a/\a<=255) (hb:0<=b/\b<=255) (hc:0<=c/\c<=255) (hd:0<=d/\d<=255):ai gT 93 [.sl 1 [.int .u8 a,.int .u8 b,.int .u8 c,.int .u8 d]] (.int .u32 (a+b*256+c*65536+d*16777216)):=by
 have d0:lq 0=1:=rfl
 have d1:lq 1=256:=rfl
 have d2:lq 2=65536:=rfl
 have d3:lq 3=16777216:=rfl
 refine Spec.enter an Vw 100 Tryz.func93 rfl (by kernel_rfl) ?_
 refine fun _=>?_
 refine SW.rounds an Vw (by kernel_rfl) (N:=60) 5 ?_
 refine⟨fun _=>?_,fun h=>absurd (show (0:Int) < 4 by decide) h⟩
 refine⟨Int,[a,b,c,d],PV.int .u8,rfl,show (0:Int)<=0 by decide,show (0:Int) < 4 by decide,fun x hx=>?_⟩
 obtain rfl:a=x:=Option.some.inj hx
 refine lu ?_ (show 0<=a/\a<=_ by omega)
 refine⟨by decide,.inl ⟨af (show 0<=a*lq 0/\a*lq 0<=_ by rw[d0]; omega),?_⟩⟩
 refine⟨fun _=>?_,fun h=>absurd (show (1:Int) < 4 by decide) h⟩
 refine⟨Int,[a,b,c,d],PV.int .u8,rfl,show (0:Int)<=1 by decide,show (1:Int) < 4 by decide,fun x hx=>?_⟩
 obtain rfl:b=x:=Option.some.inj hx
 refine lu ?_ (show 0<=b/\b<=_ by omega)
 refine⟨by decide,.inl ⟨af (show 0<=b*lq 1/\b*lq 1<=_ by rw[d1]; omega),?_⟩⟩
 refine⟨fun _=>?_,fun h=>absurd (show (2:Int) < 4 by decide) h⟩
 refine⟨Int,[a,b,c,d],PV.int .u8,rfl,show (0:Int)<=2 by decide,show (2:Int) < 4 by decide,fun x hx=>?_⟩
 obtain rfl:c=x:=Option.some.inj hx
 refine lu ?_ (show 0<=c/\c<=_ by omega)
 refine⟨by decide,.inl ⟨af (show 0<=c*lq 2/\c*lq 2<=_ by rw[d2]; omega),?_⟩⟩
 refine⟨fun _=>?_,fun h=>absurd (show (3:Int) < 4 by decide) h⟩
 refine⟨Int,[a,b,c,d],PV.int .u8,rfl,show (0:Int)<=3 by decide,show (3:Int) < 4 by decide,fun x hx=>?_⟩
 obtain rfl:d=x:=Option.some.inj hx
 refine lu ?_ (show 0<=d/\d<=_ by omega)
 refine⟨by decide,.inl ⟨af (show 0<=d*lq 3/\d*lq 3<=_ by rw[d3]; omega),?_⟩⟩
 refine⟨fun h=>absurd (show (4:Int) < 4 from h) (by decide),fun _=>?_⟩
 refine aD ?_
 show bits .or .u32 (bits .or .u32 (bits .or .u32 (bits .or .u32 0 (a*1)) (b*256)) (c*65536)) (d*16777216)=_
 rw[Int.mul_one,uN _ _ _ _ ha hb hc hd]
theorem PU {fl:List Int} {a:Int} (h:a % 4≠0):p9 fl a=60:=by unfold p9; rw[if_pos h]
theorem HY {fl:List Int} {a:Int} (h:¬ a % 4≠0) (h1:e_ a):p9 fl a=0:=by unfold p9; rw[if_neg h,if_pos h1]
theorem PW {fl:List Int} {a:Int} (h:¬ a % 4≠0) (h1:¬ e_ a) (h2:jL fl a 4):p9 fl a=0:=by unfold p9; rw[if_neg h,if_neg h1,if_pos h2]
theorem PX {fl:List Int} {a:Int} (h:¬ a % 4≠0) (h1:¬ e_ a) (h2:¬ jL fl a 4):p9 fl a=61:=by unfold p9; rw[if_neg h,if_neg h1,if_neg h2]
theorem PY {fl:List Int} {w:Nat->Int} {a:Int} (h:a % 4≠0):qK fl w a=0:=by unfold qK; rw[if_pos h]
theorem HZ {fl:List Int} {w:Nat->Int} {a:Int} (h:¬ a % 4≠0) (h1:e_ a):qK fl w a=w (p7 a):=by unfold qK; rw[if_neg h,if_pos h1]
theorem PZ {fl:List Int} {w:Nat->Int} {a:Int} (h:¬ a % 4≠0) (h1:¬ e_ a) (h2:jL fl a 4):qK fl w a=hN fl (eI a)+hN fl (eI a+2)*65536:=by unfold qK; rw[if_neg h,if_neg h1,if_pos h2]
theorem P0 {fl:List Int} {w:Nat->Int} {a:Int} (h:¬ a % 4≠0) (h1:¬ e_ a) (h2:¬ jL fl a 4):qK fl w a=0:=by unfold qK; rw[if_neg h,if_neg h1,if_neg h2]
theorem JW {a:Int} (h:¬ a % 4≠0) (h1:e_ a):wX a=4*p7 a/\p7 a < 16384:=by
 obtain⟨q1,q2⟩:=h1
 unfold wX p7
 have:a % 4=0:=Classical.not_not.1 h
 omega
theorem yv (w:Nat->Int) (fl:List Int) (at_:Int) (ha:bO at_) (hb:DI fl) (hl:fl.length<=65536) (hw:∀ k,bO (w k)):Spec gT 106 [.ptr 1 0,.int .u32 at_] (vg w fl) [] fun y S'=>y = .tup [.int .u32 (qK fl w at_),.int .i64 (p9 fl at_)]/\S'=vg w fl:=by
 refine Spec.iJ (Spec.enter an Xu 100 Tryz.func106 rfl (by kernel_rfl) ?_)
 refine And.intro (show (4:Int)≠0 by decide) (.inl ⟨ha.1,show (0:Int) < 4 by decide,?_⟩)
 refine⟨fun h=>?_,fun h=>?_⟩
 ·rw[PU h,PY h]
  exact rS
 have h4:¬ at_ % 4≠0:=h
 by_cases hr:e_ at_
 ·obtain⟨e,hj⟩:=JW h4 hr
  have hy:=jM w fl at_ ha hr
  rw[e] at hy
  rw[HY h4 hr,HZ h4 hr]
  refine (hy).e ?_
  refine⟨[],br,(Ed w fl (p7 at_) hj (hw _)).rV rfl rfl rfl rfl ⟨Ec _ _ _,trivial⟩ (And.intro (aY rfl rfl) (And.intro (aY rfl rfl) ?_))⟩
  exact rS
 ·refine (hZ w fl at_ ha hr (Classical.not_not.1 h4)).e ?_
  by_cases hf:jL fl at_ 4
  ·rw[PW h4 hr hf,PZ h4 hr hf]
   have hy:=qL fl at_ 4 (.inr rfl) ha hl hf
   have xu:eI at_+4<=fl.length:=by obtain⟨q1,q2⟩:=hf; unfold eI; omega
   rw[Yb xu] at hy
   have b0:=gY hb (eI at_)
   have b1:=gY hb (eI at_+1)
   have b2:=gY hb (eI at_+2)
   have b3:=gY hb (eI at_+3)
   have e:hN fl (eI at_)+hN fl (eI at_+2)*65536=fl.getD (eI at_) 0+fl.getD (eI at_+1) 0*256+fl.getD (eI at_+2) 0*65536+fl.getD (eI at_+3) 0*16777216:=by unfold hN; rw[show eI at_+2+1=eI at_+3 by omega]; omega
   rw[e]
   have hz:=HX _ _ _ _ b0 b1 b2 b3
   refine hy.u ?_
   refine .inl ⟨show 4≠0 by decide,?_⟩
   refine hz.u ?_
   exact rS
  ·rw[PX h4 hr hf,P0 h4 hr hf]
   refine (qM fl at_ 4 (.inr rfl) ha hl hf).u ?_
   exact rS
theorem Ee {a:Int} (h:a % 4≠0):nN a=60:=by unfold nN; rw[if_pos h]
theorem Ef {a:Int} (h:¬ a % 4≠0) (h1:134217728<=a/\a < 134283264):nN a=62:=by unfold nN; rw[if_neg h,if_pos h1]
theorem Eg {a:Int} (h:¬ a % 4≠0) (h2:e_ a):nN a=0:=by unfold nN; rw[if_neg h,if_neg (by obtain⟨q1,q2⟩:=h2; omega),if_pos h2]
theorem Eh {a:Int} (h:¬ a % 4≠0) (h1:¬ (134217728<=a/\a < 134283264)) (h2:¬ e_ a):nN a=61:=by unfold nN; rw[if_neg h,if_neg h1,if_neg h2]
theorem sF {w:Nat->Int} {a x:Int} (h:nN a≠0):vl w a x=w:=by unfold vl; rw[if_neg h]
theorem P1 {w:Nat->Int} {a x:Int} (h:nN a=0):vl w a x=p6 w (p7 a) x:=by unfold vl; rw[if_pos h]
theorem n7 (x:Int) (k:Nat):IntKind.u8.wrap (x / lq k)=jf x k:=IntKind.wrap_u8' _
theorem iC (w:Nat->Int) (fl:List Int) (at_ x:Int) (ha:bO at_):Spec gT 12 [.ptr 1 0,.int .u32 at_,.int .u32 x] (vg w fl) [] fun y S'=>y = .int .i64 (nN at_)/\S'=vg (vl w at_ x) fl:=by
 have el:=ml w
 refine Spec.iJ (Spec.enter an Zs 100 Tryz.func12 rfl (by kernel_rfl) ?_)
 refine And.intro (show (4:Int)≠0 by decide) (.inl ⟨ha.1,show (0:Int) < 4 by decide,?_⟩)
 refine⟨fun h=>?_,fun h=>?_⟩
 ·rw[sF (by rw[Ee h]; decide),Ee h]
  exact rS
 have h4:¬ at_ % 4≠0:=h
 by_cases hf:134217728<=at_/\at_ < 134283264
 ·rw[sF (by rw[Ef h4 hf]; decide),Ef h4 hf]
  refine⟨fun _=>?_,fun h=>absurd hf.1 h⟩
  refine⟨fun _=>?_,fun h=>absurd hf.2 h⟩
  exact rS
 by_cases hr:e_ at_
 ·obtain⟨e,hj⟩:=JW h4 hr
  have hy:=jM w fl at_ ha hr
  rw[e] at hy
  rw[P1 (Eg h4 hr),Eg h4 hr]
  have nC:=Eb w (p7 at_) x hj
  generalize p7 at_=j at hj hy nC ⊢
  refine⟨fun _=>?_,fun h=>absurd (show 134217728<=at_ by have:=hr.1; omega) h⟩
  refine⟨fun h=>absurd h (show ¬ at_ < 134283264 by have:=hr.1; omega),fun _=>?_⟩
  refine (hy).e ?_
  refine SW.rounds an Zs (by kernel_rfl) (N:=60) 5 ?_
  refine⟨by decide,.inr ?_⟩
  refine⟨show 4*j+0 < (fX w).length by rw[el]; omega,?_⟩
  refine⟨by decide,.inr ?_⟩
  refine⟨show 4*j+1 < ((fX w).set (4*j+0) _).length by rw[List.length_set,el]; omega,?_⟩
  refine⟨by decide,.inr ?_⟩
  refine⟨show 4*j+2 < (((fX w).set (4*j+0) _).set (4*j+1) _).length by rw[List.length_set,List.length_set,el]; omega,?_⟩
  refine⟨by decide,.inr ?_⟩
  refine⟨show 4*j+3 < ((((fX w).set (4*j+0) _).set (4*j+1) _).set (4*j+2) _).length by rw[List.length_set,List.length_set,List.length_set,el]; omega,?_⟩
  refine a_ rfl (And.intro ?_ (And.intro (aY rfl rfl) trivial))
  show ((((fX w).set (4*j) (.int .u8 (IntKind.u8.wrap (x / lq 0)))).set (4*j+1) (.int .u8 (IntKind.u8.wrap (x / lq 1)))).set (4*j+2) (.int .u8 (IntKind.u8.wrap (x / lq 2)))).set (4*j+3) (.int .u8 (IntKind.u8.wrap (x / lq 3)))=fX (p6 w j x)
  rw[n7,n7,n7,n7]
  exact nC
 ·rw[sF (by rw[Eh h4 hf hr]; decide),Eh h4 hf hr]
  refine⟨fun h1=>?_,fun h1=>?_⟩
  ·refine⟨fun h2=>absurd ⟨h1,h2⟩ hf,fun _=>?_⟩
   refine (hZ w fl at_ ha hr (Classical.not_not.1 h4)).e ?_
   exact rS
  ·refine (hZ w fl at_ ha hr (Classical.not_not.1 h4)).e ?_
   exact rS
structure Ei (m:MS):Prop where
 w:∀ k,bO (m.w k)
 fl:DI m.fl
 len:m.fl.length<=65536
def jN (f:Int):Prop:=f=33\/f=35\/f=84\/f=37\/f=86
instance (f:Int):Decidable (jN f):=by unfold jN; infer_instance
def de (x:XS) (a n:Int):XS:={ x with data:=a,words:=n }
def kr (m:MS) (x:XS) (a:Int):Nat->Int:=if jN x.i.form then vl m.w a (au x x.i.rd) else m.w
def iY (m:MS) (x:XS) (a:Int):XS:=if jN x.i.form then de x a 1 else if p9 m.fl a=0 then cD (de x a 1) x.i.rd (qK m.fl m.w a) else de x a 1
def k_ (m:MS) (x:XS) (a:Int):Int:=if jN x.i.form then nN a else p9 m.fl a
def jO (m:MS) (w:Nat->Int):MS:={ m with w:=w }
theorem z8 (m:MS) (x:XS) (a:Int) (hm:Ei m) (hx:kq x) (ha:bO a):Spec gT 77 [.ptr 3 0,.int .u32 a] (fS m x) [] fun y S'=>y = .int .i64 (k_ m x a)/\S'=fS (jO m (kr m x a)) (iY m x a):=by
 refine Spec.iJ (Spec.enter an P77 100 Tryz.func77 rfl (by kernel_rfl) ?_)
 refine⟨fun h1=>?_,fun h1=>?_⟩
 ·have hs:jN x.i.form:=by unfold jN; omega
  have e1:kr m x a=vl m.w a (au x x.i.rd):=by unfold kr; rw[if_pos hs]
  have e2:iY m x a=de x a 1:=by unfold iY; rw[if_pos hs]
  have e3:k_ m x a=nN a:=by unfold k_; rw[if_pos hs]
  rw[e1,e2,e3]
  refine⟨[],br,(gj .p .p m (de x a 1) x.i.rd hx.rd.1 hx.rd.2).rV rfl rfl rfl rfl (by repeat' first|exact trivial|exact rfl|exact Iff.rfl|refine And.intro ?_ ?_) (And.intro (by first|exact aY rfl rfl|(repeat' first|exact trivial|exact rfl|exact Iff.rfl|exact Or.inl rfl|exact not_false|refine And.intro ?_ ?_)) (And.intro (by first|exact aY rfl rfl|(repeat' first|exact trivial|exact rfl|exact Iff.rfl|exact Or.inl rfl|exact not_false|refine And.intro ?_ ?_)) (And.intro (by first|exact aY rfl rfl|(repeat' first|exact trivial|exact rfl|exact Iff.rfl|exact Or.inl rfl|exact not_false|refine And.intro ?_ ?_)) (And.intro (by first|exact aY rfl rfl|(repeat' first|exact trivial|exact rfl|exact Iff.rfl|exact Or.inl rfl|exact not_false|refine And.intro ?_ ?_)) ?_))))⟩
  refine (iC m.w m.fl a (au x x.i.rd) ha).e ?_
  exact rS
 refine⟨fun h2=>?_,fun h2=>?_⟩
 ·have hs:jN x.i.form:=by unfold jN; omega
  have e1:kr m x a=vl m.w a (au x x.i.rd):=by unfold kr; rw[if_pos hs]
  have e2:iY m x a=de x a 1:=by unfold iY; rw[if_pos hs]
  have e3:k_ m x a=nN a:=by unfold k_; rw[if_pos hs]
  rw[e1,e2,e3]
  refine⟨[],br,(gj .p .p m (de x a 1) x.i.rd hx.rd.1 hx.rd.2).rV rfl rfl rfl rfl (by repeat' first|exact trivial|exact rfl|exact Iff.rfl|refine And.intro ?_ ?_) (And.intro (by first|exact aY rfl rfl|(repeat' first|exact trivial|exact rfl|exact Iff.rfl|exact Or.inl rfl|exact not_false|refine And.intro ?_ ?_)) (And.intro (by first|exact aY rfl rfl|(repeat' first|exact trivial|exact rfl|exact Iff.rfl|exact Or.inl rfl|exact not_false|refine And.intro ?_ ?_)) (And.intro (by first|exact aY rfl rfl|(repeat' first|exact trivial|exact rfl|exact Iff.rfl|exact Or.inl rfl|exact not_false|refine And.intro ?_ ?_)) (And.intro (by first|exact aY rfl rfl|(repeat' first|exact trivial|exact rfl|exact Iff.rfl|exact Or.inl rfl|exact not_false|refine And.intro ?_ ?_)) ?_))))⟩
  refine (iC m.w m.fl a (au x x.i.rd) ha).e ?_
  exact rS
 refine⟨fun h3=>?_,fun h3=>?_⟩
 ·have hs:jN x.i.form:=by unfold jN; omega
  have e1:kr m x a=vl m.w a (au x x.i.rd):=by unfold kr; rw[if_pos hs]
  have e2:iY m x a=de x a 1:=by unfold iY; rw[if_pos hs]
  have e3:k_ m x a=nN a:=by unfold k_; rw[if_pos hs]
  rw[e1,e2,e3]
  refine⟨[],br,(gj .p .p m (de x a 1) x.i.rd hx.rd.1 hx.rd.2).rV rfl rfl rfl rfl (by repeat' first|exact trivial|exact rfl|exact Iff.rfl|refine And.intro ?_ ?_) (And.intro (by first|exact aY rfl rfl|(repeat' first|exact trivial|exact rfl|exact Iff.rfl|exact Or.inl rfl|exact not_false|refine And.intro ?_ ?_)) (And.intro (by first|exact aY rfl rfl|(repeat' first|exact trivial|exact rfl|exact Iff.rfl|exact Or.inl rfl|exact not_false|refine And.intro ?_ ?_)) (And.intro (by first|exact aY rfl rfl|(repeat' first|exact trivial|exact rfl|exact Iff.rfl|exact Or.inl rfl|exact not_false|refine And.intro ?_ ?_)) (And.intro (by first|exact aY rfl rfl|(repeat' first|exact trivial|exact rfl|exact Iff.rfl|exact Or.inl rfl|exact not_false|refine And.intro ?_ ?_)) ?_))))⟩
  refine (iC m.w m.fl a (au x x.i.rd) ha).e ?_
  exact rS
 refine⟨fun h4=>?_,fun h4=>?_⟩
 ·have hs:jN x.i.form:=by unfold jN; omega
  have e1:kr m x a=vl m.w a (au x x.i.rd):=by unfold kr; rw[if_pos hs]
  have e2:iY m x a=de x a 1:=by unfold iY; rw[if_pos hs]
  have e3:k_ m x a=nN a:=by unfold k_; rw[if_pos hs]
  rw[e1,e2,e3]
  refine⟨[],br,(gj .p .p m (de x a 1) x.i.rd hx.rd.1 hx.rd.2).rV rfl rfl rfl rfl (by repeat' first|exact trivial|exact rfl|exact Iff.rfl|refine And.intro ?_ ?_) (And.intro (by first|exact aY rfl rfl|(repeat' first|exact trivial|exact rfl|exact Iff.rfl|exact Or.inl rfl|exact not_false|refine And.intro ?_ ?_)) (And.intro (by first|exact aY rfl rfl|(repeat' first|exact trivial|exact rfl|exact Iff.rfl|exact Or.inl rfl|exact not_false|refine And.intro ?_ ?_)) (And.intro (by first|exact aY rfl rfl|(repeat' first|exact trivial|exact rfl|exact Iff.rfl|exact Or.inl rfl|exact not_false|refine And.intro ?_ ?_)) (And.intro (by first|exact aY rfl rfl|(repeat' first|exact trivial|exact rfl|exact Iff.rfl|exact Or.inl rfl|exact not_false|refine And.intro ?_ ?_)) ?_))))⟩
  refine (iC m.w m.fl a (au x x.i.rd) ha).e ?_
  exact rS
 refine⟨fun h5=>?_,fun h5=>?_⟩
 ·have hs:jN x.i.form:=by unfold jN; omega
  have e1:kr m x a=vl m.w a (au x x.i.rd):=by unfold kr; rw[if_pos hs]
  have e2:iY m x a=de x a 1:=by unfold iY; rw[if_pos hs]
  have e3:k_ m x a=nN a:=by unfold k_; rw[if_pos hs]
  rw[e1,e2,e3]
  refine⟨[],br,(gj .p .p m (de x a 1) x.i.rd hx.rd.1 hx.rd.2).rV rfl rfl rfl rfl (by repeat' first|exact trivial|exact rfl|exact Iff.rfl|refine And.intro ?_ ?_) (And.intro (by first|exact aY rfl rfl|(repeat' first|exact trivial|exact rfl|exact Iff.rfl|exact Or.inl rfl|exact not_false|refine And.intro ?_ ?_)) (And.intro (by first|exact aY rfl rfl|(repeat' first|exact trivial|exact rfl|exact Iff.rfl|exact Or.inl rfl|exact not_false|refine And.intro ?_ ?_)) (And.intro (by first|exact aY rfl rfl|(repeat' first|exact trivial|exact rfl|exact Iff.rfl|exact Or.inl rfl|exact not_false|refine And.intro ?_ ?_)) (And.intro (by first|exact aY rfl rfl|(repeat' first|exact trivial|exact rfl|exact Iff.rfl|exact Or.inl rfl|exact not_false|refine And.intro ?_ ?_)) ?_))))⟩
  refine (iC m.w m.fl a (au x x.i.rd) ha).e ?_
  exact rS
 ·have hs:¬ jN x.i.form:=by unfold jN; omega
  have e1:kr m x a=m.w:=by unfold kr; rw[if_neg hs]
  have e3:k_ m x a=p9 m.fl a:=by unfold k_; rw[if_neg hs]
  have e2:iY m x a=if p9 m.fl a=0 then cD (de x a 1) x.i.rd (qK m.fl m.w a) else de x a 1:=by unfold iY; rw[if_neg hs]
  rw[e1,e2,e3]
  refine (yv m.w m.fl a ha hm.fl hm.len hm.w).e ?_
  refine⟨fun h=>?_,fun h=>?_⟩
  ·rw[if_pos h]
   refine⟨[],br,(bU m (de x a 1) x.i.rd (qK m.fl m.w a) hx.rd.1 hx.rd.2).rV rfl rfl rfl rfl (by repeat' first|exact trivial|exact rfl|exact Iff.rfl|refine And.intro ?_ ?_) (And.intro (by first|exact aY rfl rfl|(repeat' first|exact trivial|exact rfl|exact Iff.rfl|exact Or.inl rfl|exact not_false|refine And.intro ?_ ?_)) (And.intro (by first|exact aY rfl rfl|(repeat' first|exact trivial|exact rfl|exact Iff.rfl|exact Or.inl rfl|exact not_false|refine And.intro ?_ ?_)) (And.intro (by first|exact aY rfl rfl|(repeat' first|exact trivial|exact rfl|exact Iff.rfl|exact Or.inl rfl|exact not_false|refine And.intro ?_ ?_)) (And.intro (by first|exact aY rfl rfl|(repeat' first|exact trivial|exact rfl|exact Iff.rfl|exact Or.inl rfl|exact not_false|refine And.intro ?_ ?_)) ?_))))⟩
   exact rS
  ·rw[if_neg h]
   exact rS
def pr (ao:Int) (r:Nat):Int:=bits .and .i64 (ao / Ev.aO .i64 (r:Int)) 1
def bW (x:XS) (w:Nat->Int) (a:Int):Nat->(Nat->Int) × Int × Int
 | 0=>(w,a,0)
 | r+1=>if (bW x w a r).2.2≠0 then bW x w a r else if pr x.i.ao r=0 then bW x w a r
  else if nN (bW x w a r).2.1≠0 then ((bW x w a r).1,(bW x w a r).2.1,nN (bW x w a r).2.1)
  else (vl (bW x w a r).1 (bW x w a r).2.1 (au x r),IntKind.u32.wrap ((bW x w a r).2.1+4),0)
theorem nu {x:XS} {w:Nat->Int} {a:Int} {r:Nat} (h:(bW x w a r).2.2≠0):∀ n,bW x w a (r+n)=bW x w a r
 | 0=>rfl
 | n+1=>by rw[← Nat.add_assoc,bW,nu h n,if_pos h]
theorem wY {x:XS} {w:Nat->Int} {a:Int} {r:Nat} (h:(bW x w a r).2.2=0) (hb:pr x.i.ao r=0):bW x w a (r+1)=bW x w a r:=by rw[bW,if_neg (by omega),if_pos hb]
theorem z9 {x:XS} {w:Nat->Int} {a:Int} {r:Nat} (h:(bW x w a r).2.2=0) (hb:¬ pr x.i.ao r=0) (he:nN (bW x w a r).2.1≠0):bW x w a (r+1)=((bW x w a r).1,(bW x w a r).2.1,nN (bW x w a r).2.1):=by rw[bW,if_neg (by omega),if_neg hb,if_pos he]
theorem Ej {x:XS} {w:Nat->Int} {a:Int} {r:Nat} (h:(bW x w a r).2.2=0) (hb:¬ pr x.i.ao r=0) (he:¬ nN (bW x w a r).2.1≠0):bW x w a (r+1)=(vl (bW x w a r).1 (bW x w a r).2.1 (au x r),IntKind.u32.wrap ((bW x w a r).2.1+4),0):=by rw[bW,if_neg (by omega),if_neg hb,if_neg he]
theorem uO {x:XS} {w:Nat->Int} {a:Int} (ha:bO a):∀ r,bO (bW x w a r).2.1
 | 0=>ha
 | r+1=>by
  have ih:=uO (x:=x) (w:=w) ha r
  rw[bW]
  split
  ·exact ih
  ·split
   ·exact ih
   ·split
    ·exact ih
    ·exact wrap_u32 _
def cM (x:XS):Int:=IntKind.u32.wrap (au x 13 - IntKind.u32.wrap (4*b_ x.i.ao))
def jP (m:MS) (x:XS):(Nat->Int) × Int × Int:=bW x m.w (cM x) 15
def mm (m:MS) (x:XS):XS:=if (jP m x).2.2=0 then cD (de x (cM x) (b_ x.i.ao)) 13 (cM x) else de x (cM x) (b_ x.i.ao)
theorem H' (m:MS) (x:XS) (hx:kq x):Spec gT 78 [.ptr 3 0] (fS m x) [] fun y S'=>y = .int .i64 (jP m x).2.2/\S'=fS (jO m (jP m x).1) (mm m x):=by
 have hA:bO (cM x):=wrap_u32 _
 have hbits:=mP x.i.ao hx.ao.1 hx.ao.2
 have ew:IntKind.u32.wrap x.i.ao=x.i.ao:=by rw[IntKind.wrap_u32']; have:=hx.ao; omega
 refine Spec.iJ (Spec.enter an Zt 100 Tryz.func78 rfl (by kernel_rfl) ?_)
 refine lu ?_ (show 0<=x.i.ao/\x.i.ao<=_ by have:=hx.ao; omega)
 refine (pk x.i.ao hx.ao.1 hx.ao.2).u ?_
 refine li ?_ (show _<=4*b_ x.i.ao/\4*b_ x.i.ao<=_ by omega)
 refine .inr ?_
 refine (gj .w .p m { x with words:=b_ x.i.ao } 13 (by decide) (by decide)).e ?_
 refine .inr ?_
 have e0:bW x m.w (cM x) 0=(m.w,cM x,0):=rfl
 refine SW.xL an Zt (by kernel_rfl) (α:={r:Nat // r<=15/\(bW x m.w (cM x) r).2.2=0}) (fun r=>[(0,.ptr 3 0),(3,.int .u32 (bW x m.w (cM x) r.1).2.1),(32,.int .i64 r.1)]) (fun r=>fS (jO m (bW x m.w (cM x) r.1).1) (de x (cM x) (b_ x.i.ao))) (fun r=>15 - r.1) ⟨0,by omega,rfl⟩ 60 [some 0,some 1,some 2,some 3] ?_ ?_
 ·repeat' first|exact trivial|exact rfl|exact Iff.rfl|refine And.intro ?_ ?_
 rintro⟨r,hr,hz⟩
 have hP:=uO (x:=x) (w:=m.w) hA r
 refine⟨fun h=>?_,fun h=>?_⟩
 ·have h':(r:Int) < 15:=h
  refine⟨show (0:Int)<=(r:Int) by omega,?_⟩
  refine⟨fun hb=>?_,fun hb=>?_⟩
  ·have hs:=wY (x:=x) (w:=m.w) (a:=cM x) hz hb
   refine .inl ⟨av (show _<=(r:Int)+1/\(r:Int)+1<=_ by omega),⟨⟨r+1,by omega,by rw[hs]; exact hz⟩,[some 0,some 1,some 2,some 3],show 15 - (r+1) < 15 - r by omega,?_⟩⟩
   show gg _ _ _ (ba.bare _ [(0,.ptr 3 0),(3,.int .u32 (bW x m.w (cM x) (r+1)).2.1),(32,.int .i64 (r+1:Nat))] (fS (jO m (bW x m.w (cM x) (r+1)).1) (de x (cM x) (b_ x.i.ao))))
   rw[hs]
   repeat' first|exact trivial|exact rfl|exact Iff.rfl|refine And.intro ?_ ?_
  ·refine (gj .p .p (jO m (bW x m.w (cM x) r).1) (de x (cM x) (b_ x.i.ao)) (r:Int) (by omega) (by omega)).e ?_
   refine (iC (bW x m.w (cM x) r).1 m.fl (bW x m.w (cM x) r).2.1 (au x r) hP).e ?_
   refine⟨fun he=>?_,fun he=>?_⟩
   ·have hE:=z9 (x:=x) (w:=m.w) (a:=cM x) hz hb he
    have hF:jP m x=((bW x m.w (cM x) r).1,(bW x m.w (cM x) r).2.1,nN (bW x m.w (cM x) r).2.1):=by
     have hs:=nu (x:=x) (w:=m.w) (a:=cM x) (r:=r+1) (by rw[hE]; exact he) (14 - r)
     unfold jP
     rw[show 15=r+1+(14 - r) by omega,hs,hE]
    have hX:mm m x=de x (cM x) (b_ x.i.ao):=by unfold mm; rw[hF,if_neg (show ¬ nN _=0 from he)]
    rw[hF,hX]
    exact a_ rfl (And.intro (show fX (vl _ _ _)=fX _ by rw[sF he]; rfl) (And.intro (aY rfl rfl) (ah rfl)))
   ·have hs:=Ej (x:=x) (w:=m.w) (a:=cM x) hz hb he
    refine .inr ?_
    refine .inl ⟨av (show _<=(r:Int)+1/\(r:Int)+1<=_ by omega),⟨⟨r+1,by omega,by rw[hs]⟩,[some 0,some 1,some 2,some 3],show 15 - (r+1) < 15 - r by omega,?_⟩⟩
    show gg _ _ _ (ba.bare _ [(0,.ptr 3 0),(3,.int .u32 (bW x m.w (cM x) (r+1)).2.1),(32,.int .i64 (r+1:Nat))] (fS (jO m (bW x m.w (cM x) (r+1)).1) (de x (cM x) (b_ x.i.ao))))
    rw[hs]
    repeat' first|exact trivial|exact rfl|exact Iff.rfl|refine And.intro ?_ ?_
 ·have h':¬ (r:Int) < 15:=h
  obtain rfl:r=15:=by omega
  have hX:mm m x=cD (de x (cM x) (b_ x.i.ao)) 13 (cM x):=by unfold mm; rw[if_pos (show (jP m x).2.2=0 from hz)]
  rw[show (jP m x).2.2=0 from hz,hX]
  refine (bU (jO m (bW x m.w (cM x) 15).1) (de x (cM x) (b_ x.i.ao)) 13 (cM x) (by decide) (by decide)).e ?_
  exact a_ rfl (ah rfl)
def cd (m:MS) (x:XS) (a:Int):Nat->XS × Int × Int
 | 0=>(x,a,0)
 | r+1=>if (cd m x a r).2.2≠0 then cd m x a r else if pr x.i.ao r=0 then cd m x a r
  else if p9 m.fl (cd m x a r).2.1≠0 then ((cd m x a r).1,(cd m x a r).2.1,p9 m.fl (cd m x a r).2.1)
  else if r=15 then (iB (cd m x a r).1 (qK m.fl m.w (cd m x a r).2.1),IntKind.u32.wrap ((cd m x a r).2.1+4),0)
  else (cD (cd m x a r).1 r (qK m.fl m.w (cd m x a r).2.1),IntKind.u32.wrap ((cd m x a r).2.1+4),0)
theorem pt {m:MS} {x:XS} {a:Int} {r:Nat} (h:(cd m x a r).2.2≠0):∀ n,cd m x a (r+n)=cd m x a r
 | 0=>rfl
 | n+1=>by rw[← Nat.add_assoc,cd,pt h n,if_pos h]
theorem z_ {m:MS} {x:XS} {a:Int} {r:Nat} (h:(cd m x a r).2.2=0) (hb:pr x.i.ao r=0):cd m x a (r+1)=cd m x a r:=by rw[cd,if_neg (by omega),if_pos hb]
theorem Ek {m:MS} {x:XS} {a:Int} {r:Nat} (h:(cd m x a r).2.2=0) (hb:¬ pr x.i.ao r=0) (he:p9 m.fl (cd m x a r).2.1≠0):cd m x a (r+1)=((cd m x a r).1,(cd m x a r).2.1,p9 m.fl (cd m x a r).2.1):=by rw[cd,if_neg (by omega),if_neg hb,if_pos he]
theorem Aa {m:MS} {x:XS} {a:Int} {r:Nat} (h:(cd m x a r).2.2=0) (hb:¬ pr x.i.ao r=0) (he:¬ p9 m.fl (cd m x a r).2.1≠0) (hr:r=15):cd m x a (r+1)=(iB (cd m x a r).1 (qK m.fl m.w (cd m x a r).2.1),IntKind.u32.wrap ((cd m x a r).2.1+4),0):=by rw[cd,if_neg (by omega),if_neg hb,if_neg he,if_pos hr]
theorem El {m:MS} {x:XS} {a:Int} {r:Nat} (h:(cd m x a r).2.2=0) (hb:¬ pr x.i.ao r=0) (he:¬ p9 m.fl (cd m x a r).2.1≠0) (hr:¬ r=15):cd m x a (r+1)=(cD (cd m x a r).1 r (qK m.fl m.w (cd m x a r).2.1),IntKind.u32.wrap ((cd m x a r).2.1+4),0):=by rw[cd,if_neg (by omega),if_neg hb,if_neg he,if_neg hr]
theorem H_ (x:XS) (v:Int):(iB x v).i=x.i:=by unfold iB; split<;>rfl
theorem sG {m:MS} {x:XS} {a:Int} (ha:bO a):∀ r,bO (cd m x a r).2.1/\(cd m x a r).1.i=x.i
 | 0=>⟨ha,rfl⟩
 | r+1=>by
  have ih:=sG (m:=m) (x:=x) ha r
  rw[cd]
  split
  ·exact ih
  ·split
   ·exact ih
   ·split
    ·exact ih
    ·split
     ·exact⟨wrap_u32 _,(H_ _ _).trans ih.2⟩
     ·exact⟨wrap_u32 _,ih.2⟩
def pv (m:MS) (x:XS):XS × Int × Int:=cd m (de x (au x 13) (b_ x.i.ao)) (au x 13) 16
def sH (m:MS) (x:XS):XS:=if (pv m x).2.2=0 then cD (pv m x).1 13 (pv m x).2.1 else (pv m x).1
theorem Ia (m:MS) (x:XS) (hm:Ei m) (hx:kq x):Spec gT 79 [.ptr 3 0] (fS m x) [] fun y S'=>y = .int .i64 (pv m x).2.2/\S'=fS m (sH m x):=by
 have hA:bO (au x 13):=bH hx _
 refine Spec.iJ (Spec.enter an Zu 100 Tryz.func79 rfl (by kernel_rfl) ?_)
 refine lu ?_ (show 0<=x.i.ao/\x.i.ao<=_ by have:=hx.ao; omega)
 refine (pk x.i.ao hx.ao.1 hx.ao.2).u ?_
 refine (bA m { x with words:=b_ x.i.ao } 13 (by decide) (by decide)).e ?_
 generalize Ye:de x (au x 13) (b_ x.i.ao)=x2
 have hR:pv m x=cd m x2 (au x 13) 16:=by unfold pv; rw[Ye]
 have hi:x2.i=x.i:=by rw[← Ye]; rfl
 refine SW.xL an Zu (by kernel_rfl) (α:={r:Nat // r<=16/\(cd m x2 (au x 13) r).2.2=0}) (fun r=>[(0,.ptr 3 0),(3,.int .u32 (cd m x2 (au x 13) r.1).2.1),(26,.int .i64 r.1)]) (fun r=>fS m (cd m x2 (au x 13) r.1).1) (fun r=>16 - r.1) ⟨0,by omega,rfl⟩ 60 [some 0,some 1,some 2,some 3] ?_ ?_
 ·show gg _ _ _ (ba.bare _ [(0,.ptr 3 0),(3,.int .u32 (au x 13)),(26,.int .i64 (0:Nat))] (fS m x2))
  rw[← Ye]
  repeat' first|exact trivial|exact rfl|exact Iff.rfl|refine And.intro ?_ ?_
 rintro⟨r,hr,hz⟩
 obtain⟨hP,hI⟩:=sG (m:=m) (x:=x2) hA r
 refine⟨fun h=>?_,fun h=>?_⟩
 ·have h':(r:Int) < 16:=h
  refine⟨show (0:Int)<=(r:Int) by omega,?_⟩
  refine⟨fun hb=>?_,fun hb=>?_⟩
  ·have db:pr x2.i.ao r=0:=by rw[← hI]; exact hb
   have hs:=z_ (m:=m) (x:=x2) (a:=au x 13) hz db
   refine .inl ⟨av (show _<=(r:Int)+1/\(r:Int)+1<=_ by omega),⟨⟨r+1,by omega,by rw[hs]; exact hz⟩,[some 0,some 1,some 2,some 3],show 16 - (r+1) < 16 - r by omega,?_⟩⟩
   show gg _ _ _ (ba.bare _ [(0,.ptr 3 0),(3,.int .u32 (cd m x2 (au x 13) (r+1)).2.1),(26,.int .i64 (r+1:Nat))] (fS m (cd m x2 (au x 13) (r+1)).1))
   rw[hs]
   repeat' first|exact trivial|exact rfl|exact Iff.rfl|refine And.intro ?_ ?_
  ·have db:¬ pr x2.i.ao r=0:=by rw[← hI]; exact hb
   refine (yv m.w m.fl (cd m x2 (au x 13) r).2.1 hP hm.fl hm.len hm.w).e ?_
   refine⟨fun he=>?_,fun he=>?_⟩
   ·have hE:=Ek (m:=m) (x:=x2) (a:=au x 13) hz db he
    have hF:pv m x=((cd m x2 (au x 13) r).1,(cd m x2 (au x 13) r).2.1,p9 m.fl (cd m x2 (au x 13) r).2.1):=by
     have hs:=pt (m:=m) (x:=x2) (a:=au x 13) (r:=r+1) (by rw[hE]; exact he) (15 - r)
     rw[hR,show 16=r+1+(15 - r) by omega,hs,hE]
    have hX:sH m x=(cd m x2 (au x 13) r).1:=by unfold sH; rw[hF,if_neg (show ¬ p9 m.fl _=0 from he)]
    rw[hF,hX]
    exact a_ rfl (ah rfl)
   ·refine .inr ?_
    refine⟨fun QU=>?_,fun QU=>?_⟩
    ·have hs:=Aa (m:=m) (x:=x2) (a:=au x 13) hz db he (show r=15 by have:(r:Int)=15:=QU; omega)
     refine (yp m (cd m x2 (au x 13) r).1 (qK m.fl m.w (cd m x2 (au x 13) r).2.1)).e ?_
     refine .inl ⟨av (show _<=(r:Int)+1/\(r:Int)+1<=_ by omega),⟨⟨r+1,by omega,by rw[hs]⟩,[some 0,some 1,some 2,some 3],show 16 - (r+1) < 16 - r by omega,?_⟩⟩
     show gg _ _ _ (ba.bare _ [(0,.ptr 3 0),(3,.int .u32 (cd m x2 (au x 13) (r+1)).2.1),(26,.int .i64 (r+1:Nat))] (fS m (cd m x2 (au x 13) (r+1)).1))
     rw[hs]
     repeat' first|exact trivial|exact rfl|exact Iff.rfl|refine And.intro ?_ ?_
    ·have hs:=El (m:=m) (x:=x2) (a:=au x 13) hz db he (show ¬ r=15 from fun e=>QU (show (r:Int)=15 by omega))
     refine (bU m (cd m x2 (au x 13) r).1 (r:Int) (qK m.fl m.w (cd m x2 (au x 13) r).2.1) (by omega) (by omega)).e ?_
     refine .inl ⟨av (show _<=(r:Int)+1/\(r:Int)+1<=_ by omega),⟨⟨r+1,by omega,by rw[hs]⟩,[some 0,some 1,some 2,some 3],show 16 - (r+1) < 16 - r by omega,?_⟩⟩
     show gg _ _ _ (ba.bare _ [(0,.ptr 3 0),(3,.int .u32 (cd m x2 (au x 13) (r+1)).2.1),(26,.int .i64 (r+1:Nat))] (fS m (cd m x2 (au x 13) (r+1)).1))
     rw[hs]
     repeat' first|exact trivial|exact rfl|exact Iff.rfl|refine And.intro ?_ ?_
 ·have h':¬ (r:Int) < 16:=h
  obtain rfl:r=16:=by omega
  have hX:sH m x=cD (cd m x2 (au x 13) 16).1 13 (cd m x2 (au x 13) 16).2.1:=by unfold sH; rw[hR,if_pos hz]
  rw[show (pv m x).2.2=0 by rw[hR]; exact hz,hX]
  refine (bU m (cd m x2 (au x 13) 16).1 13 (cd m x2 (au x 13) 16).2.1 (by decide) (by decide)).e ?_
  exact a_ rfl (ah rfl)
end Go.Proofs.YtlgkljpgagfndaaGreatDoor.Pw

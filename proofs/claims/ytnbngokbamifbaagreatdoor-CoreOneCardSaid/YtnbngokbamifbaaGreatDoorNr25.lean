/- What this claim is proved with: no condition. -/
import Derived.Test.YtnbngokbamifbaaGreatDoorNr24
import Derived.Test.YtnbngokbamifbaaGreatDoorNrAluB
import Derived.Test.YtnbngokbamifbaaGreatDoorNrImmB
import Derived.Test.YtnbngokbamifbaaGreatDoorNrPop32
import Derived.Test.YtnbngokbamifbaaGreatDoorNr12
set_option maxRecDepth 100000
set_option maxHeartbeats 4000000
set_option linter.unusedVariables false
set_option linter.unusedSimpArgs false
namespace Go.Proofs.YtnbngokbamifbaaGreatDoor.Pw
open Go Go.RowKit
theorem th (x y c:Int) (hx:aP x) (hy:aP y) (hc:0<=c):ah gT 145 [.int .u32 x,.int .u32 y,.int .u32 c] (.tup [.int .u32 (Rm.eD x y c),.int .u32 (Rm.iB x y c),.int .u32 (Rm.jT x y c)]) :=
 ah.of_same (ft Tryz.func145 rfl (by kernel_rfl)) [.int .u32 x,.int .u32 y,.int .u32 c] (.tuple #[.int .u32 (Rm.eD x y c),.int .u32 (Rm.iB x y c),.int .u32 (Rm.jT x y c)]) (fun w I β vals h=>gu (l:=[(.u32,x),(.u32,y),(.u32,c)]) h) (fun w I β=>jz (fP (dh ..) (fP (dh ..) (fP (dh ..) qF)))) (fun w=>(K8 x y c w hx.1 hx.2 hy.1 hy.2 hc).mono fun e w' ⟨h1,h2⟩=>⟨h1,h2.symm⟩)
theorem E8 (x y c:Int) (hx:aP x) (hy:aP y) (hc:0<=c):ah gT 212 [.int .u32 x,.int .u32 y,.int .u32 c] (.tup [.int .u32 (Rm.eD x y c),.int .u32 (Rm.iB x y c),.int .u32 (Rm.jT x y c)]) :=
 ah.of_same (ft Tryz.func212 rfl (by kernel_rfl)) [.int .u32 x,.int .u32 y,.int .u32 c] (.tuple #[.int .u32 (Rm.eD x y c),.int .u32 (Rm.iB x y c),.int .u32 (Rm.jT x y c)]) (fun w I β vals h=>gu (l:=[(.u32,x),(.u32,y),(.u32,c)]) h) (fun w I β=>jz (fP (dh ..) (fP (dh ..) (fP (dh ..) qF)))) (fun w=>(AS x y c w hx.1 hx.2 hy.1 hy.2 hc).mono fun e w' ⟨h1,h2⟩=>⟨h1,h2.symm⟩)
theorem E9 (x y:Int) (hx:aP x) (hy:aP y):ah gT 142 [.int .u32 x,.int .u32 y] (.tup [.int .u32 (x*y % 4294967296),.int .u32 (x*y / 4294967296)]) :=
 ah.of_same (ft Tryz.func142 rfl (by kernel_rfl)) [.int .u32 x,.int .u32 y] (.tuple #[.int .u32 (x*y % 4294967296),.int .u32 (x*y / 4294967296)]) (fun w I β vals h=>gu (l:=[(.u32,x),(.u32,y)]) h) (fun w I β=>jz (fP (dh ..) (fP (dh ..) qF))) (fun w=>(Hn x y w hx.1 hx.2 hy.1 hy.2).mono fun e w' ⟨h1,h2⟩=>⟨h1,h2.symm⟩)
theorem u5 (x:Int) (hx:aP x):ah gT 156 [.int .u32 x] (.int .i64 (Lib.bitLen x.toNat)) :=
 ah.of_same (ft Tryz.func156 rfl (by kernel_rfl)) [.int .u32 x] (.int .i64 (Lib.bitLen x.toNat)) (fun w I β vals h=>gu (l:=[(.u32,x)]) h) (fun w I β=>dh ..) (fun w=>(K9 x w hx.1 hx.2).mono fun e w' ⟨h1,h2⟩=>⟨h1,h2.symm⟩)
theorem pN (x:Int) (hx:aP x):ah gT 165 [.int .u32 x] (.int .i64 (Lib.bitLen x.toNat)) :=
 ah.of_same (ft Tryz.func165 rfl (by kernel_rfl)) [.int .u32 x] (.int .i64 (Lib.bitLen x.toNat)) (fun w I β vals h=>gu (l:=[(.u32,x)]) h) (fun w I β=>dh ..) (fun w=>(AU x w hx.1 hx.2).mono fun e w' ⟨h1,h2⟩=>⟨h1,h2.symm⟩)
theorem M6 (x:Int) (hx:aP x):ah gT 146 [.int .u32 x] (.int .i64 (32 - (Lib.bitLen x.toNat:Int))) :=
 ah.of_same (ft Tryz.func146 rfl (by kernel_rfl)) [.int .u32 x] (.int .i64 (32 - (Lib.bitLen x.toNat:Int))) (fun w I β vals h=>gu (l:=[(.u32,x)]) h) (fun w I β=>dh ..) (fun w=>(Ho x w hx.1 hx.2).mono fun e w' ⟨h1,h2⟩=>⟨h1,h2.symm⟩)
theorem tj (x:Int) (h0:0<=x) (h1:x<=65535):ah gT 135 [.int .u32 x] (.int .i64 (bb x)) :=
 ah.yi (ft Tryz.func135 rfl (by kernel_rfl)) [.int .u32 x] (.int .i64 (bb x)) (fun w I β vals h=>gu (l:=[(.u32,x)]) h) (fun w I β=>dh ..) (fun w=>E3 x w h0 h1)
def C8 (k x n:Int):Int:=((Rm.wa k n.toNat x.toNat:Nat):Int)
def E' (k x n c:Int):Int:=((Rm.D4 k n.toNat x.toNat (min c.toNat 1):Nat):Int)
theorem qp (k x n c:Int) (xC:0<=k) (D9:k<=3) (iP:0<=n) (lx:n<=255) (hx:aP x) (hc:0<=c):ah gT 183 [.int .i64 k,.int .u32 x,.int .i64 n,.int .u32 c] (.tup [.int .u32 (C8 k x n),.int .u32 (E' k x n c),.int .i64 0]) :=
 ah.of_same (ft Tryz.func183 rfl (by kernel_rfl)) [.int .i64 k,.int .u32 x,.int .i64 n,.int .u32 c] (.tuple #[.int .u32 (C8 k x n),.int .u32 (E' k x n c),.int .i64 0]) (fun w I β vals h=>gu (l:=[(.i64,k),(.u32,x),(.i64,n),(.u32,c)]) h) (fun w I β=>jz (fP (dh ..) (fP (dh ..) (fP (dh ..) qF)))) (fun w=>(yt k x n c w xC D9 iP lx hx.1 hx.2 hc).mono fun e w' ⟨h1,h2⟩=>⟨h1,h2.symm⟩)
theorem oX (k x n c:Int) (xC:0<=k) (D9:k<=3) (iP:0<=n) (lx:n<=255) (hx:aP x) (hc:0<=c):ah gT 193 [.int .i64 k,.int .u32 x,.int .i64 n,.int .u32 c] (.tup [.int .u32 (C8 k x n),.int .u32 (E' k x n c)]) :=
 ah.of_same (ft Tryz.func193 rfl (by kernel_rfl)) [.int .i64 k,.int .u32 x,.int .i64 n,.int .u32 c] (.tuple #[.int .u32 (C8 k x n),.int .u32 (E' k x n c)]) (fun w I β vals h=>gu (l:=[(.i64,k),(.u32,x),(.i64,n),(.u32,c)]) h) (fun w I β=>jz (fP (dh ..) (fP (dh ..) qF))) (fun w=>(oJ k x n c w xC D9 iP lx hx.1 hx.2 hc).mono fun e w' ⟨h1,h2⟩=>⟨h1,h2.symm⟩)
theorem ug (n c:Int) (h:fe n) (hc:0<=c):ah gT 182 [.int .i64 n,.int .u32 c] (.tup [.int .u32 (Rm.gq n c),.int .i64 (Rm.eG n)]) :=
 ah.OM (ft Tryz.func182 rfl (by kernel_rfl)) fun I β w vals hM hA=>by
  obtain rfl:=gu (l:=[(.i64,n),(.u32,c)]) hA
  refine⟨.tuple #[.int .u32 (Rm.gq n c),.int .i64 (Rm.eG n)],jz (fP (dh ..) (fP (dh ..) qF)),fun _ _ _=>jz (fP (dh ..) (fP (dh ..) qF)),?_⟩
  refine (D' n c w (ON hM) h.1 h.2 hc).mono ?_
  rintro e w' ⟨rfl,rfl⟩
  exact⟨rfl,Below.refl _ _⟩
theorem Bu (k x n:Int) (hx:aP x):aP (C8 k x n):=by
 have:=Rm.nG k n.toNat x.toNat (by have:=hx.1; have:=hx.2; omega)
 unfold C8 aP; omega
theorem IM (k x n c:Int) (hx:aP x):0<=E' k x n c/\E' k x n c<=1:=by
 have:=Rm.Qr k n.toNat x.toNat (min c.toNat 1) (by have:=hx.1; have:=hx.2; omega) (by omega)
 unfold E'; omega
theorem iE (d e:Md) (m:MS) (x:XS) (r:Int) (h0:0<=r) (h1:r<=15):Spec gT 132 [.ptr 3 0,.int .i64 r] (U8 d e m x) [] fun v S'=>v = .int .u32 (al x r)/\S'=U8 d e m x:=by
 refine Spec.kB (Spec.enter ar P132 100 Tryz.func132 rfl (by kernel_rfl) ?_)
 refine⟨fun h=>?_,fun h=>?_⟩
 ·have h':r=15:=h
  refine .inr ?_
  have e0:al x r=IntKind.u32.wrap (x.at_+4):=by unfold al; rw[if_pos h']
  rw[e0]
  exact rS
 ·have h':¬ r=15:=h
  have e0:al x r=x.s.R r.toNat:=by unfold al; rw[if_neg h']
  rw[e0]
  refine⟨h0,show r < 16 by omega,?_⟩
  refine .inr ⟨rfl,h0,show 12+r.toNat*1 < 40 by omega,fun c hc=>?_⟩
  obtain rfl:=Option.some.inj (hc.symm.trans (MU x r.toNat (by omega)))
  exact rS
theorem bH (m:MS) (x:XS) (r:Int) (h0:0<=r) (h1:r<=15):Spec gT 132 [.ptr 3 0,.int .i64 r] (hZ m x) [] fun v S'=>v = .int .u32 (al x r)/\S'=hZ m x:=iE .w .w m x r h0 h1
theorem bT (m:MS) (x:XS) (r v:Int) (h0:0<=r) (h1:r<=15):Spec gT 134 [.ptr 3 0,.int .i64 r,.int .u32 v] (hZ m x) [] fun y S'=>y = .tup []/\S'=hZ m (cg x r v):=by
 refine Spec.kB (Spec.enter ar P134 100 Tryz.func134 rfl (by kernel_rfl) ?_)
 refine⟨h0,show r < 16 by omega,?_⟩
 refine⟨16,h0,show r < 16 by omega,show 12+r.toNat*1 < 40 by omega,?_⟩
 exact rS
theorem IP (m:MS) (x:XS) (v:Int):Spec gT 143 [.ptr 3 0,.int .u32 v] (hZ m x) [] fun y S'=>y = .tup []/\S'=hZ m (lg x v):=by
 refine Spec.kB (Spec.enter ar P143 100 Tryz.func143 rfl (by kernel_rfl) ?_)
 refine⟨by decide,?_⟩
 refine⟨fun h=>?_,fun h=>?_⟩
 ·have e:lg x v = { x with s:={ x.s with N:=v / 2147483648,Z:=1 } }:=by unfold lg; rw[if_pos (show v=0 from h)]
  rw[e]
  exact rS
 ·have e:lg x v = { x with s:={ x.s with N:=v / 2147483648,Z:=0 } }:=by unfold lg; rw[if_neg (show ¬ v=0 from h)]
  rw[e]
  exact rS
def bY (x:XS):Prop:=(ae x.i.form=18\/ae x.i.form=19\/ae x.i.form=21\/ae x.i.form=22\/ae x.i.form=27)->x.i.set=1
instance (x:XS):Decidable (bY x):=by unfold bY; infer_instance
theorem C9 (m:MS) (x:XS):Spec gT 184 [.ptr 3 0] (hZ m x) [] fun y S'=>y = .bool (bY x)/\S'=hZ m x:=by
 have ZS:=fQ x.i.form
 have key:bY x↔((ae x.i.form=18\/ae x.i.form=19\/ae x.i.form=21\/ae x.i.form=22\/ae x.i.form=27)->x.i.set=1):=Iff.rfl
 refine Spec.kB (Spec.enter ar P184 100 Tryz.func184 rfl (by kernel_rfl) ?_)
 refine ZS.u ?_
 generalize ae x.i.form=sh at key ⊢
 refine⟨fun h=>?_,fun h=>?_⟩
 ·exact bj (show x.i.set=1↔bY x by rw[key]; have h':sh=18:=h; simp[h']) (ak rfl)
 refine⟨fun h=>?_,fun h=>?_⟩
 ·exact bj (show x.i.set=1↔bY x by rw[key]; have h':sh=19:=h; simp[h']) (ak rfl)
 refine⟨fun h=>?_,fun h=>?_⟩
 ·exact bj (show x.i.set=1↔bY x by rw[key]; have h':sh=21:=h; simp[h']) (ak rfl)
 refine⟨fun h=>?_,fun h=>?_⟩
 ·exact bj (show x.i.set=1↔bY x by rw[key]; have h':sh=22:=h; simp[h']) (ak rfl)
 refine⟨fun h=>?_,fun h=>?_⟩
 ·exact bj (show x.i.set=1↔bY x by rw[key]; have h':sh=27:=h; simp[h']) (ak rfl)
 ·exact bj (show bY x by rw[key]; have a:¬ sh=18:=‹_›; have b:¬ sh=19:=‹_›; have c:¬ sh=21:=‹_›; have d:¬ sh=22:=‹_›; have e:¬ sh=27:=‹_›; intro h; omega) (ak rfl)
def lj (w:Nat->Int) (k:Nat):PV:=.int .u8 (gy (w (k / 4)) (k % 4))
theorem C' (w:Nat->Int):fG w=(List.range 65536).map (lj w):=rfl
theorem j6 (w:Nat->Int):(fG w).length=65536:=by rw[C',List.length_map,List.length_range]
theorem zy (w:Nat->Int) (k:Nat):(fG w)[k]?=if k < 65536 then some (lj w k) else none:=by
 rw[C',List.getElem?_map]
 split
 ·rename_i h; rw[List.getElem?_range h]; rfl
 ·rename_i h; rw[List.getElem?_eq_none (by rw[List.length_range]; omega)]; rfl
def tk (w:Nat->Int) (j:Nat) (x:Int):Nat->Int:=fun m=>if m=j then x else w m
theorem IQ (w:Nat->Int) (j:Nat) (x:Int) (hj:j < 16384) :
  ((((fG w).set (4*j) (.int .u8 (gy x 0))).set (4*j+1) (.int .u8 (gy x 1))).set (4*j+2) (.int .u8 (gy x 2))).set (4*j+3) (.int .u8 (gy x 3))=fG (tk w j x):=by
 refine List.ext_getElem? fun k=>?_
 simp only[List.getElem?_set,List.length_set,j6,zy]
 have e:∀ r:Nat,r < 4->lj (tk w j x) (4*j+r) = .int .u8 (gy x r):=fun r hr=>by
  unfold lj tk
  rw[if_pos (by omega),show (4*j+r) % 4=r by omega]
 by_cases h0:k=4*j
 ·subst h0; simp[show 4*j < 65536 by omega]; exact (e 0 (by omega)).symm
 by_cases h1:k=4*j+1
 ·subst h1; simp[show 4*j+1 < 65536 by omega]; exact (e 1 (by omega)).symm
 by_cases h2:k=4*j+2
 ·subst h2; simp[show 4*j+2 < 65536 by omega]; exact (e 2 (by omega)).symm
 by_cases h3:k=4*j+3
 ·subst h3; simp[show 4*j+3 < 65536 by omega]; exact (e 3 (by omega)).symm
 rw[if_neg (by omega),if_neg (by omega),if_neg (by omega),if_neg (by omega)]
 split
 ·have:lj (tk w j x) k=lj w k:=by unfold lj tk; rw[if_neg (by omega)]
  rw[this]
 ·rfl
theorem l5 (x:Int) (k:Nat):0<=gy x k/\gy x k<=255:=by unfold gy; omega
theorem C_ (x:Int) (h:aP x):gy x 0+gy x 1*256+gy x 2*65536+gy x 3*16777216=x:=by
 unfold aP at h
 show x / 1 % 256+x / 256 % 256*256+x / 65536 % 256*65536+x / 16777216 % 256*16777216=x
 omega
theorem tl (a b c d:Int) (ha:0<=a/\a<=255) (hb:0<=b/\b<=255) (hc:0<=c/\c<=255) (hd:0<=d/\d<=255) :
  bits .or .u32 (bits .or .u32 (bits .or .u32 (bits .or .u32 0 a) (b*256)) (c*65536)) (d*16777216)=a+b*256+c*65536+d*16777216:=by
 have h0:=(fR 0 a 0 (by decide) (by decide) (show 0<=a/\a*1<=_ by omega)).1
 have h1:=(fR a b 8 (by decide) (show 0<=a/\a < 256 by omega) (show 0<=b/\b*256<=_ by omega)).1
 have h2:=(fR (a+b*256) c 16 (by decide) (show 0<=_/\_ < (65536:Int) by omega) (show 0<=c/\c*65536<=_ by omega)).1
 have h3:=(fR (a+b*256+c*65536) d 24 (by decide) (show 0<=_/\_ < (16777216:Int) by omega) (show 0<=d/\d*16777216<=_ by omega)).1
 replace h0:bits .or .u32 0 (a*1)=0+a*1:=h0
 replace h1:bits .or .u32 a (b*256)=a+b*256:=h1
 replace h2:bits .or .u32 (a+b*256) (c*65536)=a+b*256+c*65536:=h2
 replace h3:bits .or .u32 (a+b*256+c*65536) (d*16777216)=a+b*256+c*65536+d*16777216:=h3
 rw[Int.mul_one,Int.zero_add] at h0
 rw[h0,h1,h2,h3]
def c_ (at_:Int):Prop:=536870912<=at_/\at_<=536936444
instance (a:Int):Decidable (c_ a):=by unfold c_; infer_instance
def iF (fl:List Int) (at_ n:Int):Prop:=134217728<=at_/\at_ - 134217728+n<=fl.length
instance (fl:List Int) (a n:Int):Decidable (iF fl a n):=by unfold iF; infer_instance
def cu (at_:Int):Nat:=(at_ - 134217728).toNat
def m5 (at_:Int):Nat:=(at_ - 536870912).toNat / 4
def ll (fl:List Int) (at_:Int):Int:=if at_ % 4≠0 then 60 else if c_ at_ then 0 else if iF fl at_ 4 then 0 else 61
def qK (fl:List Int) (w:Nat->Int) (at_:Int):Int:=if at_ % 4≠0 then 0 else if c_ at_ then w (m5 at_) else if iF fl at_ 4 then hN fl (cu at_)+hN fl (cu at_+2)*65536 else 0
def jb (at_:Int):Int:=if at_ % 4≠0 then 60 else if 134217728<=at_/\at_ < 134283264 then 62 else if c_ at_ then 0 else 61
def xb (w:Nat->Int) (at_ x:Int):Nat->Int:=if jb at_=0 then tk w (m5 at_) x else w
def jr (fl:List Int) (at_:Int):Int:=if at_ % 2≠0 then 60 else if iF fl at_ 2 then 0 else 61
def fx (fl:List Int) (at_:Int):Int:=if at_ % 2≠0 then 0 else if iF fl at_ 2 then hN fl (cu at_) else 0
def z8 (w:Nat->Int) (fl:List Int):List au:=[uf w,MT fl]
theorem cut4 {l:List Int} {i:Nat} (h:i+4<=l.length):((db l).drop i).take 4 = [.int .u8 (l.getD i 0),.int .u8 (l.getD (i+1) 0),.int .u8 (l.getD (i+2) 0),.int .u8 (l.getD (i+3) 0)]:=by
 refine List.ext_getElem? fun k=>?_
 have g:∀ j,j < l.length->l[j]?=some (l.getD j 0):=fun j hj=>by rw[List.getD_eq_getElem?_getD,List.getElem?_eq_getElem hj]; rfl
 rw[List.getElem?_take]
 split
 ·rw[List.getElem?_drop,db,List.getElem?_map,g _ (by omega)]
  match k,‹k < 4› with
  | 0,_=>rfl
  | 1,_=>rfl
  | 2,_=>rfl
  | 3,_=>rfl
 ·rw[List.getElem?_eq_none]; simp; omega
theorem cut2 {l:List Int} {i:Nat} (h:i+2<=l.length):((db l).drop i).take 2 = [.int .u8 (l.getD i 0),.int .u8 (l.getD (i+1) 0)]:=by
 refine List.ext_getElem? fun k=>?_
 have g:∀ j,j < l.length->l[j]?=some (l.getD j 0):=fun j hj=>by rw[List.getD_eq_getElem?_getD,List.getElem?_eq_getElem hj]; rfl
 rw[List.getElem?_take]
 split
 ·rw[List.getElem?_drop,db,List.getElem?_map,g _ (by omega)]
  match k,‹k < 2› with
  | 0,_=>rfl
  | 1,_=>rfl
 ·rw[List.getElem?_eq_none]; simp; omega
theorem u6 (fl:List Int) (at_:Int) (n:Nat) (hn:n=2\/n=4) (ha:aP at_) (hl:fl.length<=65536) (h:iF fl at_ n) :
  ah gT 65 [.sl 1 (db fl),.int .u32 134217728,.int .u32 at_,.int .i64 n] (.sl 1 (((db fl).drop (cu at_)).take n)):=by
 have el:(db fl).length=fl.length:=List.length_map ..
 obtain⟨h1,h2⟩:=h
 unfold aP at ha
 refine Spec.enter ar P65 100 Tryz.func65 rfl (by kernel_rfl) ?_
 refine⟨fun h=>absurd (show at_ < 134217728 from h) (by omega),fun _=>?_⟩
 refine lu ?_ (show _<=at_ - 134217728/\at_ - 134217728<=_ by omega)
 refine li ?_ (show _<=at_ - 134217728/\at_ - 134217728<=_ by omega)
 refine fun hm=>?_
 refine li ?_ (show _<=(((db fl).length:Nat):Int) - (n:Int)/\(((db fl).length:Nat):Int) - (n:Int)<=_ by omega)
 refine⟨fun h=>absurd (show (((db fl).length:Nat):Int) - (n:Int) < at_ - 134217728 from h) (by omega),fun _=>?_⟩
 refine lu ?_ (show _<=at_ - 134217728/\at_ - 134217728<=_ by omega)
 refine li ?_ (show _<=at_ - 134217728/\at_ - 134217728<=_ by omega)
 refine li ?_ (show _<=at_ - 134217728+(n:Int)/\at_ - 134217728+(n:Int)<=_ by omega)
 refine⟨show 0<=at_ - 134217728 by omega,show at_ - 134217728<=at_ - 134217728+(n:Int) by omega,show at_ - 134217728+(n:Int)<=(((db fl).length:Nat):Int) by omega,?_⟩
 refine ao ?_
 show List.take (at_ - 134217728+(n:Int) - (at_ - 134217728)).toNat (List.drop (at_ - 134217728).toNat (db fl))=_
 rw[show (at_ - 134217728+(n:Int) - (at_ - 134217728)).toNat=n by omega]; rfl
theorem u7 (fl:List Int) (at_:Int) (n:Nat) (hn:n=2\/n=4) (ha:aP at_) (hl:fl.length<=65536) (h:¬ iF fl at_ n) :
  ah gT 65 [.sl 1 (db fl),.int .u32 134217728,.int .u32 at_,.int .i64 n] .nil:=by
 have el:(db fl).length=fl.length:=List.length_map ..
 unfold iF at h
 unfold aP at ha
 refine Spec.enter ar P65 100 Tryz.func65 rfl (by kernel_rfl) ?_
 refine⟨fun h=>?_,fun h0=>?_⟩
 ·exact ao trivial
 have Kf:¬ at_ < 134217728:=h0
 refine lu ?_ (show _<=at_ - 134217728/\at_ - 134217728<=_ by omega)
 refine li ?_ (show _<=at_ - 134217728/\at_ - 134217728<=_ by omega)
 refine fun hm=>?_
 refine li ?_ (show _<=(((db fl).length:Nat):Int) - (n:Int)/\(((db fl).length:Nat):Int) - (n:Int)<=_ by omega)
 refine⟨fun h=>?_,fun h1=>absurd (show ¬ (((db fl).length:Nat):Int) - (n:Int) < at_ - 134217728 from h1) (by omega)⟩
 exact ao trivial
theorem Da (w:Nat->Int) (fl:List Int) (at_:Int) (ha:aP at_) (hb:w9 fl) (hl:fl.length<=65536):Spec gT 87 [.ptr 1 0,.int .u32 at_] (z8 w fl) [] fun y S'=>y = .tup [.int .u32 (fx fl at_),.int .i64 (jr fl at_)]/\S'=z8 w fl:=by
 refine Spec.kB (Spec.enter ar P87 100 Tryz.func87 rfl (by kernel_rfl) ?_)
 refine And.intro (show (2:Int)≠0 by decide) (.inl ⟨ha.1,show (0:Int) < 2 by decide,?_⟩)
 refine⟨fun h=>?_,fun h=>?_⟩
 ·have h':at_ % 2≠0:=h
  have e1:fx fl at_=0:=by unfold fx; rw[if_pos h']
  have e2:jr fl at_=60:=by unfold jr; rw[if_pos h']
  rw[e1,e2]
  exact rS
 have h':¬ at_ % 2≠0:=h
 by_cases hf:iF fl at_ 2
 ·have e1:fx fl at_=hN fl (cu at_):=by unfold fx; rw[if_neg h',if_pos hf]
  have e2:jr fl at_=0:=by unfold jr; rw[if_neg h',if_pos hf]
  rw[e1,e2]
  have hw:=u6 fl at_ 2 (.inl rfl) ha hl hf
  have qC:cu at_+2<=fl.length:=by obtain⟨q1,q2⟩:=hf; unfold cu; omega
  rw[cut2 qC] at hw
  have b0:=dQ hb (cu at_)
  have b1:=dQ hb (cu at_+1)
  unfold hN
  generalize fl.getD (cu at_) 0=p at hw b0 ⊢
  generalize fl.getD (cu at_+1) 0=q at hw b1 ⊢
  refine hw.u ?_
  refine .inl ⟨show 2≠0 by decide,?_⟩
  refine⟨Int,[p,q],PV.int .u8,rfl,show (0:Int)<=0 by decide,show (0:Int) < 2 by decide,fun x hx=>?_⟩
  obtain rfl:p=x:=Option.some.inj hx
  refine⟨Int,[p,q],PV.int .u8,rfl,show (0:Int)<=1 by decide,show (1:Int) < 2 by decide,fun x hx=>?_⟩
  obtain rfl:q=x:=Option.some.inj hx
  refine lu ?_ (show 0<=p/\p<=_ by omega)
  refine lu ?_ (show 0<=q/\q<=_ by omega)
  refine⟨by decide,.inl ⟨af (show 0<=q*256/\q*256<=_ by omega),?_⟩⟩
  have e:bits .or .u32 p (q*256)=p+q*256:=(fR p q 8 (by decide) (show 0<=p/\p < 256 by omega) (show 0<=q/\q*256<=_ by omega)).1
  exact bj (And.intro e (And.intro rfl trivial)) (ak rfl)
 ·have e1:fx fl at_=0:=by unfold fx; rw[if_neg h',if_neg hf]
  have e2:jr fl at_=61:=by unfold jr; rw[if_neg h',if_neg hf]
  rw[e1,e2]
  refine (u7 fl at_ 2 (.inl rfl) ha hl hf).u ?_
  exact rS
theorem Bv (l o n:Nat):ki (.ref l o n) (.ref l o n):=by
 show (if (Nat.beq l l && Nat.beq o o && Nat.beq n n)=true then True else False)
 rw[if_pos (by simp only[Nat.beq_refl,Bool.and_self])]; trivial
def Bw (at_:Int):Nat:=(at_ - 536870912).toNat
theorem M7 {at_:Int} (h:c_ at_):at_=((Bw at_:Nat):Int)+536870912/\Bw at_<=65532:=by
 obtain⟨a,b⟩:=h
 unfold Bw; omega
theorem jC (w:Nat->Int) (fl:List Int) (at_:Int) (ha:aP at_) (h:¬ c_ at_) (h4:at_ % 4=0):Spec gT 65 [.wref 0,.int .u32 536870912,.int .u32 at_,.int .i64 4] (z8 w fl) [] fun y S'=>y = .nil/\S'=z8 w fl:=by
 have el:=j6 w
 unfold c_ at h
 unfold aP at ha
 refine Spec.kB (Spec.enter ar P65 100 Tryz.func65 rfl (by kernel_rfl) ?_)
 refine⟨fun h=>?_,fun h0=>?_⟩
 ·exact rS
 have Kf:¬ at_ < 536870912:=h0
 refine lu ?_ (show _<=at_ - 536870912/\at_ - 536870912<=_ by omega)
 refine li ?_ (show _<=at_ - 536870912/\at_ - 536870912<=_ by omega)
 refine fun hm=>?_
 refine li ?_ (show _<=(((fG w).length:Nat):Int) - 4/\(((fG w).length:Nat):Int) - 4<=_ by rw[el]; decide)
 refine⟨fun h=>?_,fun h1=>absurd (show ¬ (((fG w).length:Nat):Int) - 4 < at_ - 536870912 from h1) (by rw[el]; omega)⟩
 exact rS
theorem l6 (w:Nat->Int) (fl:List Int) (at_:Int) (ha:aP at_) (h:c_ at_):Spec gT 65 [.wref 0,.int .u32 536870912,.int .u32 at_,.int .i64 4] (z8 w fl) [] fun y S'=>y = .ref 0 (Bw at_) 4/\S'=z8 w fl:=by
 have el:=j6 w
 obtain⟨e,hle⟩:=M7 h
 unfold aP at ha
 generalize Bw at_=o at e hle ⊢
 subst e
 refine Spec.kB (Spec.enter ar P65 100 Tryz.func65 rfl (by kernel_rfl) ?_)
 refine⟨fun h=>absurd (show (o:Int)+536870912 < 536870912 from h) (by omega),fun _=>?_⟩
 refine lu ?_ (show _<=(o:Int)+536870912 - 536870912/\(o:Int)+536870912 - 536870912<=_ by omega)
 refine li ?_ (show _<=(o:Int)+536870912 - 536870912/\(o:Int)+536870912 - 536870912<=_ by omega)
 refine fun hm=>?_
 refine li ?_ (show _<=(((fG w).length:Nat):Int) - 4/\(((fG w).length:Nat):Int) - 4<=_ by rw[el]; decide)
 refine⟨fun h1=>absurd (show (((fG w).length:Nat):Int) - 4 < (o:Int)+536870912 - 536870912 from h1) (by rw[el]; omega),fun _=>?_⟩
 refine lu ?_ (show _<=(o:Int)+536870912 - 536870912/\(o:Int)+536870912 - 536870912<=_ by omega)
 refine li ?_ (show _<=(o:Int)+536870912 - 536870912/\(o:Int)+536870912 - 536870912<=_ by omega)
 refine li ?_ (show _<=(o:Int)+536870912 - 536870912+4/\(o:Int)+536870912 - 536870912+4<=_ by omega)
 refine⟨o,o+4,show (o:Int)+536870912 - 536870912=(o:Int) by omega,show (o:Int)+536870912 - 536870912+4=((o+4:Nat):Int) by omega,by omega,show o+4<=(fG w).length by rw[el]; omega,show o < (fG w).length by rw[el]; omega,?_⟩
 exact bj (show ki (.ref 0 (o*1) (o+4 - o)) (.ref 0 o 4) by rw[Nat.mul_one,Nat.add_sub_cancel_left]; exact Bv _ _ _) (ak rfl)
theorem js (w:Nat->Int) (j r:Nat) (hr:r < 4):lj w (4*j+r) = .int .u8 (gy (w j) r):=by
 unfold lj; rw[show (4*j+r) / 4=j by omega,show (4*j+r) % 4=r by omega]
theorem IS (w:Nat->Int) (fl:List Int) (j:Nat) (hj:j < 16384) (hw:aP (w j)):Spec gT 118 [.ref 0 (4*j) 4] (z8 w fl) [] fun y S'=>y = .int .u32 (w j)/\S'=z8 w fl:=by
 have el:(List.range 65536).length=65536:=List.length_range
 have hg:∀ r x:Nat,r < 4->(List.range 65536)[4*j+r]?=some x->x=4*j+r:=fun r x hr hx=>by
  rw[List.getElem?_range (by omega)] at hx; exact (Option.some.inj hx).symm
 have e0:=js w j 0 (by decide)
 have e1:=js w j 1 (by decide)
 have e2:=js w j 2 (by decide)
 have e3:=js w j 3 (by decide)
 have b0:=l5 (w j) 0
 have b1:=l5 (w j) 1
 have b2:=l5 (w j) 2
 have b3:=l5 (w j) 3
 have Vl:=C_ (w j) hw
 have d0:jH 0=1:=rfl
 have d1:jH 1=256:=rfl
 have d2:jH 2=65536:=rfl
 have d3:jH 3=16777216:=rfl
 refine Spec.kB (Spec.enter ar D0 100 Tryz.func118 rfl (by kernel_rfl) ?_)
 refine SW.rounds ar D0 (by kernel_rfl) (N:=60) 5 ?_
 refine⟨Nat,List.range 65536,lj w,rfl,show 4*j+0 < (List.range 65536).length by rw[el]; omega,fun x hx=>?_⟩
 obtain rfl:=hg 0 x (by decide) hx
 rw[e0]
 refine lu ?_ (show 0<=gy (w j) 0/\gy (w j) 0<=_ by omega)
 refine⟨by decide,.inl ⟨af (show 0<=gy (w j) 0*jH 0/\gy (w j) 0*jH 0<=_ by rw[d0]; omega),?_⟩⟩
 refine⟨Nat,List.range 65536,lj w,rfl,show 4*j+1 < (List.range 65536).length by rw[el]; omega,fun x hx=>?_⟩
 obtain rfl:=hg 1 x (by decide) hx
 rw[e1]
 refine lu ?_ (show 0<=gy (w j) 1/\gy (w j) 1<=_ by omega)
 refine⟨by decide,.inl ⟨af (show 0<=gy (w j) 1*jH 1/\gy (w j) 1*jH 1<=_ by rw[d1]; omega),?_⟩⟩
 refine⟨Nat,List.range 65536,lj w,rfl,show 4*j+2 < (List.range 65536).length by rw[el]; omega,fun x hx=>?_⟩
 obtain rfl:=hg 2 x (by decide) hx
 rw[e2]
 refine lu ?_ (show 0<=gy (w j) 2/\gy (w j) 2<=_ by omega)
 refine⟨by decide,.inl ⟨af (show 0<=gy (w j) 2*jH 2/\gy (w j) 2*jH 2<=_ by rw[d2]; omega),?_⟩⟩
 refine⟨Nat,List.range 65536,lj w,rfl,show 4*j+3 < (List.range 65536).length by rw[el]; omega,fun x hx=>?_⟩
 obtain rfl:=hg 3 x (by decide) hx
 rw[e3]
 refine lu ?_ (show 0<=gy (w j) 3/\gy (w j) 3<=_ by omega)
 refine⟨by decide,.inl ⟨af (show 0<=gy (w j) 3*jH 3/\gy (w j) 3*jH 3<=_ by rw[d3]; omega),?_⟩⟩
 exact bj (show bits .or .u32 (bits .or .u32 (bits .or .u32 (bits .or .u32 0 (gy (w j) 0*1)) (gy (w j) 1*256)) (gy (w j) 2*65536)) (gy (w j) 3*16777216)=w j by rw[Int.mul_one,tl _ _ _ _ b0 b1 b2 b3,Vl]) (ak rfl)
theorem M8 (a b c d:Int) (ha:0<=a/\a<=255) (hb:0<=b/\b<=255) (hc:0<=c/\c<=255) (hd:0<=d/\d<=255):ah gT 118 [.sl 1 [.int .u8 a,.int .u8 b,.int .u8 c,.int .u8 d]] (.int .u32 (a+b*256+c*65536+d*16777216)):=by
 have d0:jH 0=1:=rfl
 have d1:jH 1=256:=rfl
 have d2:jH 2=65536:=rfl
 have d3:jH 3=16777216:=rfl
 refine Spec.enter ar D0 100 Tryz.func118 rfl (by kernel_rfl) ?_
 refine fun _=>?_
 refine SW.rounds ar D0 (by kernel_rfl) (N:=60) 5 ?_
 refine⟨fun _=>?_,fun h=>absurd (show (0:Int) < 4 by decide) h⟩
 refine⟨Int,[a,b,c,d],PV.int .u8,rfl,show (0:Int)<=0 by decide,show (0:Int) < 4 by decide,fun x hx=>?_⟩
 obtain rfl:a=x:=Option.some.inj hx
 refine lu ?_ (show 0<=a/\a<=_ by omega)
 refine⟨by decide,.inl ⟨af (show 0<=a*jH 0/\a*jH 0<=_ by rw[d0]; omega),?_⟩⟩
 refine⟨fun _=>?_,fun h=>absurd (show (1:Int) < 4 by decide) h⟩
 refine⟨Int,[a,b,c,d],PV.int .u8,rfl,show (0:Int)<=1 by decide,show (1:Int) < 4 by decide,fun x hx=>?_⟩
 obtain rfl:b=x:=Option.some.inj hx
 refine lu ?_ (show 0<=b/\b<=_ by omega)
 refine⟨by decide,.inl ⟨af (show 0<=b*jH 1/\b*jH 1<=_ by rw[d1]; omega),?_⟩⟩
 refine⟨fun _=>?_,fun h=>absurd (show (2:Int) < 4 by decide) h⟩
 refine⟨Int,[a,b,c,d],PV.int .u8,rfl,show (0:Int)<=2 by decide,show (2:Int) < 4 by decide,fun x hx=>?_⟩
 obtain rfl:c=x:=Option.some.inj hx
 refine lu ?_ (show 0<=c/\c<=_ by omega)
 refine⟨by decide,.inl ⟨af (show 0<=c*jH 2/\c*jH 2<=_ by rw[d2]; omega),?_⟩⟩
 refine⟨fun _=>?_,fun h=>absurd (show (3:Int) < 4 by decide) h⟩
 refine⟨Int,[a,b,c,d],PV.int .u8,rfl,show (0:Int)<=3 by decide,show (3:Int) < 4 by decide,fun x hx=>?_⟩
 obtain rfl:d=x:=Option.some.inj hx
 refine lu ?_ (show 0<=d/\d<=_ by omega)
 refine⟨by decide,.inl ⟨af (show 0<=d*jH 3/\d*jH 3<=_ by rw[d3]; omega),?_⟩⟩
 refine⟨fun h=>absurd (show (4:Int) < 4 from h) (by decide),fun _=>?_⟩
 refine ao ?_
 show bits .or .u32 (bits .or .u32 (bits .or .u32 (bits .or .u32 0 (a*1)) (b*256)) (c*65536)) (d*16777216)=_
 rw[Int.mul_one,tl _ _ _ _ ha hb hc hd]
theorem Vm {fl:List Int} {a:Int} (h:a % 4≠0):ll fl a=60:=by unfold ll; rw[if_pos h]
theorem Db {fl:List Int} {a:Int} (h:¬ a % 4≠0) (h1:c_ a):ll fl a=0:=by unfold ll; rw[if_neg h,if_pos h1]
theorem Vn {fl:List Int} {a:Int} (h:¬ a % 4≠0) (h1:¬ c_ a) (h2:iF fl a 4):ll fl a=0:=by unfold ll; rw[if_neg h,if_neg h1,if_pos h2]
theorem Vo {fl:List Int} {a:Int} (h:¬ a % 4≠0) (h1:¬ c_ a) (h2:¬ iF fl a 4):ll fl a=61:=by unfold ll; rw[if_neg h,if_neg h1,if_neg h2]
theorem Vp {fl:List Int} {w:Nat->Int} {a:Int} (h:a % 4≠0):qK fl w a=0:=by unfold qK; rw[if_pos h]
theorem Dc {fl:List Int} {w:Nat->Int} {a:Int} (h:¬ a % 4≠0) (h1:c_ a):qK fl w a=w (m5 a):=by unfold qK; rw[if_neg h,if_pos h1]
theorem Vq {fl:List Int} {w:Nat->Int} {a:Int} (h:¬ a % 4≠0) (h1:¬ c_ a) (h2:iF fl a 4):qK fl w a=hN fl (cu a)+hN fl (cu a+2)*65536:=by unfold qK; rw[if_neg h,if_neg h1,if_pos h2]
theorem Vr {fl:List Int} {w:Nat->Int} {a:Int} (h:¬ a % 4≠0) (h1:¬ c_ a) (h2:¬ iF fl a 4):qK fl w a=0:=by unfold qK; rw[if_neg h,if_neg h1,if_neg h2]
theorem Pq {a:Int} (h:¬ a % 4≠0) (h1:c_ a):Bw a=4*m5 a/\m5 a < 16384:=by
 obtain⟨q1,q2⟩:=h1
 unfold Bw m5
 have:a % 4=0:=Classical.not_not.1 h
 omega
theorem Dd (w:Nat->Int) (fl:List Int) (at_:Int) (ha:aP at_) (hb:w9 fl) (hl:fl.length<=65536) (hw:∀ k,aP (w k)):Spec gT 133 [.ptr 1 0,.int .u32 at_] (z8 w fl) [] fun y S'=>y = .tup [.int .u32 (qK fl w at_),.int .i64 (ll fl at_)]/\S'=z8 w fl:=by
 refine Spec.kB (Spec.enter ar P133 100 Tryz.func133 rfl (by kernel_rfl) ?_)
 refine And.intro (show (4:Int)≠0 by decide) (.inl ⟨ha.1,show (0:Int) < 4 by decide,?_⟩)
 refine⟨fun h=>?_,fun h=>?_⟩
 ·rw[Vm h,Vp h]
  exact rS
 have h4:¬ at_ % 4≠0:=h
 by_cases hr:c_ at_
 ·obtain⟨e,hj⟩:=Pq h4 hr
  have hy:=l6 w fl at_ ha hr
  rw[e] at hy
  rw[Db h4 hr,Dc h4 hr]
  refine (hy).e ?_
  refine⟨[],aT,(IS w fl (m5 at_) hj (hw _)).yp rfl rfl rfl rfl ⟨Bv _ _ _,trivial⟩ (And.intro (a_ rfl rfl) (And.intro (a_ rfl rfl) ?_))⟩
  exact rS
 ·refine (jC w fl at_ ha hr (Classical.not_not.1 h4)).e ?_
  by_cases hf:iF fl at_ 4
  ·rw[Vn h4 hr hf,Vq h4 hr hf]
   have hy:=u6 fl at_ 4 (.inr rfl) ha hl hf
   have qC:cu at_+4<=fl.length:=by obtain⟨q1,q2⟩:=hf; unfold cu; omega
   rw[cut4 qC] at hy
   have b0:=dQ hb (cu at_)
   have b1:=dQ hb (cu at_+1)
   have b2:=dQ hb (cu at_+2)
   have b3:=dQ hb (cu at_+3)
   have e:hN fl (cu at_)+hN fl (cu at_+2)*65536=fl.getD (cu at_) 0+fl.getD (cu at_+1) 0*256+fl.getD (cu at_+2) 0*65536+fl.getD (cu at_+3) 0*16777216:=by unfold hN; rw[show cu at_+2+1=cu at_+3 by omega]; omega
   rw[e]
   have hz:=M8 _ _ _ _ b0 b1 b2 b3
   refine hy.u ?_
   refine .inl ⟨show 4≠0 by decide,?_⟩
   refine hz.u ?_
   exact rS
  ·rw[Vo h4 hr hf,Vr h4 hr hf]
   refine (u7 fl at_ 4 (.inr rfl) ha hl hf).u ?_
   exact rS
def iG (w:Nat->Int) (j:Nat):Int × Int:=(536870912+4*(j:Int),w j)
def cv (w:Nat->Int):Nat->List (Int × Int)
 | 0=>[]
 | n+1=>if w n=0 then cv w n else cv w n++[iG w n]
theorem tm (w:Nat->Int):∀ k n,cv w n <+: cv w (n+k)
 | 0,n=>List.prefix_refl _
 | k+1,n=>by
  have ih:=tm w k n
  rw[← Nat.add_assoc,cv]
  split
  ·exact ih
  ·exact ih.trans (List.prefix_append _ _)
def M9 (w:Nat->Int) (fl:List Int):List au:=[⟨.dyn,5,1,.p,true,fG w⟩,⟨.loc,150,1,.p,true,[.sl 1 (db fl),.wref 0]⟩,⟨.loc,78,1,.p,true,[.ptr 1 0]⟩]
theorem E_ (w:Nat->Int) (fl:List Int) (j:Nat) (hj:j < 16384) (hw:aP (w j)):Spec gT 118 [.ref 0 (4*j) 4] (M9 w fl) [] fun y S'=>y = .int .u32 (w j)/\S'=M9 w fl:=by
 have el:(List.range 65536).length=65536:=List.length_range
 have hg:∀ r x:Nat,r < 4->(List.range 65536)[4*j+r]?=some x->x=4*j+r:=fun r x hr hx=>by
  rw[List.getElem?_range (by omega)] at hx; exact (Option.some.inj hx).symm
 have e0:=js w j 0 (by decide)
 have e1:=js w j 1 (by decide)
 have e2:=js w j 2 (by decide)
 have e3:=js w j 3 (by decide)
 have b0:=l5 (w j) 0
 have b1:=l5 (w j) 1
 have b2:=l5 (w j) 2
 have b3:=l5 (w j) 3
 have Vl:=C_ (w j) hw
 have d0:jH 0=1:=rfl
 have d1:jH 1=256:=rfl
 have d2:jH 2=65536:=rfl
 have d3:jH 3=16777216:=rfl
 refine Spec.kB (Spec.enter ar D0 100 Tryz.func118 rfl (by kernel_rfl) ?_)
 refine SW.rounds ar D0 (by kernel_rfl) (N:=60) 5 ?_
 refine⟨Nat,List.range 65536,lj w,rfl,show 4*j+0 < (List.range 65536).length by rw[el]; omega,fun x hx=>?_⟩
 obtain rfl:=hg 0 x (by decide) hx
 rw[e0]
 refine lu ?_ (show 0<=gy (w j) 0/\gy (w j) 0<=_ by omega)
 refine⟨by decide,.inl ⟨af (show 0<=gy (w j) 0*jH 0/\gy (w j) 0*jH 0<=_ by rw[d0]; omega),?_⟩⟩
 refine⟨Nat,List.range 65536,lj w,rfl,show 4*j+1 < (List.range 65536).length by rw[el]; omega,fun x hx=>?_⟩
 obtain rfl:=hg 1 x (by decide) hx
 rw[e1]
 refine lu ?_ (show 0<=gy (w j) 1/\gy (w j) 1<=_ by omega)
 refine⟨by decide,.inl ⟨af (show 0<=gy (w j) 1*jH 1/\gy (w j) 1*jH 1<=_ by rw[d1]; omega),?_⟩⟩
 refine⟨Nat,List.range 65536,lj w,rfl,show 4*j+2 < (List.range 65536).length by rw[el]; omega,fun x hx=>?_⟩
 obtain rfl:=hg 2 x (by decide) hx
 rw[e2]
 refine lu ?_ (show 0<=gy (w j) 2/\gy (w j) 2<=_ by omega)
 refine⟨by decide,.inl ⟨af (show 0<=gy (w j) 2*jH 2/\gy (w j) 2*jH 2<=_ by rw[d2]; omega),?_⟩⟩
 refine⟨Nat,List.range 65536,lj w,rfl,show 4*j+3 < (List.range 65536).length by rw[el]; omega,fun x hx=>?_⟩
 obtain rfl:=hg 3 x (by decide) hx
 rw[e3]
 refine lu ?_ (show 0<=gy (w j) 3/\gy (w j) 3<=_ by omega)
 refine⟨by decide,.inl ⟨af (show 0<=gy (w j) 3*jH 3/\gy (w j) 3*jH 3<=_ by rw[d3]; omega),?_⟩⟩
 exact bj (show bits .or .u32 (bits .or .u32 (bits .or .u32 (bits .or .u32 0 (gy (w j) 0*1)) (gy (w j) 1*256)) (gy (w j) 2*65536)) (gy (w j) 3*16777216)=w j by rw[Int.mul_one,tl _ _ _ _ b0 b1 b2 b3,Vl]) (ak rfl)
def Fa:Code->Code
 | .seq a _=>a
 | c=>c
def rp:Code->Code
 | .seq _ b=>b
 | c=>c
def inC:Code->Code
 | .block _ c=>c
 | .loop c=>c
 | c=>c
def Bx:Code->Array Oper
 | .region _ ops _=>ops
 | _=>#[]
noncomputable def D4:Code:=(Tryz.f117).body.getD .skip
noncomputable def Pr:Code:=inC (inC (rp D4))
noncomputable def F0:Code:=inC (Fa (rp Pr))
noncomputable def IT:Code:=Fa (rp F0)
theorem Vs:D4 = .seq (Fa D4) (.block 0 (.loop Pr)):=by kernel_rfl
theorem Vt:Pr = .seq (Fa Pr) (.seq (.block 1 F0) (rp (rp Pr))):=by kernel_rfl
theorem Vu:F0 = .seq (Fa F0) (.seq IT (rp (rp F0))):=by kernel_rfl
theorem Vv:IT = .region 4 (Bx IT) false:=by kernel_rfl
noncomputable abbrev yv (l:Nat):PV:=.val (.func (.yield l) #[] #[])
noncomputable def sJ (l:Nat) (w:Nat->Int) (fl:List Int) (j:Nat):aV:=⟨34,ig [(0,yv l),(1,.ptr 2 0),(3,.int .i64 (4*(j:Int)))] .nil,M9 w fl,3,[]⟩
noncomputable def sK (l:Nat) (w:Nat->Int) (fl:List Int) (j:Nat):aV:=⟨34,ig [(0,yv l),(1,.ptr 2 0),(3,.int .i64 (4*(j:Int))),(4,.int .u32 (w j))] .nil,M9 w fl,3,[]⟩
noncomputable def sE (w:Nat->Int) (fl:List Int):aV:=⟨34,.nil,M9 w fl,3,[]⟩
section
variable (l:Nat) (w:Nat->Int) (fl:List Int) (hw:∀ k,aP (w k))
theorem IU:AH [yv l,.ptr 2 0] 0 .nil fun t=>pw gT [] 100 (Fa D4) (fun x s'=>match x with
  | .fL=>∃ π,ee gT.cx π s' (sJ l w fl 0)
  | _=>False) ⟨34,t,M9 w fl,3,[]⟩:=by
 refine⟨[some 0,some 1,some 2],?_⟩
 repeat' first|exact trivial|exact rfl|exact Iff.rfl|exact not_false|refine And.intro ?_ ?_
theorem M' (j:Nat) (hj:j<=16384):pw gT [] 100 (Fa Pr) (fun x s'=>match x with
  | .fL=>j < 16384/\∃ π,ee gT.cx π s' (sJ l w fl j)
  | .exit id=>id=0/\j=16384
  | .ret=>False) (sJ l w fl j):=by
 have el:=j6 w
 refine fun hm=>?_
 refine⟨fun h=>?_,fun h=>?_⟩
 ·have h':4*(j:Int) < ((fG w).length:Nat):=h
  rw[el] at h'
  refine⟨by omega,[some 0,some 1,some 2],?_⟩
  repeat' first|exact trivial|exact rfl|exact Iff.rfl|exact not_false|refine And.intro ?_ ?_
 ·have h':¬ 4*(j:Int) < ((fG w).length:Nat):=h
  rw[el] at h'
  exact⟨rfl,by omega⟩
theorem M_ (j:Nat) (hj:j < 16384) (hw:aP (w j)):pw gT [] 100 (Fa F0) (fun x s'=>match x with
  | .fL=>∃ π,ee gT.cx π s' (sK l w fl j)
  | _=>False) (sJ l w fl j):=by
 have el:=j6 w
 refine li ?_ (show _<=4*(j:Int)+4/\4*(j:Int)+4<=_ by omega)
 refine⟨4*j,4*j+4,show 4*(j:Int)=((4*j:Nat):Int) by omega,show 4*(j:Int)+4=((4*j+4:Nat):Int) by omega,by omega,show 4*j+4<=(fG w).length by rw[el]; omega,show 4*j < (fG w).length by rw[el]; omega,?_⟩
 refine⟨[],aT,(E_ w fl j hj hw).ZN rfl ⟨show ki (.ref 0 (4*j*1) (4*j+4 - 4*j)) (.ref 0 (4*j) 4) by rw[Nat.mul_one,Nat.add_sub_cancel_left]; exact Bv _ _ _,trivial⟩ rfl ?_⟩
 refine⟨[some 0,some 1,some 2],?_⟩
 repeat' first|exact trivial|exact rfl|exact Iff.rfl|exact not_false|refine And.intro ?_ ?_
theorem Na (j:Nat) (h0:w j=0):pw gT [] 100 (rp F0) (fun x s'=>match x with
  | .fL=>∃ π,ee gT.cx π s' (sJ l w fl j)
  | _=>False) (sK l w fl j):=by
 refine⟨fun h=>absurd h0 h,fun _=>?_⟩
 refine⟨[some 0,some 1,some 2],?_⟩
 repeat' first|exact trivial|exact rfl|exact Iff.rfl|exact not_false|refine And.intro ?_ ?_
theorem Nb (j:Nat) (hj:j < 16384):pw gT [] 100 (rp (rp Pr)) (fun x s'=>match x with
  | .fL=>∃ π,ee gT.cx π s' (sJ l w fl (j+1))
  | _=>False) (sJ l w fl j):=by
 refine li ?_ (show _<=4*(j:Int)+4/\4*(j:Int)+4<=_ by omega)
 refine⟨[some 0,some 1,some 2],?_⟩
 repeat' first|exact trivial|exact rfl|exact Iff.rfl|exact not_false|refine And.intro ?_ ?_
structure AtY (j:Nat) (s:aV):Prop where
 g0:s.t.get 0=some (yv l)
 g1:s.t.get 1=some (.ptr 2 0)
 g3:s.t.get 3=some (.int .i64 (4*(j:Int)))
 g25:s.t.get 25=some .tt
 g26:s.t.get 26=some (yv l)
 g29:s.t.get 29=some (.int .u32 (536870912+4*(j:Int)))
 g30:s.t.get 30=some (.int .u32 (w j))
noncomputable def Fb:List Oper:=(Bx IT).toList
noncomputable def Ps:Oper:=Fb.getD 8 default
theorem Vw:Fb=Fb.take 8++Ps::Fb.drop 9:=by kernel_rfl
theorem Vx:Ps.op = .call { callee:=.value (.tmp 26),args:=#[.tmp 29,.tmp 30],argTypes:=#[39,39] }:=by kernel_rfl
theorem Nc:Ps.dst=some 31:=by kernel_rfl
theorem IV (j:Nat) (hj:j < 16384) (h0:w j≠0):xN gT Fb (fun x s'=>x = .fL/\nx Fb s' Ps (AtY l w j) (fun _=>False)) (Fb.take 8) (sK l w fl j):=by
 refine⟨fun _=>?_,fun h=>absurd h0 h⟩
 refine lu ?_ (show 0<=4*(j:Int)/\4*(j:Int)<=_ by omega)
 refine lu ?_ (show 0<=536870912+4*(j:Int)/\536870912+4*(j:Int)<=_ by omega)
 exact⟨rfl,rfl,rfl,rfl,rfl,rfl,rfl,rfl⟩
theorem Fe (j:Nat):(sE w fl).put (some 0) (yv l) fun s=>s.put (some 1) (.ptr 2 0) fun s=>s.put (some 3) (.int .i64 (4*(j:Int))) fun s=>s.put (some 25) .tt fun s=>s.put (some 31) .tt fun s=>xN gT Fb (fun x s'=>x = .fL/\pw gT [] 100 (rp (rp F0)) (fun x s'=>match x with
  | .fL=>∃ π,ee gT.cx π s' (sJ l w fl j)
  | _=>False) s') (Fb.drop 9) s:=by
 refine⟨rfl,[some 0,some 1,some 2],?_⟩
 repeat' first|exact trivial|exact rfl|exact Iff.rfl|exact not_false|refine And.intro ?_ ?_
end
theorem fi {G:Gx} {I I':Nat->Prop} {β aN:ay} {s s':aV} {w w':World} (hg:bU I β s w I' aN s' w') (hm:s.st.all (fun b=>match b.m with
  | .w=>false
  | _=>true)=true):Below w.heap.size w w':=⟨hg.ext.os,hg.ext.tape,hg.ext.output,hg.ext.size,fun g h=>hg.ext.block g h fun ⟨l,b,p,o,h1,_,h3,_⟩=>by
 rw[List.all_eq_true] at hm
 have:=hm b (List.mem_of_getElem? h1)
 rw[h3] at this
 cases this⟩
def Wk (a:Act):Nat:=match a.tmps[3]? with
 | some (Value.int _ z)=>(65536 - z).toNat
 | _=>0
def xd (g o:Nat) (β:ay):Prop:=∃ p,β 2=some p/\p.a=some (g,o)
theorem xd.of {g o:Nat} {β aN:ay} (h:aN 2=β 2) (hb:xd g o β):xd g o aN:=by
 obtain⟨p,h1,h2⟩:=hb
 exact⟨p,h.trans h1,h2⟩
theorem Ff (w:Nat->Int) (fl:List Int) (hw:∀ k,aP (w k)) (g o n:Nat):C6 n gT.cx.P 117 #[.pointer (some ⟨g,o+0,none⟩)] (fun x:Int × Int=>#[.int .u32 x.1,.int .u32 x.2]) (cv w 16384) (fun W=>∃ I β,aE I β (M9 w fl) W/\dd gT I W/\xd g o β):=by
 intro l J W hJ ⟨I0,fO,hH,hM,hb⟩ hY h0
 refine callsIn_of_wp Tryz.func117 (show Tryz.f117.body=some D4 by kernel_rfl) trivial ?_ rfl
 rw[Vs]
 obtain⟨t,ht,v5⟩:=oC (IU l w fl)
 have Wj:=Rel.first (G:=gT) (S:=M9 w fl) (rl:=[]) (n:=34) (vals:=[.func (.yield l) #[] #[],.pointer (some ⟨g,o+0,none⟩)]) rfl (Nat.le_of_ble_eq_true rfl) (by decide) v5 hH hM (by simp only[bJ,PV.Is]; exact⟨⟨trivial,rfl⟩,(let ⟨p,h1,h2⟩:=hb; ⟨p,g,o,h1,h2,rfl⟩),trivial⟩)
 rw[show Tryz.f117.ntmps=34 by kernel_rfl]
 refine wpIn_seq (wpIn_mono (wpIn_wide.2 ((gk ar 100 _ _ _ (by kernel_rfl) ht).run Wj)) fun e a1 W1 hp=>?_)
 obtain⟨x',s1,I1,lz,rfl,hq,gX,nE⟩:=hp.goes
 cases x' with
 | exit id=>exact hq.elim
 | ret=>exact hq.elim
 | fL =>
 obtain⟨π,hs⟩:=hq
 obtain⟨I2,fU,kP,xB⟩:=da ar.ok hs I1 lz a1 W1 gX
 have hg:=nE.trans xB
 have hB:=fi (G:=gT) hg rfl
 refine wpIn_block (wpIn_loop (fun a W'=>∃ j,j<=16384/\J (cv w j) W'/\∃ I β,Rel gT I β (sJ l w fl j) a W'/\xd g o β) (fun a _=>Wk a) ⟨0,Nat.zero_le _,hJ _ _ _ h0 hB,I2,fU,kP,xd.of (hg.low 2 (show 2 < 3 by decide) (show 2 ∉ [] by simp)) hb⟩ ?_)
 clear kP xB hg nE gX hB Wj
 rintro a W' ⟨j,hj,hJj,I,β,hR,hb⟩
 have hm:Wk a=65536 - 4*j:=by
  obtain⟨v,hv,hi⟩:=hR.get 3 (.int .i64 (4*(j:Int))) rfl
  simp only[PV.Is] at hi
  subst hi
  unfold Wk
  rw[hv]
  show (65536 - 4*(j:Int)).toNat=_
  omega
 rw[Vt]
 refine wpIn_seq (wpIn_mono (wpIn_wide.2 ((gk ar 100 _ _ _ (by kernel_rfl) (M' l w fl j hj)).run hR)) fun e a1 W1 hp=>?_)
 obtain⟨x',s1,I1,lz,rfl,hq,gX,nE⟩:=hp.goes
 have hJ1:=hJ _ _ _ hJj (fi (G:=gT) nE rfl)
 cases x' with
 | ret=>exact hq.elim
 | exit id =>
  obtain⟨rfl,rfl⟩:=hq
  exact⟨gX.defers,_,results_none rfl _ _ _,⟨_,rfl⟩,hJ1⟩
 | fL =>
 obtain⟨vP,π,hs⟩:=hq
 obtain⟨I2,fU,kP,xB⟩:=da ar.ok hs I1 lz a1 W1 gX
 have dO:xd g o fU:=xd.of ((nE.trans xB).low 2 (show 2 < 3 by decide) (show 2 ∉ [] by simp)) hb
 have oo:∀ a3 W3 I3 FT,Rel gT I3 FT (sJ l w fl j) a3 W3->J (cv w (j+1)) W3->xd g o FT->(rp (rp Pr)).wpIn Fence.wide n gT.cx.P (Exit.then (fun a' w'=>(∃ j,j<=16384/\J (cv w j) w'/\∃ I β,Rel gT I β (sJ l w fl j) a' w'/\xd g o β)/\Wk a' < Wk a) (Exit.inBlock 0 (bodyPost gT.cx.P Tryz.f117 fun e W'=>(∃ v,e = .returned v)/\J (cv w 16384) W'))) a3 W3:=by
  intro a3 W3 I3 FT vV hJ3 kv
  refine wpIn_mono (wpIn_wide.2 ((gk ar 100 _ _ _ (by kernel_rfl) (Nb l w fl j vP)).run vV)) fun e a4 W4 hp=>?_
  obtain⟨x',s4,I4,Vg,rfl,hq,M4,Kd⟩:=hp.goes
  cases x' with
  | exit id=>exact hq.elim
  | ret=>exact hq.elim
  | fL =>
  obtain⟨π,hs⟩:=hq
  obtain⟨I5,Vh,Ke,FZ⟩:=da ar.ok hs I4 Vg a4 W4 M4
  refine⟨⟨j+1,by omega,hJ _ _ _ hJ3 (fi (G:=gT) Kd rfl),I5,Vh,Ke,xd.of ((Kd.trans FZ).low 2 (show 2 < 3 by decide) (show 2 ∉ [] by simp)) kv⟩,?_⟩
  rw[hm]
  obtain⟨v,hv,hi⟩:=Ke.get 3 (.int .i64 (4*((j+1:Nat):Int))) rfl
  simp only[PV.Is] at hi
  subst hi
  unfold Wk
  rw[hv]
  show (65536 - 4*((j+1:Nat):Int)).toNat < _
  omega
 refine wpIn_seq (wpIn_block ?_)
 rw[Vu]
 refine wpIn_seq (wpIn_mono (wpIn_wide.2 ((gk ar 100 _ _ _ (by kernel_rfl) (M_ l w fl j vP (hw j))).run kP)) fun e a2 W2 hp=>?_)
 obtain⟨x',s3,I3,FT,rfl,hq,vV,OA⟩:=hp.goes
 cases x' with
 | exit id=>exact hq.elim
 | ret=>exact hq.elim
 | fL =>
 obtain⟨π,hs⟩:=hq
 obtain⟨I4,Vg,M4,Kd⟩:=da ar.ok hs I3 FT a2 W2 vV
 have hJ2:=hJ _ _ _ hJ1 (fi (G:=gT) OA rfl)
 have ZT:xd g o Vg:=xd.of ((OA.trans Kd).low 2 (show 2 < 3 by decide) (show 2 ∉ [] by simp)) dO
 by_cases hz:w j=0
 ·have e:rp F0 = .seq IT (rp (rp F0)):=by kernel_rfl
  show (Code.seq IT (rp (rp F0))).wpIn _ _ _ _ _ _
  rw[← e]
  refine wpIn_mono (wpIn_wide.2 ((gk ar 100 _ _ _ (by kernel_rfl) (Na l w fl j hz)).run M4)) fun e a5 W5 hp=>?_
  obtain⟨x',s5,I5,Vh,rfl,hq,Ke,FZ⟩:=hp.goes
  cases x' with
  | exit id=>exact hq.elim
  | ret=>exact hq.elim
  | fL =>
  obtain⟨π,hs⟩:=hq
  obtain⟨I6,β6,IW,hg6⟩:=da ar.ok hs I5 Vh a5 W5 Ke
  refine oo a5 W5 I6 β6 IW ?_ (xd.of ((FZ.trans hg6).low 2 (show 2 < 3 by decide) (show 2 ∉ [] by simp)) ZT)
  rw[cv,if_pos hz]
  exact hJ _ _ _ hJ2 (fi (G:=gT) FZ rfl)
 ·have Wg:cv w (j+1)=cv w j++[iG w j]:=by rw[cv,if_neg hz]
  refine wpIn_seq ?_
  rw[Vv]
  refine wpIn_region_list ?_
  show wpListIn (IE none) n gT.cx.P (Bx IT) _ Fb a2 W2
  rw[Vw]
  refine oV (ops:=Bx IT) ar (Fb.take 8) (by kernel_rfl) (IV l w fl j vP hz) M4 fun s5 I5 Vh a5 W5 hq Ke FZ=>?_
  have hJ5:=hJ _ _ _ hJ2 (fi (G:=gT) FZ rfl)
  have hb5:xd g o Vh:=xd.of (FZ.low 2 (show 2 < 3 by decide) (show 2 ∉ [] by simp)) ZT
  unfold wpListIn
  rcases iK (ops:=Bx IT) Ke hq.2 with ⟨gY,s6,hA,hs6,IW⟩|⟨_,_,hf,_⟩
  rotate_left
  ·exact hf.elim
  rw[gY,if_pos rfl]
  obtain⟨v0,hv0,i0⟩:=IW.get _ _ hA.g0
  obtain⟨v1,hv1,i1⟩:=IW.get _ _ hA.g1
  obtain⟨v3,hv3,i3⟩:=IW.get _ _ hA.g3
  obtain⟨v25,hv25,i25⟩:=IW.get _ _ hA.g25
  obtain⟨v26,hv26,i26⟩:=IW.get _ _ hA.g26
  obtain⟨v29,hv29,i29⟩:=IW.get _ _ hA.g29
  obtain⟨v30,hv30,i30⟩:=IW.get _ _ hA.g30
  simp only[PV.Is] at i0 i3 i25 i26 i29 i30
  obtain⟨rfl,_⟩:=i0
  obtain⟨rfl,_⟩:=i26
  subst i3
  subst i25
  subst i29
  subst i30
  obtain⟨fn,tmps,assign,body,hy,te⟩:=hY (cv w j) (iG w j) W5 (by rw[← Wg]; have:=tm w (16384 - (j+1)) (j+1); rwa [show j+1+(16384 - (j+1))=16384 by omega] at this) hJ5
  have ck:(Ps.semAt none a5.eval).run gT.cx.P W5 = .ok (.round l fn tmps assign body) W5:=by
   rw[Oper.semAt_none]
   unfold execOp
   rw[Vx]
   simp[resolve,invoke,hv26,hv29,hv30,go_sem]
   exact hy
  refine⟨fun _ _=>trivial,?_⟩
  show Ps.uponIn _ _ _ _ _ _ ((Ps.semAt none a5.eval).run gT.cx.P W5)
  rw[ck,Oper.uponIn_round]
  refine⟨fun h=>(by cases h),te.mono ?_⟩
  rintro e W7 ⟨rfl,hJ7,I7,β7,hH7,hM7,hb7⟩
  rw[← Wg] at hJ7
  show wpListIn (IE none) n gT.cx.P (Bx IT) _ (Fb.drop 9) (a5.put Ps.dst (.bool true)) W7
  rw[Nc]
  have fA:a5.tmps.size=34:=IW.size.trans (hs6.n.trans FZ.n)
  have hRE:Rel gT I7 β7 (sE w fl) (a5.put (some 31) (.bool true)) W7:=⟨Nat.le_of_ble_eq_true rfl,IW.defers,by simp only[Act.put,Array.size_setIfInBounds]; exact fA,Nat.le_refl _,fun m x hx=>(by cases hx),hH7,hM7⟩
  have og:∀ {m:Nat} {v:Value},a5.tmps[m]?=some v->m≠31->(a5.put (some 31) (.bool true)).tmps[m]?=some v:=fun h dt=>by simp only[Act.put,Array.getElem?_setIfInBounds_ne (Ne.symm dt)]; exact h
  obtain⟨u0,h,q0,r0⟩:=aV.fq hRE (og hv0 (by decide)) (by simp only[PV.Is]; exact⟨trivial,rfl⟩) (Fe l w fl j)
  obtain⟨u1,h,q1,r1⟩:=aV.fq r0 (og hv1 (by decide)) (by
   simp only[PV.Is] at i1 ⊢
   obtain⟨p,g',o',e1,e2,e3⟩:=i1
   obtain⟨p5,h5,k5⟩:=hb5
   obtain⟨p7,h7,k7⟩:=hb7
   rw[h5] at e1
   cases e1
   rw[k5] at e2
   cases e2
   exact⟨p7,g,o,h7,k7,e3⟩) h
  obtain⟨u3,h,q3,r3⟩:=aV.fq r1 (og hv3 (by decide)) (by simp only[PV.Is]) h
  obtain⟨u25,h,q25,r25⟩:=aV.fq r3 (og hv25 (by decide)) (by simp only[PV.Is]) h
  obtain⟨u31,h,q31,r31⟩:=aV.fq r25 (v:=.bool true) (t:=31) (by simp only[Act.put]; rw[Array.getElem?_setIfInBounds,if_pos rfl,if_pos (by omega)]) (by simp only[PV.Is]) h
  refine u4 (ops:=Bx IT) ar (Fb.drop 9) (by kernel_rfl) h r31 fun s8 I8 β8 a8 W8 hq hR8 hg8=>?_
  have est:u31.st=M9 w fl:=q31.st.trans (q25.st.trans (q3.st.trans (q1.st.trans q0.st)))
  have eba:u31.base=3:=q31.base.trans (q25.base.trans (q3.base.trans (q1.base.trans q0.base)))
  have erl:u31.rl = []:=q31.rl.trans (q25.rl.trans (q3.rl.trans (q1.rl.trans q0.rl)))
  have hb8:xd g o β8:=xd.of (hg8.low 2 (by rw[eba]; decide) (by rw[erl]; simp)) hb7
  have hJ8:=hJ _ _ _ hJ7 (fi (G:=gT) hg8 (by rw[est]; rfl))
  show (rp (rp F0)).wpIn Fence.wide n gT.cx.P _ a8 W8
  refine wpIn_mono (wpIn_wide.2 ((gk ar 100 _ _ _ (by kernel_rfl) hq.2).run hR8)) fun e a9 W9 hp=>?_
  obtain⟨x',s9,I9,β9,rfl,hq,hR9,hg9⟩:=hp.goes
  cases x' with
  | exit id=>exact hq.elim
  | ret=>exact hq.elim
  | fL =>
  obtain⟨π,hs⟩:=hq
  obtain⟨I10,β10,hR10,hg10⟩:=da ar.ok hs I9 β9 a9 W9 hR9
  have hg9':=(hg8.trans hg9).trans hg10
  refine oo a9 W9 I10 β10 hR10 ?_ (xd.of (hg9'.low 2 (by rw[eba]; decide) (by rw[erl]; simp)) hb7)
  exact hJ _ _ _ hJ7 (fi (G:=gT) (hg8.trans hg9) (by rw[est]; rfl))
structure iX (x:XS):Prop where
 rd:0<=x.i.rd/\x.i.rd<=15
 rn:0<=x.i.rn/\x.i.rn<=15
 rm:0<=x.i.rm/\x.i.rm<=15
 ra:0<=x.i.ra/\x.i.ra<=15
 av:fe x.i.av
 bar:ae x.i.form=21\/ae x.i.form=22\/ae x.i.form=23->0<=x.i.kind/\x.i.kind<=3/\0<=x.i.bG/\x.i.bG<=255
 low:1<=x.i.form/\x.i.form<=3->0<=x.i.av/\x.i.av<=32
 idx:x.i.form=86\/x.i.form=87->0<=x.i.bG/\x.i.bG<=3
 an:0<=x.i.an/\x.i.an<=65535
 r:∀ k,aP (x.s.R k)
 n:0<=x.s.N/\x.s.N<=1
 z:0<=x.s.Z/\x.s.Z<=1
 c:0<=x.s.C/\x.s.C<=1
 v:0<=x.s.V/\x.s.V<=1
theorem wrap_u32 (z:Int):aP (IntKind.u32.wrap z):=by
 have:=IntKind.wrap_u32' z
 unfold aP; omega
theorem aX {x:XS} (h:iX x) (r:Int):aP (al x r):=by
 unfold al
 split
 ·exact wrap_u32 _
 ·exact h.r _
def aL (x:XS):Int:=if ae x.i.form=4\/ae x.i.form=5\/ae x.i.form=6 then al x x.i.rd else al x x.i.rn
def aU (x:XS):Int :=
 if ae x.i.form=3\/ae x.i.form=4\/ae x.i.form=24 then IntKind.u32.wrap x.i.av
 else if ae x.i.form=18\/ae x.i.form=19\/ae x.i.form=20 then Rm.e_ x.i.av
 else if ae x.i.form=21\/ae x.i.form=22\/ae x.i.form=23 then C8 x.i.kind (al x x.i.rm) x.i.bG
 else al x x.i.rm
def cB (x:XS):Int :=
 if ae x.i.form=3\/ae x.i.form=4\/ae x.i.form=24 then x.s.C
 else if ae x.i.form=18\/ae x.i.form=19\/ae x.i.form=20 then Rm.gq x.i.av x.s.C
 else if ae x.i.form=21\/ae x.i.form=22\/ae x.i.form=23 then E' x.i.kind (al x x.i.rm) x.i.bG x.s.C
 else x.s.C
theorem bL {x:XS} (h:iX x):aP (aL x):=by
 unfold aL
 split<;>exact aX h _
theorem cf {x:XS} (h:iX x):aP (aU x):=by
 unfold aU
 split
 ·exact wrap_u32 _
 ·split
  ·exact Rm.oK _
  ·split
   ·exact Bu _ _ _ (aX h _)
   ·exact aX h _
def cF (w:Int):Int:=bits .xor .u32 IntKind.u32.max w
theorem Nd {w:Int} (h:aP w):cF w=4294967295 - w:=Rm.XE w h.1 h.2
theorem cV {w:Int} (h:aP w):aP (cF w):=by
 rw[Nd h]
 unfold aP at h ⊢; omega
theorem zz (m:MS) (x:XS) (hx:iX x):Spec gT 137 [.ptr 3 0] (hZ m x) [] fun y S'=>y = .int .u32 (aL x)/\S'=hZ m x:=by
 have ZS:=fQ x.i.form
 have g1:=bH m x x.i.rd hx.rd.1 hx.rd.2
 have g2:=bH m x x.i.rn hx.rn.1 hx.rn.2
 have key:aL x=if ae x.i.form=4\/ae x.i.form=5\/ae x.i.form=6 then al x x.i.rd else al x x.i.rn:=rfl
 refine Spec.kB (Spec.enter ar P137 100 Tryz.func137 rfl (by kernel_rfl) ?_)
 refine ZS.u ?_
 generalize ae x.i.form=sh at key ⊢
 refine⟨fun h=>?_,fun h=>?_⟩
 ·rw[key,if_pos (.inr (.inl (show sh=5 from h)))]
  refine (g1).e ?_
  exact rS
 refine⟨fun h=>?_,fun h=>?_⟩
 ·rw[key,if_pos (.inl (show sh=4 from h))]
  refine (g1).e ?_
  exact rS
 refine⟨fun h=>?_,fun h=>?_⟩
 ·rw[key,if_pos (.inr (.inr (show sh=6 from h)))]
  refine (g1).e ?_
  exact rS
 ·have a:¬ sh=5:=‹_›
  have b:¬ sh=4:=‹_›
  have c:¬ sh=6:=‹_›
  rw[key,if_neg (by omega)]
  refine (g2).e ?_
  exact rS
theorem u9 (m:MS) (x:XS) (hx:iX x):Spec gT 138 [.ptr 3 0] (hZ m x) [] fun y S'=>y = .tup [.int .u32 (aU x),.int .u32 (cB x)]/\S'=hZ m x:=by
 have ZS:=fQ x.i.form
 have g3:=bH m x x.i.rm hx.rm.1 hx.rm.2
 have kw:aU x=if ae x.i.form=3\/ae x.i.form=4\/ae x.i.form=24 then IntKind.u32.wrap x.i.av
  else if ae x.i.form=18\/ae x.i.form=19\/ae x.i.form=20 then Rm.e_ x.i.av
  else if ae x.i.form=21\/ae x.i.form=22\/ae x.i.form=23 then C8 x.i.kind (al x x.i.rm) x.i.bG
  else al x x.i.rm:=rfl
 have kc:cB x=if ae x.i.form=3\/ae x.i.form=4\/ae x.i.form=24 then x.s.C
  else if ae x.i.form=18\/ae x.i.form=19\/ae x.i.form=20 then Rm.gq x.i.av x.s.C
  else if ae x.i.form=21\/ae x.i.form=22\/ae x.i.form=23 then E' x.i.kind (al x x.i.rm) x.i.bG x.s.C
  else x.s.C:=rfl
 have hb:=hx.bar
 have cw:=oN x.i.av hx.av
 have cc:=ug x.i.av x.s.C hx.av hx.c.1
 have cs:=fun h=>qp x.i.kind (al x x.i.rm) x.i.bG x.s.C (hb h).1 (hb h).2.1 (hb h).2.2.1 (hb h).2.2.2 (aX hx _) hx.c.1
 refine Spec.kB (Spec.enter ar P138 100 Tryz.func138 rfl (by kernel_rfl) ?_)
 refine ZS.u ?_
 generalize ae x.i.form=sh at kw kc hb cs ⊢
 refine⟨fun h=>?_,fun h=>?_⟩
 ·rw[if_pos (.inl (show sh=3 from h))] at kw kc
  rw[kw,kc]
  refine .inr ?_
  exact rS
 refine⟨fun h=>?_,fun h=>?_⟩
 ·rw[if_pos (.inr (.inl (show sh=4 from h)))] at kw kc
  rw[kw,kc]
  refine .inr ?_
  exact rS
 refine⟨fun h=>?_,fun h=>?_⟩
 ·rw[if_pos (.inr (.inr (show sh=24 from h)))] at kw kc
  rw[kw,kc]
  refine .inr ?_
  exact rS
 have n1:¬ (sh=3\/sh=4\/sh=24):=by
  have a:¬ sh=3:=‹_›
  have b:¬ sh=4:=‹_›
  have c:¬ sh=24:=‹_›
  omega
 rw[if_neg n1] at kw kc
 refine⟨fun h=>?_,fun h=>?_⟩
 ·rw[if_pos (.inl (show sh=18 from h))] at kw kc
  rw[kw,kc]
  refine cw.u ?_
  refine cc.u ?_
  exact rS
 refine⟨fun h=>?_,fun h=>?_⟩
 ·rw[if_pos (.inr (.inl (show sh=19 from h)))] at kw kc
  rw[kw,kc]
  refine cw.u ?_
  refine cc.u ?_
  exact rS
 refine⟨fun h=>?_,fun h=>?_⟩
 ·rw[if_pos (.inr (.inr (show sh=20 from h)))] at kw kc
  rw[kw,kc]
  refine cw.u ?_
  refine cc.u ?_
  exact rS
 have n2:¬ (sh=18\/sh=19\/sh=20):=by
  have a:¬ sh=18:=‹_›
  have b:¬ sh=19:=‹_›
  have c:¬ sh=20:=‹_›
  omega
 rw[if_neg n2] at kw kc
 have g4:=fun d e=>iE d e m x x.i.rm hx.rm.1 hx.rm.2
 refine⟨fun h=>?_,fun h=>?_⟩
 ·have hh:sh=21\/sh=22\/sh=23:=.inl (show sh=21 from h)
  rw[if_pos hh] at kw kc
  rw[kw,kc]
  refine (g4 .w .p).e ?_
  refine (cs hh).u ?_
  exact rS
 refine⟨fun h=>?_,fun h=>?_⟩
 ·have hh:sh=21\/sh=22\/sh=23:=.inr (.inl (show sh=22 from h))
  rw[if_pos hh] at kw kc
  rw[kw,kc]
  refine (g4 .w .p).e ?_
  refine (cs hh).u ?_
  exact rS
 refine⟨fun h=>?_,fun h=>?_⟩
 ·have hh:sh=21\/sh=22\/sh=23:=.inr (.inr (show sh=23 from h))
  rw[if_pos hh] at kw kc
  rw[kw,kc]
  refine (g4 .w .p).e ?_
  refine (cs hh).u ?_
  exact rS
 ·have n3:¬ (sh=21\/sh=22\/sh=23):=by
   have a:¬ sh=21:=‹_›
   have b:¬ sh=22:=‹_›
   have c:¬ sh=23:=‹_›
   omega
  rw[if_neg n3] at kw kc
  rw[kw,kc]
  refine (g4 .w .p).e ?_
  exact rS
def hU (x:XS) (c:Int):XS:={ x with s:={ x.s with C:=c } }
def l7 (x:XS) (c o:Int):XS:={ x with s:={ x.s with C:=c,V:=o } }
def dD (x:XS) (d v w c:Int):XS :=
 if 0<=d then cg (if bY x then l7 (lg x (Rm.eD v w c)) (Rm.iB v w c) (Rm.jT v w c) else x) d (Rm.eD v w c)
 else (if bY x then l7 (lg x (Rm.eD v w c)) (Rm.iB v w c) (Rm.jT v w c) else x)
def bK (x:XS) (d v c:Int):XS :=
 if 0<=d then cg (if bY x then hU (lg x v) c else x) d v
 else (if bY x then hU (lg x v) c else x)
theorem c8 (m:MS) (x:XS) (d v w c:Int) (h1:d<=15) (hv:aP v) (hw:aP w) (hc:0<=c):Spec gT 139 [.ptr 3 0,.int .i64 d,.int .u32 v,.int .u32 w,.int .u32 c] (hZ m x) [] fun y S'=>y = .tup []/\S'=hZ m (dD x d v w c):=by
 have ha:=th v w c hv hw hc
 have key:dD x d v w c=if 0<=d then cg (if bY x then l7 (lg x (Rm.eD v w c)) (Rm.iB v w c) (Rm.jT v w c) else x) d (Rm.eD v w c)
  else (if bY x then l7 (lg x (Rm.eD v w c)) (Rm.iB v w c) (Rm.jT v w c) else x):=rfl
 refine Spec.kB (Spec.enter ar P139 100 Tryz.func139 rfl (by kernel_rfl) ?_)
 refine ha.u ?_
 generalize Rm.eD v w c=s at key ⊢
 generalize Rm.iB v w c=cy at key ⊢
 generalize Rm.jT v w c=o at key ⊢
 refine (C9 m x).e ?_
 refine⟨fun h=>?_,fun h=>?_⟩
 ·rw[if_pos (show bY x from h)] at key
  refine (IP m x s).e ?_
  refine⟨fun h=>?_,fun h=>?_⟩
  ·rw[if_pos (show 0<=d from h)] at key
   rw[key]
   refine (bT m (l7 (lg x s) cy o) d s h h1).e ?_
   exact rS
  ·rw[if_neg (show ¬ 0<=d from h)] at key
   rw[key]
   exact rS
 ·rw[if_neg (show ¬ bY x from h)] at key
  refine⟨fun h=>?_,fun h=>?_⟩
  ·rw[if_pos (show 0<=d from h)] at key
   rw[key]
   refine (bT m x d s h h1).e ?_
   exact rS
  ·rw[if_neg (show ¬ 0<=d from h)] at key
   rw[key]
   exact rS
theorem cb (m:MS) (x:XS) (d v c:Int) (h1:d<=15):Spec gT 140 [.ptr 3 0,.int .i64 d,.int .u32 v,.int .u32 c] (hZ m x) [] fun y S'=>y = .tup []/\S'=hZ m (bK x d v c):=by
 have key:bK x d v c=if 0<=d then cg (if bY x then hU (lg x v) c else x) d v
  else (if bY x then hU (lg x v) c else x):=rfl
 refine Spec.kB (Spec.enter ar P140 100 Tryz.func140 rfl (by kernel_rfl) ?_)
 refine (C9 m x).e ?_
 refine⟨fun h=>?_,fun h=>?_⟩
 ·rw[if_pos (show bY x from h)] at key
  refine (IP m x v).e ?_
  refine⟨fun h=>?_,fun h=>?_⟩
  ·rw[if_pos (show 0<=d from h)] at key
   rw[key]
   refine (bT m (hU (lg x v) c) d v h h1).e ?_
   exact rS
  ·rw[if_neg (show ¬ 0<=d from h)] at key
   rw[key]
   exact rS
 ·rw[if_neg (show ¬ bY x from h)] at key
  refine⟨fun h=>?_,fun h=>?_⟩
  ·rw[if_pos (show 0<=d from h)] at key
   rw[key]
   refine (bT m x d v h h1).e ?_
   exact rS
  ·rw[if_neg (show ¬ 0<=d from h)] at key
   rw[key]
   exact rS
def fj (x:XS) (k v n:Int):XS:=bK x x.i.rd (C8 k v n) (E' k v n x.s.C)
theorem dV (m:MS) (x:XS) (k v n:Int) (hx:iX x) (xC:0<=k) (D9:k<=3) (iP:0<=n) (lx:n<=255) (hv:aP v):Spec gT 141 [.ptr 3 0,.int .i64 k,.int .u32 v,.int .i64 n] (hZ m x) [] fun y S'=>y = .tup []/\S'=hZ m (fj x k v n):=by
 have hs:=qp k v n x.s.C xC D9 iP lx hv hx.c.1
 refine Spec.kB (Spec.enter ar P141 100 Tryz.func141 rfl (by kernel_rfl) ?_)
 refine hs.u ?_
 refine (cb m x x.i.rd (C8 k v n) (E' k v n x.s.C) hx.rd.2).e ?_
 exact rS
end Go.Proofs.YtnbngokbamifbaaGreatDoor.Pw

/- What this claim is proved with: no condition. -/
import Derived.Test.YtnbngokbamifbaaGreatDoorNr28
import Derived.Test.YtnbngokbamifbaaGreatDoorNr27
set_option maxRecDepth 100000
set_option maxHeartbeats 4000000
set_option linter.unusedVariables false
set_option linter.unusedSimpArgs false
namespace Go.Proofs.YtnbngokbamifbaaGreatDoor.Pw
open Go Go.RowKit
theorem VG {v:Int} (h:aP v):bits .and .u32 v 255=v % 256:=by
 obtain⟨h0,h1⟩:=h
 rw[u32_and v 255 h0 (by omega) (by decide) (by decide),show (255:Int).toNat=2 ^ 8 - 1 by decide,Nat.and_two_pow_sub_one_eq_mod]
 omega
theorem rF {l:List PV} {q:Prop} (h:l.all w_=true) (hp:q):ki (.tup [.agg l,.tt]) (.tup [.agg l,.bool q]):=⟨fH h,hp,trivial⟩
theorem NS {l:List PV} {q:Prop} (h:l.all w_=true) (hp:¬ q):ki (.tup [.agg l,.ff]) (.tup [.agg l,.bool q]):=⟨fH h,hp,trivial⟩
theorem NT (x:XS) (fl:List Int) (L:List (Int × Int)) (hx:iX x) (hf:fe x.i.form):ah gT 112 [mW x fl L] (.tup [mW (cm x) fl L,.bool (bW x.i.form≠0)]):=by
 have gm:=iI x fl L x.i.rm hx.rm.1 hx.rm.2
 have gd:=iI x fl L x.i.rd hx.rd.1 hx.rd.2
 have gn:=iI x fl L x.i.rn hx.rn.1 hx.rn.2
 have bm:=aX hx x.i.rm
 have bd:=aX hx x.i.rd
 have bn:=aX hx x.i.rn
 have low:=hx.low
 have hf1:=hf.1
 have hf2:=hf.2
 have e0:va x=al x x.i.rm % 256:=VG bm
 have hb:0<=al x x.i.rm % 256/\al x x.i.rm % 256<=255:=by omega
 refine Spec.enter ar P112 100 Tryz.func112 rfl (by kernel_rfl) ?_
 refine gm.u ?_
 refine⟨by decide,.inl ⟨bm.1,by decide,?_⟩⟩
 refine li ?_ (show _<=al x x.i.rm % 256/\al x x.i.rm % 256<=_ by omega)
 repeat' (first
  | (refine (And.intro (fun _=>?_) (fun _=>?_):(_->_)/\(_->_))<;>(first|(exfalso; omega)|skip))
  | (have hc:bW x.i.form=1:=by unfold bW; rw[if_pos (by omega)]
     have es:cm x=fj x (x.i.form - 1) (al x x.i.rm) x.i.av:=by unfold cm; rw[if_pos hc]
     rw[es]
     obtain⟨l0,l1⟩:=low (by omega)
     refine li ?_ (show _<=x.i.form - 1/\x.i.form - 1<=_ by omega)
     refine gm.u ?_
     refine (xu x fl L (x.i.form - 1) (al x x.i.rm) x.i.av (by omega) (by omega) l0 (by omega) bm hx.c.1 hx.rd).u ?_
     exact ao (rF rfl (show bW x.i.form≠0 by rw[hc]; decide)))
  | (have hc:bW x.i.form=2:=by unfold bW; rw[if_neg (by omega),if_pos (by omega)]
     have es:cm x=fj x (x.i.form - 14) (al x x.i.rd) (al x x.i.rm % 256):=by unfold cm; rw[if_neg (by rw[hc]; decide),if_pos hc,e0]
     rw[es]
     refine li ?_ (show _<=x.i.form - 14/\x.i.form - 14<=_ by omega)
     refine gd.u ?_
     refine (xu x fl L (x.i.form - 14) (al x x.i.rd) (al x x.i.rm % 256) (by omega) (by omega) hb.1 hb.2 bd hx.c.1 hx.rd).u ?_
     exact ao (rF rfl (show bW x.i.form≠0 by rw[hc]; decide)))
  | (have hc:bW x.i.form=3:=by unfold bW; rw[if_neg (by omega),if_neg (by omega),if_pos (by omega)]
     have es:cm x=fj x (3) (al x x.i.rd) (al x x.i.rm % 256):=by unfold cm; rw[if_neg (by rw[hc]; decide),if_neg (by rw[hc]; decide),if_pos hc,e0]
     rw[es]
     refine gd.u ?_
     refine (xu x fl L (3) (al x x.i.rd) (al x x.i.rm % 256) (by omega) (by omega) hb.1 hb.2 bd hx.c.1 hx.rd).u ?_
     exact ao (rF rfl (show bW x.i.form≠0 by rw[hc]; decide)))
  | (have hc:bW x.i.form=4:=by unfold bW; rw[if_neg (by omega),if_neg (by omega),if_neg (by omega),if_pos (by omega)]
     have es:cm x=fj x (x.i.form - 88) (al x x.i.rn) (al x x.i.rm % 256):=by unfold cm; rw[if_neg (by rw[hc]; decide),if_neg (by rw[hc]; decide),if_neg (by rw[hc]; decide),if_pos hc,e0]
     rw[es]
     refine li ?_ (show _<=x.i.form - 88/\x.i.form - 88<=_ by omega)
     refine gn.u ?_
     refine (xu x fl L (x.i.form - 88) (al x x.i.rn) (al x x.i.rm % 256) (by omega) (by omega) hb.1 hb.2 bn hx.c.1 hx.rd).u ?_
     exact ao (rF rfl (show bW x.i.form≠0 by rw[hc]; decide)))
  | (have hc:bW x.i.form=0:=by unfold bW; rw[if_neg (by omega),if_neg (by omega),if_neg (by omega),if_neg (by omega)]
     have es:cm x=x:=by unfold cm; rw[if_neg (by rw[hc]; decide),if_neg (by rw[hc]; decide),if_neg (by rw[hc]; decide),if_neg (by rw[hc]; decide)]
     rw[es]
     exact ao (NS rfl (show ¬ bW x.i.form≠0 by rw[hc]; decide))))
theorem dadd (x:XS) (fl:List Int) (L:List (Int × Int)) (hx:iX x) (k v w:Int) (hv:aP v) (hw:aP w) (hk:k=6\/k=7\/k=8\/k=9\/k=10\/k=15\/k=16\/k=17):ah gT 161 [mW x fl L,.int .i64 k,.int .u32 v,.int .u32 w]
  (mW (if k=6 then dD x x.i.rd v w 0 else if k=7 then dD x x.i.rd v w x.s.C else if k=8 then dD x x.i.rd v (cF w) x.s.C else if k=9 then dD x x.i.rd v (cF w) 1 else if k=10 then dD x x.i.rd w (cF v) 1 else if k=15 then dD x (-1) v w 0 else if k=16 then dD x (-1) v (cF w) 1 else dD x x.i.rd 0 (cF w) 1) fl L):=by
 have z:(0:Int)<=0:=Int.le_refl 0
 have o:(0:Int)<=1:=by decide
 have nv:=cV hv
 have nw:=cV hw
 have s1:=Fy x fl L v w 0 hv hw z
 have s2:=Fy x fl L v w x.s.C hv hw hx.c.1
 have s3:=Fy x fl L v (cF w) x.s.C hv nw hx.c.1
 have s4:=Fy x fl L v (cF w) 1 hv nw o
 have s5:=Fy x fl L w (cF v) 1 hw nv o
 have s6:=Fy x fl L 0 (cF w) 1 o5 nw o
 have hd:=hx.rd
 refine Spec.enter ar P161 100 Tryz.func161 rfl (by kernel_rfl) ?_
 unfold dD
 simp only[if_pos hd.1]
 by_cases lH:bY x
 all_goals (first|rw[if_pos lH] at s1 s2 s3 s4 s5 s6|rw[if_neg lH] at s1 s2 s3 s4 s5 s6)
 all_goals (first|simp only[if_pos lH]|simp only[if_neg lH])
 all_goals rcases hk with rfl|rfl|rfl|rfl|rfl|rfl|rfl|rfl
 ·rw[if_pos rfl]
  repeat' (refine (And.intro (fun _=>?_) (fun _=>?_):(_->_)/\(_->_))<;>(first|(exfalso; omega)|skip))
  refine s1.u ?_
  repeat' (refine (And.intro (fun _=>?_) (fun _=>?_):(_->_)/\(_->_))<;>(first|(exfalso; omega)|skip))
  refine⟨hd.1,show x.i.rd < 16 by omega,?_⟩
  refine⟨16,hd.1,show x.i.rd < 16 by omega,show 13+x.i.rd.toNat*1 < 42 by omega,?_⟩
  exact ao (aQ rfl)
 ·rw[if_neg (by decide),if_pos rfl]
  repeat' (refine (And.intro (fun _=>?_) (fun _=>?_):(_->_)/\(_->_))<;>(first|(exfalso; omega)|skip))
  refine s2.u ?_
  repeat' (refine (And.intro (fun _=>?_) (fun _=>?_):(_->_)/\(_->_))<;>(first|(exfalso; omega)|skip))
  refine⟨hd.1,show x.i.rd < 16 by omega,?_⟩
  refine⟨16,hd.1,show x.i.rd < 16 by omega,show 13+x.i.rd.toNat*1 < 42 by omega,?_⟩
  exact ao (aQ rfl)
 ·rw[if_neg (by decide),if_neg (by decide),if_pos rfl]
  repeat' (refine (And.intro (fun _=>?_) (fun _=>?_):(_->_)/\(_->_))<;>(first|(exfalso; omega)|skip))
  refine s3.u ?_
  repeat' (refine (And.intro (fun _=>?_) (fun _=>?_):(_->_)/\(_->_))<;>(first|(exfalso; omega)|skip))
  refine⟨hd.1,show x.i.rd < 16 by omega,?_⟩
  refine⟨16,hd.1,show x.i.rd < 16 by omega,show 13+x.i.rd.toNat*1 < 42 by omega,?_⟩
  exact ao (aQ rfl)
 ·rw[if_neg (by decide),if_neg (by decide),if_neg (by decide),if_pos rfl]
  repeat' (refine (And.intro (fun _=>?_) (fun _=>?_):(_->_)/\(_->_))<;>(first|(exfalso; omega)|skip))
  refine s4.u ?_
  repeat' (refine (And.intro (fun _=>?_) (fun _=>?_):(_->_)/\(_->_))<;>(first|(exfalso; omega)|skip))
  refine⟨hd.1,show x.i.rd < 16 by omega,?_⟩
  refine⟨16,hd.1,show x.i.rd < 16 by omega,show 13+x.i.rd.toNat*1 < 42 by omega,?_⟩
  exact ao (aQ rfl)
 ·rw[if_neg (by decide),if_neg (by decide),if_neg (by decide),if_neg (by decide),if_pos rfl]
  repeat' (refine (And.intro (fun _=>?_) (fun _=>?_):(_->_)/\(_->_))<;>(first|(exfalso; omega)|skip))
  refine s5.u ?_
  repeat' (refine (And.intro (fun _=>?_) (fun _=>?_):(_->_)/\(_->_))<;>(first|(exfalso; omega)|skip))
  refine⟨hd.1,show x.i.rd < 16 by omega,?_⟩
  refine⟨16,hd.1,show x.i.rd < 16 by omega,show 13+x.i.rd.toNat*1 < 42 by omega,?_⟩
  exact ao (aQ rfl)
 ·rw[if_neg (by decide),if_neg (by decide),if_neg (by decide),if_neg (by decide),if_neg (by decide),if_pos rfl]
  repeat' (refine (And.intro (fun _=>?_) (fun _=>?_):(_->_)/\(_->_))<;>(first|(exfalso; omega)|skip))
  refine s1.u ?_
  repeat' (refine (And.intro (fun _=>?_) (fun _=>?_):(_->_)/\(_->_))<;>(first|(exfalso; omega)|skip))
  exact ao (aQ rfl)
 ·rw[if_neg (by decide),if_neg (by decide),if_neg (by decide),if_neg (by decide),if_neg (by decide),if_neg (by decide),if_pos rfl]
  repeat' (refine (And.intro (fun _=>?_) (fun _=>?_):(_->_)/\(_->_))<;>(first|(exfalso; omega)|skip))
  refine s4.u ?_
  repeat' (refine (And.intro (fun _=>?_) (fun _=>?_):(_->_)/\(_->_))<;>(first|(exfalso; omega)|skip))
  exact ao (aQ rfl)
 ·rw[if_neg (by decide),if_neg (by decide),if_neg (by decide),if_neg (by decide),if_neg (by decide),if_neg (by decide),if_neg (by decide)]
  repeat' (refine (And.intro (fun _=>?_) (fun _=>?_):(_->_)/\(_->_))<;>(first|(exfalso; omega)|skip))
  refine s6.u ?_
  repeat' (refine (And.intro (fun _=>?_) (fun _=>?_):(_->_)/\(_->_))<;>(first|(exfalso; omega)|skip))
  refine⟨hd.1,show x.i.rd < 16 by omega,?_⟩
  refine⟨16,hd.1,show x.i.rd < 16 by omega,show 13+x.i.rd.toNat*1 < 42 by omega,?_⟩
  exact ao (aQ rfl)
 ·rw[if_pos rfl]
  repeat' (refine (And.intro (fun _=>?_) (fun _=>?_):(_->_)/\(_->_))<;>(first|(exfalso; omega)|skip))
  refine s1.u ?_
  repeat' (refine (And.intro (fun _=>?_) (fun _=>?_):(_->_)/\(_->_))<;>(first|(exfalso; omega)|skip))
  refine⟨hd.1,show x.i.rd < 16 by omega,?_⟩
  refine⟨16,hd.1,show x.i.rd < 16 by omega,show 13+x.i.rd.toNat*1 < 42 by omega,?_⟩
  exact ao (aQ rfl)
 ·rw[if_neg (by decide),if_pos rfl]
  repeat' (refine (And.intro (fun _=>?_) (fun _=>?_):(_->_)/\(_->_))<;>(first|(exfalso; omega)|skip))
  refine s2.u ?_
  repeat' (refine (And.intro (fun _=>?_) (fun _=>?_):(_->_)/\(_->_))<;>(first|(exfalso; omega)|skip))
  refine⟨hd.1,show x.i.rd < 16 by omega,?_⟩
  refine⟨16,hd.1,show x.i.rd < 16 by omega,show 13+x.i.rd.toNat*1 < 42 by omega,?_⟩
  exact ao (aQ rfl)
 ·rw[if_neg (by decide),if_neg (by decide),if_pos rfl]
  repeat' (refine (And.intro (fun _=>?_) (fun _=>?_):(_->_)/\(_->_))<;>(first|(exfalso; omega)|skip))
  refine s3.u ?_
  repeat' (refine (And.intro (fun _=>?_) (fun _=>?_):(_->_)/\(_->_))<;>(first|(exfalso; omega)|skip))
  refine⟨hd.1,show x.i.rd < 16 by omega,?_⟩
  refine⟨16,hd.1,show x.i.rd < 16 by omega,show 13+x.i.rd.toNat*1 < 42 by omega,?_⟩
  exact ao (aQ rfl)
 ·rw[if_neg (by decide),if_neg (by decide),if_neg (by decide),if_pos rfl]
  repeat' (refine (And.intro (fun _=>?_) (fun _=>?_):(_->_)/\(_->_))<;>(first|(exfalso; omega)|skip))
  refine s4.u ?_
  repeat' (refine (And.intro (fun _=>?_) (fun _=>?_):(_->_)/\(_->_))<;>(first|(exfalso; omega)|skip))
  refine⟨hd.1,show x.i.rd < 16 by omega,?_⟩
  refine⟨16,hd.1,show x.i.rd < 16 by omega,show 13+x.i.rd.toNat*1 < 42 by omega,?_⟩
  exact ao (aQ rfl)
 ·rw[if_neg (by decide),if_neg (by decide),if_neg (by decide),if_neg (by decide),if_pos rfl]
  repeat' (refine (And.intro (fun _=>?_) (fun _=>?_):(_->_)/\(_->_))<;>(first|(exfalso; omega)|skip))
  refine s5.u ?_
  repeat' (refine (And.intro (fun _=>?_) (fun _=>?_):(_->_)/\(_->_))<;>(first|(exfalso; omega)|skip))
  refine⟨hd.1,show x.i.rd < 16 by omega,?_⟩
  refine⟨16,hd.1,show x.i.rd < 16 by omega,show 13+x.i.rd.toNat*1 < 42 by omega,?_⟩
  exact ao (aQ rfl)
 ·rw[if_neg (by decide),if_neg (by decide),if_neg (by decide),if_neg (by decide),if_neg (by decide),if_pos rfl]
  repeat' (refine (And.intro (fun _=>?_) (fun _=>?_):(_->_)/\(_->_))<;>(first|(exfalso; omega)|skip))
  refine s1.u ?_
  repeat' (refine (And.intro (fun _=>?_) (fun _=>?_):(_->_)/\(_->_))<;>(first|(exfalso; omega)|skip))
  exact ao (aQ rfl)
 ·rw[if_neg (by decide),if_neg (by decide),if_neg (by decide),if_neg (by decide),if_neg (by decide),if_neg (by decide),if_pos rfl]
  repeat' (refine (And.intro (fun _=>?_) (fun _=>?_):(_->_)/\(_->_))<;>(first|(exfalso; omega)|skip))
  refine s4.u ?_
  repeat' (refine (And.intro (fun _=>?_) (fun _=>?_):(_->_)/\(_->_))<;>(first|(exfalso; omega)|skip))
  exact ao (aQ rfl)
 ·rw[if_neg (by decide),if_neg (by decide),if_neg (by decide),if_neg (by decide),if_neg (by decide),if_neg (by decide),if_neg (by decide)]
  repeat' (refine (And.intro (fun _=>?_) (fun _=>?_):(_->_)/\(_->_))<;>(first|(exfalso; omega)|skip))
  refine s6.u ?_
  repeat' (refine (And.intro (fun _=>?_) (fun _=>?_):(_->_)/\(_->_))<;>(first|(exfalso; omega)|skip))
  refine⟨hd.1,show x.i.rd < 16 by omega,?_⟩
  refine⟨16,hd.1,show x.i.rd < 16 by omega,show 13+x.i.rd.toNat*1 < 42 by omega,?_⟩
  exact ao (aQ rfl)
def mP (fl:List Int) (L:List (Int × Int)):PV:=.agg [.sl 1 (db fl),.sl 2 (L.map wP)]
theorem Z_ (a:Int):ah gT 66 [.int .u32 a] (.bool (c_ a)):=by
 refine Spec.enter ar P66 100 Tryz.func66 rfl (by kernel_rfl) ?_
 refine⟨fun h=>?_,fun h=>?_⟩
 ·have h':536870912<=a:=h
  exact ao (show a<=536936444↔c_ a by unfold c_; omega)
 ·have h':¬ 536870912<=a:=h
  exact ao (er (show ¬ c_ a by unfold c_; omega))
def hasB (fl:List Int) (a:Int):Prop:=134217728<=a/\a - 134217728 < fl.length
instance (fl:List Int) (a:Int):Decidable (hasB fl a):=by unfold hasB; infer_instance
theorem tC (fl:List Int) (L:List (Int × Int)) (a:Int) (ha:aP a) (h:¬ hasB fl a):ah gT 119 [mP fl L,.int .u32 a] (.tup [.int .u32 0,.ff]):=by
 have el:(db fl).length=fl.length:=List.length_map ..
 obtain⟨a0,a1⟩:=ha
 unfold hasB at h
 refine Spec.enter ar Xy 100 Tryz.func119 rfl (by kernel_rfl) ?_
 refine⟨fun h1=>?_,fun h1=>?_⟩
 ·exact rA
 have qB:¬ a < 134217728:=h1
 refine lu ?_ (show 0<=a - 134217728/\a - 134217728<=4294967295 by omega)
 refine li ?_ (show _<=a - 134217728/\a - 134217728<=_ by omega)
 refine fun _=>?_
 refine⟨fun h2=>?_,fun h2=>absurd (show ((db fl).length:Int)<=a - 134217728 by rw[el]; omega) h2⟩
 exact rA
theorem mX (fl:List Int) (L:List (Int × Int)) (a:Int) (ha:aP a) (hb:w9 fl) (h:hasB fl a):ah gT 119 [mP fl L,.int .u32 a] (.tup [.int .u32 (fl.getD (cu a) 0),.tt]):=by
 have el:(db fl).length=fl.length:=List.length_map ..
 have hg:=dQ hb (cu a)
 obtain⟨a0,a1⟩:=ha
 obtain⟨b0,b1⟩:=h
 refine Spec.enter ar Xy 100 Tryz.func119 rfl (by kernel_rfl) ?_
 refine⟨fun h1=>absurd h1 (show ¬ a < 134217728 by omega),fun h1=>?_⟩
 refine lu ?_ (show 0<=a - 134217728/\a - 134217728<=4294967295 by omega)
 refine li ?_ (show _<=a - 134217728/\a - 134217728<=_ by omega)
 refine fun _=>?_
 refine⟨fun h2=>absurd (show ((db fl).length:Int)<=a - 134217728 from h2) (by rw[el]; omega),fun h2=>?_⟩
 refine lu ?_ (show 0<=a - 134217728/\a - 134217728<=4294967295 by omega)
 refine⟨Int,fl,PV.int .u8,rfl,show (0:Int)<=a - 134217728 by omega,show a - 134217728 < (fl.length:Int) by omega,fun z hz=>?_⟩
 have e:fl.getD (cu a) 0=z:=getD_some (by unfold cu; exact hz)
 rw[e] at hg ⊢
 refine lu ?_ (show 0<=z/\z<=4294967295 by omega)
 exact rA
theorem Py (fl:List Int) (L:List (Int × Int)) (a:Int) (ha:aP a) (hb:w9 fl) (hl:fl.length<=65536):ah gT 105 [mP fl L,.int .u32 a] (.tup [.int .u32 (fx fl a),.int .i64 (jr fl a)]):=by
 obtain⟨a0,a1⟩:=ha
 refine Spec.enter ar P105 100 Tryz.func105 rfl (by kernel_rfl) ?_
 refine And.intro (show (2:Int)≠0 by decide) (.inl ⟨a0,show (0:Int) < 2 by decide,?_⟩)
 refine⟨fun h=>?_,fun h=>?_⟩
 ·have h':a % 2≠0:=h
  have e1:fx fl a=0:=by unfold fx; rw[if_pos h']
  have e2:jr fl a=60:=by unfold jr; rw[if_pos h']
  rw[e1,e2]
  exact rA
 have h':¬ a % 2≠0:=h
 by_cases hf:iF fl a 2
 ·have e1:fx fl a=hN fl (cu a):=by unfold fx; rw[if_neg h',if_pos hf]
  have e2:jr fl a=0:=by unfold jr; rw[if_neg h',if_pos hf]
  rw[e1,e2]
  unfold iF at hf
  have g0:=dQ hb (cu a)
  have g1:=dQ hb (cu (a+1))
  have eo:cu (a+1)=cu a+1:=by unfold cu; omega
  have k0:=mX fl L a ⟨a0,a1⟩ hb (by unfold hasB; omega)
  have k1:=mX fl L (a+1) ⟨by omega,by omega⟩ hb (by unfold hasB; omega)
  refine k0.u ?_
  refine lu ?_ (show 0<=a+1/\a+1<=4294967295 by omega)
  refine k1.u ?_
  refine lu ?_ (show 0<=256*fl.getD (cu (a+1)) 0/\256*fl.getD (cu (a+1)) 0<=4294967295 by omega)
  refine lu ?_ (show 0<=fl.getD (cu a) 0+256*fl.getD (cu (a+1)) 0/\fl.getD (cu a) 0+256*fl.getD (cu (a+1)) 0<=4294967295 by omega)
  refine ao (And.intro (show fl.getD (cu a) 0+256*fl.getD (cu (a+1)) 0=hN fl (cu a) by unfold hN; rw[eo]; omega) (And.intro rfl trivial))
 ·have e1:fx fl a=0:=by unfold fx; rw[if_neg h',if_neg hf]
  have e2:jr fl a=61:=by unfold jr; rw[if_neg h',if_neg hf]
  rw[e1,e2]
  unfold iF at hf
  have k0n:=tC fl L a ⟨a0,a1⟩
  have k0y:=mX fl L a ⟨a0,a1⟩ hb
  have k1:=fun h=>tC fl L (IntKind.u32.wrap (a+1)) (wrap_u32 _) h
  have ew:=IntKind.wrap_u32' (a+1)
  have hw:¬ hasB fl (IntKind.u32.wrap (a+1)):=by unfold hasB; omega
  by_cases hh:hasB fl a
  ·refine (k0y hh).u ?_
   refine .inr ?_
   refine (k1 hw).u ?_
   exact rA
  ·refine (k0n hh).u ?_
   refine .inr ?_
   refine (k1 hw).u ?_
   exact rA
def Fz (L:List (Int × Int)) (a:Int):Nat->Int
 | 0=>0
 | n+1=>if (L.getD n (0,0)).1=a then (L.getD n (0,0)).2 else Fz L a n
def qN (L:List (Int × Int)) (a:Int):Int:=Fz L a L.length
def Jz (fl:List Int) (L:List (Int × Int)) (a:Int):Int:=if a % 4≠0 then 0 else if c_ a then qN L a else if iF fl a 4 then hN fl (cu a)+hN fl (cu a+2)*65536 else 0
def j_ (fl:List Int) (a:Int):Nat->Int
 | 0=>0
 | k+1=>j_ fl a k*256+fl.getD (cu a+(3 - k)) 0
theorem NU {fl:List Int} (hb:w9 fl) (a:Int):0<=j_ fl a 1/\j_ fl a 1<=255/\0<=j_ fl a 2/\j_ fl a 2<=65535/\0<=j_ fl a 3/\j_ fl a 3<=16777215/\0<=j_ fl a 4/\j_ fl a 4<=4294967295:=by
 have b0:=dQ hb (cu a)
 have b1:=dQ hb (cu a+1)
 have b2:=dQ hb (cu a+2)
 have b3:=dQ hb (cu a+3)
 simp only[j_,Nat.sub_zero,show 3 - 1=2 from rfl,show 3 - 2=1 from rfl,Nat.sub_self,Nat.add_zero]
 omega
theorem VH (fl:List Int) (a:Int):j_ fl a 4=hN fl (cu a)+hN fl (cu a+2)*65536:=by
 unfold hN
 simp only[j_,Nat.sub_zero,show 3 - 1=2 from rfl,show 3 - 2=1 from rfl,Nat.sub_self,Nat.add_zero]
 rw[show cu a+2+1=cu a+3 by omega]
 omega
theorem JA (fl:List Int) (L:List (Int × Int)) (a:Int) (ha:aP a) (hb:w9 fl) (hl:fl.length<=65536):ah gT 64 [mP fl L,.int .u32 a] (.tup [.int .u32 (Jz fl L a),.int .i64 (ll fl a)]):=by
 have kr:=Z_ a
 have el:(L.map wP).length=L.length:=List.length_map ..
 obtain⟨a0,a1⟩:=ha
 refine Spec.enter ar P64 100 Tryz.func64 rfl (by kernel_rfl) ?_
 refine And.intro (show (4:Int)≠0 by decide) (.inl ⟨a0,show (0:Int) < 4 by decide,?_⟩)
 refine⟨fun h=>?_,fun h=>?_⟩
 ·have h':a % 4≠0:=h
  rw[show Jz fl L a=0 by unfold Jz; rw[if_pos h'],show ll fl a=60 by unfold ll; rw[if_pos h']]
  exact rA
 have h':¬ a % 4≠0:=h
 refine kr.u ?_
 refine⟨fun hr=>?_,fun hr=>?_⟩
 ·have p6:c_ a:=hr
  rw[show Jz fl L a=qN L a by unfold Jz; rw[if_neg h',if_pos p6],show ll fl a=0 by unfold ll; rw[if_neg h',if_pos p6]]
  refine fun hm=>?_
  have mY:(L.map wP).length<=maxLen:=hm
  rw[el] at mY
  unfold maxLen at mY
  refine li ?_ (show _<=(((L.map wP).length:Nat):Int) - 1/\(((L.map wP).length:Nat):Int) - 1<=_ by rw[el]; omega)
  refine SW.iw ar P64 (by kernel_rfl) (α:={n:Nat // n<=L.length/\Fz L a n=qN L a}) (fun n=>[(6,.int .i64 ((n.1:Int) - 1))]) (fun n=>n.1) ⟨L.length,Nat.le_refl _,rfl⟩ 60 ?_ ?_
  ·repeat' first|exact trivial|exact rfl|exact Iff.rfl|exact not_false|refine And.intro ?_ ?_
   all_goals exact (show (((L.map wP).length:Nat):Int) - 1=((L.length:Nat):Int) - 1 by rw[el])
  rintro⟨n,hn,WZ⟩
  refine⟨fun hp=>?_,fun hp=>?_⟩
  ·have dA:(0:Int)<=(n:Int) - 1:=hp
   obtain⟨j,rfl⟩:∃ j,n=j+1:=⟨n - 1,by omega⟩
   obtain⟨p,GW⟩:∃ p,L[j]?=some p:=⟨_,List.getElem?_eq_getElem (by omega)⟩
   have hg:L.getD j (0,0)=p:=by rw[List.getD_eq_getElem?_getD,GW]; rfl
   have ej:((((j+1:Nat):Int) - 1).toNat)=j:=by omega
   refine⟨Int × Int,L,wP,rfl,show (0:Int)<=((j+1:Nat):Int) - 1 by omega,show ((j+1:Nat):Int) - 1 < (L.length:Int) by omega,fun q hq=>?_⟩
   have vN:L[(((j+1:Nat):Int) - 1).toNat]?=some q:=hq
   rw[ej,GW] at vN
   obtain rfl:=Option.some.inj vN
   refine⟨fun he=>?_,fun he=>?_⟩
   ·have nC:p.1=a:=he
    refine⟨Int × Int,L,wP,rfl,show (0:Int)<=((j+1:Nat):Int) - 1 by omega,show ((j+1:Nat):Int) - 1 < (L.length:Int) by omega,fun q hq=>?_⟩
    have vN:L[(((j+1:Nat):Int) - 1).toNat]?=some q:=hq
    rw[ej,GW] at vN
    obtain rfl:=Option.some.inj vN
    exact ao (And.intro (show p.2=qN L a by rw[← WZ,Fz,hg,if_pos nC]) (And.intro rfl trivial))
   ·have nC:¬ p.1=a:=he
    refine .inl ⟨ax (show _<=((j+1:Nat):Int) - 1 - 1/\((j+1:Nat):Int) - 1 - 1<=_ by omega),⟨⟨j,by omega,by rw[← WZ]; exact (show Fz L a j=Fz L a (j+1) by rw[Fz,hg,if_neg nC])⟩,show j < j+1 by omega,?_⟩⟩
    repeat' first|exact trivial|exact rfl|exact Iff.rfl|exact not_false|refine And.intro ?_ ?_
    all_goals exact (show ((j+1:Nat):Int) - 1 - 1=(j:Int) - 1 by omega)
  ·have dA:¬ (0:Int)<=(n:Int) - 1:=hp
   obtain rfl:n=0:=by omega
   exact ao (And.intro (show (0:Int)=qN L a from WZ) (And.intro rfl trivial))
 have p6:¬ c_ a:=hr
 by_cases hf:iF fl a 4
 ·rw[show Jz fl L a=j_ fl a 4 by unfold Jz; rw[if_neg h',if_neg p6,if_pos hf,VH],show ll fl a=0 by unfold ll; rw[if_neg h',if_neg p6,if_pos hf]]
  have ZT:=NU hb a
  unfold iF at hf
  refine SW.iw ar P64 (by kernel_rfl) (α:={k:Nat // k<=4}) (fun k=>[(7,.int .u32 (j_ fl a k.1)),(8,.int .i64 (3 - (k.1:Int)))]) (fun k=>4 - k.1) ⟨0,by decide⟩ 60 ?_ ?_
  ·repeat' first|exact trivial|exact rfl|exact Iff.rfl|exact not_false|refine And.intro ?_ ?_
  rintro⟨k,hk⟩
  refine⟨fun hp=>?_,fun hp=>?_⟩
  ·have dA:(0:Int)<=3 - (k:Int):=hp
   have hv:0<=j_ fl a k/\j_ fl a k<=16777215:=by
    rcases (show k=0\/k=1\/k=2\/k=3 by omega) with rfl|rfl|rfl|rfl
    ·exact⟨Int.le_refl 0,show (0:Int)<=16777215 by decide⟩
    all_goals omega
   have hg:=dQ hb (cu a+(3 - k))
   have eo:cu (a+(3 - (k:Int)))=cu a+(3 - k):=by unfold cu; omega
   have ky:=mX fl L (a+(3 - (k:Int))) ⟨by omega,by omega⟩ hb (by unfold hasB; omega)
   rw[eo] at ky
   refine lu ?_ (show 0<=3 - (k:Int)/\3 - (k:Int)<=4294967295 by omega)
   refine lu ?_ (show 0<=a+(3 - (k:Int))/\a+(3 - (k:Int))<=4294967295 by omega)
   refine ky.u ?_
   refine lu ?_ (show 0<=j_ fl a k*256/\j_ fl a k*256<=4294967295 by omega)
   refine lu ?_ (show 0<=j_ fl a k*256+fl.getD (cu a+(3 - k)) 0/\j_ fl a k*256+fl.getD (cu a+(3 - k)) 0<=4294967295 by omega)
   refine .inl ⟨ax (show _<=3 - (k:Int) - 1/\3 - (k:Int) - 1<=_ by omega),⟨⟨k+1,by omega⟩,show 4 - (k+1) < 4 - k by omega,?_⟩⟩
   repeat' first|exact trivial|exact rfl|exact Iff.rfl|exact not_false|refine And.intro ?_ ?_
   all_goals exact (show 3 - (k:Int) - 1=3 - ((k+1:Nat):Int) by omega)
  ·have dA:¬ (0:Int)<=3 - (k:Int):=hp
   obtain rfl:k=4:=by omega
   exact rA
 ·rw[show Jz fl L a=0 by unfold Jz; rw[if_neg h',if_neg p6,if_neg hf],show ll fl a=61 by unfold ll; rw[if_neg h',if_neg p6,if_neg hf]]
  unfold iF at hf
  have ew:=IntKind.wrap_u32' (a+3)
  have kn:=tC fl L (IntKind.u32.wrap (a+3)) (wrap_u32 _) (by unfold hasB; omega)
  refine SW.iw ar P64 (by kernel_rfl) (α:=Unit) (fun _=>[(7,.int .u32 0),(8,.int .i64 3)]) (fun _=>0) () 60 ?_ ?_
  ·repeat' first|exact trivial|exact rfl|exact Iff.rfl|exact not_false|refine And.intro ?_ ?_
  rintro⟨⟩
  refine⟨fun _=>?_,fun h=>absurd (show (0:Int)<=3 by decide) h⟩
  refine lu ?_ (show (0:Int)<=3/\(3:Int)<=4294967295 by decide)
  refine .inr ?_
  refine kn.u ?_
  exact rA
def eQ (L:List (Int × Int)) (a:Int):List (Int × Int):=L.filter fun p=>decide (p.1≠a)
def BL (L:List (Int × Int)) (a v:Int):List (Int × Int):=eQ L a++[(a,v)]
def jG (L:List (Int × Int)) (a v:Int):List (Int × Int):=if jb a=0 then BL L a v else L
theorem BM {L:List (Int × Int)} {k:Nat} {p:Int × Int} (a:Int) (h:L[k]?=some p):eQ (L.take (k+1)) a=eQ (L.take k) a++(if p.1≠a then [p] else []):=by
 unfold eQ
 rw[List.take_add_one,h,List.filter_append]
 by_cases hp:p.1=a
 ·simp[hp]
 ·simp[hp]
theorem vl (L:List (Int × Int)) (a:Int):(eQ L a).length<=L.length:=List.length_filter_le ..
theorem BN (fl:List Int) (L:List (Int × Int)) (a v:Int) (ha:aP a) (hL:L.length<=100000):ah gT 31 [mP fl L,.int .u32 a,.int .u32 v] (.tup [mP fl (jG L a v),.int .i64 (jb a)]):=by
 have kr:=Z_ a
 have el:(L.map wP).length=L.length:=List.length_map ..
 obtain⟨a0,a1⟩:=ha
 refine Spec.enter ar P31 100 Tryz.func31 rfl (by kernel_rfl) ?_
 refine And.intro (show (4:Int)≠0 by decide) (.inl ⟨a0,show (0:Int) < 4 by decide,?_⟩)
 refine⟨fun h=>?_,fun h=>?_⟩
 ·have h':a % 4≠0:=h
  have e:jb a=60:=by unfold jb; rw[if_pos h']
  unfold jG
  rw[e,if_neg (by decide)]
  exact rA
 have h':¬ a % 4≠0:=h
 by_cases h2:134217728<=a/\a < 134283264
 ·have e:jb a=62:=by unfold jb; rw[if_neg h',if_pos h2]
  unfold jG
  rw[e,if_neg (by decide)]
  refine⟨fun _=>?_,fun h=>absurd h2.1 h⟩
  refine⟨fun _=>?_,fun h=>absurd h2.2 h⟩
  exact rA
 by_cases hr:c_ a
 ·have e:jb a=0:=by unfold jb; rw[if_neg h',if_neg h2,if_pos hr]
  unfold jG
  rw[e,if_pos rfl]
  have Qu:=hr
  unfold c_ at Qu
  repeat' (refine (And.intro (fun _=>?_) (fun _=>?_):(_->_)/\(_->_))<;>(first|(exfalso; omega)|skip))
  all_goals refine kr.u ?_
  all_goals refine⟨fun h=>absurd hr h,fun _=>?_⟩
  refine SW.nj ar P31 (by kernel_rfl) (α:={k:Nat // k<=L.length}) (fun k=>[(1,.int .u32 a),(2,.int .u32 v),(3,.ptr 0 0),(6,.ptr 1 0),(8,.wref 2),(9,.int .i64 k.1)]) (fun k=>[⟨.loc,50,1,.w,true,[.sl 1 (db fl),.sl 2 (L.map wP)]⟩,⟨.loc,50,1,.w,true,[.sl 1 [],.sl 2 []]⟩,⟨.dyn,147,2,.w,true,(eQ (L.take k.1) a).map wP⟩]) (fun k=>L.length - k.1) ⟨0,Nat.zero_le _⟩ 60 [some 0,some 1,none] ?_ ?_
  ·repeat' first|exact trivial|exact rfl|exact Iff.rfl|exact not_false|refine And.intro ?_ ?_
  rintro⟨k,hk⟩
  have hkl:=vl (L.take k) a
  rw[List.length_take] at hkl
  have eK:((eQ (L.take k) a).map wP).length=(eQ (L.take k) a).length:=List.length_map ..
  refine fun hm=>?_
  refine⟨fun hp=>?_,fun hp=>?_⟩
  ·have dA:(k:Int) < ((L.map wP).length:Nat):=hp
   rw[el] at dA
   obtain⟨p,hpk⟩:∃ p,L[k]?=some p:=⟨_,List.getElem?_eq_getElem (by omega)⟩
   have hs:=BM a hpk
   refine⟨Int × Int,L,wP,rfl,show (0:Int)<=(k:Int) by omega,show (k:Int) < (L.length:Int) by omega,fun q hq=>?_⟩
   obtain rfl:p=q:=Option.some.inj (hpk.symm.trans hq)
   refine⟨fun he=>?_,fun he=>?_⟩
   ·have nC:p.1≠a:=he
    rw[if_pos nC] at hs
    refine⟨Int × Int,L,wP,rfl,show (0:Int)<=(k:Int) by omega,show (k:Int) < (L.length:Int) by omega,fun q hq=>?_⟩
    obtain rfl:p=q:=Option.some.inj (hpk.symm.trans hq)
    refine⟨show ((eQ (L.take k) a).map wP).length+1<=maxLen by rw[eK]; unfold maxLen; omega,show (((eQ (L.take k) a).map wP).length+1)*8<=140737488355328 by rw[eK]; omega,?_⟩
    refine .inl ⟨ax (show _<=(k:Int)+1/\(k:Int)+1<=_ by omega),⟨⟨k+1,by omega⟩,[some 0,some 1,some 4],show L.length - (k+1) < L.length - k by omega,?_⟩⟩
    repeat' first|exact trivial|exact rfl|exact Iff.rfl|exact not_false|refine And.intro ?_ ?_
    all_goals exact (show (eQ (L.take k) a).map wP++[wP p]=(eQ (L.take (k+1)) a).map wP by rw[hs,List.map_append]; rfl)
   ·have nC:¬ p.1≠a:=he
    rw[if_neg nC,List.append_nil] at hs
    refine .inl ⟨ax (show _<=(k:Int)+1/\(k:Int)+1<=_ by omega),⟨⟨k+1,by omega⟩,[some 0,some 1,some 2],show L.length - (k+1) < L.length - k by omega,?_⟩⟩
    repeat' first|exact trivial|exact rfl|exact Iff.rfl|exact not_false|refine And.intro ?_ ?_
    all_goals exact (show (eQ (L.take k) a).map wP=(eQ (L.take (k+1)) a).map wP by rw[hs])
  ·have dA:¬ (k:Int) < ((L.map wP).length:Nat):=hp
   rw[el] at dA
   have ek:L.take k=L:=List.take_of_length_le (by omega)
   rw[ek] at hkl eK
   refine⟨show ((eQ (L.take k) a).map wP).length+1<=maxLen by rw[ek,eK]; unfold maxLen; omega,show (((eQ (L.take k) a).map wP).length+1)*8<=140737488355328 by rw[ek,eK]; omega,?_⟩
   refine ao ?_
   repeat' first|exact trivial|exact rfl|exact Iff.rfl|exact not_false|refine And.intro ?_ ?_
   all_goals exact (show (eQ (L.take k) a).map wP++[wP (a,v)]=(BL L a v).map wP by rw[ek]; unfold BL; rw[List.map_append]; rfl)
 ·have e:jb a=61:=by unfold jb; rw[if_neg h',if_neg h2,if_neg hr]
  unfold jG
  rw[e,if_neg (by decide)]
  repeat' (refine (And.intro (fun _=>?_) (fun _=>?_):(_->_)/\(_->_))<;>(first|(exfalso; omega)|skip))
  all_goals refine kr.u ?_
  all_goals refine⟨fun _=>?_,fun h=>absurd hr h⟩
  all_goals exact rA
def lr (w:Nat->Int) (L:List (Int × Int)):Prop:=∀ j:Nat,j < 16384->w j=qN L (536870912+4*(j:Int))
theorem BO {fl:List Int} {w:Nat->Int} {L:List (Int × Int)} (h:lr w L) {a:Int} (ha:aP a):Jz fl L a=qK fl w a:=by
 unfold Jz qK
 by_cases h4:a % 4≠0
 ·rw[if_pos h4,if_pos h4]
 rw[if_neg h4,if_neg h4]
 by_cases hr:c_ a
 ·rw[if_pos hr,if_pos hr]
  unfold c_ at hr
  have hj:m5 a < 16384:=by unfold m5; omega
  rw[h _ hj]
  congr 1
  unfold m5
  omega
 ·rw[if_neg hr,if_neg hr]
def qO (L:List (Int × Int)) (x:XS) (a:Int):List (Int × Int):=if jE x.i.form then jG L a (al x x.i.rd) else L
theorem NV (m:MS) (x:XS) (L:List (Int × Int)) (a:Int) (hm:BA m) (hR:lr m.w L) (hL:L.length<=100000) (hx:iX x) (ha:aP a):ah gT 108 [mW x m.fl L,.int .u32 a] (.tup [mW (iH m x a) m.fl (qO L x a),.int .i64 (jF m x a)]):=by
 have gd:=iI (cR x a 1) m.fl L x.i.rd hx.rd.1 hx.rd.2
 have ks:=BN m.fl L a (al x x.i.rd) ha hL
 have kl:=JA m.fl L a ha hm.fl hm.len
 rw[BO hR ha] at kl
 have hd:=hx.rd
 refine Spec.enter ar P108 100 Tryz.func108 rfl (by kernel_rfl) ?_
 by_cases hs:jE x.i.form
 ·rw[show iH m x a=cR x a 1 by unfold iH; rw[if_pos hs],show qO L x a=jG L a (al x x.i.rd) by unfold qO; rw[if_pos hs],show jF m x a=jb a by unfold jF; rw[if_pos hs]]
  unfold jE at hs
  repeat' (refine (And.intro (fun _=>?_) (fun _=>?_):(_->_)/\(_->_))<;>(first|(exfalso; omega)|skip))
  all_goals refine gd.u ?_
  all_goals refine ks.u ?_
  all_goals exact rA
 ·rw[show qO L x a=L by unfold qO; rw[if_neg hs],show jF m x a=ll m.fl a by unfold jF; rw[if_neg hs]]
  have eX:iH m x a=if ll m.fl a=0 then cg (cR x a 1) x.i.rd (qK m.fl m.w a) else cR x a 1:=by unfold iH; rw[if_neg hs]
  rw[eX]
  unfold jE at hs
  repeat' (refine (And.intro (fun _=>?_) (fun _=>?_):(_->_)/\(_->_))<;>(first|(exfalso; omega)|skip))
  all_goals refine kl.u ?_
  all_goals refine⟨fun he=>?_,fun he=>?_⟩
  ·rw[if_pos (show ll m.fl a=0 from he)]
   refine⟨hd.1,show x.i.rd < 16 by omega,?_⟩
   refine⟨16,hd.1,show x.i.rd < 16 by omega,show 13+x.i.rd.toNat*1 < 42 by omega,?_⟩
   exact rA
  ·rw[if_neg (show ¬ ll m.fl a=0 from he)]
   exact rA
def mf (l:List Int):List PV:=l.map (PV.int .u32)
def fy (line:Int) (l:List Int):Nat->Int × Int
 | 0=>(0,line)
 | n+1=>(if l.getD n 0 / 16≠(fy line l n).2 then (fy line l n).1+1 else (fy line l n).1,l.getD n 0 / 16)
theorem DB (line:Int) (l:List Int):∀ n,0<=(fy line l n).1/\(fy line l n).1<=n
 | 0=>⟨Int.le_refl 0,Int.le_refl 0⟩
 | n+1=>by
  have ih:=DB line l n
  rw[fy]
  dsimp only
  split<;>omega
theorem NW (line:Int) (l:List Int) (hl:∀ z∈l,aP z) (hn:l.length<=1000):ah gT 62 [.int .i64 line,.sl 1 (mf l)] (.tup [.int .i64 (fy line l l.length).1,.int .i64 (fy line l l.length).2]):=by
 have el:(mf l).length=l.length:=List.length_map ..
 refine Spec.enter ar P62 100 Tryz.func62 rfl (by kernel_rfl) ?_
 refine SW.iw ar P62 (by kernel_rfl) (α:={k:Nat // k<=l.length}) (fun k=>[(0,.int .i64 (fy line l k.1).2),(6,.int .i64 (fy line l k.1).1),(7,.int .i64 k.1)]) (fun k=>l.length - k.1) ⟨0,Nat.zero_le _⟩ 60 ?_ ?_
 ·repeat' first|exact trivial|exact rfl|exact Iff.rfl|exact not_false|refine And.intro ?_ ?_
 rintro⟨k,hk⟩
 refine fun hm=>?_
 refine⟨fun hp=>?_,fun hp=>?_⟩
 ·have dA:(k:Int) < ((mf l).length:Nat):=hp
  rw[el] at dA
  have hb:=DB line l k
  obtain⟨z,hz⟩:∃ z,l[k]?=some z:=⟨_,List.getElem?_eq_getElem (by omega)⟩
  have hzb:=hl z (List.mem_of_getElem? hz)
  obtain⟨z0,z1⟩:=hzb
  have es:fy line l (k+1)=(if z / 16≠(fy line l k).2 then (fy line l k).1+1 else (fy line l k).1,z / 16):=by rw[fy,getD_some hz]
  refine⟨Int,l,PV.int .u32,rfl,show (0:Int)<=(k:Int) by omega,show (k:Int) < (l.length:Int) by omega,fun q hq=>?_⟩
  obtain rfl:z=q:=Option.some.inj (hz.symm.trans hq)
  refine⟨by decide,.inl ⟨z0,z1,by decide,?_⟩⟩
  refine li ?_ (show _<=z / 16/\z / 16<=_ by omega)
  refine⟨fun he=>?_,fun he=>?_⟩
  ·rw[if_pos (show z / 16≠(fy line l k).2 from he)] at es
   refine li ?_ (show _<=(fy line l k).1+1/\(fy line l k).1+1<=_ by omega)
   refine .inl ⟨ax (show _<=(k:Int)+1/\(k:Int)+1<=_ by omega),⟨⟨k+1,by omega⟩,show l.length - (k+1) < l.length - k by omega,?_⟩⟩
   repeat' first|exact trivial|exact rfl|exact Iff.rfl|exact not_false|refine And.intro ?_ ?_
   all_goals first|exact (show z / 16=(fy line l (k+1)).2 by rw[es])|exact (show (fy line l k).1+1=(fy line l (k+1)).1 by rw[es])
  ·rw[if_neg (show ¬ z / 16≠(fy line l k).2 from he)] at es
   refine .inl ⟨ax (show _<=(k:Int)+1/\(k:Int)+1<=_ by omega),⟨⟨k+1,by omega⟩,show l.length - (k+1) < l.length - k by omega,?_⟩⟩
   repeat' first|exact trivial|exact rfl|exact Iff.rfl|exact not_false|refine And.intro ?_ ?_
   all_goals first|exact (show z / 16=(fy line l (k+1)).2 by rw[es])|exact (show (fy line l k).1=(fy line l (k+1)).1 by rw[es])
 ·have dA:¬ (k:Int) < ((mf l).length:Nat):=hp
  rw[el] at dA
  obtain rfl:k=l.length:=by omega
  exact rA
theorem zV {l:Int} (h0:0<=l) (h1:l<=65535):bb l=l % 2+bb (l / 2):=by
 unfold bb
 have d:∀ a b:Int,0<=b->l / 2 / b=l / (2*b):=fun a b hb=>Int.ediv_ediv_of_nonneg (by decide)
 simp only[d 0 _ (show (0:Int)<=2 by decide),d 0 _ (show (0:Int)<=4 by decide),d 0 _ (show (0:Int)<=8 by decide),d 0 _ (show (0:Int)<=16 by decide),d 0 _ (show (0:Int)<=32 by decide),d 0 _ (show (0:Int)<=64 by decide),d 0 _ (show (0:Int)<=128 by decide),d 0 _ (show (0:Int)<=256 by decide),d 0 _ (show (0:Int)<=512 by decide),d 0 _ (show (0:Int)<=1024 by decide),d 0 _ (show (0:Int)<=2048 by decide),d 0 _ (show (0:Int)<=4096 by decide),d 0 _ (show (0:Int)<=8192 by decide),d 0 _ (show (0:Int)<=16384 by decide),d 0 _ (show (0:Int)<=32768 by decide)]
 have e1:l / (2*32768)=0:=by omega
 have e2:l / 32768 % 2=l / 32768:=by omega
 simp only[show (2:Int)*2=4 by decide,show (2:Int)*4=8 by decide,show (2:Int)*8=16 by decide,show (2:Int)*16=32 by decide,show (2:Int)*32=64 by decide,show (2:Int)*64=128 by decide,show (2:Int)*128=256 by decide,show (2:Int)*256=512 by decide,show (2:Int)*512=1024 by decide,show (2:Int)*1024=2048 by decide,show (2:Int)*2048=4096 by decide,show (2:Int)*4096=8192 by decide,show (2:Int)*8192=16384 by decide,show (2:Int)*16384=32768 by decide,e1,e2]
 omega
theorem FA {x:Int} (h:aP x):Lib.bitLen x.toNat=0↔x=0:=by
 obtain⟨h0,h1⟩:=h
 constructor
 ·intro e
  by_cases hx:x=0
  ·exact hx
  ·have:=Lib.bitLen_half x.toNat (by omega) (by omega)
   omega
 ·rintro rfl
  rfl
theorem VI {r:Int} (h0:0<=r) (h1:r<=65535):BB r↔32768<=r:=by
 unfold BB
 rw[show Ev.aD .i64 15=32768 by decide]
 rcases (show r / 32768=0\/r / 32768=1 by omega) with e|e
 ·rw[e]
  exact⟨fun h=>absurd h (by decide),fun h=>by omega⟩
 ·rw[e]
  exact⟨fun _=>by omega,fun _=>by decide⟩
theorem ddiv (a b:Int) (ha:aP a) (hb:aP b):ah gT 116 [.int .u32 a,.int .u32 b] (.int .i64 (divC a b)):=by
 have ka:=pN a ha
 have kb:=pN b hb
 have la:=mb ha.2
 have lb:=mb hb.2
 have hz:=FA hb
 have e:divC a b=if b=0\/(Lib.bitLen a.toNat:Int) - Lib.bitLen b.toNat < 0 then 2 else 3+((Lib.bitLen a.toNat:Int) - Lib.bitLen b.toNat) / 4:=rfl
 rw[e]
 generalize Lib.bitLen a.toNat=p at ka la ⊢
 generalize Lib.bitLen b.toNat=q at kb lb hz ⊢
 refine Spec.enter ar P116 100 Tryz.func116 rfl (by kernel_rfl) ?_
 refine ka.u ?_
 refine kb.u ?_
 refine⟨fun h=>?_,fun h=>?_⟩
 ·have h':(q:Int)=0:=h
  rw[if_pos (.inl (hz.1 (by omega)))]
  exact rA
 have h':¬ (q:Int)=0:=h
 have gw:¬ b=0:=fun e=>h' (by have:=hz.2 e; omega)
 refine⟨fun h2=>?_,fun h2=>?_⟩
 ·have uN:(p:Int) < q:=h2
  rw[if_pos (.inr (by omega))]
  exact rA
 have uN:¬ (p:Int) < q:=h2
 rw[if_neg (fun h=>h.elim gw (by omega))]
 refine li ?_ (show _<=(p:Int) - q/\(p:Int) - q<=_ by omega)
 refine⟨by decide,.inl ⟨show (0:Int)<=(p:Int) - q by omega,show (p:Int) - q<=9223372036854775807 by omega,by decide,?_⟩⟩
 refine li ?_ (show _<=3+((p:Int) - q) / 4/\3+((p:Int) - q) / 4<=_ by omega)
 exact rA
theorem aaa (i:IN) (t:Prop) [Decidable t] (a b:Int) (h0:0<=i.an) (h1:i.an<=65535) (ha:aP a) (hb:aP b):ah gT 61 [bX i,.bool t,.int .u32 a,.int .u32 b] (.int .i64 (gE i t a b)):=by
 have kd:=ddiv a b ha hb
 refine Spec.enter ar P61 100 Tryz.func61 rfl (by kernel_rfl) ?_
 by_cases q1:i.form=46\/i.form=99
 ·rw[xk (show bC i.form=1 by unfold bC; rw[if_pos q1])]
  by_cases ht:t
  ·rw[if_pos ht]
   repeat' (refine (And.intro (fun _=>?_) (fun _=>?_):(_->_)/\(_->_))<;>(first|(exfalso; omega)|(exfalso; contradiction)|skip))
   all_goals exact rA
  ·rw[if_neg ht]
   repeat' (refine (And.intro (fun _=>?_) (fun _=>?_):(_->_)/\(_->_))<;>(first|(exfalso; omega)|(exfalso; contradiction)|skip))
   all_goals exact rA
 by_cases q2:i.form=47\/i.form=100\/i.form=31
 ·rw[oZ (show bC i.form=2 by unfold bC; rw[if_neg q1,if_pos q2])]
  repeat' (refine (And.intro (fun _=>?_) (fun _=>?_):(_->_)/\(_->_))<;>(first|(exfalso; omega)|skip))
  all_goals exact rA
 by_cases q3:i.form=32\/i.form=34\/i.form=36\/i.form=38\/i.form=85\/i.form=87\/i.form=33\/i.form=35\/i.form=37\/i.form=84\/i.form=86\/i.form=93\/i.form=94
 ·rw[eO (show bC i.form=3 by unfold bC; rw[if_neg q1,if_neg q2,if_pos q3])]
  repeat' (refine (And.intro (fun _=>?_) (fun _=>?_):(_->_)/\(_->_))<;>(first|(exfalso; omega)|skip))
  all_goals exact rA
 by_cases q4:i.form=42\/i.form=43
 ·rw[xl (show bC i.form=4 by unfold bC; rw[if_neg q1,if_neg q2,if_neg q3,if_pos q4])]
  have hbb:=gP i.an h0 h1
  have aab:=VI h0 h1
  have eV:mc i=if i.form=43/\BB i.an then 1+bb i.an+2 else 1+bb i.an:=rfl
  repeat' (refine (And.intro (fun _=>?_) (fun _=>?_):(_->_)/\(_->_))<;>(first|(exfalso; omega)|skip))
  all_goals
   refine SW.iw ar P61 (by kernel_rfl) (α:={p:Int × Int // 0<=p.2/\p.2<=65535/\1<=p.1/\p.1+bb p.2=1+bb i.an}) (fun p=>[(10,.int .i64 p.1.1),(11,.int .i64 p.1.2)]) (fun p=>p.1.2.toNat) ⟨(1,i.an),h0,h1,Int.le_refl 1,rfl⟩ 60 ?_ ?_
   ·repeat' first|exact trivial|exact rfl|exact Iff.rfl|exact not_false|refine And.intro ?_ ?_
   rintro⟨⟨c,l⟩,l0,l1,c0,B6⟩
   have l0':0<=l:=l0
   have l1':l<=65535:=l1
   have c0':1<=c:=c0
   have hcl':c+bb l=1+bb i.an:=B6
   have hbl:=gP l l0' l1'
   refine⟨fun hp=>?_,fun hp=>?_⟩
   ·have dA:0 < l:=hp
    have eh:=zV l0' l1'
    refine⟨by decide,.inl ⟨l0',by decide,?_⟩⟩
    refine li ?_ (show _<=c+l % 2/\c+l % 2<=_ by omega)
    refine⟨by decide,.inl ⟨l0',show l<=9223372036854775807 by omega,by decide,⟨⟨(c+l % 2,l / 2),by show 0<=l / 2; omega,by show l / 2<=65535; omega,by show 1<=c+l % 2; omega,by show c+l % 2+bb (l / 2)=_; omega⟩,show (l / 2).toNat < l.toNat by omega,?_⟩⟩⟩
    repeat' first|exact trivial|exact rfl|exact Iff.rfl|exact not_false|refine And.intro ?_ ?_
   ·have dA:¬ 0 < l:=hp
    obtain rfl:l=0:=by omega
    have ec:c=1+bb i.an:=by
     have e0:bb 0=0:=by decide
     omega
    rw[eV]
    by_cases hT:i.form=43/\BB i.an
    ·have hT2:=aab.1 hT.2
     have hT1:=hT.1
     rw[if_pos hT]
     repeat' (refine (And.intro (fun _=>?_) (fun _=>?_):(_->_)/\(_->_))<;>(first|(exfalso; omega)|skip))
     all_goals refine li ?_ (show _<=c+2/\c+2<=_ by omega)
     all_goals exact ao (show c+2=1+bb i.an+2 by omega)
    ·have hT2:¬ (i.form=43/\32768<=i.an):=fun h=>hT ⟨h.1,aab.2 h.2⟩
     rw[if_neg hT]
     repeat' (refine (And.intro (fun _=>?_) (fun _=>?_):(_->_)/\(_->_))<;>(first|(exfalso; omega)|skip))
     all_goals exact ao (show c=1+bb i.an from ec)
 by_cases q5:i.form=97
 ·rw[Dr (show bC i.form=5 by rw[q5]; rfl)]
  repeat' (refine (And.intro (fun _=>?_) (fun _=>?_):(_->_)/\(_->_))<;>(first|(exfalso; omega)|skip))
  all_goals refine kd.u ?_
  all_goals exact rA
 ·rw[xj (show bC i.form=0 by unfold bC; rw[if_neg q1,if_neg q2,if_neg q3,if_neg q4,if_neg q5])]
  repeat' (refine (And.intro (fun _=>?_) (fun _=>?_):(_->_)/\(_->_))<;>(first|(exfalso; omega)|skip))
  all_goals exact rA
open Classical in
noncomputable def iz (fl:List Int) (a:Int):List Int:=if fp fl a≠0 then [] else if ¬ cL (fx fl a) then [a] else [a,IntKind.u32.wrap (a+2)]
theorem JB {w:Int} {wide:Prop} (h:¬ sZ w wide=0):sZ w wide=40:=by
 unfold sZ at h ⊢
 split at h
 ·exact absurd rfl h
 ·rename_i hn
  rw[if_neg hn]
theorem VJ (m:MD) (a:Int) (hb:w9 m.fl) (hl:m.fl.length<=65536) (ha:aP a):ah gT 58 [Ki m,.int .u32 a] (.tup [bX (cE m.fl a),.sl 1 (mf (iz m.fl a)),.int .i64 (fp m.fl a)]):=by
 have bh:=nP hb a
 have uh:aP (fx m.fl a):=⟨bh.1,by omega⟩
 have bh2:=nP hb (IntKind.u32.wrap (a+2))
 have kE:fp m.fl a=if jr m.fl a≠0 then jr m.fl a else if ¬ cL (fx m.fl a) then sZ (fx m.fl a) False else if jr m.fl (IntKind.u32.wrap (a+2))≠0 then jr m.fl (IntKind.u32.wrap (a+2)) else sZ (gF m.fl a) True:=rfl
 have kI:cE m.fl a=if jr m.fl a≠0 then iZ else if ¬ cL (fx m.fl a) then ri (fx m.fl a) False else if jr m.fl (IntKind.u32.wrap (a+2))≠0 then iZ else ri (gF m.fl a) True:=rfl
 have kL:iz m.fl a=open Classical in if fp m.fl a≠0 then [] else if ¬ cL (fx m.fl a) then [a] else [a,IntKind.u32.wrap (a+2)]:=rfl
 have k1:=Py m.fl m.L a ha hb hl
 have k2:=Py m.fl m.L (IntKind.u32.wrap (a+2)) (wrap_u32 _) hb hl
 refine Spec.enter ar P58 100 Tryz.func58 rfl (by kernel_rfl) ?_
 refine k1.u ?_
 refine⟨fun h=>?_,fun h=>?_⟩
 ·have h':jr m.fl a≠0:=h
  rw[if_pos h'] at kE kI
  rw[kE,if_pos h'] at kL
  rw[kE,kI,kL]
  exact rA
 have h':¬ jr m.fl a≠0:=h
 rw[if_neg h'] at kE kI
 refine⟨by decide,.inl ⟨bh.1,show fx m.fl a<=4294967295 by omega,by decide,?_⟩⟩
 refine⟨fun h1=>?_,fun h1=>?_⟩
 ·have hnb:¬ cL (fx m.fl a):=by have qB:fx m.fl a / 2048 < 29:=h1; unfold cL; omega
  rw[if_pos hnb] at kE kI kL
  refine⟨[],aT,(zn (fx m.fl a) False uh).use (And.intro rfl (And.intro not_false trivial)) rfl rfl ?_⟩
  refine⟨fun he=>?_,fun he=>?_⟩
  ·have nC:¬ sZ (fx m.fl a) False=0:=he
   rw[JB nC] at kE
   rw[kE,if_pos (by decide)] at kL
   rw[kE,kI,kL]
   exact rA
  ·have nC:sZ (fx m.fl a) False=0:=Classical.not_not.1 he
   rw[nC] at kE
   rw[kE,if_neg (by decide)] at kL
   rw[kE,kI,kL]
   exact rA
 have hyb:¬ ¬ cL (fx m.fl a):=fun hn=>by have qB:¬ fx m.fl a / 2048 < 29:=h1; unfold cL at hn; omega
 rw[if_neg hyb] at kE kI kL
 refine .inr ?_
 refine k2.u ?_
 refine⟨fun h2=>?_,fun h2=>?_⟩
 ·have uN:jr m.fl (IntKind.u32.wrap (a+2))≠0:=h2
  rw[if_pos uN] at kE kI
  rw[kE,if_pos uN] at kL
  rw[kE,kI,kL]
  exact rA
 have uN:¬ jr m.fl (IntKind.u32.wrap (a+2))≠0:=h2
 rw[if_neg uN] at kE kI
 have hw:=zn (gF m.fl a) True (zQ hb a)
 refine lu ?_ (show 0<=fx m.fl a*65536/\fx m.fl a*65536<=_ by omega)
 refine lu ?_ (show 0<=fx m.fl a*65536+fx m.fl (IntKind.u32.wrap (a+2))/\fx m.fl a*65536+fx m.fl (IntKind.u32.wrap (a+2))<=_ by omega)
 refine hw.u ?_
 refine⟨fun he=>?_,fun he=>?_⟩
 ·have nC:¬ sZ (gF m.fl a) True=0:=he
  rw[JB nC] at kE
  rw[kE,if_pos (by decide)] at kL
  rw[kE,kI,kL]
  exact rA
 ·have nC:sZ (gF m.fl a) True=0:=Classical.not_not.1 he
  rw[nC] at kE
  rw[kE,if_neg (by decide)] at kL
  rw[kE,kI,kL]
  refine .inr ?_
  exact rA
def lv (an:Int) (r:Nat):Int:=an / Ev.aD .u32 (r:Int) % 2
theorem rG (an:Int) (r:Nat):0<=lv an r/\lv an r<=1:=by unfold lv; omega
theorem rH {an:Int} (h0:0<=an) (h1:an<=65535) {r:Nat} (hr:r < 16):i_ an r=lv an r:=by
 have key:∀ p:Int,1<=p->Ev.aD .i64 (r:Int)=p->Ev.aD .u32 (r:Int)=p->i_ an r=lv an r:=fun p hp e1 e2=>by
  unfold i_ lv
  rw[e1,e2]
  have q0:0<=an / p:=Int.ediv_nonneg h0 (by omega)
  have q1:an / p<=an:=Int.ediv_le_self p h0
  generalize an / p=q at q0 q1 ⊢
  obtain⟨n,rfl⟩:∃ n:Nat,q=n:=⟨q.toNat,by omega⟩
  have:=Rm.yu n 1 (by omega) (by decide)
  rw[show ((1:Nat):Int)=1 from rfl] at this
  rw[this,Nat.and_one_is_mod]
  omega
 rcases (show r=0\/r=1\/r=2\/r=3\/r=4\/r=5\/r=6\/r=7\/r=8\/r=9\/r=10\/r=11\/r=12\/r=13\/r=14\/r=15 by omega) with rfl|rfl|rfl|rfl|rfl|rfl|rfl|rfl|rfl|rfl|rfl|rfl|rfl|rfl|rfl|rfl
 all_goals exact key _ (by decide) rfl rfl
def qP (an:Int):Nat->Int
 | 0=>0
 | n+1=>qP an n+lv an n
theorem xv (an:Int):∀ n,0<=qP an n/\qP an n<=n
 | 0=>⟨Int.le_refl 0,Int.le_refl 0⟩
 | n+1=>by
  have ih:=xv an n
  have b:=rG an n
  rw[qP]
  omega
theorem DC {an:Int} (h0:0<=an) (h1:an<=65535):qP an 16=bb an:=by
 unfold bb
 simp only[qP,lv]
 simp only[show Ev.aD .u32 ((0:Nat):Int)=1 by decide,show Ev.aD .u32 ((1:Nat):Int)=2 by decide,show Ev.aD .u32 ((2:Nat):Int)=4 by decide,show Ev.aD .u32 ((3:Nat):Int)=8 by decide,show Ev.aD .u32 ((4:Nat):Int)=16 by decide,show Ev.aD .u32 ((5:Nat):Int)=32 by decide,show Ev.aD .u32 ((6:Nat):Int)=64 by decide,show Ev.aD .u32 ((7:Nat):Int)=128 by decide,show Ev.aD .u32 ((8:Nat):Int)=256 by decide,show Ev.aD .u32 ((9:Nat):Int)=512 by decide,show Ev.aD .u32 ((10:Nat):Int)=1024 by decide,show Ev.aD .u32 ((11:Nat):Int)=2048 by decide,show Ev.aD .u32 ((12:Nat):Int)=4096 by decide,show Ev.aD .u32 ((13:Nat):Int)=8192 by decide,show Ev.aD .u32 ((14:Nat):Int)=16384 by decide,show Ev.aD .u32 ((15:Nat):Int)=32768 by decide]
 have e:an / 32768 % 2=an / 32768:=by omega
 rw[e,Int.ediv_one]
 omega
def cH (x:XS) (L:List (Int × Int)) (w:Nat->Int) (a:Int):Nat->List (Int × Int)
 | 0=>L
 | r+1=>if i_ x.i.an r=0 then cH x L w a r else jG (cH x L w a r) (aY x w a r).2.1 (al x r)
theorem tD (L:List (Int × Int)) (a v:Int):(jG L a v).length<=L.length+1:=by
 have:=vl L a
 unfold jG BL
 split
 ·rw[List.length_append]
  show _+1<=_
  omega
 ·omega
theorem nR (x:XS) (L:List (Int × Int)) (w:Nat->Int) (a:Int):∀ r,(cH x L w a r).length<=L.length+r
 | 0=>Nat.le_refl _
 | r+1=>by
  have ih:=nR x L w a r
  have:=tD (cH x L w a r) (aY x w a r).2.1 (al x r)
  rw[cH]
  split<;>omega
def Ws:List PV:=[.int .i64 0,.int .i64 0,.int .i64 0,.int .i64 0,.int .i64 0,.int .i64 0,.int .i64 0,.int .i64 0,.int .i64 0,.int .i64 0,.int .i64 0,.int .i64 0,.int .u32 0,.int .u32 0,.int .u32 0,.int .u32 0,.int .u32 0,.int .u32 0,.int .u32 0,.int .u32 0,.int .u32 0,.int .u32 0,.int .u32 0,.int .u32 0,.int .u32 0,.int .u32 0,.int .u32 0,.int .u32 0,.int .u32 0,.int .u32 0,.int .u32 0,.int .u32 0,.int .u32 0,.sl 1 [],.sl 2 [],.ff,.int .u32 0,.int .u32 0,.int .u32 0,.int .i64 0,.int .i64 0,.int .i64 0]
theorem o7 {x:XS} {L:List (Int × Int)} {w:Nat->Int} {a:Int} {r:Nat} (h:(aY x w a r).2.2≠0) (he:jb (aY x w a r).2.1≠0):∀ n,cH x L w a (r+n)=cH x L w a r
 | 0=>rfl
 | n+1=>by
  have ih:=o7 (L:=L) h he n
  rw[← Nat.add_assoc,cH,fW h n,ih]
  split
  ·rfl
  ·unfold jG
   rw[if_neg he]
theorem NX {z:Int} (h:0<=z) {k:Nat} (hk:k < 16):0<=z / Ev.aD .u32 (k:Int) :=
 Int.ediv_nonneg h (by rcases (show k=0\/k=1\/k=2\/k=3\/k=4\/k=5\/k=6\/k=7\/k=8\/k=9\/k=10\/k=11\/k=12\/k=13\/k=14\/k=15 by omega) with rfl|rfl|rfl|rfl|rfl|rfl|rfl|rfl|rfl|rfl|rfl|rfl|rfl|rfl|rfl|rfl<;>exact (by decide))
theorem aac (m:MS) (x:XS) (L:List (Int × Int)) (hL:L.length<=90000) (hx:iX x) (Ad:x.i.an<=32767):ah gT 109 [mW x m.fl L,.tt] (.tup [mW (ix m x) m.fl (cH x L m.w (bf x) 16),.int .i64 (gD m x).2.2]):=by
 have sw:=hx.an.1
 have IJ:=hx.an.2
 have VK:=DC sw IJ
 have Iz:i_ x.i.an 15=0:=by
  rw[rH sw IJ (by decide)]
  unfold lv
  rw[show Ev.aD .u32 ((15:Nat):Int)=32768 by decide]
  omega
 refine Spec.enter ar D1 100 Tryz.func109 rfl (by kernel_rfl) ?_
 refine SW.iw ar D1 (by kernel_rfl) (α:={k:Nat // k<=16}) (fun k=>[(6,.int .i64 (qP x.i.an k.1)),(7,.int .i64 k.1)]) (fun k=>16 - k.1) ⟨0,by decide⟩ 100 ?_ ?_
 ·repeat' first|exact trivial|exact rfl|exact Iff.rfl|exact not_false|refine And.intro ?_ ?_
 rintro⟨k,hk⟩
 refine⟨fun hp=>?_,fun hp=>?_⟩
 ·have dA:(k:Int) < 16:=hp
  have hb:=rG x.i.an k
  have hc:=xv x.i.an k
  refine lu ?_ (show 0<=x.i.an/\x.i.an<=4294967295 by omega)
  refine lu ?_ (show 0<=(k:Int)/\(k:Int)<=4294967295 by omega)
  have hq:=NX sw (show k < 16 by omega)
  refine⟨show (0:Int)<=(k:Int) by omega,?_⟩
  refine⟨by decide,.inl ⟨hq,by decide,?_⟩⟩
  refine li ?_ (show _<=lv x.i.an k/\lv x.i.an k<=_ by omega)
  refine li ?_ (show _<=qP x.i.an k+lv x.i.an k/\qP x.i.an k+lv x.i.an k<=_ by omega)
  refine .inl ⟨ax (show _<=(k:Int)+1/\(k:Int)+1<=_ by omega),⟨⟨k+1,by omega⟩,show 16 - (k+1) < 16 - k by omega,?_⟩⟩
  repeat' first|exact trivial|exact rfl|exact Iff.rfl|exact not_false|refine And.intro ?_ ?_
 ·have dA:¬ (k:Int) < 16:=hp
  obtain rfl:k=16:=by omega
  rw[VK]
  have hb16:=gP x.i.an sw IJ
  have Wq:=iI { x with words:=bb x.i.an } m.fl L 13 (by decide) (by decide)
  refine Wq.u ?_
  have eA:IntKind.u32.wrap (al x 13 - 4*bb x.i.an)=bf x:=by
   unfold bf
   rw[show IntKind.u32.wrap (4*bb x.i.an)=4*bb x.i.an by rw[IntKind.wrap_u32']; omega]
  refine li ?_ (show _<=4*bb x.i.an/\4*bb x.i.an<=_ by omega)
  refine lu ?_ (show 0<=4*bb x.i.an/\4*bb x.i.an<=_ by omega)
  refine .inr ?_
  refine SW.nj ar D1 (by kernel_rfl) (α:={r:Nat // r<=16/\(aY x m.w (bf x) r).2.2=0}) (fun r=>[(1,.tt),(2,.ptr 0 0),(4,.ptr 1 0),(8,.int .u32 (aY x m.w (bf x) r.1).2.1),(9,.int .i64 r.1)]) (fun r=>[⟨.loc,135,1,.w,true,ui (cR x (bf x) (bb x.i.an)) m.fl (cH x L m.w (bf x) r.1)⟩,⟨.loc,135,1,.w,true,Ws⟩]) (fun r=>16 - r.1) ⟨0,by omega,rfl⟩ 100 [some 0,some 1] ?_ ?_
  ·repeat' first|exact trivial|exact rfl|exact Iff.rfl|exact not_false|exact eA|refine And.intro ?_ ?_
  rintro⟨r,hr,hz⟩
  have hP:aP (aY x m.w (bf x) r).2.1:=l_ (x:=x) (w:=m.w) (wrap_u32 _) r
  refine⟨fun hp=>?_,fun hp=>?_⟩
  ·have dA:(r:Int) < 16:=hp
   have hb:=rG x.i.an r
   have eB:=rH sw IJ (show r < 16 by omega)
   have hlen:=nR x L m.w (bf x) r
   refine lu ?_ (show 0<=x.i.an/\x.i.an<=4294967295 by omega)
   refine lu ?_ (show 0<=(r:Int)/\(r:Int)<=4294967295 by omega)
   refine⟨show (0:Int)<=(r:Int) by omega,?_⟩
   refine⟨by decide,.inl ⟨NX sw (show r < 16 by omega),by decide,?_⟩⟩
   refine⟨fun h0=>?_,fun h0=>?_⟩
   ·have Kf:i_ x.i.an r=0:=eB.trans h0
    have hs:=gQ (x:=x) (w:=m.w) (a:=bf x) hz Kf
    have Wi:cH x L m.w (bf x) (r+1)=cH x L m.w (bf x) r:=by rw[cH,if_pos Kf]
    refine .inl ⟨ax (show _<=(r:Int)+1/\(r:Int)+1<=_ by omega),⟨⟨r+1,by omega,by rw[hs]; exact hz⟩,[some 0,some 1],show 16 - (r+1) < 16 - r by omega,?_⟩⟩
    repeat' first|exact trivial|exact rfl|exact Iff.rfl|exact not_false|refine And.intro ?_ ?_
    all_goals first|exact (show (aY x m.w (bf x) r).2.1=(aY x m.w (bf x) (r+1)).2.1 by rw[hs])|exact (show (cH x L m.w (bf x) r).map wP=(cH x L m.w (bf x) (r+1)).map wP by rw[Wi])
   ·have Kf:¬ i_ x.i.an r=0:=fun e=>h0 (eB.symm.trans e)
    have gd:=iI (cR x (bf x) (bb x.i.an)) m.fl (cH x L m.w (bf x) r) (r:Int) (by omega) (by omega)
    have ks:=BN m.fl (cH x L m.w (bf x) r) (aY x m.w (bf x) r).2.1 (al x r) hP (by omega)
    have Wi:cH x L m.w (bf x) (r+1)=jG (cH x L m.w (bf x) r) (aY x m.w (bf x) r).2.1 (al x r):=by rw[cH,if_neg Kf]
    refine gd.u ?_
    refine ks.u ?_
    refine⟨fun he=>?_,fun he=>?_⟩
    ·have nC:jb (aY x m.w (bf x) r).2.1≠0:=he
     have hr15:r<=14:=by
      by_cases h:r=15
      ·subst h; exact absurd Iz Kf
      ·omega
     have hE:=mT (x:=x) (w:=m.w) (a:=bf x) hz Kf nC
     have hF:gD m x=((aY x m.w (bf x) r).1,(aY x m.w (bf x) r).2.1,jb (aY x m.w (bf x) r).2.1):=by
      have hs:=fW (x:=x) (w:=m.w) (a:=bf x) (r:=r+1) (by rw[hE]; exact nC) (14 - r)
      unfold gD
      rw[show 15=r+1+(14 - r) by omega,hs,hE]
     have hX:ix m x=cR x (bf x) (bb x.i.an):=by unfold ix; rw[hF,if_neg (show ¬ jb _=0 from nC)]
     have hG:cH x L m.w (bf x) 16=jG (cH x L m.w (bf x) r) (aY x m.w (bf x) r).2.1 (al x r):=by
      rw[show 16=r+1+(15 - r) by omega,o7 (by rw[hE]; exact nC) (by rw[hE]; exact nC),Wi]
     rw[hF,hX,hG]
     exact rA
    ·have hs:=oY (x:=x) (w:=m.w) (a:=bf x) hz Kf he
     refine .inr ?_
     refine .inl ⟨ax (show _<=(r:Int)+1/\(r:Int)+1<=_ by omega),⟨⟨r+1,by omega,by rw[hs]⟩,[some 0,some 1],show 16 - (r+1) < 16 - r by omega,?_⟩⟩
     repeat' first|exact trivial|exact rfl|exact Iff.rfl|exact not_false|refine And.intro ?_ ?_
     all_goals first|exact (show IntKind.u32.wrap ((aY x m.w (bf x) r).2.1+4)=(aY x m.w (bf x) (r+1)).2.1 by rw[hs])|exact (show (jG (cH x L m.w (bf x) r) (aY x m.w (bf x) r).2.1 (al x r)).map wP=(cH x L m.w (bf x) (r+1)).map wP by rw[Wi])
  ·have dA:¬ (r:Int) < 16:=hp
   obtain rfl:r=16:=by omega
   have e15:aY x m.w (bf x) 16=aY x m.w (bf x) 15:=by
    by_cases h:(aY x m.w (bf x) 15).2.2≠0
    ·rw[aY,if_pos h]
    ·exact gQ (x:=x) (w:=m.w) (a:=bf x) (Classical.not_not.1 h) Iz
   have hR:(gD m x).2.2=0:=by unfold gD; rw[← e15]; exact hz
   have hX:ix m x=cg (cR x (bf x) (bb x.i.an)) 13 (bf x):=by unfold ix; rw[if_pos hR]
   rw[hR,hX]
   exact rA
end Go.Proofs.YtnbngokbamifbaaGreatDoor.Pw

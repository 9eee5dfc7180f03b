/- What this claim is proved with: no condition. -/
import Derived.Test.YtlgkljpgagfndaaGreatDoorNs23
import Derived.Test.YtlgkljpgagfndaaGreatDoorNs14
set_option linter.unusedVariables false
set_option linter.unusedSimpArgs false
namespace Go.Proofs.YtlgkljpgagfndaaGreatDoor.Pw
open Go Go.RowKit
def Yi (r:RU):Bool:=decide ((-16777216<=r.i0/\r.i1<=16777214)/\(0<=r.b0/\r.b1<=255))
theorem Iz:∀ k:Fin 35,Yi (bX ((k.1:Nat):Int))=true:=by decide
theorem EH (s:Int):(-16777216<=(bX s).i0/\(bX s).i1<=16777214)/\(0<=(bX s).b0/\(bX s).b1<=255):=by
 by_cases h:s < 1\/34 < s
 ·have e:bX s=eF:=by
   unfold bX
   repeat rw[if_neg (by omega)]
   unfold VD
   repeat rw[if_neg (by omega)]
  rw[e]; decide
 ·have h1:=Iz ⟨s.toNat,by omega⟩
  rw[show (((⟨s.toNat,by omega⟩:Fin 35).1:Nat):Int)=s by simp only[]; omega] at h1
  exact of_decide_eq_true h1
theorem Aq {i:IN} (h:aq i) (hg:i.ao=0):uA i:=by
 obtain⟨g1,g2,g3,g4⟩:=kY h
 obtain⟨hf,h1,h2,h3,h4,h5,h6,h7,h8,h9,cC⟩:=h
 have b:=EH (aa i.form)
 have hk:(0<=i.kind/\i.kind<=3)/\0<=i.bC/\i.bC<=255:=by
  rcases h9 with ⟨_,h⟩|⟨_,h,k⟩
  ·unfold ct at h; omega
  ·refine⟨by omega,?_⟩
   rcases k with k|k<;>omega
 have hm:-16777216<=i.az/\i.az<=16777214:=by rcases h7 with k|k<;>omega
 have hs:0<=i.set/\i.set<=1:=by rcases h8 with k|k<;>omega
 have hc:0<=i.cond/\i.cond<=13:=by rcases h6 with k|k<;>omega
 intro x hx
 unfold nM at hx
 simp only[List.mem_cons,List.not_mem_nil,or_false] at hx
 unfold wx
 omega
structure sO (s:RS):Prop where
 r:∀ k,bO (s.R k)
 n:0<=s.N
 z:0<=s.Z
 c:0<=s.C
 v:0<=s.V
theorem sO.ok {s:RS} (h:sO s):uP (sN s):=Am h.r h.n h.z h.c h.v
theorem jS (l:List IN):(dt l).length<=4*l.length:=by
 induction l with
 | nil=>exact Nat.le_refl _
 | cons i l ih =>
  have h1:=Ez i
  have e:dt (i::l)=kA i++dt l:=rfl
  rw[e,List.length_append,List.length_cons]
  omega
theorem IA (l:List IN):DI (dt l):=fun z hz=>by
 unfold dt at hz
 obtain⟨i,_,h⟩:=List.mem_flatMap.1 hz
 exact EA i z h
set_option maxHeartbeats 8000000 in
set_option maxRecDepth 100000 in
theorem IB (l:List IN) (wait:Int) (hl:l.length<=200) (hi:∀ i∈l,aq i/\uA i) (hw:0<=wait/\wait<=7):Spec gT 10 [.sl 11 (bI l),.int .i64 wait] [] [] fun r S'=>r = .ptr 2 0/\S'=stM (rK (dt l) wait):=by
 have el:(bI l).length=l.length:=List.length_map ..
 refine Spec.jB an Zq 100 Tryz.func10 rfl (by kernel_rfl) ?_
 refine fun hm=>?_
 refine SW.xL an Zq (by kernel_rfl) (α:={k:Nat // k<=l.length}) (fun k=>[(1,.int .i64 wait),(5,.wref 0),(14,.sl 11 (bI l)),(15,.int .i64 (bI l).length),(16,.int .i64 k.1)]) (fun k=>[⟨.dyn,5,1,.w,true,gi (dt (l.take k.1))⟩]) (fun k=>l.length - k.1) ⟨0,Nat.zero_le _⟩ 60 [none] ?_ ?_
 ·repeat' first|exact trivial|exact rfl|exact Iff.rfl|refine And.intro ?_ ?_
 rintro⟨k,hk⟩
 refine⟨fun h=>?_,fun h=>?_⟩
 ·have h':(k:Int) < ((bI l).length:Nat):=h
  rw[el] at h'
  obtain⟨i,tk⟩:∃ i,l[k]?=some i:=⟨_,List.getElem?_eq_getElem (by omega)⟩
  obtain⟨hr,yD⟩:=hi i (List.mem_of_getElem? tk)
  have hs:=m6 tk
  have Yj:=jS (l.take k)
  rw[List.length_take] at Yj
  have efl:(gi (dt (l.take k))).length=(dt (l.take k)).length:=List.length_map ..
  refine⟨IN,l,cG,rfl,show (0:Int)<=(k:Int) by omega,show (k:Int) < (l.length:Int) by omega,fun j hj=>?_⟩
  obtain rfl:i=j:=Option.some.inj (tk.symm.trans hj)
  have hb4:=Ez i
  have ebl:(gi (kA i)).length=(kA i).length:=List.length_map ..
  refine (zX i hr yD).u ?_
  refine⟨fun h=>absurd rfl h,fun _=>?_⟩
  refine⟨show (gi (dt (l.take k))).length+(gi (kA i)).length<=maxLen by rw[efl,ebl]; unfold maxLen; omega,show ((gi (dt (l.take k))).length+(gi (kA i)).length)*1<=140737488355328 by rw[efl,ebl]; omega,?_⟩
  refine .inl ⟨av (show _<=(k:Int)+1/\(k:Int)+1<=_ by omega),⟨⟨k+1,by omega⟩,[some 2],show l.length - (k+1) < l.length - k by omega,?_⟩⟩
  repeat' first|exact trivial|exact rfl|exact Iff.rfl|refine And.intro ?_ ?_
  all_goals exact (show gi (dt (l.take k))++gi (kA i)=gi (dt (l.take (k+1))) by rw[hs,Ir])
 ·have h':¬ (k:Int) < ((bI l).length:Nat):=h
  rw[el] at h'
  have cI:l.take k=l:=List.take_of_length_le (by omega)
  have Yj:=jS l
  have hFl:(dt l).length<=65536:=by omega
  rw[cI]
  generalize dt l=F at hFl ⊢
  have eFl:(gi F).length=F.length:=List.length_map ..
  have hc:=Ey F hFl
  refine⟨[],br,Spec.jB an P36 100 Tryz.func36 rfl (by kernel_rfl) ?_⟩
  refine fun yN=>?_
  refine⟨fun h=>absurd (show (65536:Int) < ((gi F).length:Nat) from h) (by rw[eFl]; omega),fun _=>?_⟩
  refine⟨[],br,hc.KN [0] rfl (And.intro rfl trivial) rfl rfl ?_⟩
  refine qC an ?_
  refine⟨65536,rfl,rfl,rfl,rfl,by decide,by decide,?_⟩
  rw[show List.replicate 65536 (PV.norm (.lit .u8 0))=fX fun _=>0 from qT]
  refine And.intro ?_ ?_
  ·refine Exists.intro [some 0,some 1,some 2] (Exists.intro [(2,.ptr 2 0),(3,.int .i64 0)] (Exists.intro [⟨.dyn,5,1,.r,true,gi F⟩,zY fun _=>0,⟨.loc,94,1,.w,true,[.sl 1 (gi F),.wref 1]⟩] (And.intro ?_ (And.intro (Nat.le_of_ble_eq_true rfl) ?_))))
   ·repeat' first|exact trivial|exact rfl|exact Iff.rfl|refine And.intro ?_ ?_
   refine⟨fun h=>absurd rfl h,fun _=>?_⟩
   refine⟨[],br,Spec.jB an P37 100 Tryz.func37 rfl (by kernel_rfl) ?_⟩
   refine⟨fun h=>absurd hw.1 (Int.not_le.2 h),fun _=>?_⟩
   refine⟨fun h=>absurd hw.2 (Int.not_le.2 h),fun _=>?_⟩
   refine Exists.intro [some 0,some 1,some 2,some 3] (Exists.intro [(4,.ptr 3 0),(5,.int .i64 0)] (Exists.intro [⟨.dyn,5,1,.r,true,gi F⟩,zY fun _=>0,⟨.loc,94,1,.w,true,[.sl 1 (gi F),.wref 1]⟩,⟨.loc,91,1,.w,true,.ptr 2 0::(DL (rK F wait)).cs.tail⟩] (And.intro ?_ (And.intro (Nat.le_of_ble_eq_true rfl) ?_))))
   ·repeat' first|exact trivial|exact rfl|exact Iff.rfl|exact not_false|refine And.intro ?_ ?_
   refine⟨fun h=>absurd rfl h,fun _=>?_⟩
   refine Exists.intro [some 1,some 2,some 3] (Exists.intro [(4,.ptr 2 0)] (Exists.intro (stM (rK F wait)) (And.intro ?_ (And.intro (Nat.le_of_ble_eq_true rfl) ?_))))
   ·repeat' first|exact trivial|exact rfl|exact Iff.rfl|exact not_false|refine And.intro ?_ ?_
   exact⟨rfl,rfl⟩
  ·refine And.intro ?_ ?_
   ·refine qC an ?_
    refine⟨65536,rfl,rfl,rfl,rfl,by decide,by decide,?_⟩
    rw[show List.replicate 65536 (PV.norm (.lit .u8 0))=fX fun _=>0 from qT]
    refine⟨[],br,hc.KN [0] rfl (And.intro rfl trivial) rfl rfl ?_⟩
    exact rfl
   ·first|exact trivial|((conv=>whnf); exact trivial)
structure Yk (m0:MS) (n:Nat) where
 k:Nat
 kn:k<=n
 ok:sL (qU k m0)
 gJ:(qU k m0).gJ<=34*k
def EI (s:RS):RS:={ s with R:=PN s.R 15 134217728 }
noncomputable def qW (l:List IN) (wait:Int) (s:RS):MS:=Iq (rK (dt l) wait) (EI s)
theorem EJ (l:List IN) (wait:Int) {s:RS} (hs:sO s) (hl:l.length<=200) (hw:0<=wait/\wait<=7):sL (qW l wait s):=by
 have Yj:=jS l
 have lF:sO (EI s):=⟨sK hs.r ⟨by decide,by decide⟩,hs.n,hs.z,hs.c,hs.v⟩
 exact Iw (Qf (IA l) (by omega) hw) lF.ok
set_option maxHeartbeats 8000000 in
set_option maxRecDepth 100000 in
theorem kD (l:List IN) (s:RS) (hs:sO s) (hl:l.length<=200) (hi:∀ i∈l,aq i/\uA i):ai gT 9 [.sl 11 (bI l),ph s] (.int .i64 (qU l.length (qW l 1 s)).gJ):=by
 have el:(bI l).length=l.length:=List.length_map ..
 have hb:=IB l 1 hl hi (by decide)
 have lG:=EJ l 1 hs hl (by decide)
 have hm0':qW l 1 s=Iq (rK (dt l) 1) (EI s):=rfl
 refine Spec.enter an P9 100 Tryz.func9 rfl (by kernel_rfl) ?_
 refine⟨[],br,hb.Hg rfl (by repeat' first|exact trivial|exact rfl|exact Iff.rfl|exact Or.inl rfl|refine And.intro ?_ ?_) rfl ?_⟩
 refine (Qb (rK (dt l) 1) (EI s)).q [1,2,3] ?_
 refine fun yN=>?_
 refine SW.xL an P9 (by kernel_rfl) (α:=Yk (qW l 1 s) l.length) (fun x=>[(5,.ptr 3 0),(16,.int .i64 ((bI l).length:Nat)),(17,.int .i64 x.k)]) (fun x=>[EC 29 (PO (EI s))]++stD 1 (qU x.k (qW l 1 s))) (fun x=>l.length - x.k) ⟨0,Nat.zero_le _,lG,Int.le_refl 0⟩ 100 [some 0,some 1,some 2,some 3] ?_ ?_
 ·repeat' first|exact trivial|exact rfl|exact Iff.rfl|exact not_false|refine And.intro ?_ ?_
 rintro⟨k,hkn,hm,hcy⟩
 refine⟨fun h=>?_,fun h=>?_⟩
 ·have h':(k:Int) < ((bI l).length:Nat):=h
  rw[el] at h'
  obtain⟨hM,Ri,iI,_,_,_⟩:=yF hm (by omega)
  refine (Ip (qU k (qW l 1 s)) hm).q [1,2,3] ?_
  refine li ?_ (show _<=(k:Int)+1/\(k:Int)+1<=_ by omega)
  refine⟨⟨k+1,by omega,hM,by show (jh (qU k (qW l 1 s))).gJ<=_; omega⟩,[some 0,some 1,some 2,some 3],show l.length - (k+1) < l.length - k by omega,?_⟩
  repeat' first|exact trivial|exact rfl|exact Iff.rfl|exact not_false|refine And.intro ?_ ?_
 ·have h':¬ (k:Int) < ((bI l).length:Nat):=h
  rw[el] at h'
  obtain rfl:k=l.length:=by omega
  refine (Ak (qU l.length (qW l 1 s))).q [1,2,3] ?_
  exact rA
theorem gI {n s:Int} (h0:0<=n) (h:n % s=0):n.tmod s=0:=by
 rw[Int.tmod_eq_emod_of_nonneg h0]; exact h
theorem Uq (d n m:Int) (hd:0<=d/\d<=7) (hn:0<=n/\n<=7) (hm:0<=m/\m<=7) :aq ⟨66,d,n,m,0,0,0,0,0,0,0⟩:=by
 unfold aq
 show aF _ (bX (aa 66))
 rw[show aa 66=21 by decide,show bX 21 = { eF with rd:=3,rn:=3,rm:=3,kind:=true,set:=true } from rfl]
 refine⟨(show (1:Int)<=66/\(66:Int)<=100 by decide),(show aE 3 d from by unfold aE; omega),(show aE 3 n from by unfold aE; omega),(show aE 3 m from by unfold aE; omega),(show aE 0 0 from .inr (.inr (.inr ⟨by decide,by decide,by decide,rfl⟩))),.inl ⟨rfl,rfl⟩,.inl rfl,.inl ⟨rfl,rfl⟩,.inl rfl,.inl ⟨rfl,.inl ⟨rfl,(show (0:Int)<=0/\(0:Int) < 32 by decide)⟩⟩,?_⟩
 refine⟨fun h=>absurd (show (66:Int)=1 from h) (by decide),fun h=>absurd (show (66:Int)=2\/(66:Int)=3 from h) (by decide),fun h=>absurd (show (66:Int)=29 from h) (by decide),fun h=>absurd (show (66:Int)=95\/(66:Int)=96 from h) (by decide),?_⟩
 show aa 66=18\/aa 66=19\/aa 66=20->_
 rw[show aa 66=21 by decide]
 exact fun h=>absurd h (by decide)
theorem Ur (d n m:Int) (hd:0<=d/\d<=7) (hn:0<=n/\n<=7) (hm:0<=m/\m<=7) :aq ⟨68,d,n,m,0,0,0,0,0,0,0⟩:=by
 unfold aq
 show aF _ (bX (aa 68))
 rw[show aa 68=21 by decide,show bX 21 = { eF with rd:=3,rn:=3,rm:=3,kind:=true,set:=true } from rfl]
 refine⟨(show (1:Int)<=68/\(68:Int)<=100 by decide),(show aE 3 d from by unfold aE; omega),(show aE 3 n from by unfold aE; omega),(show aE 3 m from by unfold aE; omega),(show aE 0 0 from .inr (.inr (.inr ⟨by decide,by decide,by decide,rfl⟩))),.inl ⟨rfl,rfl⟩,.inl rfl,.inl ⟨rfl,rfl⟩,.inl rfl,.inl ⟨rfl,.inl ⟨rfl,(show (0:Int)<=0/\(0:Int) < 32 by decide)⟩⟩,?_⟩
 refine⟨fun h=>absurd (show (68:Int)=1 from h) (by decide),fun h=>absurd (show (68:Int)=2\/(68:Int)=3 from h) (by decide),fun h=>absurd (show (68:Int)=29 from h) (by decide),fun h=>absurd (show (68:Int)=95\/(68:Int)=96 from h) (by decide),?_⟩
 show aa 68=18\/aa 68=19\/aa 68=20->_
 rw[show aa 68=21 by decide]
 exact fun h=>absurd h (by decide)
theorem JZ (d n m:Int) (hd:0<=d/\d<=7) (hn:0<=n/\n<=7) (hm:0<=m/\m<=7) :aq ⟨70,d,n,m,0,0,0,0,0,0,0⟩:=by
 unfold aq
 show aF _ (bX (aa 70))
 rw[show aa 70=21 by decide,show bX 21 = { eF with rd:=3,rn:=3,rm:=3,kind:=true,set:=true } from rfl]
 refine⟨(show (1:Int)<=70/\(70:Int)<=100 by decide),(show aE 3 d from by unfold aE; omega),(show aE 3 n from by unfold aE; omega),(show aE 3 m from by unfold aE; omega),(show aE 0 0 from .inr (.inr (.inr ⟨by decide,by decide,by decide,rfl⟩))),.inl ⟨rfl,rfl⟩,.inl rfl,.inl ⟨rfl,rfl⟩,.inl rfl,.inl ⟨rfl,.inl ⟨rfl,(show (0:Int)<=0/\(0:Int) < 32 by decide)⟩⟩,?_⟩
 refine⟨fun h=>absurd (show (70:Int)=1 from h) (by decide),fun h=>absurd (show (70:Int)=2\/(70:Int)=3 from h) (by decide),fun h=>absurd (show (70:Int)=29 from h) (by decide),fun h=>absurd (show (70:Int)=95\/(70:Int)=96 from h) (by decide),?_⟩
 show aa 70=18\/aa 70=19\/aa 70=20->_
 rw[show aa 70=21 by decide]
 exact fun h=>absurd h (by decide)
theorem Us (d n m:Int) (hd:0<=d/\d<=7) (hn:0<=n/\n<=7) (hm:0<=m/\m<=7) :aq ⟨72,d,n,m,0,0,0,0,0,0,0⟩:=by
 unfold aq
 show aF _ (bX (aa 72))
 rw[show aa 72=21 by decide,show bX 21 = { eF with rd:=3,rn:=3,rm:=3,kind:=true,set:=true } from rfl]
 refine⟨(show (1:Int)<=72/\(72:Int)<=100 by decide),(show aE 3 d from by unfold aE; omega),(show aE 3 n from by unfold aE; omega),(show aE 3 m from by unfold aE; omega),(show aE 0 0 from .inr (.inr (.inr ⟨by decide,by decide,by decide,rfl⟩))),.inl ⟨rfl,rfl⟩,.inl rfl,.inl ⟨rfl,rfl⟩,.inl rfl,.inl ⟨rfl,.inl ⟨rfl,(show (0:Int)<=0/\(0:Int) < 32 by decide)⟩⟩,?_⟩
 refine⟨fun h=>absurd (show (72:Int)=1 from h) (by decide),fun h=>absurd (show (72:Int)=2\/(72:Int)=3 from h) (by decide),fun h=>absurd (show (72:Int)=29 from h) (by decide),fun h=>absurd (show (72:Int)=95\/(72:Int)=96 from h) (by decide),?_⟩
 show aa 72=18\/aa 72=19\/aa 72=20->_
 rw[show aa 72=21 by decide]
 exact fun h=>absurd h (by decide)
theorem yG (d n m:Int) (hd:0<=d/\d<=7) (hn:0<=n/\n<=7) (hm:0<=m/\m<=7) :aq ⟨73,d,n,m,0,0,0,0,0,0,0⟩:=by
 unfold aq
 show aF _ (bX (aa 73))
 rw[show aa 73=21 by decide,show bX 21 = { eF with rd:=3,rn:=3,rm:=3,kind:=true,set:=true } from rfl]
 refine⟨(show (1:Int)<=73/\(73:Int)<=100 by decide),(show aE 3 d from by unfold aE; omega),(show aE 3 n from by unfold aE; omega),(show aE 3 m from by unfold aE; omega),(show aE 0 0 from .inr (.inr (.inr ⟨by decide,by decide,by decide,rfl⟩))),.inl ⟨rfl,rfl⟩,.inl rfl,.inl ⟨rfl,rfl⟩,.inl rfl,.inl ⟨rfl,.inl ⟨rfl,(show (0:Int)<=0/\(0:Int) < 32 by decide)⟩⟩,?_⟩
 refine⟨fun h=>absurd (show (73:Int)=1 from h) (by decide),fun h=>absurd (show (73:Int)=2\/(73:Int)=3 from h) (by decide),fun h=>absurd (show (73:Int)=29 from h) (by decide),fun h=>absurd (show (73:Int)=95\/(73:Int)=96 from h) (by decide),?_⟩
 show aa 73=18\/aa 73=19\/aa 73=20->_
 rw[show aa 73=21 by decide]
 exact fun h=>absurd h (by decide)
theorem Qg (d n m:Int) (hd:0<=d/\d<=7) (hn:0<=n/\n<=7) (hm:0<=m/\m<=7) :aq ⟨73,d,n,m,0,0,0,0,1,0,0⟩:=by
 unfold aq
 show aF _ (bX (aa 73))
 rw[show aa 73=21 by decide,show bX 21 = { eF with rd:=3,rn:=3,rm:=3,kind:=true,set:=true } from rfl]
 refine⟨(show (1:Int)<=73/\(73:Int)<=100 by decide),(show aE 3 d from by unfold aE; omega),(show aE 3 n from by unfold aE; omega),(show aE 3 m from by unfold aE; omega),(show aE 0 0 from .inr (.inr (.inr ⟨by decide,by decide,by decide,rfl⟩))),.inl ⟨rfl,rfl⟩,.inl rfl,.inl ⟨rfl,rfl⟩,.inr ⟨rfl,rfl⟩,.inl ⟨rfl,.inl ⟨rfl,(show (0:Int)<=0/\(0:Int) < 32 by decide)⟩⟩,?_⟩
 refine⟨fun h=>absurd (show (73:Int)=1 from h) (by decide),fun h=>absurd (show (73:Int)=2\/(73:Int)=3 from h) (by decide),fun h=>absurd (show (73:Int)=29 from h) (by decide),fun h=>absurd (show (73:Int)=95\/(73:Int)=96 from h) (by decide),?_⟩
 show aa 73=18\/aa 73=19\/aa 73=20->_
 rw[show aa 73=21 by decide]
 exact fun h=>absurd h (by decide)
theorem Ut (d n m:Int) (hd:0<=d/\d<=7) (hn:0<=n/\n<=7) (hm:0<=m/\m<=7) :aq ⟨4,d,n,m,0,0,0,0,0,0,0⟩:=by
 unfold aq
 show aF _ (bX (aa 4))
 rw[show aa 4=2 by decide,show bX 2 = { eF with rd:=1,rn:=1,rm:=1 } from rfl]
 refine⟨(show (1:Int)<=4/\(4:Int)<=100 by decide),(show aE 1 d from by unfold aE; omega),(show aE 1 n from by unfold aE; omega),(show aE 1 m from by unfold aE; omega),(show aE 0 0 from .inr (.inr (.inr ⟨by decide,by decide,by decide,rfl⟩))),.inl ⟨rfl,rfl⟩,.inl rfl,.inl ⟨rfl,rfl⟩,.inl rfl,.inr ⟨Bool.false_ne_true,rfl,.inl ⟨rfl,rfl⟩⟩,?_⟩
 refine⟨fun h=>absurd (show (4:Int)=1 from h) (by decide),fun h=>absurd (show (4:Int)=2\/(4:Int)=3 from h) (by decide),fun h=>absurd (show (4:Int)=29 from h) (by decide),fun h=>absurd (show (4:Int)=95\/(4:Int)=96 from h) (by decide),?_⟩
 show aa 4=18\/aa 4=19\/aa 4=20->_
 rw[show aa 4=2 by decide]
 exact fun h=>absurd h (by decide)
theorem IC (d n m:Int) (hd:0<=d/\d<=7) (hn:0<=n/\n<=7) (hm:0<=m/\m<=7) :aq ⟨5,d,n,m,0,0,0,0,0,0,0⟩:=by
 unfold aq
 show aF _ (bX (aa 5))
 rw[show aa 5=2 by decide,show bX 2 = { eF with rd:=1,rn:=1,rm:=1 } from rfl]
 refine⟨(show (1:Int)<=5/\(5:Int)<=100 by decide),(show aE 1 d from by unfold aE; omega),(show aE 1 n from by unfold aE; omega),(show aE 1 m from by unfold aE; omega),(show aE 0 0 from .inr (.inr (.inr ⟨by decide,by decide,by decide,rfl⟩))),.inl ⟨rfl,rfl⟩,.inl rfl,.inl ⟨rfl,rfl⟩,.inl rfl,.inr ⟨Bool.false_ne_true,rfl,.inl ⟨rfl,rfl⟩⟩,?_⟩
 refine⟨fun h=>absurd (show (5:Int)=1 from h) (by decide),fun h=>absurd (show (5:Int)=2\/(5:Int)=3 from h) (by decide),fun h=>absurd (show (5:Int)=29 from h) (by decide),fun h=>absurd (show (5:Int)=95\/(5:Int)=96 from h) (by decide),?_⟩
 show aa 5=18\/aa 5=19\/aa 5=20->_
 rw[show aa 5=2 by decide]
 exact fun h=>absurd h (by decide)
theorem Uu (d n m:Int) (hd:0<=d/\d<=7) (hn:0<=n/\n<=7) (hm:0<=m/\m<=7) :aq ⟨92,d,n,m,0,0,0,0,0,0,0⟩:=by
 unfold aq
 show aF _ (bX (aa 92))
 rw[show aa 92=28 by decide,show bX 28 = { eF with rd:=3,rn:=3,rm:=3 } from rfl]
 refine⟨(show (1:Int)<=92/\(92:Int)<=100 by decide),(show aE 3 d from by unfold aE; omega),(show aE 3 n from by unfold aE; omega),(show aE 3 m from by unfold aE; omega),(show aE 0 0 from .inr (.inr (.inr ⟨by decide,by decide,by decide,rfl⟩))),.inl ⟨rfl,rfl⟩,.inl rfl,.inl ⟨rfl,rfl⟩,.inl rfl,.inr ⟨Bool.false_ne_true,rfl,.inl ⟨rfl,rfl⟩⟩,?_⟩
 refine⟨fun h=>absurd (show (92:Int)=1 from h) (by decide),fun h=>absurd (show (92:Int)=2\/(92:Int)=3 from h) (by decide),fun h=>absurd (show (92:Int)=29 from h) (by decide),fun h=>absurd (show (92:Int)=95\/(92:Int)=96 from h) (by decide),?_⟩
 show aa 92=18\/aa 92=19\/aa 92=20->_
 rw[show aa 92=28 by decide]
 exact fun h=>absurd h (by decide)
theorem Uv (d n m:Int) (hd:0<=d/\d<=7) (hn:0<=n/\n<=7) (hm:0<=m/\m<=7) :aq ⟨97,d,n,m,0,0,0,0,0,0,0⟩:=by
 unfold aq
 show aF _ (bX (aa 97))
 rw[show aa 97=28 by decide,show bX 28 = { eF with rd:=3,rn:=3,rm:=3 } from rfl]
 refine⟨(show (1:Int)<=97/\(97:Int)<=100 by decide),(show aE 3 d from by unfold aE; omega),(show aE 3 n from by unfold aE; omega),(show aE 3 m from by unfold aE; omega),(show aE 0 0 from .inr (.inr (.inr ⟨by decide,by decide,by decide,rfl⟩))),.inl ⟨rfl,rfl⟩,.inl rfl,.inl ⟨rfl,rfl⟩,.inl rfl,.inr ⟨Bool.false_ne_true,rfl,.inl ⟨rfl,rfl⟩⟩,?_⟩
 refine⟨fun h=>absurd (show (97:Int)=1 from h) (by decide),fun h=>absurd (show (97:Int)=2\/(97:Int)=3 from h) (by decide),fun h=>absurd (show (97:Int)=29 from h) (by decide),fun h=>absurd (show (97:Int)=95\/(97:Int)=96 from h) (by decide),?_⟩
 show aa 97=18\/aa 97=19\/aa 97=20->_
 rw[show aa 97=28 by decide]
 exact fun h=>absurd h (by decide)
theorem Uw (d n m:Int) (hd:0<=d/\d<=7) (hn:0<=n/\n<=7) (hm:0<=m/\m<=7) :aq ⟨88,d,n,m,0,0,0,0,0,0,0⟩:=by
 unfold aq
 show aF _ (bX (aa 88))
 rw[show aa 88=27 by decide,show bX 27 = { eF with rd:=3,rn:=3,rm:=3,set:=true } from rfl]
 refine⟨(show (1:Int)<=88/\(88:Int)<=100 by decide),(show aE 3 d from by unfold aE; omega),(show aE 3 n from by unfold aE; omega),(show aE 3 m from by unfold aE; omega),(show aE 0 0 from .inr (.inr (.inr ⟨by decide,by decide,by decide,rfl⟩))),.inl ⟨rfl,rfl⟩,.inl rfl,.inl ⟨rfl,rfl⟩,.inl rfl,.inr ⟨Bool.false_ne_true,rfl,.inl ⟨rfl,rfl⟩⟩,?_⟩
 refine⟨fun h=>absurd (show (88:Int)=1 from h) (by decide),fun h=>absurd (show (88:Int)=2\/(88:Int)=3 from h) (by decide),fun h=>absurd (show (88:Int)=29 from h) (by decide),fun h=>absurd (show (88:Int)=95\/(88:Int)=96 from h) (by decide),?_⟩
 show aa 88=18\/aa 88=19\/aa 88=20->_
 rw[show aa 88=27 by decide]
 exact fun h=>absurd h (by decide)
theorem Ux (d n m:Int) (hd:0<=d/\d<=7) (hn:0<=n/\n<=7) (hm:0<=m/\m<=7) :aq ⟨89,d,n,m,0,0,0,0,0,0,0⟩:=by
 unfold aq
 show aF _ (bX (aa 89))
 rw[show aa 89=27 by decide,show bX 27 = { eF with rd:=3,rn:=3,rm:=3,set:=true } from rfl]
 refine⟨(show (1:Int)<=89/\(89:Int)<=100 by decide),(show aE 3 d from by unfold aE; omega),(show aE 3 n from by unfold aE; omega),(show aE 3 m from by unfold aE; omega),(show aE 0 0 from .inr (.inr (.inr ⟨by decide,by decide,by decide,rfl⟩))),.inl ⟨rfl,rfl⟩,.inl rfl,.inl ⟨rfl,rfl⟩,.inl rfl,.inr ⟨Bool.false_ne_true,rfl,.inl ⟨rfl,rfl⟩⟩,?_⟩
 refine⟨fun h=>absurd (show (89:Int)=1 from h) (by decide),fun h=>absurd (show (89:Int)=2\/(89:Int)=3 from h) (by decide),fun h=>absurd (show (89:Int)=29 from h) (by decide),fun h=>absurd (show (89:Int)=95\/(89:Int)=96 from h) (by decide),?_⟩
 show aa 89=18\/aa 89=19\/aa 89=20->_
 rw[show aa 89=27 by decide]
 exact fun h=>absurd h (by decide)
theorem Uy (d n m:Int) (hd:0<=d/\d<=7) (hn:0<=n/\n<=7) (hm:0<=m/\m<=7) :aq ⟨91,d,n,m,0,0,0,0,0,0,0⟩:=by
 unfold aq
 show aF _ (bX (aa 91))
 rw[show aa 91=27 by decide,show bX 27 = { eF with rd:=3,rn:=3,rm:=3,set:=true } from rfl]
 refine⟨(show (1:Int)<=91/\(91:Int)<=100 by decide),(show aE 3 d from by unfold aE; omega),(show aE 3 n from by unfold aE; omega),(show aE 3 m from by unfold aE; omega),(show aE 0 0 from .inr (.inr (.inr ⟨by decide,by decide,by decide,rfl⟩))),.inl ⟨rfl,rfl⟩,.inl rfl,.inl ⟨rfl,rfl⟩,.inl rfl,.inr ⟨Bool.false_ne_true,rfl,.inl ⟨rfl,rfl⟩⟩,?_⟩
 refine⟨fun h=>absurd (show (91:Int)=1 from h) (by decide),fun h=>absurd (show (91:Int)=2\/(91:Int)=3 from h) (by decide),fun h=>absurd (show (91:Int)=29 from h) (by decide),fun h=>absurd (show (91:Int)=95\/(91:Int)=96 from h) (by decide),?_⟩
 show aa 91=18\/aa 91=19\/aa 91=20->_
 rw[show aa 91=27 by decide]
 exact fun h=>absurd h (by decide)
theorem Uz (d k:Int) (hd:0<=d/\d<=7) (hk:0<=k/\k<=1020/\k % 4=0):aq ⟨37,d,0,0,0,k,0,0,0,0,0⟩:=by
 unfold aq
 show aF _ (bX (aa 37))
 rw[show aa 37=8 by decide,show bX 8 = { eF with rd:=1,i1:=1020,i2:=4 } from rfl]
 refine⟨(show (1:Int)<=37/\(37:Int)<=100 by decide),(show aE 1 d from by unfold aE; omega),(show aE 0 0 from .inr (.inr (.inr ⟨by decide,by decide,by decide,rfl⟩))),(show aE 0 0 from .inr (.inr (.inr ⟨by decide,by decide,by decide,rfl⟩))),(show aE 0 0 from .inr (.inr (.inr ⟨by decide,by decide,by decide,rfl⟩))),.inl ⟨rfl,rfl⟩,.inl rfl,(show dd (0) 1020 4 k from .inr ⟨by decide,by omega,by omega,gI (by omega) (by omega)⟩),.inl rfl,.inr ⟨Bool.false_ne_true,rfl,.inl ⟨rfl,rfl⟩⟩,?_⟩
 refine⟨fun h=>absurd (show (37:Int)=1 from h) (by decide),fun h=>absurd (show (37:Int)=2\/(37:Int)=3 from h) (by decide),fun h=>absurd (show (37:Int)=29 from h) (by decide),fun h=>absurd (show (37:Int)=95\/(37:Int)=96 from h) (by decide),?_⟩
 show aa 37=18\/aa 37=19\/aa 37=20->_
 rw[show aa 37=8 by decide]
 exact fun h=>absurd h (by decide)
theorem UA (d k:Int) (hd:0<=d/\d<=7) (hk:0<=k/\k<=1020/\k % 4=0):aq ⟨38,d,0,0,0,k,0,0,0,0,0⟩:=by
 unfold aq
 show aF _ (bX (aa 38))
 rw[show aa 38=8 by decide,show bX 8 = { eF with rd:=1,i1:=1020,i2:=4 } from rfl]
 refine⟨(show (1:Int)<=38/\(38:Int)<=100 by decide),(show aE 1 d from by unfold aE; omega),(show aE 0 0 from .inr (.inr (.inr ⟨by decide,by decide,by decide,rfl⟩))),(show aE 0 0 from .inr (.inr (.inr ⟨by decide,by decide,by decide,rfl⟩))),(show aE 0 0 from .inr (.inr (.inr ⟨by decide,by decide,by decide,rfl⟩))),.inl ⟨rfl,rfl⟩,.inl rfl,(show dd (0) 1020 4 k from .inr ⟨by decide,by omega,by omega,gI (by omega) (by omega)⟩),.inl rfl,.inr ⟨Bool.false_ne_true,rfl,.inl ⟨rfl,rfl⟩⟩,?_⟩
 refine⟨fun h=>absurd (show (38:Int)=1 from h) (by decide),fun h=>absurd (show (38:Int)=2\/(38:Int)=3 from h) (by decide),fun h=>absurd (show (38:Int)=29 from h) (by decide),fun h=>absurd (show (38:Int)=95\/(38:Int)=96 from h) (by decide),?_⟩
 show aa 38=18\/aa 38=19\/aa 38=20->_
 rw[show aa 38=8 by decide]
 exact fun h=>absurd h (by decide)
theorem UB (d k:Int) (hd:0<=d/\d<=7) (hk:0<=k/\k<=1020/\k % 4=0):aq ⟨39,d,0,0,0,k,0,0,0,0,0⟩:=by
 unfold aq
 show aF _ (bX (aa 39))
 rw[show aa 39=8 by decide,show bX 8 = { eF with rd:=1,i1:=1020,i2:=4 } from rfl]
 refine⟨(show (1:Int)<=39/\(39:Int)<=100 by decide),(show aE 1 d from by unfold aE; omega),(show aE 0 0 from .inr (.inr (.inr ⟨by decide,by decide,by decide,rfl⟩))),(show aE 0 0 from .inr (.inr (.inr ⟨by decide,by decide,by decide,rfl⟩))),(show aE 0 0 from .inr (.inr (.inr ⟨by decide,by decide,by decide,rfl⟩))),.inl ⟨rfl,rfl⟩,.inl rfl,(show dd (0) 1020 4 k from .inr ⟨by decide,by omega,by omega,gI (by omega) (by omega)⟩),.inl rfl,.inr ⟨Bool.false_ne_true,rfl,.inl ⟨rfl,rfl⟩⟩,?_⟩
 refine⟨fun h=>absurd (show (39:Int)=1 from h) (by decide),fun h=>absurd (show (39:Int)=2\/(39:Int)=3 from h) (by decide),fun h=>absurd (show (39:Int)=29 from h) (by decide),fun h=>absurd (show (39:Int)=95\/(39:Int)=96 from h) (by decide),?_⟩
 show aa 39=18\/aa 39=19\/aa 39=20->_
 rw[show aa 39=8 by decide]
 exact fun h=>absurd h (by decide)
theorem UC (d n m:Int) (hd:0<=d/\d<=7) (hn:0<=n/\n<=7) (hm:0<=m/\m<=7) :aq ⟨86,d,n,m,0,0,0,2,0,0,0⟩:=by
 unfold aq
 show aF _ (bX (aa 86))
 rw[show aa 86=26 by decide,show bX 26 = { eF with rd:=3,rn:=2,rm:=3,b1:=3,b2:=1 } from rfl]
 refine⟨(show (1:Int)<=86/\(86:Int)<=100 by decide),(show aE 3 d from by unfold aE; omega),(show aE 2 n from by unfold aE; omega),(show aE 3 m from by unfold aE; omega),(show aE 0 0 from .inr (.inr (.inr ⟨by decide,by decide,by decide,rfl⟩))),.inl ⟨rfl,rfl⟩,.inl rfl,.inl ⟨rfl,rfl⟩,.inl rfl,.inr ⟨Bool.false_ne_true,rfl,(show dd 0 3 1 2 from .inr ⟨by decide,by decide,by decide,by decide⟩)⟩,?_⟩
 refine⟨fun h=>absurd (show (86:Int)=1 from h) (by decide),fun h=>absurd (show (86:Int)=2\/(86:Int)=3 from h) (by decide),fun h=>absurd (show (86:Int)=29 from h) (by decide),fun h=>absurd (show (86:Int)=95\/(86:Int)=96 from h) (by decide),?_⟩
 show aa 86=18\/aa 86=19\/aa 86=20->_
 rw[show aa 86=26 by decide]
 exact fun h=>absurd h (by decide)
theorem UD (d n m:Int) (hd:0<=d/\d<=7) (hn:0<=n/\n<=7) (hm:0<=m/\m<=7) :aq ⟨87,d,n,m,0,0,0,2,0,0,0⟩:=by
 unfold aq
 show aF _ (bX (aa 87))
 rw[show aa 87=26 by decide,show bX 26 = { eF with rd:=3,rn:=2,rm:=3,b1:=3,b2:=1 } from rfl]
 refine⟨(show (1:Int)<=87/\(87:Int)<=100 by decide),(show aE 3 d from by unfold aE; omega),(show aE 2 n from by unfold aE; omega),(show aE 3 m from by unfold aE; omega),(show aE 0 0 from .inr (.inr (.inr ⟨by decide,by decide,by decide,rfl⟩))),.inl ⟨rfl,rfl⟩,.inl rfl,.inl ⟨rfl,rfl⟩,.inl rfl,.inr ⟨Bool.false_ne_true,rfl,(show dd 0 3 1 2 from .inr ⟨by decide,by decide,by decide,by decide⟩)⟩,?_⟩
 refine⟨fun h=>absurd (show (87:Int)=1 from h) (by decide),fun h=>absurd (show (87:Int)=2\/(87:Int)=3 from h) (by decide),fun h=>absurd (show (87:Int)=29 from h) (by decide),fun h=>absurd (show (87:Int)=95\/(87:Int)=96 from h) (by decide),?_⟩
 show aa 87=18\/aa 87=19\/aa 87=20->_
 rw[show aa 87=26 by decide]
 exact fun h=>absurd h (by decide)
theorem ID (d m k:Int) (hd:0<=d/\d<=7) (hm:0<=m/\m<=7) (hk:1<=k/\k<=31):aq ⟨2,d,0,m,0,k,0,0,0,0,0⟩:=by
 unfold aq
 show aF _ (bX (aa 2))
 rw[show aa 2=1 by decide,show bX 1 = { eF with rd:=1,rm:=1,i0:=0,i1:=32,i2:=1 } from rfl]
 refine⟨(show (1:Int)<=2/\(2:Int)<=100 by decide),(show aE 1 d from by unfold aE; omega),(show aE 0 0 from .inr (.inr (.inr ⟨by decide,by decide,by decide,rfl⟩))),(show aE 1 m from by unfold aE; omega),(show aE 0 0 from .inr (.inr (.inr ⟨by decide,by decide,by decide,rfl⟩))),.inl ⟨rfl,rfl⟩,.inl rfl,(show dd (0) 32 1 k from .inr ⟨by decide,by omega,by omega,gI (by omega) (by omega)⟩),.inl rfl,.inr ⟨Bool.false_ne_true,rfl,.inl ⟨rfl,rfl⟩⟩,?_⟩
 refine⟨fun h=>absurd (show (2:Int)=1 from h) (by decide),fun _=>(show 0 < k by omega),fun h=>absurd (show (2:Int)=29 from h) (by decide),fun h=>absurd (show (2:Int)=95\/(2:Int)=96 from h) (by decide),?_⟩
 show aa 2=18\/aa 2=19\/aa 2=20->_
 rw[show aa 2=1 by decide]
 exact fun h=>absurd h (by decide)
theorem Yl (d m k:Int) (hd:0<=d/\d<=7) (hm:0<=m/\m<=7) (hk:1<=k/\k<=31):aq ⟨1,d,0,m,0,k,0,0,0,0,0⟩:=by
 unfold aq
 show aF _ (bX (aa 1))
 rw[show aa 1=1 by decide,show bX 1 = { eF with rd:=1,rm:=1,i0:=0,i1:=32,i2:=1 } from rfl]
 refine⟨(show (1:Int)<=1/\(1:Int)<=100 by decide),(show aE 1 d from by unfold aE; omega),(show aE 0 0 from .inr (.inr (.inr ⟨by decide,by decide,by decide,rfl⟩))),(show aE 1 m from by unfold aE; omega),(show aE 0 0 from .inr (.inr (.inr ⟨by decide,by decide,by decide,rfl⟩))),.inl ⟨rfl,rfl⟩,.inl rfl,(show dd (0) 32 1 k from .inr ⟨by decide,by omega,by omega,gI (by omega) (by omega)⟩),.inl rfl,.inr ⟨Bool.false_ne_true,rfl,.inl ⟨rfl,rfl⟩⟩,?_⟩
 refine⟨fun _=>(show k < 32 by omega),fun h=>absurd (show (1:Int)=2\/(1:Int)=3 from h) (by decide),fun h=>absurd (show (1:Int)=29 from h) (by decide),fun h=>absurd (show (1:Int)=95\/(1:Int)=96 from h) (by decide),?_⟩
 show aa 1=18\/aa 1=19\/aa 1=20->_
 rw[show aa 1=1 by decide]
 exact fun h=>absurd h (by decide)
theorem UE (d n m a:Int) (hd:0<=d/\d<=7) (hn:0<=n/\n<=7) (hm:0<=m/\m<=7) (ha:0<=a/\a<=7) (hda:d≠a):aq ⟨95,d,n,m,a,0,0,0,0,0,0⟩:=by
 unfold aq
 show aF _ (bX (aa 95))
 rw[show aa 95=31 by decide,show bX 31 = { eF with rd:=3,rn:=3,rm:=3,ra:=3 } from rfl]
 refine⟨(show (1:Int)<=95/\(95:Int)<=100 by decide),(show aE 3 d from by unfold aE; omega),(show aE 3 n from by unfold aE; omega),(show aE 3 m from by unfold aE; omega),(show aE 3 a from by unfold aE; omega),.inl ⟨rfl,rfl⟩,.inl rfl,.inl ⟨rfl,rfl⟩,.inl rfl,.inr ⟨Bool.false_ne_true,rfl,.inl ⟨rfl,rfl⟩⟩,?_⟩
 refine⟨fun h=>absurd (show (95:Int)=1 from h) (by decide),fun h=>absurd (show (95:Int)=2\/(95:Int)=3 from h) (by decide),fun h=>absurd (show (95:Int)=29 from h) (by decide),fun _=>hda,?_⟩
 show aa 95=18\/aa 95=19\/aa 95=20->_
 rw[show aa 95=31 by decide]
 exact fun h=>absurd h (by decide)
theorem Ym (d k:Int) (hd:0<=d/\d<=7) (hk:0<=k/\k<=255):aq ⟨8,d,0,0,0,k,0,0,0,0,0⟩:=by
 unfold aq
 show aF _ (bX (aa 8))
 rw[show aa 8=4 by decide,show bX 4 = { eF with rd:=1,i1:=255,i2:=1 } from rfl]
 refine⟨(show (1:Int)<=8/\(8:Int)<=100 by decide),(show aE 1 d from by unfold aE; omega),(show aE 0 0 from .inr (.inr (.inr ⟨by decide,by decide,by decide,rfl⟩))),(show aE 0 0 from .inr (.inr (.inr ⟨by decide,by decide,by decide,rfl⟩))),(show aE 0 0 from .inr (.inr (.inr ⟨by decide,by decide,by decide,rfl⟩))),.inl ⟨rfl,rfl⟩,.inl rfl,(show dd (0) 255 1 k from .inr ⟨by decide,by omega,by omega,gI (by omega) (by omega)⟩),.inl rfl,.inr ⟨Bool.false_ne_true,rfl,.inl ⟨rfl,rfl⟩⟩,?_⟩
 refine⟨fun h=>absurd (show (8:Int)=1 from h) (by decide),fun h=>absurd (show (8:Int)=2\/(8:Int)=3 from h) (by decide),fun h=>absurd (show (8:Int)=29 from h) (by decide),fun h=>absurd (show (8:Int)=95\/(8:Int)=96 from h) (by decide),?_⟩
 show aa 8=18\/aa 8=19\/aa 8=20->_
 rw[show aa 8=4 by decide]
 exact fun h=>absurd h (by decide)
theorem UF (d k:Int) (hd:0<=d/\d<=7) (hk:0<=k/\k<=255):aq ⟨9,d,0,0,0,k,0,0,0,0,0⟩:=by
 unfold aq
 show aF _ (bX (aa 9))
 rw[show aa 9=4 by decide,show bX 4 = { eF with rd:=1,i1:=255,i2:=1 } from rfl]
 refine⟨(show (1:Int)<=9/\(9:Int)<=100 by decide),(show aE 1 d from by unfold aE; omega),(show aE 0 0 from .inr (.inr (.inr ⟨by decide,by decide,by decide,rfl⟩))),(show aE 0 0 from .inr (.inr (.inr ⟨by decide,by decide,by decide,rfl⟩))),(show aE 0 0 from .inr (.inr (.inr ⟨by decide,by decide,by decide,rfl⟩))),.inl ⟨rfl,rfl⟩,.inl rfl,(show dd (0) 255 1 k from .inr ⟨by decide,by omega,by omega,gI (by omega) (by omega)⟩),.inl rfl,.inr ⟨Bool.false_ne_true,rfl,.inl ⟨rfl,rfl⟩⟩,?_⟩
 refine⟨fun h=>absurd (show (9:Int)=1 from h) (by decide),fun h=>absurd (show (9:Int)=2\/(9:Int)=3 from h) (by decide),fun h=>absurd (show (9:Int)=29 from h) (by decide),fun h=>absurd (show (9:Int)=95\/(9:Int)=96 from h) (by decide),?_⟩
 show aa 9=18\/aa 9=19\/aa 9=20->_
 rw[show aa 9=4 by decide]
 exact fun h=>absurd h (by decide)
theorem UG (d k:Int) (hd:0<=d/\d<=7) (hk:0<=k/\k<=255):aq ⟨11,d,0,0,0,k,0,0,0,0,0⟩:=by
 unfold aq
 show aF _ (bX (aa 11))
 rw[show aa 11=4 by decide,show bX 4 = { eF with rd:=1,i1:=255,i2:=1 } from rfl]
 refine⟨(show (1:Int)<=11/\(11:Int)<=100 by decide),(show aE 1 d from by unfold aE; omega),(show aE 0 0 from .inr (.inr (.inr ⟨by decide,by decide,by decide,rfl⟩))),(show aE 0 0 from .inr (.inr (.inr ⟨by decide,by decide,by decide,rfl⟩))),(show aE 0 0 from .inr (.inr (.inr ⟨by decide,by decide,by decide,rfl⟩))),.inl ⟨rfl,rfl⟩,.inl rfl,(show dd (0) 255 1 k from .inr ⟨by decide,by omega,by omega,gI (by omega) (by omega)⟩),.inl rfl,.inr ⟨Bool.false_ne_true,rfl,.inl ⟨rfl,rfl⟩⟩,?_⟩
 refine⟨fun h=>absurd (show (11:Int)=1 from h) (by decide),fun h=>absurd (show (11:Int)=2\/(11:Int)=3 from h) (by decide),fun h=>absurd (show (11:Int)=29 from h) (by decide),fun h=>absurd (show (11:Int)=95\/(11:Int)=96 from h) (by decide),?_⟩
 show aa 11=18\/aa 11=19\/aa 11=20->_
 rw[show aa 11=4 by decide]
 exact fun h=>absurd h (by decide)
theorem UH (d k:Int) (hd:0<=d/\d<=7) (hk:0<=k/\k<=4095) (hw:Rm.c_ k=0):aq ⟨60,d,0,0,0,k,0,0,0,0,0⟩:=by
 unfold aq
 show aF _ (bX (aa 60))
 rw[show aa 60=19 by decide,show bX 19 = { eF with rd:=3,i1:=4095,i2:=1,set:=true } from rfl]
 refine⟨(show (1:Int)<=60/\(60:Int)<=100 by decide),(show aE 3 d from by unfold aE; omega),(show aE 0 0 from .inr (.inr (.inr ⟨by decide,by decide,by decide,rfl⟩))),(show aE 0 0 from .inr (.inr (.inr ⟨by decide,by decide,by decide,rfl⟩))),(show aE 0 0 from .inr (.inr (.inr ⟨by decide,by decide,by decide,rfl⟩))),.inl ⟨rfl,rfl⟩,.inl rfl,(show dd (0) 4095 1 k from .inr ⟨by decide,by omega,by omega,gI (by omega) (by omega)⟩),.inl rfl,.inr ⟨Bool.false_ne_true,rfl,.inl ⟨rfl,rfl⟩⟩,?_⟩
 refine⟨fun h=>absurd (show (60:Int)=1 from h) (by decide),fun h=>absurd (show (60:Int)=2\/(60:Int)=3 from h) (by decide),fun h=>absurd (show (60:Int)=29 from h) (by decide),fun h=>absurd (show (60:Int)=95\/(60:Int)=96 from h) (by decide),?_⟩
 show aa 60=18\/aa 60=19\/aa 60=20->_
 rw[show aa 60=19 by decide]
 exact fun _=>hw
theorem UI (d k:Int) (hd:0<=d/\d<=7) (hk:0<=k/\k<=4095) (hw:Rm.c_ k=0):aq ⟨61,d,0,0,0,k,0,0,0,0,0⟩:=by
 unfold aq
 show aF _ (bX (aa 61))
 rw[show aa 61=19 by decide,show bX 19 = { eF with rd:=3,i1:=4095,i2:=1,set:=true } from rfl]
 refine⟨(show (1:Int)<=61/\(61:Int)<=100 by decide),(show aE 3 d from by unfold aE; omega),(show aE 0 0 from .inr (.inr (.inr ⟨by decide,by decide,by decide,rfl⟩))),(show aE 0 0 from .inr (.inr (.inr ⟨by decide,by decide,by decide,rfl⟩))),(show aE 0 0 from .inr (.inr (.inr ⟨by decide,by decide,by decide,rfl⟩))),.inl ⟨rfl,rfl⟩,.inl rfl,(show dd (0) 4095 1 k from .inr ⟨by decide,by omega,by omega,gI (by omega) (by omega)⟩),.inl rfl,.inr ⟨Bool.false_ne_true,rfl,.inl ⟨rfl,rfl⟩⟩,?_⟩
 refine⟨fun h=>absurd (show (61:Int)=1 from h) (by decide),fun h=>absurd (show (61:Int)=2\/(61:Int)=3 from h) (by decide),fun h=>absurd (show (61:Int)=29 from h) (by decide),fun h=>absurd (show (61:Int)=95\/(61:Int)=96 from h) (by decide),?_⟩
 show aa 61=18\/aa 61=19\/aa 61=20->_
 rw[show aa 61=19 by decide]
 exact fun _=>hw
theorem J0 (d k:Int) (hd:0<=d/\d<=7) (hk:0<=k/\k<=65535):aq ⟨48,d,0,0,0,k,0,0,0,0,0⟩:=by
 unfold aq
 show aF _ (bX (aa 48))
 rw[show aa 48=17 by decide,show bX 17 = { eF with rd:=3,i1:=65535,i2:=1 } from rfl]
 refine⟨(show (1:Int)<=48/\(48:Int)<=100 by decide),(show aE 3 d from by unfold aE; omega),(show aE 0 0 from .inr (.inr (.inr ⟨by decide,by decide,by decide,rfl⟩))),(show aE 0 0 from .inr (.inr (.inr ⟨by decide,by decide,by decide,rfl⟩))),(show aE 0 0 from .inr (.inr (.inr ⟨by decide,by decide,by decide,rfl⟩))),.inl ⟨rfl,rfl⟩,.inl rfl,(show dd (0) 65535 1 k from .inr ⟨by decide,by omega,by omega,gI (by omega) (by omega)⟩),.inl rfl,.inr ⟨Bool.false_ne_true,rfl,.inl ⟨rfl,rfl⟩⟩,?_⟩
 refine⟨fun h=>absurd (show (48:Int)=1 from h) (by decide),fun h=>absurd (show (48:Int)=2\/(48:Int)=3 from h) (by decide),fun h=>absurd (show (48:Int)=29 from h) (by decide),fun h=>absurd (show (48:Int)=95\/(48:Int)=96 from h) (by decide),?_⟩
 show aa 48=18\/aa 48=19\/aa 48=20->_
 rw[show aa 48=17 by decide]
 exact fun h=>absurd h (by decide)
theorem UJ (d k:Int) (hd:0<=d/\d<=7) (hk:0<=k/\k<=65535):aq ⟨49,d,0,0,0,k,0,0,0,0,0⟩:=by
 unfold aq
 show aF _ (bX (aa 49))
 rw[show aa 49=17 by decide,show bX 17 = { eF with rd:=3,i1:=65535,i2:=1 } from rfl]
 refine⟨(show (1:Int)<=49/\(49:Int)<=100 by decide),(show aE 3 d from by unfold aE; omega),(show aE 0 0 from .inr (.inr (.inr ⟨by decide,by decide,by decide,rfl⟩))),(show aE 0 0 from .inr (.inr (.inr ⟨by decide,by decide,by decide,rfl⟩))),(show aE 0 0 from .inr (.inr (.inr ⟨by decide,by decide,by decide,rfl⟩))),.inl ⟨rfl,rfl⟩,.inl rfl,(show dd (0) 65535 1 k from .inr ⟨by decide,by omega,by omega,gI (by omega) (by omega)⟩),.inl rfl,.inr ⟨Bool.false_ne_true,rfl,.inl ⟨rfl,rfl⟩⟩,?_⟩
 refine⟨fun h=>absurd (show (49:Int)=1 from h) (by decide),fun h=>absurd (show (49:Int)=2\/(49:Int)=3 from h) (by decide),fun h=>absurd (show (49:Int)=29 from h) (by decide),fun h=>absurd (show (49:Int)=95\/(49:Int)=96 from h) (by decide),?_⟩
 show aa 49=18\/aa 49=19\/aa 49=20->_
 rw[show aa 49=17 by decide]
 exact fun h=>absurd h (by decide)
theorem UK (d m:Int) (hd:0<=d/\d<=7) (hm:0<=m/\m<=7) :aq ⟨77,d,0,m,0,0,0,0,0,0,0⟩:=by
 unfold aq
 show aF _ (bX (aa 77))
 rw[show aa 77=22 by decide,show bX 22 = { eF with rd:=3,rm:=3,kind:=true,set:=true } from rfl]
 refine⟨(show (1:Int)<=77/\(77:Int)<=100 by decide),(show aE 3 d from by unfold aE; omega),(show aE 0 0 from .inr (.inr (.inr ⟨by decide,by decide,by decide,rfl⟩))),(show aE 3 m from by unfold aE; omega),(show aE 0 0 from .inr (.inr (.inr ⟨by decide,by decide,by decide,rfl⟩))),.inl ⟨rfl,rfl⟩,.inl rfl,.inl ⟨rfl,rfl⟩,.inl rfl,.inl ⟨rfl,.inl ⟨rfl,(show (0:Int)<=0/\(0:Int) < 32 by decide)⟩⟩,?_⟩
 refine⟨fun h=>absurd (show (77:Int)=1 from h) (by decide),fun h=>absurd (show (77:Int)=2\/(77:Int)=3 from h) (by decide),fun h=>absurd (show (77:Int)=29 from h) (by decide),fun h=>absurd (show (77:Int)=95\/(77:Int)=96 from h) (by decide),?_⟩
 show aa 77=18\/aa 77=19\/aa 77=20->_
 rw[show aa 77=22 by decide]
 exact fun h=>absurd h (by decide)
theorem UL (d m k:Int) (hd:0<=d/\d<=7) (hm:0<=m/\m<=7) (hk:1<=k/\k<=31):aq ⟨76,d,0,m,0,0,3,k,0,0,0⟩:=by
 unfold aq
 show aF _ (bX (aa 76))
 rw[show aa 76=22 by decide,show bX 22 = { eF with rd:=3,rm:=3,kind:=true,set:=true } from rfl]
 refine⟨(show (1:Int)<=76/\(76:Int)<=100 by decide),(show aE 3 d from by unfold aE; omega),(show aE 0 0 from .inr (.inr (.inr ⟨by decide,by decide,by decide,rfl⟩))),(show aE 3 m from by unfold aE; omega),(show aE 0 0 from .inr (.inr (.inr ⟨by decide,by decide,by decide,rfl⟩))),.inl ⟨rfl,rfl⟩,.inl rfl,.inl ⟨rfl,rfl⟩,.inl rfl,.inl ⟨rfl,.inr (.inr ⟨rfl,(show 1<=k/\k < 32 by omega)⟩)⟩,?_⟩
 refine⟨fun h=>absurd (show (76:Int)=1 from h) (by decide),fun h=>absurd (show (76:Int)=2\/(76:Int)=3 from h) (by decide),fun h=>absurd (show (76:Int)=29 from h) (by decide),fun h=>absurd (show (76:Int)=95\/(76:Int)=96 from h) (by decide),?_⟩
 show aa 76=18\/aa 76=19\/aa 76=20->_
 rw[show aa 76=22 by decide]
 exact fun h=>absurd h (by decide)
theorem J1 (d n k:Int) (hd:0<=d/\d<=7) (hn:0<=n/\n<=7) (hk:0<=k/\k<=4095) (hw:Rm.c_ k=0):aq ⟨59,d,n,0,0,k,0,0,0,0,0⟩:=by
 unfold aq
 show aF _ (bX (aa 59))
 rw[show aa 59=18 by decide,show bX 18 = { eF with rd:=3,rn:=3,i1:=4095,i2:=1,set:=true } from rfl]
 refine⟨(show (1:Int)<=59/\(59:Int)<=100 by decide),(show aE 3 d from by unfold aE; omega),(show aE 3 n from by unfold aE; omega),(show aE 0 0 from .inr (.inr (.inr ⟨by decide,by decide,by decide,rfl⟩))),(show aE 0 0 from .inr (.inr (.inr ⟨by decide,by decide,by decide,rfl⟩))),.inl ⟨rfl,rfl⟩,.inl rfl,(show dd (0) 4095 1 k from .inr ⟨by decide,by omega,by omega,gI (by omega) (by omega)⟩),.inl rfl,.inr ⟨Bool.false_ne_true,rfl,.inl ⟨rfl,rfl⟩⟩,?_⟩
 refine⟨fun h=>absurd (show (59:Int)=1 from h) (by decide),fun h=>absurd (show (59:Int)=2\/(59:Int)=3 from h) (by decide),fun h=>absurd (show (59:Int)=29 from h) (by decide),fun h=>absurd (show (59:Int)=95\/(59:Int)=96 from h) (by decide),?_⟩
 show aa 59=18\/aa 59=19\/aa 59=20->_
 rw[show aa 59=18 by decide]
 exact fun _=>hw
theorem UM (d n k:Int) (hd:0<=d/\d<=7) (hn:0<=n/\n<=7) (hk:0<=k/\k<=4095) (hw:Rm.c_ k=0):aq ⟨50,d,n,0,0,k,0,0,0,0,0⟩:=by
 unfold aq
 show aF _ (bX (aa 50))
 rw[show aa 50=18 by decide,show bX 18 = { eF with rd:=3,rn:=3,i1:=4095,i2:=1,set:=true } from rfl]
 refine⟨(show (1:Int)<=50/\(50:Int)<=100 by decide),(show aE 3 d from by unfold aE; omega),(show aE 3 n from by unfold aE; omega),(show aE 0 0 from .inr (.inr (.inr ⟨by decide,by decide,by decide,rfl⟩))),(show aE 0 0 from .inr (.inr (.inr ⟨by decide,by decide,by decide,rfl⟩))),.inl ⟨rfl,rfl⟩,.inl rfl,(show dd (0) 4095 1 k from .inr ⟨by decide,by omega,by omega,gI (by omega) (by omega)⟩),.inl rfl,.inr ⟨Bool.false_ne_true,rfl,.inl ⟨rfl,rfl⟩⟩,?_⟩
 refine⟨fun h=>absurd (show (50:Int)=1 from h) (by decide),fun h=>absurd (show (50:Int)=2\/(50:Int)=3 from h) (by decide),fun h=>absurd (show (50:Int)=29 from h) (by decide),fun h=>absurd (show (50:Int)=95\/(50:Int)=96 from h) (by decide),?_⟩
 show aa 50=18\/aa 50=19\/aa 50=20->_
 rw[show aa 50=18 by decide]
 exact fun _=>hw
theorem UN (d n m a:Int) (hd:0<=d/\d<=7) (hn:0<=n/\n<=7) (hm:0<=m/\m<=7) (ha:0<=a/\a<=7) :aq ⟨94,d,n,m,a,0,0,0,0,0,0⟩:=by
 unfold aq
 show aF _ (bX (aa 94))
 rw[show aa 94=30 by decide,show bX 30 = { eF with rd:=3,rn:=3,rm:=3,ra:=3 } from rfl]
 refine⟨(show (1:Int)<=94/\(94:Int)<=100 by decide),(show aE 3 d from by unfold aE; omega),(show aE 3 n from by unfold aE; omega),(show aE 3 m from by unfold aE; omega),(show aE 3 a from by unfold aE; omega),.inl ⟨rfl,rfl⟩,.inl rfl,.inl ⟨rfl,rfl⟩,.inl rfl,.inr ⟨Bool.false_ne_true,rfl,.inl ⟨rfl,rfl⟩⟩,?_⟩
 refine⟨fun h=>absurd (show (94:Int)=1 from h) (by decide),fun h=>absurd (show (94:Int)=2\/(94:Int)=3 from h) (by decide),fun h=>absurd (show (94:Int)=29 from h) (by decide),fun h=>absurd (show (94:Int)=95\/(94:Int)=96 from h) (by decide),?_⟩
 show aa 94=18\/aa 94=19\/aa 94=20->_
 rw[show aa 94=30 by decide]
 exact fun h=>absurd h (by decide)
theorem UO (n k:Int) (hn:0<=n/\n<=7) (hk:0<=k/\k<=4095) (hw:Rm.c_ k=0):aq ⟨65,0,n,0,0,k,0,0,0,0,0⟩:=by
 unfold aq
 show aF _ (bX (aa 65))
 rw[show aa 65=20 by decide,show bX 20 = { eF with rn:=3,i1:=4095,i2:=1 } from rfl]
 refine⟨(show (1:Int)<=65/\(65:Int)<=100 by decide),(show aE 0 0 from .inr (.inr (.inr ⟨by decide,by decide,by decide,rfl⟩))),(show aE 3 n from by unfold aE; omega),(show aE 0 0 from .inr (.inr (.inr ⟨by decide,by decide,by decide,rfl⟩))),(show aE 0 0 from .inr (.inr (.inr ⟨by decide,by decide,by decide,rfl⟩))),.inl ⟨rfl,rfl⟩,.inl rfl,(show dd (0) 4095 1 k from .inr ⟨by decide,by omega,by omega,gI (by omega) (by omega)⟩),.inl rfl,.inr ⟨Bool.false_ne_true,rfl,.inl ⟨rfl,rfl⟩⟩,?_⟩
 refine⟨fun h=>absurd (show (65:Int)=1 from h) (by decide),fun h=>absurd (show (65:Int)=2\/(65:Int)=3 from h) (by decide),fun h=>absurd (show (65:Int)=29 from h) (by decide),fun h=>absurd (show (65:Int)=95\/(65:Int)=96 from h) (by decide),?_⟩
 show aa 65=18\/aa 65=19\/aa 65=20->_
 rw[show aa 65=20 by decide]
 exact fun _=>hw
end Go.Proofs.YtlgkljpgagfndaaGreatDoor.Pw

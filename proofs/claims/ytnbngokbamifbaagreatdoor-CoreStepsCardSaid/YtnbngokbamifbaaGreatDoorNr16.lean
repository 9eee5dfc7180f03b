/- What this claim is proved with: no condition. -/
import Derived.Test.YtnbngokbamifbaaGreatDoorNr15
import Derived.Laws.BitsLemmas
set_option linter.unusedVariables false
set_option linter.unusedSimpArgs false
namespace Go.Proofs.YtnbngokbamifbaaGreatDoor.Pw
open Go Go.RowKit
def WB (i:IN):Prop:=∀ f,f < 10->-1099511627776<=ca i f/\ca i f<=9223372036854775807
def dB (i:IN):IN:=if ae i.form=34 then {i with av:=aB (aa i.av 0 25) 2} else i
def bs (i:IN):Int:=((dk (dB i) (aq (ae i.form)):Nat):Int)
theorem Hu (i:IN):0<=aa i.av 0 25/\aa i.av 0 25<=1099511627776:=by
 have:=ab i.av 0 25
 have:(2:Int) ^ 25=33554432:=by decide
 omega
theorem Qx:Lh.all (fun z=>decide (0<=z/\z < 4294967296))=true:=by decide
theorem qh (f:Int):0<=jA f/\jA f < 4294967296:=by
 unfold jA
 split
 ·rw[List.getD_eq_getElem?_getD]
  cases h:Lh[(f - 1).toNat]? with
  | none=>exact⟨Int.le_refl 0,by decide⟩
  | some z=>exact of_decide_eq_true (List.all_eq_true.1 Qx z (List.mem_of_getElem? h))
 ·omega
theorem Li (i:IN) (hb:WB i):WB {i with av:=aB (aa i.av 0 25) 2}:=by
 intro f hf
 have h:=hb f hf
 have h1:=Hu i
 have h2:=oO (aa i.av 0 25) 2 (by omega)
 match f,hf with
 | 4,_=>show _<=aB (aa i.av 0 25) 2/\aB (aa i.av 0 25) 2<=_; omega
 | 0,_|1,_|2,_|3,_|5,_|6,_|7,_|8,_|9,_=>exact h
theorem Hv (i:IN) (l:List (Nat × Nat × Nat × Nat)) (h:∀ y∈l,Qw y):∀ w,w < 2 ^ 32->l.foldl (yI i) w < 2 ^ 32:=by
 induction l with
 | nil=>exact fun w hw=>hw
 | cons y l ih=>exact fun w hw=>ih (fun z hz=>h z (List.mem_cons_of_mem _ hz)) _ (wg w _ _ _ hw (h y List.mem_cons_self).2.2.2)
theorem lS (i:IN) (l:List (Nat × Nat × Nat × Nat)) (h:∀ y∈l,Qw y):dk i l < 2 ^ 32 :=
 Hv i l h _ (by have:=qh i.form; omega)
theorem re (V:Int) (hV:0<=V) (b:Nat):aa V b 1=((V.toNat / 2 ^ b % 2:Nat):Int):=by
 have h:=jW V.toNat b 1
 rwa [Int.toNat_of_nonneg hV] at h
theorem wh (W a w b:Nat) (h:b < w):aa (aa (W:Int) a w) b 1=((W / 2 ^ (a+b) % 2:Nat):Int):=by
 rw[jW,jW,Nat.pow_add,← Nat.div_div_eq_div_mul]
 congr 1
 generalize W / 2 ^ a=Y
 have k1:(Y % 2 ^ w).testBit b=Y.testBit b:=by rw[Nat.testBit_mod_two_pow]; simp[h]
 rw[Nat.testBit_eq_decide_div_mod_eq,Nat.testBit_eq_decide_div_mod_eq] at k1
 have:=decide_eq_decide.1 k1
 have h1:=Nat.mod_two_eq_zero_or_one (Y % 2 ^ w / 2 ^ b)
 have h2:=Nat.mod_two_eq_zero_or_one (Y / 2 ^ b)
 omega
theorem lT {α:Type} {l:List α} {k:Nat} {x:α} (h:l[k]?=some x):l.take (k+1)=l.take k++[x]:=by
 rw[List.take_add_one,h]; rfl
set_option maxHeartbeats 4000000 in
set_option maxRecDepth 100000 in
theorem uO (i:IN) (hf:fe i.form) (hb:WB i):ah gT 46 [bX i] (.int .u32 (bs i)):=by
 refine Spec.enter ar Xx 100 Tryz.func46 rfl (by kernel_rfl) ?_
 refine (iC i.form hf).u ?_
 refine⟨fun h=>?_,fun h=>?_⟩
 ·refine (aj i.av 0 25 (hb 4 (by omega)) (by omega) (by omega)).u ?_
  refine (uM (aa i.av 0 25) (Hu i)).u ?_
  refine (sO i.form hf).u ?_
  refine li ?_ (show _<=jA i.form/\jA i.form<=_ by have:=qh i.form; omega)
  refine (lR (ae i.form)).u ?_
  refine SW.iw ar Xx (by kernel_rfl) (α:={k:Nat // k<=(aq (ae i.form)).length}) (fun k=>[(6,.int .i64 k.1),(4,.int .i64 (dk {i with av:=aB (aa i.av 0 25) 2} ((aq (ae i.form)).take k.1):Nat))]) (fun k=>(aq (ae i.form)).length - k.1) ⟨0,Nat.zero_le _⟩ 60 ?_ ?_
  ·(repeat' first|exact Iff.rfl|exact trivial|exact rfl|refine And.intro ?_ ?_)
   exact (show jA i.form=((dk {i with av:=aB (aa i.av 0 25) 2} ((aq (ae i.form)).take 0):Nat):Int) from (Int.toNat_of_nonneg (qh i.form).1).symm)
  rintro⟨k,hk⟩
  refine fun hl=>And.intro (fun h2=>?_) (fun h2=>?_)
  ·have wk:(k:Int) < (((aq (ae i.form)).map Aa).length:Nat):=h2
   rw[List.length_map] at wk
   have uN:k < (aq (ae i.form)).length:=Int.ofNat_lt.1 wk
   obtain⟨x,hx⟩:∃ x,(aq (ae i.form))[k]?=some x:=⟨_,List.getElem?_eq_getElem uN⟩
   obtain⟨x1,x2,x3,x4⟩:=gM _ x (List.mem_of_getElem? hx)
   have hg:WB {i with av:=aB (aa i.av 0 25) 2}:=Li i hb
   repeat (refine⟨_,aq (ae i.form),Aa,rfl,show (0:Int)<=(k:Int) by omega,wk,fun x' k9=>?_⟩; obtain rfl:x=x':=Option.some.inj (hx.symm.trans k9))
   refine (yD {i with av:=aB (aa i.av 0 25) 2} x.1 x1).u ?_
   repeat (refine⟨_,aq (ae i.form),Aa,rfl,show (0:Int)<=(k:Int) by omega,wk,fun x' k9=>?_⟩; obtain rfl:x=x':=Option.some.inj (hx.symm.trans k9))
   refine (aj (ca {i with av:=aB (aa i.av 0 25) 2} x.1) x.2.1 x.2.2.2 (hg x.1 x1) (by omega) (by omega)).u ?_
   obtain⟨W,hW⟩:∃ W,W=dk {i with av:=aB (aa i.av 0 25) 2} ((aq (ae i.form)).take k):=⟨_,rfl⟩
   have XT:W < 2 ^ 32:=by rw[hW]; exact lS _ _ (fun y hy=>gM _ y (List.mem_of_mem_take hy))
   repeat (refine⟨_,aq (ae i.form),Aa,rfl,show (0:Int)<=(k:Int) by omega,wk,fun x' k9=>?_⟩; obtain rfl:x=x':=Option.some.inj (hx.symm.trans k9))
   refine (aj ((dk {i with av:=aB (aa i.av 0 25) 2} ((aq (ae i.form)).take k):Nat):Int) x.2.2.1 x.2.2.2 (by rw[← hW]; omega) (by omega) (by omega)).u ?_
   refine SW.iw ar Xx (by kernel_rfl) (α:={b:Nat // b<=x.2.2.2}) (fun b=>[(9,.int .i64 b.1),(4,.int .i64 (plus W (aa (ca {i with av:=aB (aa i.av 0 25) 2} x.1) x.2.1 x.2.2.2).toNat x.2.2.1 b.1:Nat))]) (fun b=>x.2.2.2 - b.1) ⟨0,Nat.zero_le _⟩ 60 ?_ ?_
   ·(repeat' first|exact Iff.rfl|exact trivial|exact rfl|refine And.intro ?_ ?_)
    exact (show ((dk {i with av:=aB (aa i.av 0 25) 2} ((aq (ae i.form)).take k):Nat):Int)=((plus W (aa (ca {i with av:=aB (aa i.av 0 25) 2} x.1) x.2.1 x.2.2.2).toNat x.2.2.1 0:Nat):Int) by rw[uJ,hW])
   rintro⟨b,dO⟩
   repeat (refine⟨_,aq (ae i.form),Aa,rfl,show (0:Int)<=(k:Int) by omega,wk,fun x' k9=>?_⟩; obtain rfl:x=x':=Option.some.inj (hx.symm.trans k9))
   have hw:=ab ((dk {i with av:=aB (aa i.av 0 25) 2} ((aq (ae i.form)).take k):Nat):Int) x.2.2.1 x.2.2.2
   have hv:=ab (ca {i with av:=aB (aa i.av 0 25) 2} x.1) x.2.1 x.2.2.2
   have hv32:(2:Int) ^ x.2.2.2<=4294967296:=by
    have h1:(2 ^ x.2.2.2:Nat)<=2 ^ 32:=Nat.pow_le_pow_right (by omega) (by omega)
    have h3:=cl x.2.2.2
    omega
   refine⟨fun h3=>?_,fun h3=>?_⟩
   ·have Hw:b < x.2.2.2:=Int.ofNat_lt.1 h3
    refine (aj (aa (ca {i with av:=aB (aa i.av 0 25) 2} x.1) x.2.1 x.2.2.2) b 1 (by omega) (by omega) (by omega)).u ?_
    have o_:=wg W (aa (ca {i with av:=aB (aa i.av 0 25) 2} x.1) x.2.1 x.2.2.2).toNat x.2.2.1 b XT (by omega)
    refine⟨fun h4=>?_,fun h4=>?_⟩
    ·refine (aj (aa ((dk {i with av:=aB (aa i.av 0 25) 2} ((aq (ae i.form)).take k):Nat):Int) x.2.2.1 x.2.2.2) b 1 (by omega) (by omega) (by omega)).u ?_
     have Lj:(aa (ca {i with av:=aB (aa i.av 0 25) 2} x.1) x.2.1 x.2.2.2).toNat / 2 ^ b % 2=1:=by
      have XU:aa (aa (ca {i with av:=aB (aa i.av 0 25) 2} x.1) x.2.1 x.2.2.2) b 1=1:=h4
      have:=re (aa (ca {i with av:=aB (aa i.av 0 25) 2} x.1) x.2.1 x.2.2.2) hv.1 b
      omega
     refine⟨fun h5=>?_,fun h5=>?_⟩
     ·have Qy:W / 2 ^ (x.2.2.1+b) % 2=0:=by
       have:=(wh W x.2.2.1 x.2.2.2 b Hw).symm.trans (hW ▸ h5)
       omega
      have e:=yG W (aa (ca {i with av:=aB (aa i.av 0 25) 2} x.1) x.2.1 x.2.2.2).toNat x.2.2.1 b Lj Qy
      have pe:=cl (x.2.2.1+b)
      have pb:=fF (x.2.2.1+b) (by omega)
      repeat (refine⟨_,aq (ae i.form),Aa,rfl,show (0:Int)<=(k:Int) by omega,wk,fun x' k9=>?_⟩; obtain rfl:x=x':=Option.some.inj (hx.symm.trans k9))
      refine li ?_ (show _<=(x.2.2.1:Int)+(b:Int)/\(x.2.2.1:Int)+(b:Int)<=_ by omega)
      refine (ai (x.2.2.1+b) (by omega)).u ?_
      refine li ?_ (show _<=((plus W (aa (ca {i with av:=aB (aa i.av 0 25) 2} x.1) x.2.1 x.2.2.2).toNat x.2.2.1 b:Nat):Int)+2 ^ (x.2.2.1+b)/\((plus W (aa (ca {i with av:=aB (aa i.av 0 25) 2} x.1) x.2.1 x.2.2.2).toNat x.2.2.1 b:Nat):Int)+2 ^ (x.2.2.1+b)<=_ by omega)
      refine .inl ⟨ax (show _<=(b:Int)+1/\(b:Int)+1<=_ by omega),⟨⟨b+1,Hw⟩,show x.2.2.2 - (b+1) < x.2.2.2 - b by omega,?_⟩⟩
      (repeat' first|exact Iff.rfl|exact trivial|exact rfl|refine And.intro ?_ ?_)
      exact (show ((plus W (aa (ca {i with av:=aB (aa i.av 0 25) 2} x.1) x.2.1 x.2.2.2).toNat x.2.2.1 b:Nat):Int)+2 ^ (x.2.2.1+b)=((plus W (aa (ca {i with av:=aB (aa i.av 0 25) 2} x.1) x.2.1 x.2.2.2).toNat x.2.2.1 (b+1):Nat):Int) by omega)
     ·have Qy:W / 2 ^ (x.2.2.1+b) % 2=1:=by
       have h5':¬ aa (aa (W:Int) x.2.2.1 x.2.2.2) b 1=0:=hW ▸ h5
       have:=wh W x.2.2.1 x.2.2.2 b Hw
       omega
      have e:=uK W (aa (ca {i with av:=aB (aa i.av 0 25) 2} x.1) x.2.1 x.2.2.2).toNat x.2.2.1 b Lj Qy
      refine .inl ⟨ax (show _<=(b:Int)+1/\(b:Int)+1<=_ by omega),⟨⟨b+1,Hw⟩,show x.2.2.2 - (b+1) < x.2.2.2 - b by omega,?_⟩⟩
      (repeat' first|exact Iff.rfl|exact trivial|exact rfl|refine And.intro ?_ ?_)
      exact (show ((plus W (aa (ca {i with av:=aB (aa i.av 0 25) 2} x.1) x.2.1 x.2.2.2).toNat x.2.2.1 b:Nat):Int)=((plus W (aa (ca {i with av:=aB (aa i.av 0 25) 2} x.1) x.2.1 x.2.2.2).toNat x.2.2.1 (b+1):Nat):Int) by omega)
    ·have Lj:(aa (ca {i with av:=aB (aa i.av 0 25) 2} x.1) x.2.1 x.2.2.2).toNat / 2 ^ b % 2=0:=by
      have XU:¬ aa (aa (ca {i with av:=aB (aa i.av 0 25) 2} x.1) x.2.1 x.2.2.2) b 1=1:=h4
      have:=re (aa (ca {i with av:=aB (aa i.av 0 25) 2} x.1) x.2.1 x.2.2.2) hv.1 b
      omega
     have e:=sN W (aa (ca {i with av:=aB (aa i.av 0 25) 2} x.1) x.2.1 x.2.2.2).toNat x.2.2.1 b Lj
     refine .inl ⟨ax (show _<=(b:Int)+1/\(b:Int)+1<=_ by omega),⟨⟨b+1,Hw⟩,show x.2.2.2 - (b+1) < x.2.2.2 - b by omega,?_⟩⟩
     (repeat' first|exact Iff.rfl|exact trivial|exact rfl|refine And.intro ?_ ?_)
     exact (show ((plus W (aa (ca {i with av:=aB (aa i.av 0 25) 2} x.1) x.2.1 x.2.2.2).toNat x.2.2.1 b:Nat):Int)=((plus W (aa (ca {i with av:=aB (aa i.av 0 25) 2} x.1) x.2.1 x.2.2.2).toNat x.2.2.1 (b+1):Nat):Int) by omega)
   ·have h3b:¬ (b:Int) < (x.2.2.2:Int):=h3
    obtain rfl:b=x.2.2.2:=by omega
    have e:dk {i with av:=aB (aa i.av 0 25) 2} ((aq (ae i.form)).take (k+1))=plus W (aa (ca {i with av:=aB (aa i.av 0 25) 2} x.1) x.2.1 x.2.2.2).toNat x.2.2.1 x.2.2.2:=by
     rw[hW,dk,dk,lT hx,List.foldl_append]; rfl
    refine .inl ⟨ax (show _<=(k:Int)+1/\(k:Int)+1<=_ by have:=nI (ae i.form); omega),⟨⟨k+1,uN⟩,show (aq (ae i.form)).length - (k+1) < (aq (ae i.form)).length - k by omega,?_⟩⟩
    (repeat' first|exact Iff.rfl|exact trivial|exact rfl|refine And.intro ?_ ?_)
    exact (show ((plus W (aa (ca {i with av:=aB (aa i.av 0 25) 2} x.1) x.2.1 x.2.2.2).toNat x.2.2.1 x.2.2.2:Nat):Int)=((dk {i with av:=aB (aa i.av 0 25) 2} ((aq (ae i.form)).take (k+1)):Nat):Int) by rw[e])
  ·have wk:¬ (k:Int) < (((aq (ae i.form)).map Aa).length:Nat):=h2
   rw[List.length_map] at wk
   have XT:=lS {i with av:=aB (aa i.av 0 25) 2} ((aq (ae i.form)).take k) (fun y hy=>gM _ y (List.mem_of_mem_take hy))
   refine .inl ⟨af (show 0<=((dk {i with av:=aB (aa i.av 0 25) 2} ((aq (ae i.form)).take k):Nat):Int)/\((dk {i with av:=aB (aa i.av 0 25) 2} ((aq (ae i.form)).take k):Nat):Int)<=4294967295 by omega),ao ?_⟩
   exact (show ((dk {i with av:=aB (aa i.av 0 25) 2} ((aq (ae i.form)).take k):Nat):Int)=bs i by rw[bs,dB,if_pos h,List.take_of_length_le (by omega)])
 ·refine (sO i.form hf).u ?_
  refine li ?_ (show _<=jA i.form/\jA i.form<=_ by have:=qh i.form; omega)
  refine (lR (ae i.form)).u ?_
  refine SW.iw ar Xx (by kernel_rfl) (α:={k:Nat // k<=(aq (ae i.form)).length}) (fun k=>[(6,.int .i64 k.1),(4,.int .i64 (dk i ((aq (ae i.form)).take k.1):Nat))]) (fun k=>(aq (ae i.form)).length - k.1) ⟨0,Nat.zero_le _⟩ 60 ?_ ?_
  ·(repeat' first|exact Iff.rfl|exact trivial|exact rfl|refine And.intro ?_ ?_)
   exact (show jA i.form=((dk i ((aq (ae i.form)).take 0):Nat):Int) from (Int.toNat_of_nonneg (qh i.form).1).symm)
  rintro⟨k,hk⟩
  refine fun hl=>And.intro (fun h2=>?_) (fun h2=>?_)
  ·have wk:(k:Int) < (((aq (ae i.form)).map Aa).length:Nat):=h2
   rw[List.length_map] at wk
   have uN:k < (aq (ae i.form)).length:=Int.ofNat_lt.1 wk
   obtain⟨x,hx⟩:∃ x,(aq (ae i.form))[k]?=some x:=⟨_,List.getElem?_eq_getElem uN⟩
   obtain⟨x1,x2,x3,x4⟩:=gM _ x (List.mem_of_getElem? hx)
   have hg:WB i:=hb
   repeat (refine⟨_,aq (ae i.form),Aa,rfl,show (0:Int)<=(k:Int) by omega,wk,fun x' k9=>?_⟩; obtain rfl:x=x':=Option.some.inj (hx.symm.trans k9))
   refine (yD i x.1 x1).u ?_
   repeat (refine⟨_,aq (ae i.form),Aa,rfl,show (0:Int)<=(k:Int) by omega,wk,fun x' k9=>?_⟩; obtain rfl:x=x':=Option.some.inj (hx.symm.trans k9))
   refine (aj (ca i x.1) x.2.1 x.2.2.2 (hg x.1 x1) (by omega) (by omega)).u ?_
   obtain⟨W,hW⟩:∃ W,W=dk i ((aq (ae i.form)).take k):=⟨_,rfl⟩
   have XT:W < 2 ^ 32:=by rw[hW]; exact lS _ _ (fun y hy=>gM _ y (List.mem_of_mem_take hy))
   repeat (refine⟨_,aq (ae i.form),Aa,rfl,show (0:Int)<=(k:Int) by omega,wk,fun x' k9=>?_⟩; obtain rfl:x=x':=Option.some.inj (hx.symm.trans k9))
   refine (aj ((dk i ((aq (ae i.form)).take k):Nat):Int) x.2.2.1 x.2.2.2 (by rw[← hW]; omega) (by omega) (by omega)).u ?_
   refine SW.iw ar Xx (by kernel_rfl) (α:={b:Nat // b<=x.2.2.2}) (fun b=>[(9,.int .i64 b.1),(4,.int .i64 (plus W (aa (ca i x.1) x.2.1 x.2.2.2).toNat x.2.2.1 b.1:Nat))]) (fun b=>x.2.2.2 - b.1) ⟨0,Nat.zero_le _⟩ 60 ?_ ?_
   ·(repeat' first|exact Iff.rfl|exact trivial|exact rfl|refine And.intro ?_ ?_)
    exact (show ((dk i ((aq (ae i.form)).take k):Nat):Int)=((plus W (aa (ca i x.1) x.2.1 x.2.2.2).toNat x.2.2.1 0:Nat):Int) by rw[uJ,hW])
   rintro⟨b,dO⟩
   repeat (refine⟨_,aq (ae i.form),Aa,rfl,show (0:Int)<=(k:Int) by omega,wk,fun x' k9=>?_⟩; obtain rfl:x=x':=Option.some.inj (hx.symm.trans k9))
   have hw:=ab ((dk i ((aq (ae i.form)).take k):Nat):Int) x.2.2.1 x.2.2.2
   have hv:=ab (ca i x.1) x.2.1 x.2.2.2
   have hv32:(2:Int) ^ x.2.2.2<=4294967296:=by
    have h1:(2 ^ x.2.2.2:Nat)<=2 ^ 32:=Nat.pow_le_pow_right (by omega) (by omega)
    have h3:=cl x.2.2.2
    omega
   refine⟨fun h3=>?_,fun h3=>?_⟩
   ·have Hw:b < x.2.2.2:=Int.ofNat_lt.1 h3
    refine (aj (aa (ca i x.1) x.2.1 x.2.2.2) b 1 (by omega) (by omega) (by omega)).u ?_
    have o_:=wg W (aa (ca i x.1) x.2.1 x.2.2.2).toNat x.2.2.1 b XT (by omega)
    refine⟨fun h4=>?_,fun h4=>?_⟩
    ·refine (aj (aa ((dk i ((aq (ae i.form)).take k):Nat):Int) x.2.2.1 x.2.2.2) b 1 (by omega) (by omega) (by omega)).u ?_
     have Lj:(aa (ca i x.1) x.2.1 x.2.2.2).toNat / 2 ^ b % 2=1:=by
      have XU:aa (aa (ca i x.1) x.2.1 x.2.2.2) b 1=1:=h4
      have:=re (aa (ca i x.1) x.2.1 x.2.2.2) hv.1 b
      omega
     refine⟨fun h5=>?_,fun h5=>?_⟩
     ·have Qy:W / 2 ^ (x.2.2.1+b) % 2=0:=by
       have:=(wh W x.2.2.1 x.2.2.2 b Hw).symm.trans (hW ▸ h5)
       omega
      have e:=yG W (aa (ca i x.1) x.2.1 x.2.2.2).toNat x.2.2.1 b Lj Qy
      have pe:=cl (x.2.2.1+b)
      have pb:=fF (x.2.2.1+b) (by omega)
      repeat (refine⟨_,aq (ae i.form),Aa,rfl,show (0:Int)<=(k:Int) by omega,wk,fun x' k9=>?_⟩; obtain rfl:x=x':=Option.some.inj (hx.symm.trans k9))
      refine li ?_ (show _<=(x.2.2.1:Int)+(b:Int)/\(x.2.2.1:Int)+(b:Int)<=_ by omega)
      refine (ai (x.2.2.1+b) (by omega)).u ?_
      refine li ?_ (show _<=((plus W (aa (ca i x.1) x.2.1 x.2.2.2).toNat x.2.2.1 b:Nat):Int)+2 ^ (x.2.2.1+b)/\((plus W (aa (ca i x.1) x.2.1 x.2.2.2).toNat x.2.2.1 b:Nat):Int)+2 ^ (x.2.2.1+b)<=_ by omega)
      refine .inl ⟨ax (show _<=(b:Int)+1/\(b:Int)+1<=_ by omega),⟨⟨b+1,Hw⟩,show x.2.2.2 - (b+1) < x.2.2.2 - b by omega,?_⟩⟩
      (repeat' first|exact Iff.rfl|exact trivial|exact rfl|refine And.intro ?_ ?_)
      exact (show ((plus W (aa (ca i x.1) x.2.1 x.2.2.2).toNat x.2.2.1 b:Nat):Int)+2 ^ (x.2.2.1+b)=((plus W (aa (ca i x.1) x.2.1 x.2.2.2).toNat x.2.2.1 (b+1):Nat):Int) by omega)
     ·have Qy:W / 2 ^ (x.2.2.1+b) % 2=1:=by
       have h5':¬ aa (aa (W:Int) x.2.2.1 x.2.2.2) b 1=0:=hW ▸ h5
       have:=wh W x.2.2.1 x.2.2.2 b Hw
       omega
      have e:=uK W (aa (ca i x.1) x.2.1 x.2.2.2).toNat x.2.2.1 b Lj Qy
      refine .inl ⟨ax (show _<=(b:Int)+1/\(b:Int)+1<=_ by omega),⟨⟨b+1,Hw⟩,show x.2.2.2 - (b+1) < x.2.2.2 - b by omega,?_⟩⟩
      (repeat' first|exact Iff.rfl|exact trivial|exact rfl|refine And.intro ?_ ?_)
      exact (show ((plus W (aa (ca i x.1) x.2.1 x.2.2.2).toNat x.2.2.1 b:Nat):Int)=((plus W (aa (ca i x.1) x.2.1 x.2.2.2).toNat x.2.2.1 (b+1):Nat):Int) by omega)
    ·have Lj:(aa (ca i x.1) x.2.1 x.2.2.2).toNat / 2 ^ b % 2=0:=by
      have XU:¬ aa (aa (ca i x.1) x.2.1 x.2.2.2) b 1=1:=h4
      have:=re (aa (ca i x.1) x.2.1 x.2.2.2) hv.1 b
      omega
     have e:=sN W (aa (ca i x.1) x.2.1 x.2.2.2).toNat x.2.2.1 b Lj
     refine .inl ⟨ax (show _<=(b:Int)+1/\(b:Int)+1<=_ by omega),⟨⟨b+1,Hw⟩,show x.2.2.2 - (b+1) < x.2.2.2 - b by omega,?_⟩⟩
     (repeat' first|exact Iff.rfl|exact trivial|exact rfl|refine And.intro ?_ ?_)
     exact (show ((plus W (aa (ca i x.1) x.2.1 x.2.2.2).toNat x.2.2.1 b:Nat):Int)=((plus W (aa (ca i x.1) x.2.1 x.2.2.2).toNat x.2.2.1 (b+1):Nat):Int) by omega)
   ·have h3b:¬ (b:Int) < (x.2.2.2:Int):=h3
    obtain rfl:b=x.2.2.2:=by omega
    have e:dk i ((aq (ae i.form)).take (k+1))=plus W (aa (ca i x.1) x.2.1 x.2.2.2).toNat x.2.2.1 x.2.2.2:=by
     rw[hW,dk,dk,lT hx,List.foldl_append]; rfl
    refine .inl ⟨ax (show _<=(k:Int)+1/\(k:Int)+1<=_ by have:=nI (ae i.form); omega),⟨⟨k+1,uN⟩,show (aq (ae i.form)).length - (k+1) < (aq (ae i.form)).length - k by omega,?_⟩⟩
    (repeat' first|exact Iff.rfl|exact trivial|exact rfl|refine And.intro ?_ ?_)
    exact (show ((plus W (aa (ca i x.1) x.2.1 x.2.2.2).toNat x.2.2.1 x.2.2.2:Nat):Int)=((dk i ((aq (ae i.form)).take (k+1)):Nat):Int) by rw[e])
  ·have wk:¬ (k:Int) < (((aq (ae i.form)).map Aa).length:Nat):=h2
   rw[List.length_map] at wk
   have XT:=lS i ((aq (ae i.form)).take k) (fun y hy=>gM _ y (List.mem_of_mem_take hy))
   refine .inl ⟨af (show 0<=((dk i ((aq (ae i.form)).take k):Nat):Int)/\((dk i ((aq (ae i.form)).take k):Nat):Int)<=4294967295 by omega),ao ?_⟩
   exact (show ((dk i ((aq (ae i.form)).take k):Nat):Int)=bs i by rw[bs,dB,if_neg h,List.take_of_length_le (by omega)])
def vF (i:IN) (x:Nat × Nat × Nat × Nat):Nat:=(aa (ca i x.1) x.2.1 x.2.2.2).toNat
theorem OO (i:IN) (x:Nat × Nat × Nat × Nat):vF i x < 2 ^ x.2.2.2:=by
 have:=ab (ca i x.1) x.2.1 x.2.2.2
 have e:=cl x.2.2.2
 unfold vF; omega
theorem D_ (w n a b p:Nat):(plus w n a b).testBit p=(w.testBit p || (decide (a<=p) && decide (p < a+b) && n.testBit (p - a))):=by
 unfold plus
 rw[Nat.testBit_or,Nat.testBit_shiftLeft,Nat.testBit_mod_two_pow]
 congr 1
 by_cases h:a<=p
 ·by_cases h2:p < a+b
  ·rw[decide_eq_true h2,decide_eq_true (show p - a < b by omega)]; simp[h]
  ·rw[decide_eq_false h2,decide_eq_false (show ¬ p - a < b by omega)]; simp
 ·simp[h]
def XV (p:Nat) (x:Nat × Nat × Nat × Nat):Bool:=decide (x.2.2.1<=p) && decide (p < x.2.2.1+x.2.2.2)
theorem pG (i:IN) (p:Nat):∀ (l:List (Nat × Nat × Nat × Nat)) (W:Nat),(l.foldl (yI i) W).testBit p=(W.testBit p || l.any fun x=>XV p x && (vF i x).testBit (p - x.2.2.1))
 | [],W=>by simp
 | x::l,W=>by
  rw[List.foldl_cons,pG i p l,List.any_cons,← Bool.or_assoc]
  congr 1
  exact D_ W (vF i x) x.2.2.1 x.2.2.2 p
def A4 (l:List (Nat × Nat × Nat × Nat)):Bool:=l.all fun x=>l.all fun y=>decide (x=y) || decide (x.2.2.1+x.2.2.2<=y.2.2.1) || decide (y.2.2.1+y.2.2.2<=x.2.2.1)
def Hx (W:Nat) (l:List (Nat × Nat × Nat × Nat)):Bool:=l.all fun x=>decide (W / 2 ^ x.2.2.1 % 2 ^ x.2.2.2=0)
theorem Ea:∀ k:Fin 35,A4 (aq ((k.1:Nat):Int))=true:=by decide
theorem wm (s:Int):A4 (aq s)=true:=by
 by_cases h:s < 1\/34 < s
 ·rw[jm s h]; rfl
 ·have h1:=Ea ⟨s.toNat,by omega⟩
  rwa [show (((⟨s.toNat,by omega⟩:Fin 35).1:Nat):Int)=s by simp only[]; omega] at h1
theorem Hy:(List.range 101).all (fun k=>Hx (jA (k:Int)).toNat (aq (ae (k:Int))))=true:=by decide +kernel
theorem yK (f:Int):Hx (jA f).toNat (aq (ae f))=true:=by
 by_cases h:1<=f/\f<=100
 ·have h1:=List.all_eq_true.1 Hy f.toNat (List.mem_range.2 (by omega))
  rwa [show ((f.toNat:Nat):Int)=f by omega] at h1
 ·unfold ae; rw[if_neg h,jm 0 (by omega)]; rfl
theorem A5 (i:IN) {l:List (Nat × Nat × Nat × Nat)} {W:Nat} (ha:A4 l=true) (hf:Hx W l=true) {x:Nat × Nat × Nat × Nat} (hx:x∈l):(l.foldl (yI i) W) / 2 ^ x.2.2.1 % 2 ^ x.2.2.2=vF i x:=by
 apply Nat.eq_of_testBit_eq
 intro p
 rw[Nat.testBit_mod_two_pow,Nat.testBit_div_two_pow]
 by_cases hp:p < x.2.2.2
 ·rw[decide_eq_true hp,Bool.true_and,pG]
  have h0:W.testBit (p+x.2.2.1)=false:=by
   have h1:=of_decide_eq_true (List.all_eq_true.1 hf x hx)
   have h2:(W / 2 ^ x.2.2.1 % 2 ^ x.2.2.2).testBit p=false:=by rw[h1]; simp
   rw[Nat.testBit_mod_two_pow,Nat.testBit_div_two_pow,decide_eq_true hp,Bool.true_and] at h2
   exact h2
  rw[h0,Bool.false_or,Bool.eq_iff_iff,List.any_eq_true]
  constructor
  ·rintro⟨y,hy,hb⟩
   simp only[Bool.and_eq_true,XV,decide_eq_true_eq] at hb
   have h3:=List.all_eq_true.1 (List.all_eq_true.1 ha x hx) y hy
   simp only[Bool.or_eq_true,decide_eq_true_eq] at h3
   rcases h3 with (rfl|h3)|h3
   ·have:=hb.2; rwa [show p+x.2.2.1 - x.2.2.1=p by omega] at this
   ·omega
   ·omega
  ·intro hb
   refine⟨x,hx,?_⟩
   simp only[Bool.and_eq_true,XV,decide_eq_true_eq]
   exact⟨⟨by omega,by omega⟩,by rwa [show p+x.2.2.1 - x.2.2.1=p by omega]⟩
 ·rw[decide_eq_false hp,Bool.false_and]
  exact (Nat.testBit_lt_two_pow (Nat.lt_of_lt_of_le (OO i x) (Nat.pow_le_pow_right (by decide) (by omega)))).symm
def V_ (l:List (Nat × Nat × Nat × Nat)) (p:Nat):Bool:=l.all fun x=>!XV p x
theorem A6 (i:IN) {l:List (Nat × Nat × Nat × Nat)} {W p:Nat} (h:V_ l p=true):(l.foldl (yI i) W).testBit p=W.testBit p:=by
 rw[pG]
 have:(l.any fun x=>XV p x && (vF i x).testBit (p - x.2.2.1))=false:=by
  rw[List.any_eq_false]
  intro x hx
  have:=List.all_eq_true.1 h x hx
  simp only[Bool.not_eq_true'] at this
  rw[this]; simp
 rw[this,Bool.or_false]
def Lk (f:Nat):Nat:=(jA (f:Int)).toNat
def Qz (f:Nat):List (Nat × Nat × Nat × Nat):=aq (ae (f:Int))
def Hz (f g:Nat):Bool:=(Qz f).any fun x=>decide (x.1 < 4) && decide (x.2.1=0) && decide (x.2.2.2=4) && ([0,1,2,3].all fun k=>V_ (Qz g) (x.2.2.1+k) && (Lk g).testBit (x.2.2.1+k))
def Cm (f g:Nat):Bool:=decide (f=g) || ((List.range 32).any fun p=>V_ (Qz f) p && V_ (Qz g) p && ((Lk f).testBit p != (Lk g).testBit p)) || Hz f g || Hz g f
theorem wo:((List.range 47).all fun f=>(List.range 47).all fun g=>Cm (f+1) (g+1))=true:=by decide +kernel
theorem A7:((List.range 53).all fun f=>(List.range 53).all fun g=>Cm (f+48) (g+48))=true:=by decide +kernel
theorem ik {c r:Int} (h:ij c r):0<=r/\r < 15:=by unfold ij at h; omega
theorem sP {i:IN} (h:bQ i):(0<=i.rd/\i.rd < 15)/\(0<=i.rn/\i.rn < 15)/\(0<=i.rm/\i.rm < 15)/\(0<=i.ra/\i.ra < 15):=by
 obtain⟨_,h1,h2,h3,h4,_⟩:=h
 exact⟨ik h1,ik h2,ik h3,ik h4⟩
theorem iT (i:IN):(dB i).form=i.form:=by unfold dB; split<;>rfl
theorem Eb (i:IN) (f:Nat) (hf:f < 4):ca (dB i) f=ca i f:=by
 unfold dB
 split
 ·match f,hf with
  | 0,_|1,_|2,_|3,_=>rfl
 ·rfl
theorem nJ (i:IN) {p:Nat} (h:V_ (aq (ae i.form)) p=true):(bs i).toNat.testBit p=(jA i.form).toNat.testBit p:=by
 unfold bs dk
 rw[Int.toNat_natCast,A6 _ h,iT]
theorem sQ (i:IN) {x:Nat × Nat × Nat × Nat} (hx:x∈aq (ae i.form)):(bs i).toNat / 2 ^ x.2.2.1 % 2 ^ x.2.2.2=vF (dB i) x:=by
 unfold bs dk
 rw[Int.toNat_natCast]
 have h:=yK i.form
 rw[← iT i] at h
 refine A5 (dB i) (wm _) ?_ hx
 rw[iT] at h ⊢
 exact h
theorem XW:∀ v:Fin 16,(v.1.testBit 0=true/\v.1.testBit 1=true/\v.1.testBit 2=true/\v.1.testBit 3=true)->v.1=15:=by decide
theorem Cn {a b:IN} (ha:bQ a) (fa:a.form=((a.form.toNat:Nat):Int)) (fb:b.form=((b.form.toNat:Nat):Int)) (h:Hz a.form.toNat b.form.toNat=true):bs a≠bs b:=fun e=>by
 obtain⟨x,hx,h⟩:=List.any_eq_true.1 h
 simp only[Bool.and_eq_true,decide_eq_true_eq] at h
 obtain⟨⟨⟨h1,h2⟩,h3⟩,h4⟩:=h
 have k9:x∈aq (ae a.form):=by rw[fa]; exact hx
 have hf:=sQ a k9
 have hr:vF (dB a) x < 15:=by
  unfold vF
  rw[Eb a x.1 h1,h2,h3]
  obtain⟨r0,r1,r2,r3⟩:=sP ha
  have key:∀ r:Int,0<=r/\r < 15->(aa r 0 4).toNat < 15:=fun r hr=>by
   unfold aa; rw[if_neg (by omega)]
   have e0:(2:Int) ^ 0=1:=rfl
   have e4:(2:Int) ^ 4=16:=rfl
   rw[e0,e4]; omega
  match x.1,h1 with
  | 0,_=>exact key _ r0
  | 1,_=>exact key _ r1
  | 2,_=>exact key _ r2
  | 3,_=>exact key _ r3
 have hv:∀ k,k∈[0,1,2,3]->(vF (dB a) x).testBit k=true:=fun k hk=>by
  have h5:=List.all_eq_true.1 h4 k hk
  simp only[Bool.and_eq_true] at h5
  have hk4:k < 4:=by simp at hk; omega
  rw[← hf,h3,Nat.testBit_mod_two_pow,Nat.testBit_div_two_pow,decide_eq_true hk4,Bool.true_and,e]
  have h6:V_ (aq (ae b.form)) (x.2.2.1+k)=true:=by rw[fb]; exact h5.1
  rw[Nat.add_comm,nJ b h6]
  have h7:=h5.2
  unfold Lk at h7
  rw[← fb] at h7
  exact h7
 have:=XW ⟨vF (dB a) x,by omega⟩ ⟨hv 0 (by simp),hv 1 (by simp),hv 2 (by simp),hv 3 (by simp)⟩
 simp only[] at this
 omega
theorem Co {a b:IN} (ha:bQ a) (hb:bQ b) (h:Cm a.form.toNat b.form.toNat=true) (e:bs a=bs b):a.form=b.form:=by
 have f1:=ha.1
 have f2:=hb.1
 have fa:a.form=((a.form.toNat:Nat):Int):=by omega
 have fb:b.form=((b.form.toNat:Nat):Int):=by omega
 unfold Cm at h
 simp only[Bool.or_eq_true,decide_eq_true_eq] at h
 rcases h with ((h|h)|h)|h
 ·omega
 ·obtain⟨p,_,h⟩:=List.any_eq_true.1 h
  simp only[Bool.and_eq_true] at h
  obtain⟨⟨h1,h2⟩,h3⟩:=h
  have k1:=nJ a (p:=p) (by rw[fa]; exact h1)
  have k2:=nJ b (p:=p) (by rw[fb]; exact h2)
  unfold Lk at h3
  rw[← fa,← fb,← k1,← k2,e] at h3
  simp at h3
 ·exact absurd e (Cn ha fa fb h)
 ·exact absurd e.symm (Cn hb fb fa h)
theorem Ec {a b:IN} (ha:bQ a) (hb:bQ b) (hw:48<=a.form↔48<=b.form) (e:bs a=bs b):a.form=b.form:=by
 have f1:=ha.1
 have f2:=hb.1
 by_cases h:48<=a.form
 ·have h1:=List.all_eq_true.1 (List.all_eq_true.1 A7 (a.form.toNat - 48) (List.mem_range.2 (by omega))) (b.form.toNat - 48) (List.mem_range.2 (by have:=hw.1 h; omega))
  rw[show a.form.toNat - 48+48=a.form.toNat by omega,show b.form.toNat - 48+48=b.form.toNat by have:=hw.1 h; omega] at h1
  exact Co ha hb h1 e
 ·have h1:=List.all_eq_true.1 (List.all_eq_true.1 wo (a.form.toNat - 1) (List.mem_range.2 (by omega))) (b.form.toNat - 1) (List.mem_range.2 (by omega))
  rw[show a.form.toNat - 1+1=a.form.toNat by omega,show b.form.toNat - 1+1=b.form.toNat by omega] at h1
  exact Co ha hb h1 e
def xV (s w:Int) (f:Nat):Int:=((aq s).filter fun x=>decide (x.1=f)).foldl (fun a x=>a+aa w x.2.2.1 x.2.2.2*2 ^ x.2.1) 0
def qH (s f x:Int):Int:=if s=15 then cM x 9 else if s=16 then cM x 12 else if s=33 then cM x 21 else if s=34 then cM (aB x 2) 25 else if s=1/\1 < f/\x=0 then 32 else x
def OP (s k x:Int):Int:=if 21<=s/\s<=23/\x=0/\(k=1\/k=2) then 32 else x
def XX (s w x:Int):Int:=if s=32 then aa w 0 4 else x
def aW (f w:Int):IN:=⟨f,xV (ae f) w 0,xV (ae f) w 1,XX (ae f) w (xV (ae f) w 2),xV (ae f) w 3,qH (ae f) f (xV (ae f) w 4),xV (ae f) w 5,OP (ae f) (xV (ae f) w 5) (xV (ae f) w 6),xV (ae f) w 7,xV (ae f) w 8,xV (ae f) w 9⟩
def xR (s:Int) (i:IN) (f:Nat):Int:=((aq s).filter fun x=>decide (x.1=f)).foldl (fun a x=>a+aa (ca i x.1) x.2.1 x.2.2.2*2 ^ x.2.1) 0
theorem sR {α β:Type} {f g:β->α->β}:∀ {l:List α} {b:β},(∀ b x,x∈l->f b x=g b x)->l.foldl f b=l.foldl g b
 | [],_,_=>rfl
 | x::l,b,h=>by rw[List.foldl_cons,List.foldl_cons,h b x (List.mem_cons_self ..)]; exact sR fun b y hy=>h b y (List.mem_cons_of_mem _ hy)
theorem QA (i:IN) (x:Nat × Nat × Nat × Nat):((vF i x:Nat):Int)=aa (ca i x.1) x.2.1 x.2.2.2:=Int.toNat_of_nonneg (ab ..).1
theorem uP (i:IN) {x:Nat × Nat × Nat × Nat} (hx:x∈aq (ae i.form)):aa (bs i) x.2.2.1 x.2.2.2=aa (ca (dB i) x.1) x.2.1 x.2.2.2:=by
 have h:=sQ i hx
 have e:bs i=(((bs i).toNat:Nat):Int):=by unfold bs; rw[Int.toNat_natCast]
 rw[e,jW,h,QA]
theorem gV (i:IN) (f:Nat):xV (ae i.form) (bs i) f=xR (ae i.form) (dB i) f:=by
 unfold xV xR
 refine sR fun b x hx=>?_
 rw[uP i (List.mem_filter.1 hx).1]
theorem jX {f:Int} (h:1<=f/\f<=100):1<=ae f/\ae f<=34:=by
 have h1:((List.range 100).all fun k=>decide (1<=ae ((k+1:Nat):Int)/\ae ((k+1:Nat):Int)<=34))=true:=by decide +kernel
 have h2:=of_decide_eq_true (List.all_eq_true.1 h1 (f.toNat - 1) (List.mem_range.2 (by omega)))
 rwa [show (((f.toNat - 1+1:Nat)):Int)=f by omega] at h2
theorem uQ {f:Int} (h:1<=f/\f<=100):ae f=1->f=1\/f=2\/f=3:=by
 have h1:((List.range 100).all fun k=>decide (ae ((k+1:Nat):Int)=1->k < 3))=true:=by decide +kernel
 have h2:=of_decide_eq_true (List.all_eq_true.1 h1 (f.toNat - 1) (List.mem_range.2 (by omega)))
 rw[show (((f.toNat - 1+1:Nat)):Int)=f by omega] at h2
 intro h3; have:=h2 h3; omega
theorem tm0 {n s:Int} (h:n.tmod s=0):n % s=0:=Int.emod_eq_zero_of_dvd (Int.dvd_of_tmod_eq_zero h)
theorem yL {f t s n:Int} (h:gr f t s n):(s=0/\n=0)\/(s≠0/\f<=n/\n<=t/\n % s=0):=h.imp id fun ⟨a,b,c,d⟩=>⟨a,b,c,tm0 d⟩
theorem HA (x k:Nat):x &&& 2 ^ k=(x / 2 ^ k % 2)*2 ^ k:=by
 apply Nat.eq_of_testBit_eq
 intro i
 rw[Nat.testBit_and,Nat.testBit_two_pow]
 rcases Nat.mod_two_eq_zero_or_one (x / 2 ^ k) with h|h
 ·rw[h,Nat.zero_mul,Nat.zero_testBit]
  by_cases hi:k=i
  ·subst hi; rw[Nat.testBit_eq_decide_div_mod_eq]; simp[h]
  ·simp[hi]
 ·rw[h,Nat.one_mul,Nat.testBit_two_pow]
  by_cases hi:k=i
  ·subst hi; rw[Nat.testBit_eq_decide_div_mod_eq]; simp[h]
  ·simp[hi]
theorem Ed (k x:Nat) (hk:8<=k):x &&& (2 ^ k ||| (2 ^ 8 - 1))=(x / 2 ^ k % 2)*2 ^ k+x % 256:=by
 rw[Nat.and_or_distrib_left,Nat.and_two_pow_sub_one_eq_mod,HA]
 have cI:x % 2 ^ 8 < 2 ^ k:=Nat.lt_of_lt_of_le (Nat.mod_lt _ (by decide)) (Nat.pow_le_pow_right (by decide) hk)
 have:=Nat.two_pow_add_eq_or_of_lt cI (x / 2 ^ k % 2)
 rw[Nat.mul_comm,← this]
theorem yM (a m:Nat) (ha:a < 9223372036854775808) (hm:m < 9223372036854775808) (h:bits .andNot .i64 (a:Int) (m:Int)=0):a &&& m=a:=by
 have e:∀ c:Nat,c < 9223372036854775808->(BitVec.ofInt 64 (c:Int)).toNat=c:=fun c hc=>by
  rw[BitVec.ofInt_natCast,BitVec.toNat_ofNat]; exact Nat.mod_eq_of_lt (by omega)
 have h1:IntKind.i64.wrap ((BitVec.ofInt 64 (a:Int) &&& ~~~ BitVec.ofInt 64 (m:Int)).toNat:Int)=0:=h
 have cI:(BitVec.ofInt 64 (a:Int) &&& ~~~ BitVec.ofInt 64 (m:Int)).toNat < 9223372036854775808:=by
  rw[BitVec.toNat_and,e a ha]
  exact Nat.lt_of_le_of_lt Nat.and_le_left ha
 rw[IntKind.wrap_i64] at h1
 have h2:(BitVec.ofInt 64 (a:Int) &&& ~~~ BitVec.ofInt 64 (m:Int))=0#64:=BitVec.eq_of_toNat_eq (by rw[BitVec.toNat_ofNat]; omega)
 have h3:BitVec.ofInt 64 (a:Int) &&& BitVec.ofInt 64 (m:Int)=BitVec.ofInt 64 (a:Int):=by
  apply BitVec.eq_of_getLsbD_eq
  intro i hi
  have h4:=congrArg (fun v=>v.getLsbD i) h2
  simp only[BitVec.getLsbD_and,BitVec.getLsbD_not,BitVec.getLsbD_zero,hi,decide_true,Bool.true_and] at h4
  rw[BitVec.getLsbD_and]
  cases ha:(BitVec.ofInt 64 (a:Int)).getLsbD i<;>cases hb:(BitVec.ofInt 64 (m:Int)).getLsbD i<;>simp_all
 have h5:=congrArg BitVec.toNat h3
 rwa [BitVec.toNat_and,e a ha,e m hm] at h5
set_option maxRecDepth 100000 in
theorem mB (k:Nat) (hk:8<=k) (vW:k<=15) (r m:Int) (hm:m=2 ^ k+255) (h0:0 < r) (h1:r<=9223372036854775807) (h:bits .andNot .i64 r m=0):r / 2 ^ k % 2*2 ^ k+r % 256=r:=by
 have e:=yM r.toNat (2 ^ k+255) (by omega) (by have:=Nat.pow_le_pow_right (n:=2) (by omega) vW; omega) (by
  rw[show ((r.toNat:Nat):Int)=r by omega,show (((2 ^ k+255:Nat)):Int)=m by rw[hm]; push_cast; rfl]; exact h)
 have e2:2 ^ k+255=2 ^ k ||| (2 ^ 8 - 1):=by
  have cI:255 < 2 ^ k:=Nat.lt_of_lt_of_le (show 255 < 2 ^ 8 by decide) (Nat.pow_le_pow_right (by decide) hk)
  have:=Nat.two_pow_add_eq_or_of_lt cI 1
  rwa [Nat.mul_one] at this
 rw[e2,Ed k _ hk] at e
 have e3:((r.toNat / 2 ^ k % 2*2 ^ k+r.toNat % 256:Nat):Int)=((r.toNat:Nat):Int):=congrArg _ e
 push_cast at e3
 rw[show ((r.toNat:Nat):Int)=r by omega] at e3
 exact e3
theorem wq {n:Int} (h:0<=n/\n < 33554432):∃ a,0<=a/\a < 4194304/\(n=a\/n=4194304+a\/n=8388608+a\/n=12582912+a\/n=16777216+a\/n=20971520+a\/n=25165824+a\/n=29360128+a):=⟨n % 4194304,by omega⟩
theorem oP (n:Int) (h:0<=n/\n < 33554432):aB n 2=n+((if n / 4194304 % 2=n / 16777216 % 2 then 1 else 0) - n / 4194304 % 2)*4194304+((if n / 8388608 % 2=n / 16777216 % 2 then 1 else 0) - n / 8388608 % 2)*8388608:=by
 have p22:(2:Int) ^ 22=4194304:=by decide
 have p23:(2:Int) ^ 23=8388608:=by decide
 have p24:(2:Int) ^ 24=16777216:=by decide
 have p1:(2:Int) ^ 1=2:=by decide
 have b:∀ m:Int,0<=m->∀ k,aa m k 1=m / 2 ^ k % 2:=fun m hm k=>by unfold aa; rw[if_neg (by omega),p1]
 obtain⟨t,ht⟩:∃ t,t=jn (aa n 24 1) n 22:=⟨_,rfl⟩
 have e:aB n 2=jn (aa n 24 1) t 23:=by rw[ht]; rfl
 unfold jn at ht
 rw[b n h.1,b n h.1,p24,p22] at ht
 have ht0:0<=t/\t < 33554432/\t / 8388608 % 2=n / 8388608 % 2:=by
  obtain⟨a,a0,a1,h8⟩:=wq h
  rcases h8 with h8|h8|h8|h8|h8|h8|h8|h8<;>split at ht<;>omega
 rw[e]
 unfold jn
 rw[b n h.1,b t ht0.1,p24,p23,ht0.2.2,ht]
theorem mC {n:Int} (h:0<=n/\n < 33554432):0<=aB n 2/\aB n 2 < 33554432:=by
 rw[oP n h]
 obtain⟨a,a0,a1,h8⟩:=wq h
 rcases h8 with h8|h8|h8|h8|h8|h8|h8|h8<;>split<;>split<;>omega
theorem mD {n:Int} (h:0<=n/\n < 33554432):aB n 2 / 16777216=n / 16777216/\aB n 2 % 4194304=n % 4194304/\aB n 2 / 4194304 % 2=(if n / 4194304 % 2=n / 16777216 % 2 then 1 else 0)/\aB n 2 / 8388608 % 2=(if n / 8388608 % 2=n / 16777216 % 2 then 1 else 0):=by
 rw[oP n h]
 obtain⟨a,a0,a1,h8⟩:=wq h
 rcases h8 with h8|h8|h8|h8|h8|h8|h8|h8<;>split<;>split<;>omega
theorem Ee {n:Int} (h:0<=n/\n < 33554432):aB (aB n 2) 2=n:=by
 have c:=mD h
 rw[oP _ (mC h),c.1,c.2.2.1,c.2.2.2,oP n h]
 clear c
 obtain⟨a,a0,a1,h8⟩:=wq h
 have e24:n / 16777216 % 2=n / 16777216:=by omega
 rw[e24]
 rcases h8 with h8|h8|h8|h8|h8|h8|h8|h8
 ·have x:n / 4194304 % 2=0:=by omega
  have y:n / 8388608 % 2=0:=by omega
  have z:n / 16777216=0:=by omega
  rw[x,y,z]; simp<;>omega
 ·have x:n / 4194304 % 2=1:=by omega
  have y:n / 8388608 % 2=0:=by omega
  have z:n / 16777216=0:=by omega
  rw[x,y,z]; simp<;>omega
 ·have x:n / 4194304 % 2=0:=by omega
  have y:n / 8388608 % 2=1:=by omega
  have z:n / 16777216=0:=by omega
  rw[x,y,z]; simp<;>omega
 ·have x:n / 4194304 % 2=1:=by omega
  have y:n / 8388608 % 2=1:=by omega
  have z:n / 16777216=0:=by omega
  rw[x,y,z]; simp<;>omega
 ·have x:n / 4194304 % 2=0:=by omega
  have y:n / 8388608 % 2=0:=by omega
  have z:n / 16777216=1:=by omega
  rw[x,y,z]; simp<;>omega
 ·have x:n / 4194304 % 2=1:=by omega
  have y:n / 8388608 % 2=0:=by omega
  have z:n / 16777216=1:=by omega
  rw[x,y,z]; simp<;>omega
 ·have x:n / 4194304 % 2=0:=by omega
  have y:n / 8388608 % 2=1:=by omega
  have z:n / 16777216=1:=by omega
  rw[x,y,z]; simp<;>omega
 ·have x:n / 4194304 % 2=1:=by omega
  have y:n / 8388608 % 2=1:=by omega
  have z:n / 16777216=1:=by omega
  rw[x,y,z]; simp<;>omega
theorem aI {i:IN} (h:ae i.form≠34):dB i=i:=if_neg h
theorem XY {i:IN} (h:ae i.form=34):dB i = {i with av:=aB (aa i.av 0 25) 2}:=if_pos h
theorem aZ {a b:IN} (h0:a.form=b.form) (h1:a.rd=b.rd) (h2:a.rn=b.rn) (h3:a.rm=b.rm) (h4:a.ra=b.ra) (h5:a.av=b.av) (h6:a.kind=b.kind) (h7:a.bG=b.bG) (h8:a.set=b.set) (h9:a.cond=b.cond) (cY:a.an=b.an):a=b:=by
 cases a; cases b; simp_all
def c9 (s:Int) (i:IN):IN:=⟨i.form,xR s i 0,xR s i 1,if s=32 then aa i.rm 0 4 else xR s i 2,xR s i 3,qH s i.form (xR s i 4),xR s i 5,OP s (xR s i 5) (xR s i 6),xR s i 7,xR s i 8,xR s i 9⟩
theorem Ef (i:IN) (Eg:ae i.form=32->aa (bs i) 0 4=aa (dB i).rm 0 4):aW i.form (bs i) = {c9 (ae i.form) (dB i) with form:=i.form}:=by
 unfold aW c9
 rw[gV,gV,gV,gV,gV,gV,gV,gV,gV,gV,iT]
 unfold XX
 by_cases h:ae i.form=32
 ·rw[if_pos h,if_pos h,Eg h]
 ·rw[if_neg h,if_neg h]
end Go.Proofs.YtnbngokbamifbaaGreatDoor.Pw

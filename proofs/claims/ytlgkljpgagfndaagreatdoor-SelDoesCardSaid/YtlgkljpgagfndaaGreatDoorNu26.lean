/- What this claim is proved with: no condition. -/
import Derived.Test.YtlgkljpgagfndaaGreatDoorNu25
import Derived.Test.YtlgkljpgagfndaaGreatDoorNu15
import Derived.WalkKit
import Derived.Lib.Walk
import Derived.Lib.SliceRun
import Derived.Lib.AppendZerosOnto
import Derived.Test.YtlgkljpgagfndaaGreatDoorNuImmD
set_option maxRecDepth 100000
set_option maxHeartbeats 4000000
set_option linter.unusedVariables false
set_option linter.unusedSimpArgs false
namespace Go.Proofs.YtlgkljpgagfndaaGreatDoor.Pw
open Go Go.RowKit
def aO (o:VO):Prop:=(1<=o.kind/\o.kind<=31)/\(dd 0 (cv o.kind) o.t0/\dd 1 (cv o.kind) o.t1)/\(dd 0 (aI o.kind) o.f0/\dd 1 (aI o.kind) o.f1/\dd 2 (aI o.kind) o.f2/\dd 3 (aI o.kind) o.f3)/\(cv o.kind < 2\/o.t0≠o.t1)/\cC o.kind o.n
theorem yV (o:VO) (hn:0<=o.n/\o.n<=4294967295):ai gT 25 [nC o] (.bool (aO o)):=by
 refine Spec.enter al P25 100 Tryz.func25 rfl (by kernel_rfl) ?_
 refine (El o.kind).u ?_
 refine (bI o.kind).u ?_
 refine⟨fun h1=>?_,fun h1=>?_⟩
 ·refine⟨[],bf,Jt (Ek o (cv o.kind)) (by repeat' first|exact trivial|exact rfl|exact Iff.rfl|exact Or.inl rfl|refine And.intro ?_ ?_) rfl rfl (And.intro (by repeat' first|exact trivial|exact rfl|exact Iff.rfl|exact Or.inl rfl|refine And.intro ?_ ?_) ?_)⟩
  refine⟨fun h2=>?_,fun h2=>?_⟩
  ·refine⟨[],bf,Jt (yU o (aI o.kind)) (by repeat' first|exact trivial|exact rfl|exact Iff.rfl|exact Or.inl rfl|refine And.intro ?_ ?_) rfl rfl (And.intro (by repeat' first|exact trivial|exact rfl|exact Iff.rfl|exact Or.inl rfl|refine And.intro ?_ ?_) ?_)⟩
   refine⟨fun h3=>?_,fun h3=>?_⟩
   ·refine⟨fun h4=>?_,fun h4=>?_⟩
    ·refine (oU o.kind o.n hn).u ?_
     refine ax ?_
     exact (show cC o.kind o.n↔aO o from ⟨fun h=>⟨h1,h2,h3,.inl h4,h⟩,fun h=>h.2.2.2.2⟩)
    ·refine⟨fun h5=>?_,fun h5=>?_⟩
     ·refine (oU o.kind o.n hn).u ?_
      refine ax ?_
      exact (show cC o.kind o.n↔aO o from ⟨fun h=>⟨h1,h2,h3,.inr h5,h⟩,fun h=>h.2.2.2.2⟩)
     ·refine ax ?_
      exact (show ¬ aO o from fun h=>h.2.2.2.1.elim h4 h5)
   ·refine ax ?_
    exact (show ¬ aO o from fun h=>h3 h.2.2.1)
  ·refine ax ?_
   exact (show ¬ aO o from fun h=>h2 h.2.1)
 ·refine ax ?_
  exact (show ¬ aO o from fun h=>h1 h.1)
open Classical in
noncomputable def lW {α:Type} (p:α->Prop):List α->Nat->Int
 | [],_=>-1
 | x::l,i=>if p x then (i:Int) else lW p l (i+1)
theorem sV {α:Type} {p:α->Prop}:∀ {l:List α} {i:Nat},0<=lW p l i↔∃ x∈l,p x
 | [],i=>by simp[lW]
 | x::l,i=>by
  rw[lW]
  by_cases h:p x
  ·rw[if_pos h]
   exact⟨fun _=>⟨x,by simp,h⟩,fun _=>by omega⟩
  ·rw[if_neg h,sV (l:=l)]
   refine⟨fun ⟨y,hy,hp⟩=>⟨y,by simp[hy],hp⟩,fun ⟨y,hy,hp⟩=>?_⟩
   rcases List.mem_cons.1 hy with rfl|hy
   ·exact absurd hp h
   ·exact⟨y,hy,hp⟩
theorem mr {α:Type} {p:α->Prop} {l:List α} {i:Nat} {x:α} (h:l[i]?=some x):(p x->lW p (l.drop i) i=i)/\(¬ p x->lW p (l.drop i) i=lW p (l.drop (i+1)) (i+1)):=by
 obtain⟨cE,hx⟩:=List.getElem?_eq_some_iff.1 h
 rw[List.drop_eq_getElem_cons cE,hx,lW]
 exact⟨fun h=>if_pos h,fun h=>if_neg h⟩
theorem yW {α:Type} {p:α->Prop} {l:List α} {i:Nat} (h:l.length<=i):lW p (l.drop i) i = -1:=by rw[List.drop_of_length_le h]; rfl
theorem A0 (l:List Int) (x:Int):ai gT 96 [.sl 1 (cG l),.int .i64 x] (.int .i64 (lW (x = ·) l 0)):=by
 refine Spec.enter al P96 100 Tryz.func96 rfl (by kernel_rfl) ?_
 intro hm
 obtain⟨z,hz⟩:∃ z,z=lW (x = ·) l 0:=⟨_,rfl⟩
 rw[← hz]
 refine SW.r9 al P96 (by kernel_rfl) (α:={i:Nat // lW (x = ·) (l.drop i) i=z}) (fun i=>[(8,.int .i64 i.1)]) (fun i=>l.length - i.1) ⟨0,hz.symm⟩ 60 ?_ ?_
 ·repeat' first|exact trivial|exact rfl|refine And.intro ?_ ?_
 rintro⟨i,hi⟩
 have el:(cG l).length=l.length:=List.length_map ..
 refine⟨fun h=>?_,fun h=>?_⟩
 ·have h':(i:Int) < ((cG l).length:Nat):=h
  refine⟨Int,l,PV.int .i64,rfl,show (0:Int)<=(i:Int) by omega,show (i:Int) < (l.length:Int) by omega,fun y hy=>?_⟩
  have CV:l[i]?=some y:=hy
  refine⟨fun he=>?_,fun he=>?_⟩
  ·refine ax ?_
   exact (show (i:Int)=z by rw[← hi,(mr CV).1 he])
  ·unfold maxLen at hm
   refine .inl ⟨aq (show _<=(i:Int)+1/\(i:Int)+1<=_ by omega),⟨⟨i+1,by rw[← hi,(mr CV).2 he]⟩,show l.length - (i+1) < l.length - i by omega,?_⟩⟩
   repeat' first|exact trivial|exact rfl|refine And.intro ?_ ?_
 ·have h':¬ (i:Int) < ((cG l).length:Nat):=h
  refine ax ?_
  exact (show (-1:Int)=z by rw[← hi,yW (by omega)])
theorem tY (l:List Int) (x:Int):ai gT 61 [.sl 1 (cG l),.int .i64 x] (.bool (x∈l)):=by
 refine Spec.enter al P61 100 Tryz.func61 rfl (by kernel_rfl) ?_
 refine (A0 l x).u ?_
 refine ax ?_
 exact (show 0<=lW (x = ·) l 0↔x∈l by rw[sV]; exact⟨fun ⟨y,hy,e⟩=>e ▸ hy,fun h=>⟨x,h,rfl⟩⟩)
theorem yX (o:VO) (x:Int):Spec gT 60 [.int .i64 x,.ptr 0 0] [oB o] [] fun r S'=>r = .bool (x∈nm o.from_)/\S' = [oB o]:=by
 refine Spec.jP (Spec.enter al P60 100 Tryz.func60 rfl (by kernel_rfl) ?_)
 refine (Ej o).u ?_
 refine (tY _ x).u ?_
 exact bo Iff.rfl (by repeat' first|exact trivial|exact rfl|exact Iff.rfl|exact Or.inl rfl|refine And.intro ?_ ?_)
theorem yY (o:VO) (l:List Int):Spec gT 95 [.sl 1 (cG l),.clo 60 [.ptr 0 0]] [oB o] [] fun r S'=>r = .int .i64 (lW (·∈nm o.from_) l 0)/\S' = [oB o]:=by
 refine Spec.jP (Spec.enter al P95 100 Tryz.func95 rfl (by kernel_rfl) ?_)
 intro hm
 obtain⟨z,hz⟩:∃ z,z=lW (·∈nm o.from_) l 0:=⟨_,rfl⟩
 rw[← hz]
 refine SW.r9 al P95 (by kernel_rfl) (α:={i:Nat // lW (·∈nm o.from_) (l.drop i) i=z}) (fun i=>[(8,.int .i64 i.1)]) (fun i=>l.length - i.1) ⟨0,hz.symm⟩ 60 ?_ ?_
 ·repeat' first|exact trivial|exact rfl|refine And.intro ?_ ?_
 rintro⟨i,hi⟩
 have el:(cG l).length=l.length:=List.length_map ..
 refine⟨fun h=>?_,fun h=>?_⟩
 ·have h':(i:Int) < ((cG l).length:Nat):=h
  refine⟨Int,l,PV.int .i64,rfl,show (0:Int)<=(i:Int) by omega,show (i:Int) < (l.length:Int) by omega,fun y hy=>?_⟩
  have CV:l[i]?=some y:=hy
  refine⟨[],bf,Jt (yX o y) (by repeat' first|exact trivial|exact rfl|exact Iff.rfl|exact Or.inl rfl|refine And.intro ?_ ?_) rfl rfl (And.intro (by repeat' first|exact trivial|exact rfl|exact Iff.rfl|exact Or.inl rfl|refine And.intro ?_ ?_) ?_)⟩
  refine⟨fun he=>?_,fun he=>?_⟩
  ·refine bo ?_ (by repeat' first|exact trivial|exact rfl|exact Iff.rfl|exact Or.inl rfl|refine And.intro ?_ ?_)
   exact (show (i:Int)=z by rw[← hi,(mr CV).1 he])
  ·unfold maxLen at hm
   refine .inl ⟨aq (show _<=(i:Int)+1/\(i:Int)+1<=_ by omega),⟨⟨i+1,by rw[← hi,(mr CV).2 he]⟩,show l.length - (i+1) < l.length - i by omega,?_⟩⟩
   repeat' first|exact trivial|exact rfl|refine And.intro ?_ ?_
 ·have h':¬ (i:Int) < ((cG l).length:Nat):=h
  refine bo ?_ (by repeat' first|exact trivial|exact rfl|exact Iff.rfl|exact Or.inl rfl|refine And.intro ?_ ?_)
  exact (show (-1:Int)=z by rw[← hi,yW (by omega)])
theorem sW (o:VO) (l:List Int):Spec gT 59 [.sl 1 (cG l),.clo 60 [.ptr 0 0]] [oB o] [] fun r S'=>r = .bool (∃ x∈l,x∈nm o.from_)/\S' = [oB o]:=by
 refine Spec.jP (Spec.enter al P59 100 Tryz.func59 rfl (by kernel_rfl) ?_)
 refine⟨[],bf,Jt (yY o l) (by repeat' first|exact trivial|exact rfl|exact Iff.rfl|exact Or.inl rfl|refine And.intro ?_ ?_) rfl rfl (And.intro (by repeat' first|exact trivial|exact rfl|exact Iff.rfl|exact Or.inl rfl|refine And.intro ?_ ?_) ?_)⟩
 refine bo ?_ (by repeat' first|exact trivial|exact rfl|exact Iff.rfl|exact Or.inl rfl|refine And.intro ?_ ?_)
 exact (show 0<=lW (·∈nm o.from_) l 0↔_ from sV)
def dI (cs:List PV):an:=⟨.dyn,3,1,.w,true,cs⟩
theorem NL (o:VO):Spec gT 94 [.ref 0 1 2] [oB o] [] fun r S'=>r = .wref 1/\S' = [oB o,dI (cG (nm o.to))]:=by
 refine Spec.kB al O4 100 Tryz.func94 rfl (by kernel_rfl) ?_
 refine SW.rounds al O4 (by kernel_rfl) (N:=60) 3 ?_
 repeat' ((conv=>whnf); first|(refine (And.intro (fun _=>?_) (fun _=>?_):(_->_)/\(_->_))<;>(first|(exfalso; first|contradiction|omega)|skip))|refine Or.inl (And.intro (by first|exact aq (by omega)|exact ah (by omega)|exact aF (by omega)|exact bb (by omega)) ?_)|(refine And.intro (show (_:Int)≠0 by omega) (Or.inl (And.intro (show (0:Int)<=_ by omega) (And.intro (show (0:Int) < _ by omega) ?_))))|(refine And.intro (show (_:Int)≠0 by omega) (Or.inl (And.intro (show (0:Int)<=_ by omega) (And.intro (by first|exact (show (_:Int)<=9223372036854775807 by omega)|exact (show (_:Int)<=4294967295 by omega)) (And.intro (show (0:Int) < _ by omega) ?_)))))|(refine Exists.intro [some 0,some 2] (Exists.intro [(2,.wref 1)] (Exists.intro [oB o,dI (cG (nm o.to))] (And.intro ?_ (And.intro (Nat.le_of_ble_eq_true rfl) (And.intro rfl rfl))))); (repeat' first|exact trivial|exact rfl|refine And.intro ?_ ?_); show _=_; (try simp only[Classical.not_not] at *); simp only[VO.to,h_,jM, *,if_true,if_false]; rfl)|(refine Exists.intro [some 0,some 4] (Exists.intro [(2,.wref 1)] (Exists.intro [oB o,dI (cG (nm o.to))] (And.intro ?_ (And.intro (Nat.le_of_ble_eq_true rfl) (And.intro rfl rfl))))); (repeat' first|exact trivial|exact rfl|refine And.intro ?_ ?_); show _=_; (try simp only[Classical.not_not] at *); simp only[VO.to,h_,jM, *,if_true,if_false]; rfl)|((try simp only[Classical.not_not] at *); (rw[show nm o.to = [] by simp only[VO.to,h_,jM, *,if_true,if_false]]); refine Exists.intro [some 0,none] (Exists.intro [(2,.wref 1)] (Exists.intro [oB o,dI []] (And.intro ?_ (And.intro (Nat.le_of_ble_eq_true rfl) (And.intro rfl rfl))))); (repeat' first|exact trivial|exact rfl|refine And.intro ?_ ?_))|(intro _))
theorem sX (o:VO):Spec gT 94 [.ref 0 3 4] [oB o] [] fun r S'=>r = .wref 1/\S' = [oB o,dI (cG (nm o.from_))]:=by
 refine Spec.kB al O4 100 Tryz.func94 rfl (by kernel_rfl) ?_
 refine SW.rounds al O4 (by kernel_rfl) (N:=60) 5 ?_
 repeat' ((conv=>whnf); first|(refine (And.intro (fun _=>?_) (fun _=>?_):(_->_)/\(_->_))<;>(first|(exfalso; first|contradiction|omega)|skip))|refine Or.inl (And.intro (by first|exact aq (by omega)|exact ah (by omega)|exact aF (by omega)|exact bb (by omega)) ?_)|(refine And.intro (show (_:Int)≠0 by omega) (Or.inl (And.intro (show (0:Int)<=_ by omega) (And.intro (show (0:Int) < _ by omega) ?_))))|(refine And.intro (show (_:Int)≠0 by omega) (Or.inl (And.intro (show (0:Int)<=_ by omega) (And.intro (by first|exact (show (_:Int)<=9223372036854775807 by omega)|exact (show (_:Int)<=4294967295 by omega)) (And.intro (show (0:Int) < _ by omega) ?_)))))|(refine Exists.intro [some 0,some 2] (Exists.intro [(2,.wref 1)] (Exists.intro [oB o,dI (cG (nm o.from_))] (And.intro ?_ (And.intro (Nat.le_of_ble_eq_true rfl) (And.intro rfl rfl))))); (repeat' first|exact trivial|exact rfl|refine And.intro ?_ ?_); show _=_; (try simp only[Classical.not_not] at *); simp only[VO.from_,h_,jM, *,if_true,if_false]; rfl)|(refine Exists.intro [some 0,some 4] (Exists.intro [(2,.wref 1)] (Exists.intro [oB o,dI (cG (nm o.from_))] (And.intro ?_ (And.intro (Nat.le_of_ble_eq_true rfl) (And.intro rfl rfl))))); (repeat' first|exact trivial|exact rfl|refine And.intro ?_ ?_); show _=_; (try simp only[Classical.not_not] at *); simp only[VO.from_,h_,jM, *,if_true,if_false]; rfl)|(refine Exists.intro [some 0,some 6] (Exists.intro [(2,.wref 1)] (Exists.intro [oB o,dI (cG (nm o.from_))] (And.intro ?_ (And.intro (Nat.le_of_ble_eq_true rfl) (And.intro rfl rfl))))); (repeat' first|exact trivial|exact rfl|refine And.intro ?_ ?_); show _=_; (try simp only[Classical.not_not] at *); simp only[VO.from_,h_,jM, *,if_true,if_false]; rfl)|(refine Exists.intro [some 0,some 8] (Exists.intro [(2,.wref 1)] (Exists.intro [oB o,dI (cG (nm o.from_))] (And.intro ?_ (And.intro (Nat.le_of_ble_eq_true rfl) (And.intro rfl rfl))))); (repeat' first|exact trivial|exact rfl|refine And.intro ?_ ?_); show _=_; (try simp only[Classical.not_not] at *); simp only[VO.from_,h_,jM, *,if_true,if_false]; rfl)|((try simp only[Classical.not_not] at *); (rw[show nm o.from_ = [] by simp only[VO.from_,h_,jM, *,if_true,if_false]]); refine Exists.intro [some 0,none] (Exists.intro [(2,.wref 1)] (Exists.intro [oB o,dI []] (And.intro ?_ (And.intro (Nat.le_of_ble_eq_true rfl) (And.intro rfl rfl))))); (repeat' first|exact trivial|exact rfl|refine And.intro ?_ ?_))|(intro _))
theorem Ju (o:VO):Spec gT 57 [nC o] [] [] fun r S'=>r = .wref 0/\S' = [dI (cG (nm o.from_))]:=by
 refine Spec.kB al P57 100 Tryz.func57 rfl (by kernel_rfl) ?_
 refine⟨[],bf,(sX o).mono ?_⟩
 rintro r S' ⟨rfl,rfl⟩
 refine Exists.intro [some 1] (Exists.intro [(2,.wref 0)] (Exists.intro [dI (cG (nm o.from_))] (And.intro ?_ (And.intro (Nat.le_of_ble_eq_true rfl) (And.intro rfl rfl)))))
 repeat' first|exact trivial|exact rfl|refine And.intro ?_ ?_
def dQ (o:VO):Prop:=(∀ x∈nm o.from_++nm o.to,x < 8)/\¬ ∃ x∈nm o.to,x∈nm o.from_
theorem Jv (l:List Int):(nm l).length<=l.length:=List.length_filter_le ..
theorem yZ (o:VO):ai gT 26 [nC o] (.bool (dQ o)):=by
 have l1:(cG (nm o.from_)).length<=4:=by rw[cG,List.length_map]; exact Jv _
 have l2:(cG (nm o.to)).length<=2:=by rw[cG,List.length_map]; exact Jv _
 refine Spec.enter al P26 100 Tryz.func26 rfl (by kernel_rfl) ?_
 refine⟨[],bf,(Ju o).GX rfl rfl rfl (by repeat' first|exact trivial|exact rfl|exact Iff.rfl|exact Or.inl rfl|refine And.intro ?_ ?_) rfl ?_⟩
 refine (uW o).u ?_
 have l3:(cG (nm o.from_)++cG (nm o.to)).length=(nm o.from_++nm o.to).length:=by simp[cG]
 have l4:(nm o.from_++nm o.to).length<=6:=by rw[← l3,List.length_append]; omega
 have e3:cG (nm o.from_)++cG (nm o.to)=(nm o.from_++nm o.to).map (PV.int .i64):=by simp[cG]
 refine⟨show (cG (nm o.from_)).length+(cG (nm o.to)).length<=maxLen by unfold maxLen; omega,show ((cG (nm o.from_)).length+(cG (nm o.to)).length)*8<=140737488355328 by omega,?_⟩
 intro _
 refine SW.r9 al P26 (by kernel_rfl) (α:={i:Nat // ∀ x∈(nm o.from_++nm o.to).take i,x < 8}) (fun i=>[(11,.int .i64 i.1)]) (fun i=>(nm o.from_++nm o.to).length - i.1) ⟨0,by simp⟩ 60 ?_ ?_
 ·repeat' first|exact trivial|exact rfl|refine And.intro ?_ ?_
 rintro⟨i,hi⟩
 refine⟨fun h=>?_,fun h=>?_⟩
 ·have h':(i:Int) < ((cG (nm o.from_)++cG (nm o.to)).length:Nat):=h
  refine⟨show (0:Int)<=(i:Int) by omega,show (i:Int) < ((cG (nm o.from_)++cG (nm o.to)).length:Nat) by omega,Int,nm o.from_++nm o.to,PV.int .i64,e3,show (i:Int).toNat < (nm o.from_++nm o.to).length by omega,fun x hx=>?_⟩
  have uv:(nm o.from_++nm o.to)[i]?=some x:=hx
  refine⟨fun h8=>?_,fun h8=>?_⟩
  ·refine ax ?_
   exact (show ¬ dQ o from fun hs=>by have:=hs.1 x (List.mem_of_getElem? uv); omega)
  ·refine .inl ⟨aq (show _<=(i:Int)+1/\(i:Int)+1<=_ by omega),⟨⟨i+1,fun y hy=>?_⟩,show (nm o.from_++nm o.to).length - (i+1) < (nm o.from_++nm o.to).length - i by omega,?_⟩⟩
   ·rw[List.take_add_one,uv,List.mem_append] at hy
    rcases hy with hy|hy
    ·exact hi y hy
    ·simp at hy; subst hy; omega
   ·repeat' first|exact trivial|exact rfl|refine And.intro ?_ ?_
 ·have h':¬ (i:Int) < ((cG (nm o.from_)++cG (nm o.to)).length:Nat):=h
  rw[List.take_of_length_le (by omega)] at hi
  refine (uW o).u ?_
  refine⟨[],bf,Jt (sW o (nm o.to)) (by repeat' first|exact trivial|exact rfl|exact Iff.rfl|exact Or.inl rfl|refine And.intro ?_ ?_) rfl rfl (And.intro (by repeat' first|exact trivial|exact rfl|exact Iff.rfl|exact Or.inl rfl|refine And.intro ?_ ?_) ?_)⟩
  refine ax ?_
  exact (show (¬ ∃ x∈nm o.to,x∈nm o.from_)↔dQ o from ⟨fun h=>⟨hi,h⟩,fun h=>h.2⟩)
def sY:Value:=.agg #[.int .i64 0,.int .i64 0,.int .i64 0,.int .i64 0,.int .i64 0,.int .i64 0,.int .i64 0,.int .i64 0,.int .i64 0,.int .i64 0,.int .i64 0]
theorem Em (w:World):Calls Tryz.prog 62 #[.slice none 0 0,.int .i64 0] w fun e w'=>e = .returned (.slice none 0 0)/\w'=w:=by
 go_enter Tryz.func62,Tryz.ntmps62
 go_wp2
 go_ret
 exact⟨rfl,rfl⟩
theorem En (n:Nat) (h0:0 < n) (VQ:n*88<=140737488355328) (w:World):Calls Tryz.prog 62 #[.slice none 0 0,.int .i64 n] w fun e w' =>
  ∃ (cs:Array Value),cs.size=grownCap w n 0 75*11/\e = .returned (.slice (some ⟨w.heap.size,0,none⟩) 0 (grownCap w n 0 75))/\w'=w.drew.alloc (.cells cs 75):=by
 have h1:¬ ((n:Int) < 0):=by omega
 have h3:wrap64 (n:Int)=n:=by unfold wrap64; omega
 have h4:(n:Int) > 0:=by omega
 obtain⟨i0,hi0,WG,Lg,gq⟩:∃ i,Tryz.prog.info? 75=some i/\i.zero=some sY/\i.size=11/\i.bytes=88:=⟨Tryz.t75,by kernel_rfl,by kernel_rfl,by kernel_rfl,by kernel_rfl⟩
 have hrz:∀ ty,(Builtin.append_ #[32,3] ty #[.slice none 0 0,.int .i64 n]).run Tryz.prog w =
   .ok (.slice (some ⟨w.heap.size,0,none⟩) n (grownCap w n 0 75)) (w.drew.alloc (.cells (#[]++Builtin.zeroCells sY.cells n++Builtin.zeroCells sY.cells (grownCap w n 0 75 - n)) 75)):=fun ty=>by
  have h:=Lib.run_append_grow_zeros w 32 3 ty 75 i0 sY .i64 .i64 Tryz.underlying32 Tryz.underlying3 hi0 WG none 0 0 [] (run_firstCells_none w.drew i0.size 0 0 0) n h0 (by omega) (by omega) (by omega)
   (by rw[gq]; omega) (by rw[Nat.zero_add]; exact growslice_fits h0 (by rw[gq]; exact VQ))
  rw[Nat.zero_add] at h
  exact h
 obtain⟨C,hC⟩:∃ C,C = #[]++Builtin.zeroCells sY.cells n++Builtin.zeroCells sY.cells (grownCap w n 0 75 - n):=⟨_,rfl⟩
 have hGn:n<=grownCap w n 0 75:=grownCap_ge w _ _ _
 have hCs:C.size=grownCap w n 0 75*11:=by
  rw[hC]
  simp only[Array.size_append,size_zeroCells,List.size_toArray,List.length_nil,Nat.zero_add]
  rw[show sY.cells.size=11 from rfl,← Nat.add_mul,Nat.add_sub_cancel' hGn]
 rw[← hC] at hrz
 clear hC
 obtain⟨G,hG⟩:∃ G,G=grownCap w n 0 75:=⟨_,rfl⟩
 have hG63:G<=9223372036854775807:=by
  have:=grownCap_le_maxLen w n 0 75 (by unfold maxLen; omega)
  rw[← hG] at this
  unfold maxLen at this
  omega
 rw[← hG] at hrz hGn hCs ⊢
 clear hG hi0 WG Lg gq
 go_enter Tryz.func62,Tryz.ntmps62
 go_wp2_with (at_builtin; refine Lib.wpList_append_run _ rfl _ _ _ _ rfl _ _ rfl rfl _ _ (hrz _) ?_)
 all_goals (go_ret; exact⟨C,hCs,rfl,rfl⟩)
def Xa (cs:List PV):an:=⟨.dyn,75,11,.w,true,cs⟩
theorem Jw (n:Nat) (VQ:n*88<=140737488355328):Spec gT 62 [.nil,.int .i64 n] [] [] fun r S'=>r = .wref 0/\S' = [Xa []]:=by
 refine Spec.intro (fY Tryz.func62 rfl (by kernel_rfl)) fun I β w vals hH hM hA=>?_
 obtain⟨v,u,rfl,h1,h2⟩:=isL2 hA
 simp only[PV.Is] at h1 h2
 subst h1; subst h2
 rcases Nat.eq_zero_or_pos n with rfl|h0
 ·refine (Em w).mono ?_
  rintro e w' ⟨rfl,rfl⟩
  have Qr:=hH.add (w':=w') (b:=Xa []) (p:=⟨none,0,0⟩) (fun _ _=>rfl) (fun g o ha=>by cases ha) ⟨_,aB.dB ..,⟨by decide,rfl,Nat.le_refl _,Nat.zero_le _⟩,.inl ⟨rfl,rfl⟩⟩
  exact⟨_,.wref 0,[Xa []],I,_,rfl,⟨rfl,rfl⟩,(by simp only[PV.Is]; exact⟨_,aB.dB ..,rfl⟩),Qr,hM,Ext.add hH rfl rfl rfl (Nat.le_refl _) (fun _ _ _=>rfl) (fun g o ha=>by cases ha),Nat.zero_le _,fun l hl=>absurd hl (Nat.not_lt_zero _)⟩
 ·refine (En n h0 VQ w).mono ?_
  rintro e w' ⟨cs,iD,rfl,rfl⟩
  have Ky:aN I β [] w.drew:=hH.lH rfl
  have hcm:grownCap w n 0 75<=maxLen:=grownCap_le_maxLen w n 0 75 (by unfold maxLen; omega)
  obtain⟨G,hG⟩:∃ G,G=grownCap w n 0 75:=⟨_,rfl⟩
  rw[← hG] at iD hcm ⊢
  have hI:∀ g,I g->g < w.drew.heap.size:=hM.ay
  obtain⟨hA1,hE⟩:=mb (vs:=cs) (t:=75) Ky hI (b:=Xa []) (p:=⟨some (w.heap.size,0),0,G⟩) rfl (fun ho =>
   ⟨_,aB.dB ..,⟨by decide,rfl,Nat.zero_le _,hcm⟩,.inr ⟨w.heap.size,cs,(0,0),rfl,Ev.lr w.drew _,(by simp only[Xa,cD]),ho,iD⟩⟩) rfl
  refine⟨_,.wref 0,[Xa []],I,_,rfl,⟨rfl,rfl⟩,(by simp only[PV.Is]; exact⟨_,aB.dB ..,rfl⟩),hA1,?_,(show Ext I β [] w I β [] w.drew from Ext.lH rfl rfl rfl rfl).trans hE,Nat.zero_le _,fun l hl=>absurd hl (Nat.not_lt_zero _)⟩
  exact hM.below ⟨rfl,rfl,rfl,by simp,fun g hg=>Ev.qY w.drew _ g hg⟩
theorem y0 (a b c d:List IN) (h:a.length+b.length+c.length+d.length<=1000000):ai gT 29 [.sl 1 [.sl 11 (bO a),.sl 11 (bO b),.sl 11 (bO c),.sl 11 (bO d)]] (.sl 11 (bO (a++b++c++d))):=by
 have ha:(bO a).length=a.length:=List.length_map ..
 have hb:(bO b).length=b.length:=List.length_map ..
 have hc:(bO c).length=c.length:=List.length_map ..
 have hd:(bO d).length=d.length:=List.length_map ..
 refine Spec.enter al P29 100 Tryz.func29 rfl (by kernel_rfl) ?_
 intro _
 refine SW.rounds al P29 (by kernel_rfl) (N:=60) 5 ?_
 refine⟨fun _=>?_,fun h=>absurd (show (0:Int) < 4 by decide) h⟩
 refine⟨PV,[.sl 11 (bO a),.sl 11 (bO b),.sl 11 (bO c),.sl 11 (bO d)],id,rfl,by decide,show (_:Int) < 4 by decide,fun x hx=>?_⟩
 obtain rfl:PV.sl 11 (bO a)=x:=Option.some.inj hx
 intro _
 refine li ?_
 refine⟨fun h=>absurd h (by omega),fun _=>?_⟩
 refine⟨fun _=>?_,fun h=>absurd (show (1:Int) < 4 by decide) h⟩
 refine⟨PV,[.sl 11 (bO a),.sl 11 (bO b),.sl 11 (bO c),.sl 11 (bO d)],id,rfl,by decide,show (_:Int) < 4 by decide,fun x hx=>?_⟩
 obtain rfl:PV.sl 11 (bO b)=x:=Option.some.inj hx
 intro _
 refine li ?_
 refine⟨fun h=>absurd h (by omega),fun _=>?_⟩
 refine⟨fun _=>?_,fun h=>absurd (show (2:Int) < 4 by decide) h⟩
 refine⟨PV,[.sl 11 (bO a),.sl 11 (bO b),.sl 11 (bO c),.sl 11 (bO d)],id,rfl,by decide,show (_:Int) < 4 by decide,fun x hx=>?_⟩
 obtain rfl:PV.sl 11 (bO c)=x:=Option.some.inj hx
 intro _
 refine li ?_
 refine⟨fun h=>absurd h (by omega),fun _=>?_⟩
 refine⟨fun _=>?_,fun h=>absurd (show (3:Int) < 4 by decide) h⟩
 refine⟨PV,[.sl 11 (bO a),.sl 11 (bO b),.sl 11 (bO c),.sl 11 (bO d)],id,rfl,by decide,show (_:Int) < 4 by decide,fun x hx=>?_⟩
 obtain rfl:PV.sl 11 (bO d)=x:=Option.some.inj hx
 intro _
 refine li ?_
 refine⟨fun h=>absurd h (by omega),fun _=>?_⟩
 refine⟨fun h=>absurd (show (4:Int) < 4 from h) (by decide),fun _=>?_⟩
 refine⟨[],bf,(Jw (a.length+b.length+c.length+d.length) (by omega)).GX rfl rfl rfl ⟨trivial,(show _=_ by omega),trivial⟩ rfl ?_⟩
 intro _
 refine SW.rounds al P29 (by kernel_rfl) (N:=60) 5 ?_
 refine⟨fun _=>?_,fun h=>absurd (show (0:Int) < 4 by decide) h⟩
 refine⟨PV,[.sl 11 (bO a),.sl 11 (bO b),.sl 11 (bO c),.sl 11 (bO d)],id,rfl,by decide,show (_:Int) < 4 by decide,fun x hx=>?_⟩
 obtain rfl:PV.sl 11 (bO a)=x:=Option.some.inj hx
 refine⟨show (([]:List PV)).length+(bO a).length<=maxLen by simp only[List.length_append,List.length_nil,ha,hb,hc,hd]; unfold maxLen; omega,show ((([]:List PV)).length+(bO a).length)*88<=140737488355328 by simp only[List.length_append,List.length_nil,ha,hb,hc,hd]; omega,?_⟩
 refine⟨fun _=>?_,fun h=>absurd (show (1:Int) < 4 by decide) h⟩
 refine⟨PV,[.sl 11 (bO a),.sl 11 (bO b),.sl 11 (bO c),.sl 11 (bO d)],id,rfl,by decide,show (_:Int) < 4 by decide,fun x hx=>?_⟩
 obtain rfl:PV.sl 11 (bO b)=x:=Option.some.inj hx
 refine⟨show (([]:List PV)++bO a).length+(bO b).length<=maxLen by simp only[List.length_append,List.length_nil,ha,hb,hc,hd]; unfold maxLen; omega,show ((([]:List PV)++bO a).length+(bO b).length)*88<=140737488355328 by simp only[List.length_append,List.length_nil,ha,hb,hc,hd]; omega,?_⟩
 refine⟨fun _=>?_,fun h=>absurd (show (2:Int) < 4 by decide) h⟩
 refine⟨PV,[.sl 11 (bO a),.sl 11 (bO b),.sl 11 (bO c),.sl 11 (bO d)],id,rfl,by decide,show (_:Int) < 4 by decide,fun x hx=>?_⟩
 obtain rfl:PV.sl 11 (bO c)=x:=Option.some.inj hx
 refine⟨show (([]:List PV)++bO a++bO b).length+(bO c).length<=maxLen by simp only[List.length_append,List.length_nil,ha,hb,hc,hd]; unfold maxLen; omega,show ((([]:List PV)++bO a++bO b).length+(bO c).length)*88<=140737488355328 by simp only[List.length_append,List.length_nil,ha,hb,hc,hd]; omega,?_⟩
 refine⟨fun _=>?_,fun h=>absurd (show (3:Int) < 4 by decide) h⟩
 refine⟨PV,[.sl 11 (bO a),.sl 11 (bO b),.sl 11 (bO c),.sl 11 (bO d)],id,rfl,by decide,show (_:Int) < 4 by decide,fun x hx=>?_⟩
 obtain rfl:PV.sl 11 (bO d)=x:=Option.some.inj hx
 refine⟨show (([]:List PV)++bO a++bO b++bO c).length+(bO d).length<=maxLen by simp only[List.length_append,List.length_nil,ha,hb,hc,hd]; unfold maxLen; omega,show ((([]:List PV)++bO a++bO b++bO c).length+(bO d).length)*88<=140737488355328 by simp only[List.length_append,List.length_nil,ha,hb,hc,hd]; omega,?_⟩
 refine⟨fun h=>absurd (show (4:Int) < 4 from h) (by decide),fun _=>?_⟩
 refine ax ?_
 exact (show []++bO a++bO b++bO c++bO d=_ by simp[bO])
theorem nt (x:Int) (hx:0<=x/\x<=4294967295):ai gT 66 [.int .u32 x] (.tup [.int .i64 (Rm.nz x),.int .i64 (Rm.k_ x)]) :=
 ai.G9 (fY Tryz.func66 rfl (by kernel_rfl)) fun I β w vals hM hA=>by
  obtain⟨v,rfl,h1⟩:=Yh hA
  simp only[PV.Is] at h1
  subst h1
  refine⟨.tuple #[.int .i64 (Rm.nz x),.int .i64 (Rm.k_ x)],jI (iy (dn ..) (iy (dn ..) sg)),fun _ _ _=>jI (iy (dn ..) (iy (dn ..) sg)),?_⟩
  refine (Qx x w (G' hM) hx.1 hx.2).mono ?_
  rintro e w' ⟨rfl,rfl⟩
  exact⟨rfl,Below.refl _ _⟩
def iF (f d n m:Int):IN:={ iZ with form:=f,rd:=d,rn:=n,rm:=m }
def iM (f d n:Int):IN:={ iZ with form:=f,rd:=d,ay:=n }
def eH (t:Int):IN:=iF 73 t t t
def gj (t:Int):IN:={ iZ with form:=2,rd:=t,rm:=t,ay:=31 }
theorem qe (t:Int):ai gT 63 [.int .i64 t] (c9 (eH t)):=by
 refine Spec.enter al P63 100 Tryz.func63 rfl (by kernel_rfl) ?_
 exact rA
theorem sZ (t:Int):ai gT 64 [.int .i64 t] (c9 (gj t)):=by
 refine Spec.enter al P64 100 Tryz.func64 rfl (by kernel_rfl) ?_
 exact rA
def aA (k:Int):Int:=if k=7 then 66 else if k=8 then 68 else if k=9 then 70 else if k=10 then 4 else if k=11 then 5 else if k=12 then 92 else if k=13 then 88 else if k=14 then 89 else if k=15 then 91 else if k=28 then 97 else 0
theorem y1 (k:Int):ai gT 27 [.int .i64 k] (.int .i64 (aA k)):=by
 refine Spec.enter al P27 100 Tryz.func27 rfl (by kernel_rfl) ?_
 repeat' ((conv=>whnf); first|(refine (And.intro (fun _=>?_) (fun _=>?_):(_->_)/\(_->_))<;>(first|(exfalso; first|contradiction|omega)|skip))|refine Or.inl (And.intro (by first|exact aq (by omega)|exact ah (by omega)|exact aF (by omega)|exact bb (by omega)) ?_)|(refine And.intro (show (_:Int)≠0 by omega) (Or.inl (And.intro (show (0:Int)<=_ by omega) (And.intro (show (0:Int) < _ by omega) ?_))))|(refine And.intro (show (_:Int)≠0 by omega) (Or.inl (And.intro (show (0:Int)<=_ by omega) (And.intro (by first|exact (show (_:Int)<=9223372036854775807 by omega)|exact (show (_:Int)<=4294967295 by omega)) (And.intro (show (0:Int) < _ by omega) ?_)))))|(refine ax ?_; show _=_; simp only[aA, *,if_true,if_false,reduceIte,Int.reduceEq])|(intro _))
theorem NM (f:Int):ai gT 28 [.int .i64 f] (.bool (1<=f/\f<=100)):=by
 refine Spec.enter al P28 100 Tryz.func28 rfl (by kernel_rfl) ?_
 repeat' ((conv=>whnf); first|(refine (And.intro (fun _=>?_) (fun _=>?_):(_->_)/\(_->_))<;>(first|(exfalso; first|contradiction|omega)|skip))|refine Or.inl (And.intro (by first|exact aq (by omega)|exact ah (by omega)|exact aF (by omega)|exact bb (by omega)) ?_)|(refine And.intro (show (_:Int)≠0 by omega) (Or.inl (And.intro (show (0:Int)<=_ by omega) (And.intro (show (0:Int) < _ by omega) ?_))))|(refine And.intro (show (_:Int)≠0 by omega) (Or.inl (And.intro (show (0:Int)<=_ by omega) (And.intro (by first|exact (show (_:Int)<=9223372036854775807 by omega)|exact (show (_:Int)<=4294967295 by omega)) (And.intro (show (0:Int) < _ by omega) ?_)))))|(refine ax ?_; show _↔_; omega)|(refine ax ?_; show ¬ _; omega)|(intro _))
def bp (o:VO):List IN:=if o.kind=2 then [iM 38 o.t0 o.n] else if o.kind=3 then [iM 37 o.f0 o.n] else if o.kind=4 then [iM 39 o.t0 o.n] else if o.kind=5 then [{ iF 87 o.t0 o.f0 o.f1 with bF:=2 }] else if o.kind=6 then [{ iF 86 o.f2 o.f0 o.f1 with bF:=2 }] else []
theorem y2 (o:VO) (hn:0<=o.n/\o.n<=4294967295):ai gT 30 [nC o] (.sl 11 (bO (bp o))):=by
 refine Spec.enter al P30 100 Tryz.func30 rfl (by kernel_rfl) ?_
 repeat' ((conv=>whnf); first|(refine (And.intro (fun _=>?_) (fun _=>?_):(_->_)/\(_->_))<;>(first|(exfalso; first|contradiction|omega)|skip))|refine Or.inl (And.intro (by first|exact aq (by omega)|exact ah (by omega)|exact aF (by omega)|exact bb (by omega)) ?_)|(refine And.intro (show (_:Int)≠0 by omega) (Or.inl (And.intro (show (0:Int)<=_ by omega) (And.intro (show (0:Int) < _ by omega) ?_))))|(refine And.intro (show (_:Int)≠0 by omega) (Or.inl (And.intro (show (0:Int)<=_ by omega) (And.intro (by first|exact (show (_:Int)<=9223372036854775807 by omega)|exact (show (_:Int)<=4294967295 by omega)) (And.intro (show (0:Int) < _ by omega) ?_)))))|(refine ax ?_; show _=_; simp only[bp, *,if_true,if_false,reduceIte,Int.reduceEq]; rfl)|(intro _))
def aK (o:VO):List IN:=if o.kind=23 then [iF 4 o.t0 o.f0 o.f2,iF 72 o.t1 o.f1 o.f3] else if o.kind=24 then [iF 5 o.t0 o.f0 o.f2,iF 73 o.t1 o.f1 o.f3] else if o.kind=25 then [iF 5 o.t0 o.f0 o.f2,{ iF 73 o.t0 o.f1 o.f3 with set:=1 },eH o.t0,gj o.t0] else if o.kind=26 then [{ iF 95 o.t0 o.f0 o.f1 with ra:=o.t1 }] else []
theorem A2 (o:VO):ai gT 31 [nC o] (.sl 11 (bO (aK o))):=by
 refine Spec.enter al P31 100 Tryz.func31 rfl (by kernel_rfl) ?_
 repeat' ((conv=>whnf); first|(refine (And.intro (fun _=>?_) (fun _=>?_):(_->_)/\(_->_))<;>(first|(exfalso; first|contradiction|omega)|skip))|refine Or.inl (And.intro (by first|exact aq (by omega)|exact ah (by omega)|exact aF (by omega)|exact bb (by omega)) ?_)|(refine And.intro (show (_:Int)≠0 by omega) (Or.inl (And.intro (show (0:Int)<=_ by omega) (And.intro (show (0:Int) < _ by omega) ?_))))|(refine And.intro (show (_:Int)≠0 by omega) (Or.inl (And.intro (show (0:Int)<=_ by omega) (And.intro (by first|exact (show (_:Int)<=9223372036854775807 by omega)|exact (show (_:Int)<=4294967295 by omega)) (And.intro (show (0:Int) < _ by omega) ?_)))))|(refine Exists.intro [] (And.intro bf ((qe o.t0).use (by repeat' first|exact trivial|exact rfl|exact Iff.rfl|exact Or.inl rfl|refine And.intro ?_ ?_) rfl rfl ?_)))|(refine Exists.intro [] (And.intro bf ((sZ o.t0).use (by repeat' first|exact trivial|exact rfl|exact Iff.rfl|exact Or.inl rfl|refine And.intro ?_ ?_) rfl rfl ?_)))|(refine ax ?_; show _=_; simp only[aK, *,if_true,if_false,reduceIte,Int.reduceEq]; rfl)|(intro _))
def jN (t n:Int):List IN:=if n<=255 then [iM 8 t n] else if Rm.k_ n=0 then [iM 60 t (Rm.nz n)] else if Rm.k_ (4294967295 - n)=0 then [iM 61 t (Rm.nz (4294967295 - n))] else if n / 65536≠0 then [iM 48 t (n % 65536),iM 49 t (n / 65536)] else [iM 48 t (n % 65536)]
theorem m16 (n:Int) (h0:0<=n) (h1:n<=4294967295):bits .and .u32 n 65535=n % 65536:=by
 rw[u32_and n 65535 h0 (by omega) (by omega) (by omega)]
 have e:n.toNat &&& (65535:Int).toNat=n.toNat % 65536:=Nat.and_two_pow_sub_one_eq_mod n.toNat 16
 rw[e]; omega
theorem y3 (t n:Int) (hn:0<=n/\n<=4294967295):ai gT 65 [.int .i64 t,.int .u32 n] (.sl 11 (bO (jN t n))):=by
 refine Spec.enter al P65 100 Tryz.func65 rfl (by kernel_rfl) ?_
 refine⟨fun h1=>?_,fun h1=>?_⟩
 ·refine li ?_
  refine ax ?_
  show _=_
  rw[jN,if_pos h1]; rfl
 refine (nt n hn).u ?_
 refine⟨fun h2=>?_,fun h2=>?_⟩
 ·refine ax ?_
  show _=_
  rw[jN,if_neg h1,if_pos h2]; rfl
 refine⟨[],bf,(nt (4294967295 - n) (by omega)).use ⟨Rm.O8 n hn.1 hn.2,trivial⟩ rfl rfl ?_⟩
 refine⟨fun h3=>?_,fun h3=>?_⟩
 ·refine ax ?_
  show _=_
  rw[jN,if_neg h1,if_neg h2,if_pos h3]; rfl
 have e16:=m16 n hn.1 hn.2
 refine li ?_ (show _<=bits .and .u32 n 65535/\bits .and .u32 n 65535<=_ by rw[e16]; omega)
 refine⟨by decide,And.intro (fun h4=>?_) (fun h4=>?_)⟩
 ·have h4':¬ n / 65536=0:=h4
  refine⟨by decide,.inl ⟨aq (show _<=n / 65536/\n / 65536<=_ by omega),?_⟩⟩
  refine ax ?_
  show [_,_]=_
  rw[jN,if_neg h1,if_neg h2,if_neg h3,if_pos h4']
  show [c9 (iM 48 t (bits .and .u32 n 65535)),c9 (iM 49 t (n / 65536))]=_
  rw[e16]; rfl
 ·have h4':¬ ¬ n / 65536=0:=h4
  refine ax ?_
  show [_]=_
  rw[jN,if_neg h1,if_neg h2,if_neg h3,if_neg h4']
  show [c9 (iM 48 t (bits .and .u32 n 65535))]=_
  rw[e16]; rfl
def aL (o:VO):List IN:=if o.kind=1 then jN o.t0 o.n else if o.kind=16 then [{ iZ with form:=77,rd:=o.t0,rm:=o.f0 }] else if o.kind=17 then [{ iZ with form:=59,rd:=o.t0,rn:=o.f0 }] else if o.kind=18 then [{ iZ with form:=1,rd:=o.t0,rm:=o.f0,ay:=o.n }] else if o.kind=19 then [{ iZ with form:=2,rd:=o.t0,rm:=o.f0,ay:=o.n }]
 else if o.kind=20 then [{ iZ with form:=76,rd:=o.t0,rm:=o.f0,kind:=3,bF:=o.n }] else if o.kind=27 then [{ iZ with form:=50,rd:=o.t0,rn:=o.f0,ay:=1 },{ iZ with form:=59,rd:=o.t0,rn:=o.t0 }] else []
theorem y4 (o:VO) (hn:0<=o.n/\o.n<=4294967295):ai gT 32 [nC o] (.sl 11 (bO (aL o))):=by
 refine Spec.enter al P32 100 Tryz.func32 rfl (by kernel_rfl) ?_
 repeat' ((conv=>whnf); first|(refine (And.intro (fun _=>?_) (fun _=>?_):(_->_)/\(_->_))<;>(first|(exfalso; first|contradiction|omega)|skip))|refine Or.inl (And.intro (by first|exact aq (by omega)|exact ah (by omega)|exact aF (by omega)|exact bb (by omega)) ?_)|(refine And.intro (show (_:Int)≠0 by omega) (Or.inl (And.intro (show (0:Int)<=_ by omega) (And.intro (show (0:Int) < _ by omega) ?_))))|(refine And.intro (show (_:Int)≠0 by omega) (Or.inl (And.intro (show (0:Int)<=_ by omega) (And.intro (by first|exact (show (_:Int)<=9223372036854775807 by omega)|exact (show (_:Int)<=4294967295 by omega)) (And.intro (show (0:Int) < _ by omega) ?_)))))|(refine Exists.intro [] (And.intro bf ((y3 o.t0 o.n hn).use (by repeat' first|exact trivial|exact rfl|exact Iff.rfl|exact Or.inl rfl|refine And.intro ?_ ?_) rfl rfl ?_)))|(refine ax ?_; show _=_; simp only[aL, *,if_true,if_false,reduceIte,Int.reduceEq]; try rfl)|(intro _))
def aM (o:VO):List IN:=if o.kind=21 then [iF 5 o.t0 o.f0 o.f1,eH o.t0,gj o.t0] else if o.kind=22 then [iF 70 o.t0 o.f0 o.f1,iM 11 o.t0 1,eH o.t0,gj o.t0] else if o.kind=29 then [{ iF 94 o.t0 o.f1 o.f2 with ra:=o.f0 }] else if o.kind=31 then [{ iZ with form:=9,rd:=o.f0 }]
 else if o.kind=30 then (if o.n<=255 then [iM 9 o.f0 o.n] else [{ iZ with form:=65,rn:=o.f0,ay:=Rm.nz o.n }]) else []
theorem A3 (o:VO) (hn:0<=o.n/\o.n<=4294967295):ai gT 33 [nC o] (.sl 11 (bO (aM o))):=by
 refine Spec.enter al P33 100 Tryz.func33 rfl (by kernel_rfl) ?_
 repeat' ((conv=>whnf); first|(refine (And.intro (fun _=>?_) (fun _=>?_):(_->_)/\(_->_))<;>(first|(exfalso; first|contradiction|omega)|skip))|refine Or.inl (And.intro (by first|exact aq (by omega)|exact ah (by omega)|exact aF (by omega)|exact bb (by omega)) ?_)|(refine And.intro (show (_:Int)≠0 by omega) (Or.inl (And.intro (show (0:Int)<=_ by omega) (And.intro (show (0:Int) < _ by omega) ?_))))|(refine And.intro (show (_:Int)≠0 by omega) (Or.inl (And.intro (show (0:Int)<=_ by omega) (And.intro (by first|exact (show (_:Int)<=9223372036854775807 by omega)|exact (show (_:Int)<=4294967295 by omega)) (And.intro (show (0:Int) < _ by omega) ?_)))))|(refine Exists.intro [] (And.intro bf ((nt o.n hn).use (by repeat' first|exact trivial|exact rfl|exact Iff.rfl|exact Or.inl rfl|refine And.intro ?_ ?_) rfl rfl ?_)))|(refine Exists.intro [] (And.intro bf ((qe o.t0).use (by repeat' first|exact trivial|exact rfl|exact Iff.rfl|exact Or.inl rfl|refine And.intro ?_ ?_) rfl rfl ?_)))|(refine Exists.intro [] (And.intro bf ((sZ o.t0).use (by repeat' first|exact trivial|exact rfl|exact Iff.rfl|exact Or.inl rfl|refine And.intro ?_ ?_) rfl rfl ?_)))|(refine ax ?_; show _=_; simp only[aM, *,if_true,if_false,reduceIte,Int.reduceEq]; try rfl)|(intro _))
def ar (o:VO):List IN:=if aA o.kind≠0 then [iF (aA o.kind) o.t0 o.f0 o.f1] else bp o++aK o++aL o++aM o
open Classical in
noncomputable def wN (o:VO):PV:=if aO o/\dQ o then .tup [.sl 11 (bO (ar o)),.int .i64 0] else .tup [.sl 11 [],.int .i64 10]
theorem Eo (k:Int):aA k=0\/(1<=aA k/\aA k<=100):=by
 unfold aA
 repeat' split<;>first|(exact .inl rfl)|(exact .inr (by decide))|skip
theorem Jx (o:VO):(bp o).length+(aK o).length+(aL o).length+(aM o).length<=100:=by
 have h1:(bp o).length<=10:=by unfold bp; (repeat' split)<;>simp
 have h2:(aK o).length<=10:=by unfold aK; (repeat' split)<;>simp
 have h3:(aL o).length<=10:=by unfold aL jN; (repeat' split)<;>simp
 have h4:(aM o).length<=10:=by unfold aM; (repeat' split)<;>simp
 omega
theorem nu (o:VO) (hn:0<=o.n/\o.n<=4294967295):ai gT 8 [nC o] (wN o):=by
 refine Spec.enter al P8 100 Tryz.func8 rfl (by kernel_rfl) ?_
 refine (yV o hn).u ?_
 refine⟨fun h1=>?_,fun h1=>?_⟩
 ·rw[wN,if_neg (fun h=>h1 h.1)]
  exact rA
 refine (yZ o).u ?_
 refine⟨fun h2=>?_,fun h2=>?_⟩
 ·rw[wN,if_neg (fun h=>h2 h.2)]
  exact rA
 rw[wN,if_pos ⟨Classical.not_not.1 h1,Classical.not_not.1 h2⟩]
 refine (y1 o.kind).u ?_
 refine (NM _).u ?_
 refine⟨fun h3=>?_,fun h3=>?_⟩
 ·rw[ar,if_pos (by omega)]
  exact rA
 ·have h0:¬ aA o.kind≠0:=by have:=Eo o.kind; omega
  rw[ar,if_neg h0]
  refine (y2 o hn).u ?_
  refine (A2 o).u ?_
  refine (y4 o hn).u ?_
  refine (A3 o hn).u ?_
  have hl:=Jx o
  refine⟨[],bf,(y0 (bp o) (aK o) (aL o) (aM o) (by omega)).x5 [1] rfl ⟨.inr ⟨rfl,rfl⟩,trivial⟩ rfl rfl ?_⟩
  exact rA
end Go.Proofs.YtlgkljpgagfndaaGreatDoor.Pw

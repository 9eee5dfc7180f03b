/- What this claim is proved with: no condition. -/
import Derived.Test.YtlgkljpgagfndaaGreatDoorNv25
import Derived.Test.YtlgkljpgagfndaaGreatDoorNv15
import Derived.WalkKit
import Derived.Lib.Walk
import Derived.Lib.SliceRun
import Derived.Lib.AppendZerosOnto
import Derived.Test.YtlgkljpgagfndaaGreatDoorNvImmD
set_option maxRecDepth 100000
set_option maxHeartbeats 4000000
set_option linter.unusedVariables false
set_option linter.unusedSimpArgs false
namespace Go.Proofs.YtlgkljpgagfndaaGreatDoor.Pw
open Go Go.RowKit
def aM (o:VO):Prop:=(1<=o.kind/\o.kind<=31)/\(da 0 (cz o.kind) o.t0/\da 1 (cz o.kind) o.t1)/\(da 0 (aH o.kind) o.f0/\da 1 (aH o.kind) o.f1/\da 2 (aH o.kind) o.f2/\da 3 (aH o.kind) o.f3)/\(cz o.kind < 2\/o.t0≠o.t1)/\cC o.kind o.n
theorem xk (o:VO) (hn:0<=o.n/\o.n<=4294967295):ai gT 25 [gS o] (.bool (aM o)):=by
 refine Spec.enter al P25 100 Tryz.func25 rfl (by kernel_rfl) ?_
 refine (Cq o.kind).u ?_
 refine (bI o.kind).u ?_
 refine⟨fun h1=>?_,fun h1=>?_⟩
 ·refine⟨[],bn,F6 (Cp o (cz o.kind)) (by repeat' first|exact trivial|exact rfl|exact Iff.rfl|exact Or.inl rfl|refine And.intro ?_ ?_) rfl rfl (And.intro (by repeat' first|exact trivial|exact rfl|exact Iff.rfl|exact Or.inl rfl|refine And.intro ?_ ?_) ?_)⟩
  refine⟨fun h2=>?_,fun h2=>?_⟩
  ·refine⟨[],bn,F6 (xj o (aH o.kind)) (by repeat' first|exact trivial|exact rfl|exact Iff.rfl|exact Or.inl rfl|refine And.intro ?_ ?_) rfl rfl (And.intro (by repeat' first|exact trivial|exact rfl|exact Iff.rfl|exact Or.inl rfl|refine And.intro ?_ ?_) ?_)⟩
   refine⟨fun h3=>?_,fun h3=>?_⟩
   ·refine⟨fun h4=>?_,fun h4=>?_⟩
    ·refine (nQ o.kind o.n hn).u ?_
     refine aw ?_
     exact (show cC o.kind o.n↔aM o from ⟨fun h=>⟨h1,h2,h3,.inl h4,h⟩,fun h=>h.2.2.2.2⟩)
    ·refine⟨fun h5=>?_,fun h5=>?_⟩
     ·refine (nQ o.kind o.n hn).u ?_
      refine aw ?_
      exact (show cC o.kind o.n↔aM o from ⟨fun h=>⟨h1,h2,h3,.inr h5,h⟩,fun h=>h.2.2.2.2⟩)
     ·refine aw ?_
      exact (show ¬ aM o from fun h=>h.2.2.2.1.elim h4 h5)
   ·refine aw ?_
    exact (show ¬ aM o from fun h=>h3 h.2.2.1)
  ·refine aw ?_
   exact (show ¬ aM o from fun h=>h2 h.2.1)
 ·refine aw ?_
  exact (show ¬ aM o from fun h=>h1 h.1)
open Classical in
noncomputable def kZ {α:Type} (p:α->Prop):List α->Nat->Int
 | [],_=>-1
 | x::l,i=>if p x then (i:Int) else kZ p l (i+1)
theorem rq {α:Type} {p:α->Prop}:∀ {l:List α} {i:Nat},0<=kZ p l i↔∃ x∈l,p x
 | [],i=>by simp[kZ]
 | x::l,i=>by
  rw[kZ]
  by_cases h:p x
  ·rw[if_pos h]
   exact⟨fun _=>⟨x,by simp,h⟩,fun _=>by omega⟩
  ·rw[if_neg h,rq (l:=l)]
   refine⟨fun ⟨y,hy,hp⟩=>⟨y,by simp[hy],hp⟩,fun ⟨y,hy,hp⟩=>?_⟩
   rcases List.mem_cons.1 hy with rfl|hy
   ·exact absurd hp h
   ·exact⟨y,hy,hp⟩
theorem lK {α:Type} {p:α->Prop} {l:List α} {i:Nat} {x:α} (h:l[i]?=some x):(p x->kZ p (l.drop i) i=i)/\(¬ p x->kZ p (l.drop i) i=kZ p (l.drop (i+1)) (i+1)):=by
 obtain⟨cJ,hx⟩:=List.getElem?_eq_some_iff.1 h
 rw[List.drop_eq_getElem_cons cJ,hx,kZ]
 exact⟨fun h=>if_pos h,fun h=>if_neg h⟩
theorem xl {α:Type} {p:α->Prop} {l:List α} {i:Nat} (h:l.length<=i):kZ p (l.drop i) i = -1:=by rw[List.drop_of_length_le h]; rfl
theorem zt (l:List Int) (x:Int):ai gT 96 [.sl 1 (cE l),.int .i64 x] (.int .i64 (kZ (x = ·) l 0)):=by
 refine Spec.enter al P96 100 Tryz.func96 rfl (by kernel_rfl) ?_
 intro hm
 obtain⟨z,hz⟩:∃ z,z=kZ (x = ·) l 0:=⟨_,rfl⟩
 rw[← hz]
 refine SW.q9 al P96 (by kernel_rfl) (α:={i:Nat // kZ (x = ·) (l.drop i) i=z}) (fun i=>[(8,.int .i64 i.1)]) (fun i=>l.length - i.1) ⟨0,hz.symm⟩ 60 ?_ ?_
 ·repeat' first|exact trivial|exact rfl|refine And.intro ?_ ?_
 rintro⟨i,hi⟩
 have el:(cE l).length=l.length:=List.length_map ..
 refine⟨fun h=>?_,fun h=>?_⟩
 ·have h':(i:Int) < ((cE l).length:Nat):=h
  refine⟨Int,l,PV.int .i64,rfl,show (0:Int)<=(i:Int) by omega,show (i:Int) < (l.length:Int) by omega,fun y hy=>?_⟩
  have BV:l[i]?=some y:=hy
  refine⟨fun he=>?_,fun he=>?_⟩
  ·refine aw ?_
   exact (show (i:Int)=z by rw[← hi,(lK BV).1 he])
  ·unfold maxLen at hm
   refine .inl ⟨ao (show _<=(i:Int)+1/\(i:Int)+1<=_ by omega),⟨⟨i+1,by rw[← hi,(lK BV).2 he]⟩,show l.length - (i+1) < l.length - i by omega,?_⟩⟩
   repeat' first|exact trivial|exact rfl|refine And.intro ?_ ?_
 ·have h':¬ (i:Int) < ((cE l).length:Nat):=h
  refine aw ?_
  exact (show (-1:Int)=z by rw[← hi,xl (by omega)])
theorem sN (l:List Int) (x:Int):ai gT 61 [.sl 1 (cE l),.int .i64 x] (.bool (x∈l)):=by
 refine Spec.enter al P61 100 Tryz.func61 rfl (by kernel_rfl) ?_
 refine (zt l x).u ?_
 refine aw ?_
 exact (show 0<=kZ (x = ·) l 0↔x∈l by rw[rq]; exact⟨fun ⟨y,hy,e⟩=>e ▸ hy,fun h=>⟨x,h,rfl⟩⟩)
theorem xm (o:VO) (x:Int):Spec gT 60 [.int .i64 x,.ptr 0 0] [oB o] [] fun r S'=>r = .bool (x∈nm o.from_)/\S' = [oB o]:=by
 refine Spec.jS (Spec.enter al P60 100 Tryz.func60 rfl (by kernel_rfl) ?_)
 refine (Co o).u ?_
 refine (sN _ x).u ?_
 exact bm Iff.rfl (by repeat' first|exact trivial|exact rfl|exact Iff.rfl|exact Or.inl rfl|refine And.intro ?_ ?_)
theorem xn (o:VO) (l:List Int):Spec gT 95 [.sl 1 (cE l),.clo 60 [.ptr 0 0]] [oB o] [] fun r S'=>r = .int .i64 (kZ (·∈nm o.from_) l 0)/\S' = [oB o]:=by
 refine Spec.jS (Spec.enter al P95 100 Tryz.func95 rfl (by kernel_rfl) ?_)
 intro hm
 obtain⟨z,hz⟩:∃ z,z=kZ (·∈nm o.from_) l 0:=⟨_,rfl⟩
 rw[← hz]
 refine SW.q9 al P95 (by kernel_rfl) (α:={i:Nat // kZ (·∈nm o.from_) (l.drop i) i=z}) (fun i=>[(8,.int .i64 i.1)]) (fun i=>l.length - i.1) ⟨0,hz.symm⟩ 60 ?_ ?_
 ·repeat' first|exact trivial|exact rfl|refine And.intro ?_ ?_
 rintro⟨i,hi⟩
 have el:(cE l).length=l.length:=List.length_map ..
 refine⟨fun h=>?_,fun h=>?_⟩
 ·have h':(i:Int) < ((cE l).length:Nat):=h
  refine⟨Int,l,PV.int .i64,rfl,show (0:Int)<=(i:Int) by omega,show (i:Int) < (l.length:Int) by omega,fun y hy=>?_⟩
  have BV:l[i]?=some y:=hy
  refine⟨[],bn,F6 (xm o y) (by repeat' first|exact trivial|exact rfl|exact Iff.rfl|exact Or.inl rfl|refine And.intro ?_ ?_) rfl rfl (And.intro (by repeat' first|exact trivial|exact rfl|exact Iff.rfl|exact Or.inl rfl|refine And.intro ?_ ?_) ?_)⟩
  refine⟨fun he=>?_,fun he=>?_⟩
  ·refine bm ?_ (by repeat' first|exact trivial|exact rfl|exact Iff.rfl|exact Or.inl rfl|refine And.intro ?_ ?_)
   exact (show (i:Int)=z by rw[← hi,(lK BV).1 he])
  ·unfold maxLen at hm
   refine .inl ⟨ao (show _<=(i:Int)+1/\(i:Int)+1<=_ by omega),⟨⟨i+1,by rw[← hi,(lK BV).2 he]⟩,show l.length - (i+1) < l.length - i by omega,?_⟩⟩
   repeat' first|exact trivial|exact rfl|refine And.intro ?_ ?_
 ·have h':¬ (i:Int) < ((cE l).length:Nat):=h
  refine bm ?_ (by repeat' first|exact trivial|exact rfl|exact Iff.rfl|exact Or.inl rfl|refine And.intro ?_ ?_)
  exact (show (-1:Int)=z by rw[← hi,xl (by omega)])
theorem rr (o:VO) (l:List Int):Spec gT 59 [.sl 1 (cE l),.clo 60 [.ptr 0 0]] [oB o] [] fun r S'=>r = .bool (∃ x∈l,x∈nm o.from_)/\S' = [oB o]:=by
 refine Spec.jS (Spec.enter al P59 100 Tryz.func59 rfl (by kernel_rfl) ?_)
 refine⟨[],bn,F6 (xn o l) (by repeat' first|exact trivial|exact rfl|exact Iff.rfl|exact Or.inl rfl|refine And.intro ?_ ?_) rfl rfl (And.intro (by repeat' first|exact trivial|exact rfl|exact Iff.rfl|exact Or.inl rfl|refine And.intro ?_ ?_) ?_)⟩
 refine bm ?_ (by repeat' first|exact trivial|exact rfl|exact Iff.rfl|exact Or.inl rfl|refine And.intro ?_ ?_)
 exact (show 0<=kZ (·∈nm o.from_) l 0↔_ from rq)
def dI (cs:List PV):ak:=⟨.dyn,3,1,.w,true,cs⟩
theorem KT (o:VO):Spec gT 94 [.ref 0 1 2] [oB o] [] fun r S'=>r = .wref 1/\S' = [oB o,dI (cE (nm o.to))]:=by
 refine Spec.kX al Nx 100 Tryz.func94 rfl (by kernel_rfl) ?_
 refine SW.rounds al Nx (by kernel_rfl) (N:=60) 3 ?_
 repeat' ((conv=>whnf); first|(refine (And.intro (fun _=>?_) (fun _=>?_):(_->_)/\(_->_))<;>(first|(exfalso; first|contradiction|omega)|skip))|refine Or.inl (And.intro (by first|exact ao (by omega)|exact ah (by omega)|exact aF (by omega)|exact ba (by omega)) ?_)|(refine And.intro (show (_:Int)≠0 by omega) (Or.inl (And.intro (show (0:Int)<=_ by omega) (And.intro (show (0:Int) < _ by omega) ?_))))|(refine And.intro (show (_:Int)≠0 by omega) (Or.inl (And.intro (show (0:Int)<=_ by omega) (And.intro (by first|exact (show (_:Int)<=9223372036854775807 by omega)|exact (show (_:Int)<=4294967295 by omega)) (And.intro (show (0:Int) < _ by omega) ?_)))))|(refine Exists.intro [some 0,some 2] (Exists.intro [(2,.wref 1)] (Exists.intro [oB o,dI (cE (nm o.to))] (And.intro ?_ (And.intro (Nat.le_of_ble_eq_true rfl) (And.intro rfl rfl))))); (repeat' first|exact trivial|exact rfl|refine And.intro ?_ ?_); show _=_; (try simp only[Classical.not_not] at *); simp only[VO.to,gK,jj, *,if_true,if_false]; rfl)|(refine Exists.intro [some 0,some 4] (Exists.intro [(2,.wref 1)] (Exists.intro [oB o,dI (cE (nm o.to))] (And.intro ?_ (And.intro (Nat.le_of_ble_eq_true rfl) (And.intro rfl rfl))))); (repeat' first|exact trivial|exact rfl|refine And.intro ?_ ?_); show _=_; (try simp only[Classical.not_not] at *); simp only[VO.to,gK,jj, *,if_true,if_false]; rfl)|((try simp only[Classical.not_not] at *); (rw[show nm o.to = [] by simp only[VO.to,gK,jj, *,if_true,if_false]]); refine Exists.intro [some 0,none] (Exists.intro [(2,.wref 1)] (Exists.intro [oB o,dI []] (And.intro ?_ (And.intro (Nat.le_of_ble_eq_true rfl) (And.intro rfl rfl))))); (repeat' first|exact trivial|exact rfl|refine And.intro ?_ ?_))|(intro _))
theorem ry (o:VO):Spec gT 94 [.ref 0 3 4] [oB o] [] fun r S'=>r = .wref 1/\S' = [oB o,dI (cE (nm o.from_))]:=by
 refine Spec.kX al Nx 100 Tryz.func94 rfl (by kernel_rfl) ?_
 refine SW.rounds al Nx (by kernel_rfl) (N:=60) 5 ?_
 repeat' ((conv=>whnf); first|(refine (And.intro (fun _=>?_) (fun _=>?_):(_->_)/\(_->_))<;>(first|(exfalso; first|contradiction|omega)|skip))|refine Or.inl (And.intro (by first|exact ao (by omega)|exact ah (by omega)|exact aF (by omega)|exact ba (by omega)) ?_)|(refine And.intro (show (_:Int)≠0 by omega) (Or.inl (And.intro (show (0:Int)<=_ by omega) (And.intro (show (0:Int) < _ by omega) ?_))))|(refine And.intro (show (_:Int)≠0 by omega) (Or.inl (And.intro (show (0:Int)<=_ by omega) (And.intro (by first|exact (show (_:Int)<=9223372036854775807 by omega)|exact (show (_:Int)<=4294967295 by omega)) (And.intro (show (0:Int) < _ by omega) ?_)))))|(refine Exists.intro [some 0,some 2] (Exists.intro [(2,.wref 1)] (Exists.intro [oB o,dI (cE (nm o.from_))] (And.intro ?_ (And.intro (Nat.le_of_ble_eq_true rfl) (And.intro rfl rfl))))); (repeat' first|exact trivial|exact rfl|refine And.intro ?_ ?_); show _=_; (try simp only[Classical.not_not] at *); simp only[VO.from_,gK,jj, *,if_true,if_false]; rfl)|(refine Exists.intro [some 0,some 4] (Exists.intro [(2,.wref 1)] (Exists.intro [oB o,dI (cE (nm o.from_))] (And.intro ?_ (And.intro (Nat.le_of_ble_eq_true rfl) (And.intro rfl rfl))))); (repeat' first|exact trivial|exact rfl|refine And.intro ?_ ?_); show _=_; (try simp only[Classical.not_not] at *); simp only[VO.from_,gK,jj, *,if_true,if_false]; rfl)|(refine Exists.intro [some 0,some 6] (Exists.intro [(2,.wref 1)] (Exists.intro [oB o,dI (cE (nm o.from_))] (And.intro ?_ (And.intro (Nat.le_of_ble_eq_true rfl) (And.intro rfl rfl))))); (repeat' first|exact trivial|exact rfl|refine And.intro ?_ ?_); show _=_; (try simp only[Classical.not_not] at *); simp only[VO.from_,gK,jj, *,if_true,if_false]; rfl)|(refine Exists.intro [some 0,some 8] (Exists.intro [(2,.wref 1)] (Exists.intro [oB o,dI (cE (nm o.from_))] (And.intro ?_ (And.intro (Nat.le_of_ble_eq_true rfl) (And.intro rfl rfl))))); (repeat' first|exact trivial|exact rfl|refine And.intro ?_ ?_); show _=_; (try simp only[Classical.not_not] at *); simp only[VO.from_,gK,jj, *,if_true,if_false]; rfl)|((try simp only[Classical.not_not] at *); (rw[show nm o.from_ = [] by simp only[VO.from_,gK,jj, *,if_true,if_false]]); refine Exists.intro [some 0,none] (Exists.intro [(2,.wref 1)] (Exists.intro [oB o,dI []] (And.intro ?_ (And.intro (Nat.le_of_ble_eq_true rfl) (And.intro rfl rfl))))); (repeat' first|exact trivial|exact rfl|refine And.intro ?_ ?_))|(intro _))
theorem F7 (o:VO):Spec gT 57 [gS o] [] [] fun r S'=>r = .wref 0/\S' = [dI (cE (nm o.from_))]:=by
 refine Spec.kX al P57 100 Tryz.func57 rfl (by kernel_rfl) ?_
 refine⟨[],bn,(ry o).mono ?_⟩
 rintro r S' ⟨rfl,rfl⟩
 refine Exists.intro [some 1] (Exists.intro [(2,.wref 0)] (Exists.intro [dI (cE (nm o.from_))] (And.intro ?_ (And.intro (Nat.le_of_ble_eq_true rfl) (And.intro rfl rfl)))))
 repeat' first|exact trivial|exact rfl|refine And.intro ?_ ?_
def dM (o:VO):Prop:=(∀ x∈nm o.from_++nm o.to,x < 8)/\¬ ∃ x∈nm o.to,x∈nm o.from_
theorem F8 (l:List Int):(nm l).length<=l.length:=List.length_filter_le ..
theorem xo (o:VO):ai gT 26 [gS o] (.bool (dM o)):=by
 have l1:(cE (nm o.from_)).length<=4:=by rw[cE,List.length_map]; exact F8 _
 have l2:(cE (nm o.to)).length<=2:=by rw[cE,List.length_map]; exact F8 _
 refine Spec.enter al P26 100 Tryz.func26 rfl (by kernel_rfl) ?_
 refine⟨[],bn,(F7 o).FF rfl rfl rfl (by repeat' first|exact trivial|exact rfl|exact Iff.rfl|exact Or.inl rfl|refine And.intro ?_ ?_) rfl ?_⟩
 refine (tL o).u ?_
 have l3:(cE (nm o.from_)++cE (nm o.to)).length=(nm o.from_++nm o.to).length:=by simp[cE]
 have l4:(nm o.from_++nm o.to).length<=6:=by rw[← l3,List.length_append]; omega
 have e3:cE (nm o.from_)++cE (nm o.to)=(nm o.from_++nm o.to).map (PV.int .i64):=by simp[cE]
 refine⟨show (cE (nm o.from_)).length+(cE (nm o.to)).length<=maxLen by unfold maxLen; omega,show ((cE (nm o.from_)).length+(cE (nm o.to)).length)*8<=140737488355328 by omega,?_⟩
 intro _
 refine SW.q9 al P26 (by kernel_rfl) (α:={i:Nat // ∀ x∈(nm o.from_++nm o.to).take i,x < 8}) (fun i=>[(11,.int .i64 i.1)]) (fun i=>(nm o.from_++nm o.to).length - i.1) ⟨0,by simp⟩ 60 ?_ ?_
 ·repeat' first|exact trivial|exact rfl|refine And.intro ?_ ?_
 rintro⟨i,hi⟩
 refine⟨fun h=>?_,fun h=>?_⟩
 ·have h':(i:Int) < ((cE (nm o.from_)++cE (nm o.to)).length:Nat):=h
  refine⟨show (0:Int)<=(i:Int) by omega,show (i:Int) < ((cE (nm o.from_)++cE (nm o.to)).length:Nat) by omega,Int,nm o.from_++nm o.to,PV.int .i64,e3,show (i:Int).toNat < (nm o.from_++nm o.to).length by omega,fun x hx=>?_⟩
  have tz:(nm o.from_++nm o.to)[i]?=some x:=hx
  refine⟨fun h8=>?_,fun h8=>?_⟩
  ·refine aw ?_
   exact (show ¬ dM o from fun hs=>by have:=hs.1 x (List.mem_of_getElem? tz); omega)
  ·refine .inl ⟨ao (show _<=(i:Int)+1/\(i:Int)+1<=_ by omega),⟨⟨i+1,fun y hy=>?_⟩,show (nm o.from_++nm o.to).length - (i+1) < (nm o.from_++nm o.to).length - i by omega,?_⟩⟩
   ·rw[List.take_add_one,tz,List.mem_append] at hy
    rcases hy with hy|hy
    ·exact hi y hy
    ·simp at hy; subst hy; omega
   ·repeat' first|exact trivial|exact rfl|refine And.intro ?_ ?_
 ·have h':¬ (i:Int) < ((cE (nm o.from_)++cE (nm o.to)).length:Nat):=h
  rw[List.take_of_length_le (by omega)] at hi
  refine (tL o).u ?_
  refine⟨[],bn,F6 (rr o (nm o.to)) (by repeat' first|exact trivial|exact rfl|exact Iff.rfl|exact Or.inl rfl|refine And.intro ?_ ?_) rfl rfl (And.intro (by repeat' first|exact trivial|exact rfl|exact Iff.rfl|exact Or.inl rfl|refine And.intro ?_ ?_) ?_)⟩
  refine aw ?_
  exact (show (¬ ∃ x∈nm o.to,x∈nm o.from_)↔dM o from ⟨fun h=>⟨hi,h⟩,fun h=>h.2⟩)
def rz:Value:=.agg #[.int .i64 0,.int .i64 0,.int .i64 0,.int .i64 0,.int .i64 0,.int .i64 0,.int .i64 0,.int .i64 0,.int .i64 0,.int .i64 0,.int .i64 0]
theorem Cr (w:World):Calls Tryz.prog 62 #[.slice none 0 0,.int .i64 0] w fun e w'=>e = .returned (.slice none 0 0)/\w'=w:=by
 go_enter Tryz.func62,Tryz.ntmps62
 go_wp2
 go_ret
 exact⟨rfl,rfl⟩
theorem Cs (n:Nat) (h0:0 < n) (Pq:n*88<=140737488355328) (w:World):Calls Tryz.prog 62 #[.slice none 0 0,.int .i64 n] w fun e w' =>
  ∃ (cs:Array Value),cs.size=grownCap w n 0 75*11/\e = .returned (.slice (some ⟨w.heap.size,0,none⟩) 0 (grownCap w n 0 75))/\w'=w.drew.alloc (.cells cs 75):=by
 have h1:¬ ((n:Int) < 0):=by omega
 have h3:wrap64 (n:Int)=n:=by unfold wrap64; omega
 have h4:(n:Int) > 0:=by omega
 obtain⟨i0,hi0,U1,J2,gq⟩:∃ i,Tryz.prog.info? 75=some i/\i.zero=some rz/\i.size=11/\i.bytes=88:=⟨Tryz.t75,by kernel_rfl,by kernel_rfl,by kernel_rfl,by kernel_rfl⟩
 have hrz:∀ ty,(Builtin.append_ #[32,3] ty #[.slice none 0 0,.int .i64 n]).run Tryz.prog w =
   .ok (.slice (some ⟨w.heap.size,0,none⟩) n (grownCap w n 0 75)) (w.drew.alloc (.cells (#[]++Builtin.zeroCells rz.cells n++Builtin.zeroCells rz.cells (grownCap w n 0 75 - n)) 75)):=fun ty=>by
  have h:=Lib.run_append_grow_zeros w 32 3 ty 75 i0 rz .i64 .i64 Tryz.underlying32 Tryz.underlying3 hi0 U1 none 0 0 [] (run_firstCells_none w.drew i0.size 0 0 0) n h0 (by omega) (by omega) (by omega)
   (by rw[gq]; omega) (by rw[Nat.zero_add]; exact growslice_fits h0 (by rw[gq]; exact Pq))
  rw[Nat.zero_add] at h
  exact h
 obtain⟨C,hC⟩:∃ C,C = #[]++Builtin.zeroCells rz.cells n++Builtin.zeroCells rz.cells (grownCap w n 0 75 - n):=⟨_,rfl⟩
 have hGn:n<=grownCap w n 0 75:=grownCap_ge w _ _ _
 have hCs:C.size=grownCap w n 0 75*11:=by
  rw[hC]
  simp only[Array.size_append,size_zeroCells,List.size_toArray,List.length_nil,Nat.zero_add]
  rw[show rz.cells.size=11 from rfl,← Nat.add_mul,Nat.add_sub_cancel' hGn]
 rw[← hC] at hrz
 clear hC
 obtain⟨G,hG⟩:∃ G,G=grownCap w n 0 75:=⟨_,rfl⟩
 have hG63:G<=9223372036854775807:=by
  have:=grownCap_le_maxLen w n 0 75 (by unfold maxLen; omega)
  rw[← hG] at this
  unfold maxLen at this
  omega
 rw[← hG] at hrz hGn hCs ⊢
 clear hG hi0 U1 J2 gq
 go_enter Tryz.func62,Tryz.ntmps62
 go_wp2_with (at_builtin; refine Lib.wpList_append_run _ rfl _ _ _ _ rfl _ _ rfl rfl _ _ (hrz _) ?_)
 all_goals (go_ret; exact⟨C,hCs,rfl,rfl⟩)
def Pr (cs:List PV):ak:=⟨.dyn,75,11,.w,true,cs⟩
theorem F9 (n:Nat) (Pq:n*88<=140737488355328):Spec gT 62 [.nil,.int .i64 n] [] [] fun r S'=>r = .wref 0/\S' = [Pr []]:=by
 refine Spec.intro (gl Tryz.func62 rfl (by kernel_rfl)) fun I β w bs hH hM hA=>?_
 obtain⟨v,u,rfl,h1,h2⟩:=isL2 hA
 simp only[PV.Is] at h1 h2
 subst h1; subst h2
 rcases Nat.eq_zero_or_pos n with rfl|h0
 ·refine (Cr w).mono ?_
  rintro e w' ⟨rfl,rfl⟩
  have OS:=hH.add (w':=w') (b:=Pr []) (p:=⟨none,0,0⟩) (fun _ _=>rfl) (fun g o ha=>by cases ha) ⟨_,aB.dw ..,⟨by decide,rfl,Nat.le_refl _,Nat.zero_le _⟩,.inl ⟨rfl,rfl⟩⟩
  exact⟨_,.wref 0,[Pr []],I,_,rfl,⟨rfl,rfl⟩,(by simp only[PV.Is]; exact⟨_,aB.dw ..,rfl⟩),OS,hM,Ext.add hH rfl rfl rfl (Nat.le_refl _) (fun _ _ _=>rfl) (fun g o ha=>by cases ha),Nat.zero_le _,fun l hl=>absurd hl (Nat.not_lt_zero _)⟩
 ·refine (Cs n h0 Pq w).mono ?_
  rintro e w' ⟨cs,gr,rfl,rfl⟩
  have Jo:aO I β [] w.drew:=hH.kP rfl
  have hcm:grownCap w n 0 75<=maxLen:=grownCap_le_maxLen w n 0 75 (by unfold maxLen; omega)
  obtain⟨G,hG⟩:∃ G,G=grownCap w n 0 75:=⟨_,rfl⟩
  rw[← hG] at gr hcm ⊢
  have hI:∀ g,I g->g < w.drew.heap.size:=hM.az
  obtain⟨hA1,hE⟩:=ly (vs:=cs) (t:=75) Jo hI (b:=Pr []) (p:=⟨some (w.heap.size,0),0,G⟩) rfl (fun ho =>
   ⟨_,aB.dw ..,⟨by decide,rfl,Nat.zero_le _,hcm⟩,.inr ⟨w.heap.size,cs,(0,0),rfl,Ev.kC w.drew _,(by simp only[Pr,cB]),ho,gr⟩⟩) rfl
  refine⟨_,.wref 0,[Pr []],I,_,rfl,⟨rfl,rfl⟩,(by simp only[PV.Is]; exact⟨_,aB.dw ..,rfl⟩),hA1,?_,(show Ext I β [] w I β [] w.drew from Ext.kP rfl rfl rfl rfl).trans hE,Nat.zero_le _,fun l hl=>absurd hl (Nat.not_lt_zero _)⟩
  exact hM.below ⟨rfl,rfl,rfl,by simp,fun g hg=>Ev.qn w.drew _ g hg⟩
theorem xp (a b c d:List IN) (h:a.length+b.length+c.length+d.length<=1000000):ai gT 29 [.sl 1 [.sl 11 (bx a),.sl 11 (bx b),.sl 11 (bx c),.sl 11 (bx d)]] (.sl 11 (bx (a++b++c++d))):=by
 have ha:(bx a).length=a.length:=List.length_map ..
 have hb:(bx b).length=b.length:=List.length_map ..
 have hc:(bx c).length=c.length:=List.length_map ..
 have hd:(bx d).length=d.length:=List.length_map ..
 refine Spec.enter al P29 100 Tryz.func29 rfl (by kernel_rfl) ?_
 intro _
 refine SW.rounds al P29 (by kernel_rfl) (N:=60) 5 ?_
 refine⟨fun _=>?_,fun h=>absurd (show (0:Int) < 4 by decide) h⟩
 refine⟨PV,[.sl 11 (bx a),.sl 11 (bx b),.sl 11 (bx c),.sl 11 (bx d)],id,rfl,by decide,show (_:Int) < 4 by decide,fun x hx=>?_⟩
 obtain rfl:PV.sl 11 (bx a)=x:=Option.some.inj hx
 intro _
 refine li ?_
 refine⟨fun h=>absurd h (by omega),fun _=>?_⟩
 refine⟨fun _=>?_,fun h=>absurd (show (1:Int) < 4 by decide) h⟩
 refine⟨PV,[.sl 11 (bx a),.sl 11 (bx b),.sl 11 (bx c),.sl 11 (bx d)],id,rfl,by decide,show (_:Int) < 4 by decide,fun x hx=>?_⟩
 obtain rfl:PV.sl 11 (bx b)=x:=Option.some.inj hx
 intro _
 refine li ?_
 refine⟨fun h=>absurd h (by omega),fun _=>?_⟩
 refine⟨fun _=>?_,fun h=>absurd (show (2:Int) < 4 by decide) h⟩
 refine⟨PV,[.sl 11 (bx a),.sl 11 (bx b),.sl 11 (bx c),.sl 11 (bx d)],id,rfl,by decide,show (_:Int) < 4 by decide,fun x hx=>?_⟩
 obtain rfl:PV.sl 11 (bx c)=x:=Option.some.inj hx
 intro _
 refine li ?_
 refine⟨fun h=>absurd h (by omega),fun _=>?_⟩
 refine⟨fun _=>?_,fun h=>absurd (show (3:Int) < 4 by decide) h⟩
 refine⟨PV,[.sl 11 (bx a),.sl 11 (bx b),.sl 11 (bx c),.sl 11 (bx d)],id,rfl,by decide,show (_:Int) < 4 by decide,fun x hx=>?_⟩
 obtain rfl:PV.sl 11 (bx d)=x:=Option.some.inj hx
 intro _
 refine li ?_
 refine⟨fun h=>absurd h (by omega),fun _=>?_⟩
 refine⟨fun h=>absurd (show (4:Int) < 4 from h) (by decide),fun _=>?_⟩
 refine⟨[],bn,(F9 (a.length+b.length+c.length+d.length) (by omega)).FF rfl rfl rfl ⟨trivial,(show _=_ by omega),trivial⟩ rfl ?_⟩
 intro _
 refine SW.rounds al P29 (by kernel_rfl) (N:=60) 5 ?_
 refine⟨fun _=>?_,fun h=>absurd (show (0:Int) < 4 by decide) h⟩
 refine⟨PV,[.sl 11 (bx a),.sl 11 (bx b),.sl 11 (bx c),.sl 11 (bx d)],id,rfl,by decide,show (_:Int) < 4 by decide,fun x hx=>?_⟩
 obtain rfl:PV.sl 11 (bx a)=x:=Option.some.inj hx
 refine⟨show (([]:List PV)).length+(bx a).length<=maxLen by simp only[List.length_append,List.length_nil,ha,hb,hc,hd]; unfold maxLen; omega,show ((([]:List PV)).length+(bx a).length)*88<=140737488355328 by simp only[List.length_append,List.length_nil,ha,hb,hc,hd]; omega,?_⟩
 refine⟨fun _=>?_,fun h=>absurd (show (1:Int) < 4 by decide) h⟩
 refine⟨PV,[.sl 11 (bx a),.sl 11 (bx b),.sl 11 (bx c),.sl 11 (bx d)],id,rfl,by decide,show (_:Int) < 4 by decide,fun x hx=>?_⟩
 obtain rfl:PV.sl 11 (bx b)=x:=Option.some.inj hx
 refine⟨show (([]:List PV)++bx a).length+(bx b).length<=maxLen by simp only[List.length_append,List.length_nil,ha,hb,hc,hd]; unfold maxLen; omega,show ((([]:List PV)++bx a).length+(bx b).length)*88<=140737488355328 by simp only[List.length_append,List.length_nil,ha,hb,hc,hd]; omega,?_⟩
 refine⟨fun _=>?_,fun h=>absurd (show (2:Int) < 4 by decide) h⟩
 refine⟨PV,[.sl 11 (bx a),.sl 11 (bx b),.sl 11 (bx c),.sl 11 (bx d)],id,rfl,by decide,show (_:Int) < 4 by decide,fun x hx=>?_⟩
 obtain rfl:PV.sl 11 (bx c)=x:=Option.some.inj hx
 refine⟨show (([]:List PV)++bx a++bx b).length+(bx c).length<=maxLen by simp only[List.length_append,List.length_nil,ha,hb,hc,hd]; unfold maxLen; omega,show ((([]:List PV)++bx a++bx b).length+(bx c).length)*88<=140737488355328 by simp only[List.length_append,List.length_nil,ha,hb,hc,hd]; omega,?_⟩
 refine⟨fun _=>?_,fun h=>absurd (show (3:Int) < 4 by decide) h⟩
 refine⟨PV,[.sl 11 (bx a),.sl 11 (bx b),.sl 11 (bx c),.sl 11 (bx d)],id,rfl,by decide,show (_:Int) < 4 by decide,fun x hx=>?_⟩
 obtain rfl:PV.sl 11 (bx d)=x:=Option.some.inj hx
 refine⟨show (([]:List PV)++bx a++bx b++bx c).length+(bx d).length<=maxLen by simp only[List.length_append,List.length_nil,ha,hb,hc,hd]; unfold maxLen; omega,show ((([]:List PV)++bx a++bx b++bx c).length+(bx d).length)*88<=140737488355328 by simp only[List.length_append,List.length_nil,ha,hb,hc,hd]; omega,?_⟩
 refine⟨fun h=>absurd (show (4:Int) < 4 from h) (by decide),fun _=>?_⟩
 refine aw ?_
 exact (show []++bx a++bx b++bx c++bx d=_ by simp[bx])
theorem mK (x:Int) (hx:0<=x/\x<=4294967295):ai gT 66 [.int .u32 x] (.tup [.int .i64 (Rm.ot x),.int .i64 (Rm.kv x)]) :=
 ai.FT (gl Tryz.func66 rfl (by kernel_rfl)) fun I β w bs hM hA=>by
  obtain⟨v,rfl,h1⟩:=Wj hA
  simp only[PV.Is] at h1
  subst h1
  refine⟨.tuple #[.int .i64 (Rm.ot x),.int .i64 (Rm.kv x)],ji (ic (df ..) (ic (df ..) rh)),fun _ _ _=>ji (ic (df ..) (ic (df ..) rh)),?_⟩
  refine (OZ x w (FU hM) hx.1 hx.2).mono ?_
  rintro e w' ⟨rfl,rfl⟩
  exact⟨rfl,Below.refl _ _⟩
def iF (f d n m:Int):IN:={ iZ with form:=f,rd:=d,rn:=n,rm:=m }
def iM (f d n:Int):IN:={ iZ with form:=f,rd:=d,az:=n }
def eu (t:Int):IN:=iF 73 t t t
def fT (t:Int):IN:={ iZ with form:=2,rd:=t,rm:=t,az:=31 }
theorem pC (t:Int):ai gT 63 [.int .i64 t] (cX (eu t)):=by
 refine Spec.enter al P63 100 Tryz.func63 rfl (by kernel_rfl) ?_
 exact rA
theorem rB (t:Int):ai gT 64 [.int .i64 t] (cX (fT t)):=by
 refine Spec.enter al P64 100 Tryz.func64 rfl (by kernel_rfl) ?_
 exact rA
def aC (k:Int):Int:=if k=7 then 66 else if k=8 then 68 else if k=9 then 70 else if k=10 then 4 else if k=11 then 5 else if k=12 then 92 else if k=13 then 88 else if k=14 then 89 else if k=15 then 91 else if k=28 then 97 else 0
theorem xq (k:Int):ai gT 27 [.int .i64 k] (.int .i64 (aC k)):=by
 refine Spec.enter al P27 100 Tryz.func27 rfl (by kernel_rfl) ?_
 repeat' ((conv=>whnf); first|(refine (And.intro (fun _=>?_) (fun _=>?_):(_->_)/\(_->_))<;>(first|(exfalso; first|contradiction|omega)|skip))|refine Or.inl (And.intro (by first|exact ao (by omega)|exact ah (by omega)|exact aF (by omega)|exact ba (by omega)) ?_)|(refine And.intro (show (_:Int)≠0 by omega) (Or.inl (And.intro (show (0:Int)<=_ by omega) (And.intro (show (0:Int) < _ by omega) ?_))))|(refine And.intro (show (_:Int)≠0 by omega) (Or.inl (And.intro (show (0:Int)<=_ by omega) (And.intro (by first|exact (show (_:Int)<=9223372036854775807 by omega)|exact (show (_:Int)<=4294967295 by omega)) (And.intro (show (0:Int) < _ by omega) ?_)))))|(refine aw ?_; show _=_; simp only[aC, *,if_true,if_false,reduceIte,Int.reduceEq])|(intro _))
theorem KU (f:Int):ai gT 28 [.int .i64 f] (.bool (1<=f/\f<=100)):=by
 refine Spec.enter al P28 100 Tryz.func28 rfl (by kernel_rfl) ?_
 repeat' ((conv=>whnf); first|(refine (And.intro (fun _=>?_) (fun _=>?_):(_->_)/\(_->_))<;>(first|(exfalso; first|contradiction|omega)|skip))|refine Or.inl (And.intro (by first|exact ao (by omega)|exact ah (by omega)|exact aF (by omega)|exact ba (by omega)) ?_)|(refine And.intro (show (_:Int)≠0 by omega) (Or.inl (And.intro (show (0:Int)<=_ by omega) (And.intro (show (0:Int) < _ by omega) ?_))))|(refine And.intro (show (_:Int)≠0 by omega) (Or.inl (And.intro (show (0:Int)<=_ by omega) (And.intro (by first|exact (show (_:Int)<=9223372036854775807 by omega)|exact (show (_:Int)<=4294967295 by omega)) (And.intro (show (0:Int) < _ by omega) ?_)))))|(refine aw ?_; show _↔_; omega)|(refine aw ?_; show ¬ _; omega)|(intro _))
def bo (o:VO):List IN:=if o.kind=2 then [iM 38 o.t0 o.n] else if o.kind=3 then [iM 37 o.f0 o.n] else if o.kind=4 then [iM 39 o.t0 o.n] else if o.kind=5 then [{ iF 87 o.t0 o.f0 o.f1 with bG:=2 }] else if o.kind=6 then [{ iF 86 o.f2 o.f0 o.f1 with bG:=2 }] else []
theorem xr (o:VO) (hn:0<=o.n/\o.n<=4294967295):ai gT 30 [gS o] (.sl 11 (bx (bo o))):=by
 refine Spec.enter al P30 100 Tryz.func30 rfl (by kernel_rfl) ?_
 repeat' ((conv=>whnf); first|(refine (And.intro (fun _=>?_) (fun _=>?_):(_->_)/\(_->_))<;>(first|(exfalso; first|contradiction|omega)|skip))|refine Or.inl (And.intro (by first|exact ao (by omega)|exact ah (by omega)|exact aF (by omega)|exact ba (by omega)) ?_)|(refine And.intro (show (_:Int)≠0 by omega) (Or.inl (And.intro (show (0:Int)<=_ by omega) (And.intro (show (0:Int) < _ by omega) ?_))))|(refine And.intro (show (_:Int)≠0 by omega) (Or.inl (And.intro (show (0:Int)<=_ by omega) (And.intro (by first|exact (show (_:Int)<=9223372036854775807 by omega)|exact (show (_:Int)<=4294967295 by omega)) (And.intro (show (0:Int) < _ by omega) ?_)))))|(refine aw ?_; show _=_; simp only[bo, *,if_true,if_false,reduceIte,Int.reduceEq]; rfl)|(intro _))
def aJ (o:VO):List IN:=if o.kind=23 then [iF 4 o.t0 o.f0 o.f2,iF 72 o.t1 o.f1 o.f3] else if o.kind=24 then [iF 5 o.t0 o.f0 o.f2,iF 73 o.t1 o.f1 o.f3] else if o.kind=25 then [iF 5 o.t0 o.f0 o.f2,{ iF 73 o.t0 o.f1 o.f3 with set:=1 },eu o.t0,fT o.t0] else if o.kind=26 then [{ iF 95 o.t0 o.f0 o.f1 with ra:=o.t1 }] else []
theorem zu (o:VO):ai gT 31 [gS o] (.sl 11 (bx (aJ o))):=by
 refine Spec.enter al P31 100 Tryz.func31 rfl (by kernel_rfl) ?_
 repeat' ((conv=>whnf); first|(refine (And.intro (fun _=>?_) (fun _=>?_):(_->_)/\(_->_))<;>(first|(exfalso; first|contradiction|omega)|skip))|refine Or.inl (And.intro (by first|exact ao (by omega)|exact ah (by omega)|exact aF (by omega)|exact ba (by omega)) ?_)|(refine And.intro (show (_:Int)≠0 by omega) (Or.inl (And.intro (show (0:Int)<=_ by omega) (And.intro (show (0:Int) < _ by omega) ?_))))|(refine And.intro (show (_:Int)≠0 by omega) (Or.inl (And.intro (show (0:Int)<=_ by omega) (And.intro (by first|exact (show (_:Int)<=9223372036854775807 by omega)|exact (show (_:Int)<=4294967295 by omega)) (And.intro (show (0:Int) < _ by omega) ?_)))))|(refine Exists.intro [] (And.intro bn ((pC o.t0).use (by repeat' first|exact trivial|exact rfl|exact Iff.rfl|exact Or.inl rfl|refine And.intro ?_ ?_) rfl rfl ?_)))|(refine Exists.intro [] (And.intro bn ((rB o.t0).use (by repeat' first|exact trivial|exact rfl|exact Iff.rfl|exact Or.inl rfl|refine And.intro ?_ ?_) rfl rfl ?_)))|(refine aw ?_; show _=_; simp only[aJ, *,if_true,if_false,reduceIte,Int.reduceEq]; rfl)|(intro _))
def jk (t n:Int):List IN:=if n<=255 then [iM 8 t n] else if Rm.kv n=0 then [iM 60 t (Rm.ot n)] else if Rm.kv (4294967295 - n)=0 then [iM 61 t (Rm.ot (4294967295 - n))] else if n / 65536≠0 then [iM 48 t (n % 65536),iM 49 t (n / 65536)] else [iM 48 t (n % 65536)]
theorem m16 (n:Int) (h0:0<=n) (h1:n<=4294967295):bits .and .u32 n 65535=n % 65536:=by
 rw[u32_and n 65535 h0 (by omega) (by omega) (by omega)]
 have e:n.toNat &&& (65535:Int).toNat=n.toNat % 65536:=Nat.and_two_pow_sub_one_eq_mod n.toNat 16
 rw[e]; omega
theorem xu (t n:Int) (hn:0<=n/\n<=4294967295):ai gT 65 [.int .i64 t,.int .u32 n] (.sl 11 (bx (jk t n))):=by
 refine Spec.enter al P65 100 Tryz.func65 rfl (by kernel_rfl) ?_
 refine⟨fun h1=>?_,fun h1=>?_⟩
 ·refine li ?_
  refine aw ?_
  show _=_
  rw[jk,if_pos h1]; rfl
 refine (mK n hn).u ?_
 refine⟨fun h2=>?_,fun h2=>?_⟩
 ·refine aw ?_
  show _=_
  rw[jk,if_neg h1,if_pos h2]; rfl
 refine⟨[],bn,(mK (4294967295 - n) (by omega)).use ⟨Rm.NA n hn.1 hn.2,trivial⟩ rfl rfl ?_⟩
 refine⟨fun h3=>?_,fun h3=>?_⟩
 ·refine aw ?_
  show _=_
  rw[jk,if_neg h1,if_neg h2,if_pos h3]; rfl
 have e16:=m16 n hn.1 hn.2
 refine li ?_ (show _<=bits .and .u32 n 65535/\bits .and .u32 n 65535<=_ by rw[e16]; omega)
 refine⟨by decide,And.intro (fun h4=>?_) (fun h4=>?_)⟩
 ·have h4':¬ n / 65536=0:=h4
  refine⟨by decide,.inl ⟨ao (show _<=n / 65536/\n / 65536<=_ by omega),?_⟩⟩
  refine aw ?_
  show [_,_]=_
  rw[jk,if_neg h1,if_neg h2,if_neg h3,if_pos h4']
  show [cX (iM 48 t (bits .and .u32 n 65535)),cX (iM 49 t (n / 65536))]=_
  rw[e16]; rfl
 ·have h4':¬ ¬ n / 65536=0:=h4
  refine aw ?_
  show [_]=_
  rw[jk,if_neg h1,if_neg h2,if_neg h3,if_neg h4']
  show [cX (iM 48 t (bits .and .u32 n 65535))]=_
  rw[e16]; rfl
def aK (o:VO):List IN:=if o.kind=1 then jk o.t0 o.n else if o.kind=16 then [{ iZ with form:=77,rd:=o.t0,rm:=o.f0 }] else if o.kind=17 then [{ iZ with form:=59,rd:=o.t0,rn:=o.f0 }] else if o.kind=18 then [{ iZ with form:=1,rd:=o.t0,rm:=o.f0,az:=o.n }] else if o.kind=19 then [{ iZ with form:=2,rd:=o.t0,rm:=o.f0,az:=o.n }]
 else if o.kind=20 then [{ iZ with form:=76,rd:=o.t0,rm:=o.f0,kind:=3,bG:=o.n }] else if o.kind=27 then [{ iZ with form:=50,rd:=o.t0,rn:=o.f0,az:=1 },{ iZ with form:=59,rd:=o.t0,rn:=o.t0 }] else []
theorem xv (o:VO) (hn:0<=o.n/\o.n<=4294967295):ai gT 32 [gS o] (.sl 11 (bx (aK o))):=by
 refine Spec.enter al P32 100 Tryz.func32 rfl (by kernel_rfl) ?_
 repeat' ((conv=>whnf); first|(refine (And.intro (fun _=>?_) (fun _=>?_):(_->_)/\(_->_))<;>(first|(exfalso; first|contradiction|omega)|skip))|refine Or.inl (And.intro (by first|exact ao (by omega)|exact ah (by omega)|exact aF (by omega)|exact ba (by omega)) ?_)|(refine And.intro (show (_:Int)≠0 by omega) (Or.inl (And.intro (show (0:Int)<=_ by omega) (And.intro (show (0:Int) < _ by omega) ?_))))|(refine And.intro (show (_:Int)≠0 by omega) (Or.inl (And.intro (show (0:Int)<=_ by omega) (And.intro (by first|exact (show (_:Int)<=9223372036854775807 by omega)|exact (show (_:Int)<=4294967295 by omega)) (And.intro (show (0:Int) < _ by omega) ?_)))))|(refine Exists.intro [] (And.intro bn ((xu o.t0 o.n hn).use (by repeat' first|exact trivial|exact rfl|exact Iff.rfl|exact Or.inl rfl|refine And.intro ?_ ?_) rfl rfl ?_)))|(refine aw ?_; show _=_; simp only[aK, *,if_true,if_false,reduceIte,Int.reduceEq]; try rfl)|(intro _))
def aL (o:VO):List IN:=if o.kind=21 then [iF 5 o.t0 o.f0 o.f1,eu o.t0,fT o.t0] else if o.kind=22 then [iF 70 o.t0 o.f0 o.f1,iM 11 o.t0 1,eu o.t0,fT o.t0] else if o.kind=29 then [{ iF 94 o.t0 o.f1 o.f2 with ra:=o.f0 }] else if o.kind=31 then [{ iZ with form:=9,rd:=o.f0 }]
 else if o.kind=30 then (if o.n<=255 then [iM 9 o.f0 o.n] else [{ iZ with form:=65,rn:=o.f0,az:=Rm.ot o.n }]) else []
theorem zw (o:VO) (hn:0<=o.n/\o.n<=4294967295):ai gT 33 [gS o] (.sl 11 (bx (aL o))):=by
 refine Spec.enter al P33 100 Tryz.func33 rfl (by kernel_rfl) ?_
 repeat' ((conv=>whnf); first|(refine (And.intro (fun _=>?_) (fun _=>?_):(_->_)/\(_->_))<;>(first|(exfalso; first|contradiction|omega)|skip))|refine Or.inl (And.intro (by first|exact ao (by omega)|exact ah (by omega)|exact aF (by omega)|exact ba (by omega)) ?_)|(refine And.intro (show (_:Int)≠0 by omega) (Or.inl (And.intro (show (0:Int)<=_ by omega) (And.intro (show (0:Int) < _ by omega) ?_))))|(refine And.intro (show (_:Int)≠0 by omega) (Or.inl (And.intro (show (0:Int)<=_ by omega) (And.intro (by first|exact (show (_:Int)<=9223372036854775807 by omega)|exact (show (_:Int)<=4294967295 by omega)) (And.intro (show (0:Int) < _ by omega) ?_)))))|(refine Exists.intro [] (And.intro bn ((mK o.n hn).use (by repeat' first|exact trivial|exact rfl|exact Iff.rfl|exact Or.inl rfl|refine And.intro ?_ ?_) rfl rfl ?_)))|(refine Exists.intro [] (And.intro bn ((pC o.t0).use (by repeat' first|exact trivial|exact rfl|exact Iff.rfl|exact Or.inl rfl|refine And.intro ?_ ?_) rfl rfl ?_)))|(refine Exists.intro [] (And.intro bn ((rB o.t0).use (by repeat' first|exact trivial|exact rfl|exact Iff.rfl|exact Or.inl rfl|refine And.intro ?_ ?_) rfl rfl ?_)))|(refine aw ?_; show _=_; simp only[aL, *,if_true,if_false,reduceIte,Int.reduceEq]; try rfl)|(intro _))
def av (o:VO):List IN:=if aC o.kind≠0 then [iF (aC o.kind) o.t0 o.f0 o.f1] else bo o++aJ o++aK o++aL o
open Classical in
noncomputable def vf (o:VO):PV:=if aM o/\dM o then .tup [.sl 11 (bx (av o)),.int .i64 0] else .tup [.sl 11 [],.int .i64 10]
theorem Ct (k:Int):aC k=0\/(1<=aC k/\aC k<=100):=by
 unfold aC
 repeat' split<;>first|(exact .inl rfl)|(exact .inr (by decide))|skip
theorem F' (o:VO):(bo o).length+(aJ o).length+(aK o).length+(aL o).length<=100:=by
 have h1:(bo o).length<=10:=by unfold bo; (repeat' split)<;>simp
 have h2:(aJ o).length<=10:=by unfold aJ; (repeat' split)<;>simp
 have h3:(aK o).length<=10:=by unfold aK jk; (repeat' split)<;>simp
 have h4:(aL o).length<=10:=by unfold aL; (repeat' split)<;>simp
 omega
theorem mL (o:VO) (hn:0<=o.n/\o.n<=4294967295):ai gT 8 [gS o] (vf o):=by
 refine Spec.enter al P8 100 Tryz.func8 rfl (by kernel_rfl) ?_
 refine (xk o hn).u ?_
 refine⟨fun h1=>?_,fun h1=>?_⟩
 ·rw[vf,if_neg (fun h=>h1 h.1)]
  exact rA
 refine (xo o).u ?_
 refine⟨fun h2=>?_,fun h2=>?_⟩
 ·rw[vf,if_neg (fun h=>h2 h.2)]
  exact rA
 rw[vf,if_pos ⟨Classical.not_not.1 h1,Classical.not_not.1 h2⟩]
 refine (xq o.kind).u ?_
 refine (KU _).u ?_
 refine⟨fun h3=>?_,fun h3=>?_⟩
 ·rw[av,if_pos (by omega)]
  exact rA
 ·have h0:¬ aC o.kind≠0:=by have:=Ct o.kind; omega
  rw[av,if_neg h0]
  refine (xr o hn).u ?_
  refine (zu o).u ?_
  refine (xv o hn).u ?_
  refine (zw o hn).u ?_
  have hl:=F' o
  refine⟨[],bn,(xp (bo o) (aJ o) (aK o) (aL o) (by omega)).J9 [1] rfl ⟨.inr ⟨rfl,rfl⟩,trivial⟩ rfl rfl ?_⟩
  exact rA
end Go.Proofs.YtlgkljpgagfndaaGreatDoor.Pw

/- What this claim is proved with: no condition. -/
import Derived.Test.YtnbhdacpogplgaaGreatDoorPn20
import Derived.Test.YtnbhdacpogplgaaGreatDoorPn10
import Derived.Test.YtnbhdacpogplgaaGreatDoorPn11
set_option maxRecDepth 100000
set_option maxHeartbeats 4000000
set_option linter.unusedVariables false
set_option linter.unusedSimpArgs false
namespace Go.Proofs.YtnbhdacpogplgaaGreatDoor.Pw
open Go Go.RowKit
theorem xO {l:List C}:∀ c∈fH l,c.kind≠2:=by
 have hm:∀ (m out:List C),(∀ c∈m,c.kind≠2)->(∀ c∈out,c.kind≠2)->∀ c∈m.foldl ca out,c.kind≠2:=by
  intro m
  induction m with
  | nil=>intro out _ h; exact h
  | cons x m ih=>intro out h1 h2; exact ih _ (fun c hc=>h1 c (by simp[hc])) (kW h2 (h1 x (by simp)) fun d _ _ _=>by show (1:Int)≠2; decide)
 intro c hc
 exact hm _ [] (nm fun c _=>A0 c) (by simp) c (List.mem_filter.1 hc).1
open Classical in
noncomputable def dU {α:Type} (p:α->Prop):List α->Nat->Int
 | [],_=>-1
 | x::l,i=>if p x then (i:Int) else dU p l (i+1)
theorem np {α:Type} {p:α->Prop}:∀ {l:List α} {i:Nat},0<=dU p l i↔∃ x∈l,p x
 | [],i=>by simp[dU]
 | x::l,i=>by
  rw[dU]
  by_cases h:p x
  ·rw[if_pos h]
   exact⟨fun _=>⟨x,by simp,h⟩,fun _=>by omega⟩
  ·rw[if_neg h,np (l:=l)]
   refine⟨fun ⟨y,hy,hp⟩=>⟨y,by simp[hy],hp⟩,fun ⟨y,hy,hp⟩=>?_⟩
   rcases List.mem_cons.1 hy with rfl|hy
   ·exact absurd hp h
   ·exact⟨y,hy,hp⟩
theorem kX {α:Type} {p:α->Prop} {l:List α} {i:Nat} {x:α} (h:l[i]?=some x):(p x->dU p (l.drop i) i=i)/\(¬ p x->dU p (l.drop i) i=dU p (l.drop (i+1)) (i+1)):=by
 obtain⟨bA,hx⟩:=List.getElem?_eq_some_iff.1 h
 rw[List.drop_eq_getElem_cons bA,hx,dU]
 exact⟨fun h=>if_pos h,fun h=>if_neg h⟩
theorem DY (L:List T) (p:T->Prop) (hp:∀ x∈L,ai gT 145 [fF x] (.bool (p x))):ai gT 153 [.sl 3 (L.map fF),.clo 145 []] (.int .i64 (dU p L 0)):=by
 refine Spec.enter aw rI 100 Tryz.func153 rfl (by kernel_rfl) ?_
 intro hm
 rw[List.length_map] at hm
 obtain⟨z,hz⟩:∃ z,z=dU p L 0:=⟨_,rfl⟩
 rw[← hz]
 refine SW.mU aw rI (by kernel_rfl) (α:={i:Nat // z=dU p (L.drop i) i}) (fun i=>[(8,.int .i64 i.1)]) (fun i=>L.length - i.1) ⟨0,hz⟩ 60 ?_ ?_
 ·repeat' first|exact trivial|exact rfl|refine And.intro ?_ ?_
 rintro⟨i,hi⟩
 refine⟨fun h=>?_,fun h=>?_⟩
 ·have h':(i:Int) < ((L.map fF).length:Nat):=h
  rw[List.length_map] at h'
  refine⟨T,L,fF,rfl,show (0:Int)<=(i:Int) by omega,show (i:Int) < (L.length:Int) by omega,fun x hx=>?_⟩
  have fh:L[i]?=some x:=hx
  obtain⟨s1,s2⟩:=kX (p:=p) fh
  refine (hp x (List.mem_of_getElem? fh)).u ?_
  refine⟨fun A2=>?_,fun A2=>?_⟩
  ·refine al ?_
   exact (show (i:Int)=z by rw[hi,s1 A2])
  ·unfold maxLen at hm
   refine .inl ⟨aA (show _<=(i:Int)+1/\(i:Int)+1<=_ by omega),⟨⟨i+1,by rw[hi,s2 A2]⟩,show L.length - (i+1) < L.length - i by omega,?_⟩⟩
   repeat' first|exact trivial|exact rfl|refine And.intro ?_ ?_
 ·have h':¬ (i:Int) < ((L.map fF).length:Nat):=h
  rw[List.length_map] at h'
  refine al ?_
  exact (show (-1:Int)=z by rw[hi,List.drop_of_length_le (by omega),dU])
theorem DZ (L:List T) (p:T->Prop) (hp:∀ x∈L,ai gT 145 [fF x] (.bool (p x))):ai gT 144 [.sl 3 (L.map fF),.clo 145 []] (.bool (∃ x∈L,p x)):=by
 refine Spec.enter aw Mw 100 Tryz.func144 rfl (by kernel_rfl) ?_
 refine (DY L p hp).u ?_
 exact al np
theorem D0 (L:List C) (p:C->Prop) (hp:∀ x∈L,ai gT 91 [bj x] (.bool (p x))):ai gT 124 [.sl 12 (L.map bj),.clo 91 []] (.int .i64 (dU p L 0)):=by
 refine Spec.enter aw CC 100 Tryz.func124 rfl (by kernel_rfl) ?_
 intro hm
 rw[List.length_map] at hm
 obtain⟨z,hz⟩:∃ z,z=dU p L 0:=⟨_,rfl⟩
 rw[← hz]
 refine SW.mU aw CC (by kernel_rfl) (α:={i:Nat // z=dU p (L.drop i) i}) (fun i=>[(8,.int .i64 i.1)]) (fun i=>L.length - i.1) ⟨0,hz⟩ 60 ?_ ?_
 ·repeat' first|exact trivial|exact rfl|refine And.intro ?_ ?_
 rintro⟨i,hi⟩
 refine⟨fun h=>?_,fun h=>?_⟩
 ·have h':(i:Int) < ((L.map bj).length:Nat):=h
  rw[List.length_map] at h'
  refine⟨C,L,bj,rfl,show (0:Int)<=(i:Int) by omega,show (i:Int) < (L.length:Int) by omega,fun x hx=>?_⟩
  have fh:L[i]?=some x:=hx
  obtain⟨s1,s2⟩:=kX (p:=p) fh
  refine (hp x (List.mem_of_getElem? fh)).u ?_
  refine⟨fun A2=>?_,fun A2=>?_⟩
  ·refine al ?_
   exact (show (i:Int)=z by rw[hi,s1 A2])
  ·unfold maxLen at hm
   refine .inl ⟨aA (show _<=(i:Int)+1/\(i:Int)+1<=_ by omega),⟨⟨i+1,by rw[hi,s2 A2]⟩,show L.length - (i+1) < L.length - i by omega,?_⟩⟩
   repeat' first|exact trivial|exact rfl|refine And.intro ?_ ?_
 ·have h':¬ (i:Int) < ((L.map bj).length:Nat):=h
  rw[List.length_map] at h'
  refine al ?_
  exact (show (-1:Int)=z by rw[hi,List.drop_of_length_le (by omega),dU])
theorem D1 (L:List C) (p:C->Prop) (hp:∀ x∈L,ai gT 91 [bj x] (.bool (p x))):ai gT 90 [.sl 12 (L.map bj),.clo 91 []] (.bool (∃ x∈L,p x)):=by
 refine Spec.enter aw VI 100 Tryz.func90 rfl (by kernel_rfl) ?_
 refine (D0 L p hp).u ?_
 exact al np
theorem OW (L M:List T) (hp:∀ x∈L,∀ y∈M,ai gT 34 [fF x,fF y] (.bool (x=y))):ai gT 65 [.sl 3 (L.map fF),.sl 3 (M.map fF),.clo 34 []] (.bool (L=M)):=by
 refine Spec.enter aw Tj 100 Tryz.func65 rfl (by kernel_rfl) ?_
 intro hm qQ
 rw[List.length_map] at hm qQ
 refine⟨fun h0=>?_,fun h0=>?_⟩
 ·have yj:¬ ((L.map fF).length:Int)=((M.map fF).length:Nat):=h0
  rw[List.length_map,List.length_map] at yj
  refine al ?_
  exact (show ¬ L=M from fun e=>yj (by rw[e]))
 have yj:((L.map fF).length:Int)=((M.map fF).length:Nat):=Classical.not_not.1 h0
 rw[List.length_map,List.length_map] at yj
 intro _
 refine SW.mU aw Tj (by kernel_rfl) (α:={i:Nat // i<=L.length/\L.take i=M.take i}) (fun i=>[(17,.int .i64 i.1)]) (fun i=>L.length - i.1) ⟨0,Nat.zero_le _,by simp⟩ 60 ?_ ?_
 ·repeat' first|exact trivial|exact rfl|refine And.intro ?_ ?_
 rintro⟨i,hle,hi⟩
 refine⟨fun h=>?_,fun h=>?_⟩
 ·have h':(i:Int) < ((L.map fF).length:Nat):=h
  rw[List.length_map] at h'
  refine⟨T,L,fF,rfl,show (0:Int)<=(i:Int) by omega,show (i:Int) < (L.length:Int) by omega,fun x hx=>?_⟩
  have fh:L[i]?=some x:=hx
  refine⟨T,M,fF,rfl,show (0:Int)<=(i:Int) by omega,show (i:Int) < (M.length:Int) by omega,fun y hy=>?_⟩
  have qy:M[i]?=some y:=hy
  refine (hp x (List.mem_of_getElem? fh) y (List.mem_of_getElem? qy)).u ?_
  refine⟨fun bR=>?_,fun he=>?_⟩
  ·refine al ?_
   exact (show ¬ L=M from fun e=>bR (by rw[e,qy] at fh; exact (Option.some.inj fh).symm))
  ·have s8:x=y:=Classical.not_not.1 he
   unfold maxLen at hm
   refine .inl ⟨aA (show _<=(i:Int)+1/\(i:Int)+1<=_ by omega),⟨⟨i+1,by omega,by rw[List.take_add_one,List.take_add_one,hi,fh,qy,s8]⟩,show L.length - (i+1) < L.length - i by omega,?_⟩⟩
   repeat' first|exact trivial|exact rfl|refine And.intro ?_ ?_
 ·have h':¬ (i:Int) < ((L.map fF).length:Nat):=h
  rw[List.length_map] at h'
  refine al ?_
  exact (show L=M by rw[List.take_of_length_le (by omega),List.take_of_length_le (by omega)] at hi; exact hi)
theorem OX (L M:List C) (hp:∀ x∈L,∀ y∈M,ai gT 13 [bj x,bj y] (.bool (x=y))):ai gT 35 [.sl 12 (L.map bj),.sl 12 (M.map bj),.clo 13 []] (.bool (L=M)):=by
 refine Spec.enter aw Tk 100 Tryz.func35 rfl (by kernel_rfl) ?_
 intro hm qQ
 rw[List.length_map] at hm qQ
 refine⟨fun h0=>?_,fun h0=>?_⟩
 ·have yj:¬ ((L.map bj).length:Int)=((M.map bj).length:Nat):=h0
  rw[List.length_map,List.length_map] at yj
  refine al ?_
  exact (show ¬ L=M from fun e=>yj (by rw[e]))
 have yj:((L.map bj).length:Int)=((M.map bj).length:Nat):=Classical.not_not.1 h0
 rw[List.length_map,List.length_map] at yj
 intro _
 refine SW.mU aw Tk (by kernel_rfl) (α:={i:Nat // i<=L.length/\L.take i=M.take i}) (fun i=>[(17,.int .i64 i.1)]) (fun i=>L.length - i.1) ⟨0,Nat.zero_le _,by simp⟩ 60 ?_ ?_
 ·repeat' first|exact trivial|exact rfl|refine And.intro ?_ ?_
 rintro⟨i,hle,hi⟩
 refine⟨fun h=>?_,fun h=>?_⟩
 ·have h':(i:Int) < ((L.map bj).length:Nat):=h
  rw[List.length_map] at h'
  refine⟨C,L,bj,rfl,show (0:Int)<=(i:Int) by omega,show (i:Int) < (L.length:Int) by omega,fun x hx=>?_⟩
  have fh:L[i]?=some x:=hx
  refine⟨C,M,bj,rfl,show (0:Int)<=(i:Int) by omega,show (i:Int) < (M.length:Int) by omega,fun y hy=>?_⟩
  have qy:M[i]?=some y:=hy
  refine (hp x (List.mem_of_getElem? fh) y (List.mem_of_getElem? qy)).u ?_
  refine⟨fun bR=>?_,fun he=>?_⟩
  ·refine al ?_
   exact (show ¬ L=M from fun e=>bR (by rw[e,qy] at fh; exact (Option.some.inj fh).symm))
  ·have s8:x=y:=Classical.not_not.1 he
   unfold maxLen at hm
   refine .inl ⟨aA (show _<=(i:Int)+1/\(i:Int)+1<=_ by omega),⟨⟨i+1,by omega,by rw[List.take_add_one,List.take_add_one,hi,fh,qy,s8]⟩,show L.length - (i+1) < L.length - i by omega,?_⟩⟩
   repeat' first|exact trivial|exact rfl|refine And.intro ?_ ?_
 ·have h':¬ (i:Int) < ((L.map bj).length:Nat):=h
  rw[List.length_map] at h'
  refine al ?_
  exact (show L=M by rw[List.take_of_length_le (by omega),List.take_of_length_le (by omega)] at hi; exact hi)
theorem T.nk {p:T->Prop} (h:∀ t:T,(∀ x∈dI t,p x)->p t):∀ t,p t
 | .leaf o n=>h _ (by simp[dI])
 | .one o n a=>h _ (by simp only[dI,List.mem_singleton]; rintro x rfl; exact T.nk h x)
 | .two o n a b=>h _ (by
  simp only[dI,List.mem_cons,List.not_mem_nil,or_false]
  rintro x (rfl|rfl)
  ·exact T.nk h _
  ·exact T.nk h _)
theorem T.eq_iff (a b:T):a=b↔a.op=b.op/\a.num=b.num/\dI a=dI b:=by
 cases a<;>cases b<;>simp[T.op,T.num,dI]
theorem C.eq_iff (a b:C):a=b↔(a.kind=b.kind/\a.fj=b.fj/\a.fG=b.fG/\a.word=b.word/\a.size=b.size)/\a.a=b.a/\a.b=b.b/\a.l=b.l:=by
 cases a; cases b; simp only[C.mk.injEq,C.kind,C.fj,C.fG,C.word,C.size,C.a,C.b,C.l]
 exact⟨fun ⟨a,b,c,d,e,f,g,h⟩=>⟨⟨a,b,c,d,e⟩,f,g,h⟩,fun ⟨⟨a,b,c,d,e⟩,f,g,h⟩=>⟨a,b,c,d,e,f,g,h⟩⟩
theorem nq:∀ a b:T,ai gT 34 [fF a,fF b] (.bool (a=b)):=T.nk fun a ih b=>by
 refine Spec.enter aw VL 100 Tryz.func34 rfl (by kernel_rfl) ?_
 refine⟨fun h1=>And.intro (fun h2=>?_) (fun h2=>?_),fun h1=>?_⟩
 ·have hk:=OW (dI a) (dI b) fun x hx y _=>ih x hx y
  rw[← ni,← ni] at hk
  refine hk.u ?_
  refine al ?_
  exact (show (dI a=dI b)↔a=b by rw[T.eq_iff]; exact⟨fun h=>⟨h1,h2,h⟩,fun h=>h.2.2⟩)
 ·refine al ?_
  exact (show ¬ a=b from fun e=>h2 (by rw[e]))
 ·refine al ?_
  exact (show ¬ a=b from fun e=>h1 (by rw[e]))
theorem ns:∀ a b:C,ai gT 13 [bj a,bj b] (.bool (a=b)):=C.nk fun a ih b=>by
 refine Spec.enter aw VK 100 Tryz.func13 rfl (by kernel_rfl) ?_
 refine⟨fun h1=>?_,fun h1=>?_⟩
 ·refine (nq a.a b.a).u ?_
  refine⟨fun h2=>?_,fun h2=>?_⟩
  ·refine (nq a.b b.b).u ?_
   refine⟨fun h3=>?_,fun h3=>?_⟩
   ·have hk:=OX a.l b.l fun x hx y _=>ih x hx y
    rw[← dT,← dT] at hk
    refine hk.u ?_
    refine al ?_
    obtain⟨e1,e2,e3,e4,e5,_⟩:=h1
    exact (show (a.l=b.l)↔a=b by rw[C.eq_iff]; exact⟨fun h=>⟨⟨e1,e2,e3,e4,e5⟩,h2,h3,h⟩,fun h=>h.2.2.2⟩)
   ·refine al ?_
    exact (show ¬ a=b from fun e=>h3 (by rw[e]))
  ·refine al ?_
   exact (show ¬ a=b from fun e=>h2 (by rw[e]))
 ·refine al ?_
  exact (show ¬ a=b from fun e=>h1 (by rw[e]; exact⟨rfl,rfl,rfl,rfl,rfl,trivial⟩))
theorem nt (l m:List C):eH (l++m)=eH l++eH m:=by
 induction l with
 | nil=>rfl
 | cons c l ih=>rw[List.cons_append,eH,eH,ih,List.append_assoc]
theorem A3 {l:List C} {i:Nat} {c:C} (h:l[i]?=some c):eH (l.take (i+1))=eH (l.take i)++BQ c:=by
 rw[List.take_add_one,h,nt]
 show _++(BQ c++[])=_
 rw[List.append_nil]
theorem ly (l:List C) (i:Nat):(eH (l.take i)).length<=(eH l).length:=by
 have h:=nt (l.take i) (l.drop i)
 rw[List.take_append_drop] at h
 rw[h,List.length_append]; omega
def kj (l:List C):Prop:=(eH l).length<=1000000->ai gT 84 [.sl 12 (l.map bj)] (.sl 12 ((eH l).map bj))
theorem lz (l:List C) (hk:∀ c∈l,c.kind=2->kj c.l):kj l:=fun hn=>by
 refine Spec.enter aw Te 100 Tryz.func84 rfl (by kernel_rfl) ?_
 intro hm
 refine SW.EO aw Te (by kernel_rfl) (fun i:Nat=>[(8,.int .i64 i),(3,.wref 0)]) (fun i=>[⟨.dyn,30,12,.w,true,(eH (l.take i)).map bj⟩]) (fun i=>l.length - i) 0 60 [none] ?_ fun i=>?_
 ·repeat' first|exact trivial|exact rfl|exact Iff.rfl|refine And.intro ?_ ?_
 have hle:=ly l i
 refine⟨fun h=>?_,fun h=>?_⟩
 ·have h':(i:Int) < ((l.map bj).length:Nat):=h
  rw[List.length_map] at h'
  refine⟨C,l,bj,rfl,show (0:Int)<=(i:Int) by omega,show (i:Int) < (l.length:Int) by omega,fun x hx=>?_⟩
  have fh:l[i]?=some x:=hx
  have e1:=A3 fh
  have mV:=ly l (i+1)
  rw[e1,List.length_append,ij] at mV
  unfold maxLen at hm
  have el:(((eH (l.take i)).map bj).length:Nat)=(eH (l.take i)).length:=List.length_map ..
  refine⟨fun l4=>?_,fun l4=>?_⟩
  ·have xP:x.kind=2:=l4
   rw[if_pos xP] at mV
   have jg:=List.mem_of_getElem? fh
   have hp:=hk x jg xP (by omega)
   rw[← dT] at hp
   have W3:(((eH x.l).map bj).length:Nat)=(eH x.l).length:=List.length_map ..
   refine hp.u ?_
   refine⟨show ((eH (l.take i)).map bj).length+((eH x.l).map bj).length<=maxLen by unfold maxLen; omega,show (((eH (l.take i)).map bj).length+((eH x.l).map bj).length)*144<=140737488355328 by omega,?_⟩
   refine .inl ⟨aA (show _<=(i:Int)+1/\(i:Int)+1<=_ by omega),⟨i+1,[some 2],by omega,?_⟩⟩
   repeat' first|exact trivial|exact rfl|exact Iff.rfl|refine And.intro ?_ ?_
   exact (show (eH (l.take i)).map bj++(eH x.l).map bj=(eH (l.take (i+1))).map bj by rw[e1,ij,if_pos xP,List.map_append])
  ·have xP:¬ x.kind=2:=l4
   rw[if_neg xP] at mV
   refine⟨show ((eH (l.take i)).map bj).length+1<=maxLen by unfold maxLen; simp at mV; omega,show (((eH (l.take i)).map bj).length+1)*144<=140737488355328 by simp at mV; omega,?_⟩
   refine .inl ⟨aA (show _<=(i:Int)+1/\(i:Int)+1<=_ by omega),⟨i+1,[some 3],by omega,?_⟩⟩
   repeat' first|exact trivial|exact rfl|exact Iff.rfl|refine And.intro ?_ ?_
   exact (show (eH (l.take i)).map bj++[bj x]=(eH (l.take (i+1))).map bj by rw[e1,ij,if_neg xP,List.map_append]; rfl)
 ·have h':¬ (i:Int) < ((l.map bj).length:Nat):=h
  rw[List.length_map] at h'
  refine al ?_
  rw[List.take_of_length_le (by omega)]
  exact (show (eH l).map bj=(eH l).map bj from rfl)
theorem uK:∀ c:C,kj c.l:=C.nk fun c ih=>lz c.l fun x hx _=>ih x hx
theorem sJ (l:List C):kj l:=lz l fun c _ _=>uK c
theorem nu (c:C):ai gT 86 [bj c] (.bool (¬ aZ c=true)):=by
 have e:(¬ aZ c=true)↔(c.kind=1/\c.fj=0)/\c.fG=0:=by
  unfold aZ; simp[and_assoc]
 refine Spec.enter aw VE 100 Tryz.func86 rfl (by kernel_rfl) ?_
 refine⟨fun h1=>And.intro (fun h2=>?_) (fun h2=>?_),fun h1=>?_⟩
 ·refine al ?_
  have iT:c.kind=1:=h1
  have Oe:c.fj=0:=h2
  exact (show c.fG=0↔¬ aZ c=true from ⟨fun h=>e.2 ⟨⟨iT,Oe⟩,h⟩,fun h=>(e.1 h).2⟩)
 ·refine al ?_
  have Oe:¬ c.fj=0:=h2
  exact (show ¬ ¬ aZ c=true from fun h=>Oe (e.1 h).1.2)
 ·refine al ?_
  have iT:¬ c.kind=1:=h1
  exact (show ¬ ¬ aZ c=true from fun h=>iT (e.1 h).1.1)
theorem D2 (L:List C) (p:C->Prop) (hp:∀ x∈L,ai gT 86 [bj x] (.bool (p x))):ai gT 124 [.sl 12 (L.map bj),.clo 86 []] (.int .i64 (dU p L 0)):=by
 refine Spec.enter aw CC 100 Tryz.func124 rfl (by kernel_rfl) ?_
 intro hm
 rw[List.length_map] at hm
 obtain⟨z,hz⟩:∃ z,z=dU p L 0:=⟨_,rfl⟩
 rw[← hz]
 refine SW.mU aw CC (by kernel_rfl) (α:={i:Nat // z=dU p (L.drop i) i}) (fun i=>[(8,.int .i64 i.1)]) (fun i=>L.length - i.1) ⟨0,hz⟩ 60 ?_ ?_
 ·repeat' first|exact trivial|exact rfl|refine And.intro ?_ ?_
 rintro⟨i,hi⟩
 refine⟨fun h=>?_,fun h=>?_⟩
 ·have h':(i:Int) < ((L.map bj).length:Nat):=h
  rw[List.length_map] at h'
  refine⟨C,L,bj,rfl,show (0:Int)<=(i:Int) by omega,show (i:Int) < (L.length:Int) by omega,fun x hx=>?_⟩
  have fh:L[i]?=some x:=hx
  obtain⟨s1,s2⟩:=kX (p:=p) fh
  refine (hp x (List.mem_of_getElem? fh)).u ?_
  refine⟨fun A2=>?_,fun A2=>?_⟩
  ·refine al ?_
   exact (show (i:Int)=z by rw[hi,s1 A2])
  ·unfold maxLen at hm
   refine .inl ⟨aA (show _<=(i:Int)+1/\(i:Int)+1<=_ by omega),⟨⟨i+1,by rw[hi,s2 A2]⟩,show L.length - (i+1) < L.length - i by omega,?_⟩⟩
   repeat' first|exact trivial|exact rfl|refine And.intro ?_ ?_
 ·have h':¬ (i:Int) < ((L.map bj).length:Nat):=h
  rw[List.length_map] at h'
  refine al ?_
  exact (show (-1:Int)=z by rw[hi,List.drop_of_length_le (by omega),dU])
theorem o6 {α:Type} {p:α->Prop}:∀ {l:List α} {i:Nat},dU p l i = -1->∀ x∈l,¬ p x
 | [],_,_,x,hx=>by simp at hx
 | y::l,i,h,x,hx=>by
  rw[dU] at h
  by_cases hy:p y
  ·rw[if_pos hy] at h; omega
  ·rw[if_neg hy] at h
   rcases List.mem_cons.1 hx with rfl|hx
   ·exact hy
   ·exact o6 h x hx
theorem nv {α:Type} {p:α->Prop}:∀ {l:List α} {i:Nat},¬ dU p l i = -1->∃ k:Nat,dU p l i=((i+k:Nat):Int)/\(∃ x,l[k]?=some x/\p x)/\∀ x∈l.take k,¬ p x
 | [],_,h=>absurd rfl h
 | y::l,i,h=>by
  rw[dU] at h ⊢
  by_cases hy:p y
  ·rw[if_pos hy]
   exact⟨0,rfl,⟨y,rfl,hy⟩,by simp⟩
  ·rw[if_neg hy] at h ⊢
   obtain⟨k,h1,⟨x,h2,h3⟩,h4⟩:=nv h
   refine⟨k+1,by rw[h1]; congr 1; omega,⟨x,h2,h3⟩,fun z hz=>?_⟩
   rw[List.take_succ_cons] at hz
   rcases List.mem_cons.1 hz with rfl|hz
   ·exact hy
   ·exact h4 z hz
def dB (l:List C):aj:=⟨.dyn,30,12,.w,true,l.map bj⟩
structure fv (L:List C) (x:Nat × List C):Prop where
 le:x.1<=L.length
 len:x.2.length=L.length
 Sa:x.2.take ((L.take x.1).filter aZ).length=(L.take x.1).filter aZ
 rest:x.2.drop x.1=L.drop x.1
 lt:((L.take x.1).filter aZ).length < x.1
theorem fv.at {L cs:List C} {j:Nat} {y:C} (h:fv L (j,cs)) (hj:(j:Int) < L.length) (hy:cs[j]?=some y):L[j]?=some y:=by
 have h1:=congrArg (fun l=>l[0]?) h.rest
 simpa [List.getElem?_drop,hy] using h1.symm
theorem fv.step {L cs:List C} {j:Nat} {y:C} (h:fv L (j,cs)) (hj:(j:Int) < L.length) (hy:cs[j]?=some y):(L.take (j+1)).filter aZ=(L.take j).filter aZ++[y].filter aZ:=by
 rw[List.take_add_one,h.at hj hy,List.filter_append]; rfl
theorem fv.E5 {L cs:List C} {j:Nat} (h:cs.drop j=L.drop j):cs.drop (j+1)=L.drop (j+1):=by
 rw[← List.drop_drop,← List.drop_drop,h]
theorem kk {L cs:List C} {j:Nat} {y:C} (h:fv L (j,cs)) (hj:(j:Int) < L.length) (hy:cs[j]?=some y) (hk:¬ aZ y=true):(L.take (j+1)).filter aZ=(L.take j).filter aZ:=by
 rw[h.step hj hy,List.filter_cons_of_neg hk]; simp
theorem A4 {L cs:List C} {j:Nat} {y:C} (h:fv L (j,cs)) (hj:(j:Int) < L.length) (hy:cs[j]?=some y) (hk:¬ aZ y=true):fv L (j+1,cs):=by
 have e:=kk h hj hy hk
 have h1:=h.lt
 have h2:=h.Sa
 simp only at h1 h2
 exact⟨by show j+1<=_; omega,h.len,by simp only; rw[e]; exact h2,fv.E5 h.rest,by simp only; rw[e]; omega⟩
theorem kl {L cs:List C} {j:Nat} {y:C} (h:fv L (j,cs)) (hj:(j:Int) < L.length) (hy:cs[j]?=some y) (hk:aZ y=true):(L.take (j+1)).filter aZ=(L.take j).filter aZ++[y]:=by
 rw[h.step hj hy,List.filter_cons_of_pos hk]; simp
theorem A5 {L cs:List C} {j:Nat} {y:C} (h:fv L (j,cs)) (hj:(j:Int) < L.length) (hy:cs[j]?=some y) (hk:aZ y=true):fv L (j+1,cs.set ((L.take j).filter aZ).length y):=by
 have e:=kl h hj hy hk
 have h1:=h.lt
 have h2:=h.Sa
 have h3:=h.len
 simp only at h1 h2 h3
 obtain⟨K,hK⟩:∃ K,(L.take j).filter aZ=K:=⟨_,rfl⟩
 rw[hK] at e h1 h2 ⊢
 have bA:K.length < cs.length:=by omega
 refine⟨by show j+1<=_; omega,by simp only; rw[List.length_set]; exact h3,?_,?_,?_⟩
 ·simp only
  rw[e,List.length_append,List.length_singleton,List.take_add_one,List.getElem?_set_self bA,List.take_set_of_le (Nat.le_refl _),h2]
  rfl
 ·simp only
  rw[List.drop_set_of_lt (by omega)]
  exact fv.E5 h.rest
 ·simp only
  rw[e,List.length_append,List.length_singleton]; omega
def zC:aj:=⟨.loc,30,1,.w,true,[.lit .i64 0,.lit .i64 0,.lit .i64 0,.lit .i64 0,.lit .i64 0,.lit .i64 0,.lit .u32 0,.nil,.lit .i64 0,.lit .u32 0,.nil,.nil]⟩
theorem sK (L:List C) (hL:L.length<=1000000):Spec gT 85 [.wref 1,.clo 86 []] [zC,dB L] [] fun r S'=>∃ b:aj,S' = [zC,b]/\b.k = .dyn/\b.live=true/\b.m = .w/\b.size=12/\((r = .wref 1/\b.cs=(L.filter aZ).map bj)\/(r = .ref 1 0 ((L.filter aZ).map bj).length/\b.cs.take ((L.filter aZ).map bj).length=(L.filter aZ).map bj)):=by
 have hi:=D2 L (fun x=>¬ aZ x=true) fun x _=>nu x
 obtain⟨z,hz⟩:∃ z,dU (fun x=>¬ aZ x=true) L 0=z:=⟨_,rfl⟩
 rw[hz] at hi
 unfold dB zC
 refine Spec.enter aw Tf 100 Tryz.func85 rfl (by kernel_rfl) ?_
 refine⟨[],aE,hi.Rn [1] (by repeat' first|exact trivial|exact rfl|exact Iff.rfl|exact Or.inl rfl|refine And.intro ?_ ?_) rfl rfl ?_⟩
 refine⟨fun h1=>?_,fun h1=>?_⟩
 ·have iT:z = -1:=h1
  have cr:=o6 (hz.trans iT)
  have hf:L.filter aZ=L:=List.filter_eq_self.2 fun x hx=>Classical.not_not.1 (cr x hx)
  rw[hf]
  refine Exists.intro (.wref 1) (And.intro (oH.refl _) ?_)
  exact⟨⟨.dyn,30,12,.w,true,L.map bj⟩,rfl,rfl,rfl,rfl,rfl,.inl ⟨rfl,rfl⟩⟩
 ·have iT:¬ z = -1:=h1
  obtain⟨k,hk,⟨x0,RC,Pt⟩,Sb⟩:=nv (fun e=>iT (hz.symm.trans e))
  rw[hz,Nat.zero_add] at hk
  subst hk
  have W4:k < L.length:=(List.getElem?_eq_some_iff.1 RC).1
  have T7:(L.take (k+1)).filter aZ=L.take k:=by
   rw[List.take_add_one,RC,List.filter_append,List.filter_eq_self.2 fun x hx=>Classical.not_not.1 (Sb x hx)]
   show L.take k++[x0].filter aZ=_
   rw[List.filter_cons_of_neg Pt]; simp
  have T8:((L.take (k+1)).filter aZ).length=k:=by rw[T7,List.length_take]; omega
  refine li ?_ (show _<=(k:Int)+1/\(k:Int)+1<=_ by omega)
  refine SW.loop aw Tf (by kernel_rfl) (α:={x:Nat × List C // fv L x}) (fun x=>[(5,.int .i64 ((L.take x.1.1).filter aZ).length),(6,.int .i64 x.1.1)]) (fun x=>[⟨.loc,30,1,.w,true,[.lit .i64 0,.lit .i64 0,.lit .i64 0,.lit .i64 0,.lit .i64 0,.lit .i64 0,.lit .u32 0,.nil,.lit .i64 0,.lit .u32 0,.nil,.nil]⟩,⟨.dyn,30,12,.w,true,x.1.2.map bj⟩]) (fun x=>L.length - x.1.1) ⟨(k+1,L),⟨by omega,rfl,by rw[T7,List.length_take,Nat.min_eq_left (by omega)],rfl,by show _ < k+1; rw[T8]; omega⟩⟩ 60 [some 0,some 1] ?_ fun x=>?_
  ·repeat' first|exact trivial|exact rfl|exact Iff.rfl|refine And.intro ?_ ?_
   all_goals exact (show (k:Int)=(((L.take (k+1)).filter aZ).length:Int) by rw[T8])
  obtain⟨⟨j,cs⟩,hx⟩:=x
  have Sc:=hx.len
  have F6:=hx.le
  have Wg:=hx.lt
  simp only at Sc F6 Wg
  have T9:(((cs.map bj).length:Nat):Int)=L.length:=by rw[List.length_map,Sc]
  intro hm
  refine⟨fun h=>?_,fun h=>?_⟩
  ·have h':(j:Int) < ((cs.map bj).length:Nat):=h
   rw[T9] at h'
   refine⟨show (0:Int)<=(j:Int) by omega,show (j:Int) < ((cs.map bj).length:Nat) by omega,C,cs,bj,rfl,show (j:Int).toNat < cs.length by omega,fun y hy=>?_⟩
   have qy:cs[j]?=some y:=hy
   refine (nu y).u ?_
   refine⟨fun l4=>?_,fun l4=>?_⟩
   ·have OY:aZ y=true:=Classical.not_not.1 l4
    refine⟨show (0:Int)<=(((L.take j).filter aZ).length:Int) by omega,show (((L.take j).filter aZ).length:Int) < ((cs.map bj).length:Nat) by omega,?_⟩
    refine And.intro (show (((L.take j).filter aZ).length:Int).toNat < (cs.map bj).length by omega) ?_
    refine li ?_ (show _<=(((L.take j).filter aZ).length:Int)+1/\(((L.take j).filter aZ).length:Int)+1<=_ by omega)
    refine .inl ⟨aA (show _<=(j:Int)+1/\(j:Int)+1<=_ by omega),⟨⟨(j+1,cs.set ((L.take j).filter aZ).length y),A5 hx h' qy OY⟩,[some 0,some 1],show L.length - (j+1) < L.length - j by omega,?_⟩⟩
    repeat' first|exact trivial|exact rfl|exact Iff.rfl|refine And.intro ?_ ?_
    all_goals first|exact (show (((L.take j).filter aZ).length:Int)+1=(((L.take (j+1)).filter aZ).length:Int) by rw[kl hx h' qy OY,List.length_append]; simp)|exact (show (cs.map bj).set (((L.take j).filter aZ).length:Int).toNat (bj y)=(cs.set ((L.take j).filter aZ).length y).map bj by rw[Int.toNat_natCast,List.map_set])
   ·have OY:¬ aZ y=true:=fun h=>l4 (fun h2=>h2 h)
    refine .inl ⟨aA (show _<=(j:Int)+1/\(j:Int)+1<=_ by omega),⟨⟨(j+1,cs),A4 hx h' qy OY⟩,[some 0,some 1],show L.length - (j+1) < L.length - j by omega,?_⟩⟩
    repeat' first|exact trivial|exact rfl|exact Iff.rfl|refine And.intro ?_ ?_
    all_goals exact (show (((L.take j).filter aZ).length:Int)=(((L.take (j+1)).filter aZ).length:Int) by rw[kk hx h' qy OY])
  ·have h':¬ (j:Int) < ((cs.map bj).length:Nat):=h
   rw[T9] at h'
   have hj:j=L.length:=by omega
   subst hj
   obtain⟨n,hn⟩:∃ n,((L.take L.length).filter aZ).length=n:=⟨_,rfl⟩
   have qv:(cs.map bj).length=L.length:=by rw[List.length_map,Sc]
   refine⟨n,L.length,show ((((L.take L.length).filter aZ).length:Nat):Int)=n by rw[hn],show (((cs.map bj).length:Nat):Int)=(L.length:Nat) by rw[qv],by omega,show L.length<=(cs.map bj).length by omega,show n < (cs.map bj).length by omega,?_⟩
   refine wJ aw ?_
   refine⟨n,rfl,show n+(L.length - n)=(cs.map bj).length by omega,by omega,?_⟩
   refine⟨0,n,rfl,show ((((L.take L.length).filter aZ).length:Nat):Int)=n by rw[hn],by omega,?_⟩
   have du:∀ e:PV,((cs.map bj).take n++List.replicate (L.length - n) e).length=L.length:=fun e=>by
    rw[List.length_append,List.length_take,List.length_replicate,qv]; omega
   have hg:=hx.Sa
   simp only at hg
   rw[hn] at hg
   refine And.intro (show n<=((cs.map bj).take n++List.replicate (L.length - n) _).length by rw[du]; omega) (And.intro (show 0 < ((cs.map bj).take n++List.replicate (L.length - n) _).length by rw[du]; omega) ?_)
   have T':(L.filter aZ).length=n:=by rw[← hn,List.take_length]
   have ME:cs.take n=L.filter aZ:=by rw[hg,List.take_length]
   refine Exists.intro (.ref 1 (0*12) (n - 0)) (And.intro (oH.refl _) ?_)
   refine⟨_,rfl,rfl,rfl,rfl,rfl,.inr ⟨?_,?_⟩⟩
   ·show PV.ref 1 (0*12) (n - 0)=_
    rw[List.length_map,T',Nat.zero_mul,Nat.sub_zero]
   ·show ((cs.map bj).take n++List.replicate (L.length - n) _).take ((L.filter aZ).map bj).length=_
    rw[List.length_map,T',List.take_append_of_le_length (by rw[List.length_take,qv]; omega),List.take_take,Nat.min_self,← List.map_take,ME]
theorem uL (L:List C) (hL:L.length<=1000000):Spec gT 85 [.wref 1,.clo 86 []] [zC,dB L] [] fun r S'=>r = .sl 12 ((L.filter aZ).map bj)/\S' = [zC,⟨.dyn,(dB L).ty,12,.w,false,[]⟩] :=
 (sK L hL).Ry rfl rfl rfl
def eZ (B:Int) (c:C):Prop:=c.kind=1->(0<=c.fj/\c.fj<=B)/\(0<=c.fG/\c.fG<=B)
theorem eZ.more {B B':Int} {c:C} (h:eZ B c) (hB:B<=B'):eZ B' c:=fun k=>by have:=h k; omega
theorem iK {S:List C} {i:Nat} {c:C} (h:S[i]?=some c):(S.take (i+1)).foldl ca []=ca ((S.take i).foldl ca []) c:=by
 rw[List.take_add_one,h,List.foldl_append]; rfl
theorem l_ {S:List C} (hS:∀ c∈S,eZ 2147483647 c):∀ i:Nat,∀ x∈(S.take i).foldl ca [],eZ (i*2147483647) x
 | 0,x,hx=>by simp at hx
 | i+1,x,hx=>by
  cases hc:S[i]? with
  | none =>
   have hl:S.length<=i:=List.getElem?_eq_none_iff.1 hc
   rw[List.take_of_length_le (by omega),← List.take_of_length_le (i:=i) hl] at hx
   exact (l_ hS i x hx).more (by omega)
  | some c =>
   rw[iK hc] at hx
   have K6:=hS c (List.mem_of_getElem? hc)
   refine kW (p:=eZ ((i+1:Nat)*2147483647)) (fun y hy=>(l_ hS i y hy).more (by omega)) (K6.more (by omega)) (fun d hd k1 k2 _=>?_) x hx
   have h1:=l_ hS i d hd k2
   have h2:=K6 k1
   show (0<=d.fj+c.fj/\d.fj+c.fj<=_)/\(0<=d.fG+c.fG/\d.fG+c.fG<=_)
   omega
theorem ik (S:List C):∀ i:Nat,((S.take i).foldl ca []).length<=i
 | 0=>by simp
 | i+1=>by
  cases hc:S[i]? with
  | none =>
   have hl:S.length<=i:=List.getElem?_eq_none_iff.1 hc
   rw[List.take_of_length_le (by omega),← List.take_of_length_le (i:=i) hl]
   have:=ik S i; omega
  | some c =>
   rw[iK hc]
   have:=ik S i; have:=xN ((S.take i).foldl ca []) c; omega
theorem kY {out:List C} {c:C} (h:∀ d,out[out.length - 1]?=some d->¬ (c.kind=1/\d.kind=1)):ca out c=out++[c]:=by
 unfold ca
 cases he:out.getLast? with
 | none=>rfl
 | some d =>
  simp only
  rw[if_neg (h d (by rw[← List.getLast?_eq_getElem?]; exact he))]
theorem xQ {out:List C} {c d:C} (hd:out[out.length - 1]?=some d) (h1:c.kind=1) (h2:d.kind=1):ca out c=out.set (out.length - 1) (bh (d.fj+c.fj) (d.fG+c.fG)):=by
 have he:out.getLast?=some d:=by rw[List.getLast?_eq_getElem?]; exact hd
 unfold ca
 rw[he]
 simp only
 rw[if_pos ⟨h1,h2⟩]
 obtain⟨pre,Sd⟩:=List.getLast?_eq_some_iff.1 he
 rw[Sd,List.dropLast_concat]
 simp
theorem o7 (l:List C) (hn:(eH l).length<=1000000) (hS:∀ c∈eH l,eZ 2147483647 c):ai gT 45 [.sl 12 (l.map bj)] (bj (c_ l)):=by
 have hs:=sJ l hn
 obtain⟨S,T_⟩:∃ S,eH l=S:=⟨_,rfl⟩
 rw[T_] at hs hn hS
 refine Spec.enter aw Td 100 Tryz.func45 rfl (by kernel_rfl) ?_
 refine hs.u ?_
 intro hm
 have el:(((S.map bj).length:Nat):Int)=S.length:=by rw[List.length_map]
 refine SW.EO aw Td (by kernel_rfl) (fun i:Nat=>[(10,.int .i64 i),(3,.wref 1)]) (fun i=>[⟨.dyn,30,12,.w,true,((S.take i).foldl ca []).map bj⟩]) (fun i=>S.length - i) 0 60 [none] ?_ fun i=>?_
 ·repeat' first|exact trivial|exact rfl|exact Iff.rfl|refine And.intro ?_ ?_
 have hle:=ik S i
 have Lj:=l_ hS i
 obtain⟨out,fM⟩:∃ out,(S.take i).foldl ca []=out:=⟨_,rfl⟩
 rw[fM] at hle Lj ⊢
 have eo:(((out.map bj).length:Nat):Int)=out.length:=by rw[List.length_map]
 refine⟨fun h=>?_,fun h=>?_⟩
 ·have h':(i:Int) < ((S.map bj).length:Nat):=h
  rw[el] at h'
  refine⟨C,S,bj,rfl,show (0:Int)<=(i:Int) by omega,show (i:Int) < (S.length:Int) by omega,fun c hc=>?_⟩
  have qx:S[i]?=some c:=hc
  have K6:=hS c (List.mem_of_getElem? qx)
  have e1:=iK qx
  rw[fM] at e1
  refine fun qQ=>?_
  refine⟨fun hk=>?_,fun hk=>?_⟩
  ·refine⟨fun h0=>?_,fun h0=>?_⟩
   ·have yj:(0:Int) < ((out.map bj).length:Nat):=h0
    refine li ?_ (show _<=(((out.map bj).length:Nat):Int) - 1/\(((out.map bj).length:Nat):Int) - 1<=_ by omega)
    refine⟨show (0:Int)<=(((out.map bj).length:Nat):Int) - 1 by omega,show (((out.map bj).length:Nat):Int) - 1 < ((out.map bj).length:Nat) by omega,?_⟩
    refine⟨C,out,bj,rfl,show ((((out.map bj).length:Nat):Int) - 1).toNat < out.length by omega,fun d hd=>?_⟩
    have yw:out[out.length - 1]?=some d:=by
     rw[← show ((((out.map bj).length:Nat):Int) - 1).toNat=out.length - 1 by omega]; exact hd
    refine⟨fun Se=>?_,fun Se=>?_⟩
    ·have fl:c.kind=1:=hk
     have OZ:d.kind=1:=Se
     have b1:=K6 fl
     have b2:=Lj d (List.mem_of_getElem? yw) OZ
     have W5:(i:Int)<=1000000:=by omega
     have bA:((((out.map bj).length:Nat):Int) - 1).toNat < out.length:=by omega
     have pL:((((out.map bj).length:Nat):Int) - 1).toNat < (out.map bj).length:=by omega
     have r6:-9223372036854775808<=(i:Int)+1/\(i:Int)+1<=9223372036854775807:=by omega
     have r7:S.length - (i+1) < S.length - i:=by omega
     have r1:-9223372036854775808<=(((out.map bj).length:Nat):Int) - 1/\(((out.map bj).length:Nat):Int) - 1<=9223372036854775807:=by omega
     have r2:(0:Int)<=(((out.map bj).length:Nat):Int) - 1:=by omega
     have r3:(((out.map bj).length:Nat):Int) - 1 < ((out.map bj).length:Nat):=by omega
     have r4:-9223372036854775808<=d.fj+c.fj/\d.fj+c.fj<=9223372036854775807:=by omega
     have r5:-9223372036854775808<=d.fG+c.fG/\d.fG+c.fG<=9223372036854775807:=by omega
     have Wh:∀ d2,out[((((out.map bj).length:Nat):Int) - 1).toNat]?=some d2->d=d2:=fun d2 h2=>Option.some.inj (hd.symm.trans h2)
     repeat' first
      | refine .inl ⟨aA r1,?_⟩
      | refine⟨r2,r3,?_⟩
      | (refine⟨C,out,bj,rfl,bA,fun d2 tH=>?_⟩; have e9:=Wh d2 tH; subst e9)
      | refine .inl ⟨aA r4,?_⟩
      | refine .inl ⟨aA r5,?_⟩
      | refine⟨[],aE,(gw (d.fj+c.fj) (d.fG+c.fG)).use (And.intro rfl (And.intro rfl trivial)) rfl rfl ?_⟩
      | refine And.intro pL ?_
      | refine .inl ⟨aA r6,⟨i+1,[some 1],r7,?_⟩⟩
      | fail
     all_goals repeat' first|exact trivial|exact rfl|exact Iff.rfl|refine And.intro ?_ ?_
     all_goals exact (show (out.map bj).set ((((out.map bj).length:Nat):Int) - 1).toNat (bj (bh (d.fj+c.fj) (d.fG+c.fG)))=((S.take (i+1)).foldl ca []).map bj by rw[e1,xQ yw fl OZ,List.map_set,show ((((out.map bj).length:Nat):Int) - 1).toNat=out.length - 1 by omega])
    ·refine⟨show (out.map bj).length+1<=maxLen by unfold maxLen; omega,show ((out.map bj).length+1)*144<=140737488355328 by omega,?_⟩
     refine .inl ⟨aA (show _<=(i:Int)+1/\(i:Int)+1<=_ by omega),⟨i+1,[some 4],by omega,?_⟩⟩
     repeat' first|exact trivial|exact rfl|exact Iff.rfl|refine And.intro ?_ ?_
     exact (show out.map bj++[bj c]=((S.take (i+1)).foldl ca []).map bj by rw[e1,kY (fun d2 tH ⟨_,h3⟩=>by rw[yw] at tH; cases tH; exact Se h3),List.map_append]; rfl)
   ·refine⟨show (out.map bj).length+1<=maxLen by unfold maxLen; omega,show ((out.map bj).length+1)*144<=140737488355328 by omega,?_⟩
    refine .inl ⟨aA (show _<=(i:Int)+1/\(i:Int)+1<=_ by omega),⟨i+1,[some 4],by omega,?_⟩⟩
    repeat' first|exact trivial|exact rfl|exact Iff.rfl|refine And.intro ?_ ?_
    exact (show out.map bj++[bj c]=((S.take (i+1)).foldl ca []).map bj by rw[e1,kY (fun d2 tH _=>by have h3:=(List.getElem?_eq_some_iff.1 tH).1; exact h0 (show (0:Int) < ((out.map bj).length:Nat) by omega)),List.map_append]; rfl)
  ·refine⟨show (out.map bj).length+1<=maxLen by unfold maxLen; omega,show ((out.map bj).length+1)*144<=140737488355328 by omega,?_⟩
   refine .inl ⟨aA (show _<=(i:Int)+1/\(i:Int)+1<=_ by omega),⟨i+1,[some 4],by omega,?_⟩⟩
   repeat' first|exact trivial|exact rfl|exact Iff.rfl|refine And.intro ?_ ?_
   exact (show out.map bj++[bj c]=((S.take (i+1)).foldl ca []).map bj by rw[e1,kY (fun d2 tH ⟨h3,_⟩=>hk h3),List.map_append]; rfl)
 ·have h':¬ (i:Int) < ((S.map bj).length:Nat):=h
  rw[el] at h'
  have ya:S.take i=S:=List.take_of_length_le (by omega)
  rw[ya] at fM
  have mV:=ik S S.length
  rw[List.take_length,fM] at mV
  have Sf:=uL out (by omega)
  have Wi:out.filter aZ=fH l:=by rw[← fM,← T_]; rfl
  rw[Wi] at Sf
  unfold zC dB at Sf
  refine⟨[],aE,Spec.Mz Sf rfl rfl rfl rfl (by repeat' first|exact trivial|exact rfl|exact Iff.rfl|exact Or.inl rfl|refine And.intro ?_ ?_) ?_⟩
  refine And.intro (by repeat' first|exact trivial|exact rfl|exact Iff.rfl|refine And.intro ?_ ?_) (And.intro (by repeat' first|exact trivial|exact rfl|exact Iff.rfl|refine And.intro ?_ ?_) ?_)
  refine fun OI=>?_
  have ec:((((fH l).map bj).length:Nat):Int)=(fH l).length:=by rw[List.length_map]
  refine⟨fun h1=>?_,fun h1=>?_⟩
  ·have iT:((((fH l).map bj).length:Nat):Int)=1:=h1
   rw[ec] at iT
   obtain⟨c,hc⟩:∃ c,fH l = [c]:=List.length_eq_one_iff.1 (by omega)
   refine⟨C,fH l,bj,rfl,show (0:Int)<=0 by decide,show (0:Int) < ((fH l).length:Int) by omega,fun x hx=>?_⟩
   have fh:(fH l)[0]?=some x:=hx
   rw[hc] at fh
   cases fh
   refine al ?_
   have ej:c_ l=c:=by unfold c_; rw[hc]
   rw[ej]
   repeat' first|exact trivial|exact rfl|exact Iff.rfl|refine And.intro ?_ ?_
  ·have iT:¬ ((((fH l).map bj).length:Nat):Int)=1:=h1
   rw[ec] at iT
   have ej:c_ l = .mk 2 0 0 0 0 f_ f_ (fH l):=by
    unfold c_
    split
    ·rename_i c hc; rw[hc] at iT; exact absurd rfl iT
    ·rfl
   rw[ej]
   have ek:ja (.mk 2 0 0 0 0 f_ f_ (fH l))=(fH l).map bj:=kV _
   refine al ?_
   repeat' first|exact trivial|exact rfl|exact Iff.rfl|refine And.intro ?_ ?_
   all_goals exact ek.symm
structure WK where
 at_:Int
 full:Prop
 line:Int
 cz:Prop
 last:Prop
 e:Int
def Wj (b:List Int) (w:WK):List PV:=[.sl 1 (kr b),.int .i64 w.at_,.bool w.full,.int .u32 w.line,.bool w.cz,.bool w.last,.int .i64 w.e]
def nw (b:List Int) (w:WK):aj:=⟨.loc,70,1,.w,true,Wj b w⟩
open Classical in
noncomputable def aT (w:WK) (p:Prop):WK:={ w with e:=if p then w.e else 201 }
theorem bM {w:WK} {p:Prop} (h:p):aT w p=w:=by unfold aT; rw[if_pos h]
theorem il {w:WK} {p:Prop} (h:¬ p):aT w p = { w with e:=201 }:=by unfold aT; rw[if_neg h]
noncomputable def iA (b:List Int) (n:Int):IN:=if 0<=n/\n<=b.length then yh b n.toNat else iZ
noncomputable def eA (b:List Int) (n:Int):Int:=if 0<=n/\n<=b.length then yi b n.toNat else 11
theorem o8 {w:Int} {wide:Prop} (h:AR w wide=0):bC (yg w wide)/\Py (yg w wide):=by
 unfold AR at h
 split at h
 ·rename_i hf
  obtain⟨f,hf⟩:=hf
  have e:=qm hf
  rw[e]
  have hI:gM f:=by have:=hf.1; unfold cY at this; unfold gM; omega
  exact⟨hf.2.1.1,vP hI⟩
 ·cases h
theorem cQ {b:List Int} {n:Int} (h:eA b n=0):(0<=n/\n+2<=b.length)/\bC (iA b n)/\Py (iA b n):=by
 unfold eA at h
 split at h
 ·rename_i hr
  unfold iA
  rw[if_pos hr]
  unfold yi at h
  unfold yh
  split at h
  ·cases h
  ·rename_i h1
   rw[if_neg h1]
   split at h
   ·rename_i h2
    rw[if_pos h2]
    exact⟨by omega,o8 h⟩
   ·rename_i h2
    rw[if_neg h2]
    split at h
    ·cases h
    ·rename_i h3
     rw[if_neg h3]
     exact⟨by omega,o8 h⟩
 ·cases h
theorem nx {i:IN} (h:bC i):br i.form=2\/br i.form=4:=by
 have:=h.1
 unfold br
 split
 ·exact .inr rfl
 ·rw[if_pos (by omega)]; exact .inl rfl
theorem sL (b:List Int) (hb:tc b) (hl:b.length<=100000) (n:Int) (hn:gM n):ai gT 8 [.sl 1 (kr b),.int .i64 n] (.tup [bJ (iA b n),.int .i64 (eA b n)]):=by
 have hm:b.length<=maxLen:=by unfold maxLen; omega
 unfold iA eA
 by_cases hr:0<=n/\n<=b.length
 ·rw[if_pos hr,if_pos hr]
  obtain⟨k,rfl⟩:∃ k:Nat,n=k:=⟨n.toNat,by omega⟩
  rw[Int.toNat_natCast]
  exact OT b k hb hm (by omega)
 ·rw[if_neg hr,if_neg hr]
  exact K5 b n hm hn (by omega)
theorem dV (b:List Int) (w:WK) (p:Prop):Spec gT 22 [.ptr 0 0,.bool p] [nw b w] [] fun y S'=>y = .tup []/\S' = [nw b (aT w p)]:=by
 refine Spec.BP (Spec.enter aw Q4 100 Tryz.func22 rfl (by kernel_rfl) ?_)
 refine⟨fun h=>?_,fun h=>?_⟩
 ·rw[il (show ¬ p from h)]
  refine⟨[],aE,Spec.enter aw Q5 100 Tryz.func46 rfl (by kernel_rfl) ?_⟩
  refine Exists.intro _ (And.intro (oH.refl _) ?_)
  exact rS
 ·rw[bM (show p from Classical.not_not.1 h)]
  exact rS
theorem ga (b:List Int) (w:WK):Spec gT 22 [.ptr 0 0,.ff] [nw b w] [] fun y S'=>y = .tup []/\S' = [nw b { w with e:=201 }]:=by
 refine Spec.BP (Spec.enter aw Q4 100 Tryz.func22 rfl (by kernel_rfl) ?_)
 refine⟨[],aE,Spec.enter aw Q5 100 Tryz.func46 rfl (by kernel_rfl) ?_⟩
 refine Exists.intro _ (And.intro (oH.refl _) ?_)
 exact rS
theorem ny (b:List Int) (w:WK):Spec gT 22 [.ptr 0 0,.tt] [nw b w] [] fun y S'=>y = .tup []/\S' = [nw b w]:=by
 refine Spec.BP (Spec.enter aw Q4 100 Tryz.func22 rfl (by kernel_rfl) ?_)
 exact rS
theorem D3 (b:List Int) (hb:tc b) (hl:b.length<=100000) (w:WK) (n:Int) (hn:gM n):Spec gT 121 [.ptr 0 0,.int .i64 n] [nw b w] [] fun y S'=>y=bJ (iA b n)/\S' = [nw b (aT w (eA b n=0))]:=by
 have ha:=sL b hb hl n hn
 have hr:=@cQ b n
 refine Spec.BP (Spec.enter aw Q7 100 Tryz.func121 rfl (by kernel_rfl) ?_)
 refine ha.u ?_
 generalize iA b n=i at hr ⊢
 generalize eA b n=e at hr ⊢
 refine⟨fun he=>?_,fun he=>?_⟩
 ·have gC:=(hr he).1.1
  refine (dV b w (0<=n)).e ?_
  rw[bM gC,bM he]
  exact rS
 ·refine (ga b w).e ?_
  rw[il he]
  exact rS
open Classical in
noncomputable def fw (w:WK) (n size:Int):Int:=n_ w.full w.line (134217728+n) size
def A6 (w:WK) (n size:Int):WK:={ w with full:=True,line:=sG (134217728+n) size }
open Classical in
noncomputable def da (b:List Int) (w:WK):WK :=
 if (aT w (eA b w.at_=0)).e≠0 then aT w (eA b w.at_=0)
 else if w.cz then { w with cz:=False,at_:=w.at_+br (iA b w.at_).form }
 else { A6 w w.at_ (br (iA b w.at_).form) with cz:=False,at_:=w.at_+br (iA b w.at_).form }
open Classical in
noncomputable def fx (b:List Int) (w:WK):Int :=
 if (aT w (eA b w.at_=0)).e≠0 then 0 else if w.cz then 0 else fw w w.at_ (br (iA b w.at_).form)
theorem nz (w:WK) (n size:Int):0<=fw w n size/\fw w n size<=2:=by
 unfold fw n_ dH
 repeat' split
 all_goals omega
theorem xS (b:List Int) (w:WK) (n size:Int) (h0:0<=n) (h1:n<=100000) (hs:size=2\/size=4):Spec gT 142 [.ptr 0 0,.int .i64 n,.int .i64 size] [nw b w] [] fun y S'=>y = .int .i64 (fw w n size)/\S' = [nw b (A6 w n size)]:=by
 have hf:=@nh w.full (Classical.propDecidable _) w.line (134217728+n) size ⟨by omega,by omega⟩ hs
 refine Spec.BP (Spec.enter aw Rj 100 Tryz.func142 rfl (by kernel_rfl) ?_)
 refine lu ?_ (show 0<=n/\n<=4294967295 by omega)
 refine lu ?_ (show 0<=134217728+n/\134217728+n<=4294967295 by omega)
 refine hf.u ?_
 exact rS
theorem vY {w:WK} {p:Prop} (h:¬ (aT w p).e≠0):p/\w.e=0:=by
 have h:=Classical.not_not.1 h
 unfold aT at h
 by_cases hp:p
 ·refine⟨hp,?_⟩
  rw[if_pos hp] at h; exact h
 ·rw[if_neg hp] at h
  exact absurd h (show ¬ (201:Int)=0 by decide)
open Classical in
theorem D4 (b:List Int) (hb:tc b) (hl:b.length<=100000) (w:WK) (hn:gM w.at_):Spec gT 119 [.ptr 0 0] [nw b w] [] fun y S'=>y = .tup [bJ (iA b w.at_),.int .i64 (fx b w)]/\S' = [nw b (da b w)]:=by
 refine Spec.BP (Spec.enter aw Q6 100 Tryz.func119 rfl (by kernel_rfl) ?_)
 refine (D3 b hb hl w w.at_ hn).e ?_
 refine⟨fun he=>?_,fun he=>?_⟩
 ·have e1:da b w=aT w (eA b w.at_=0):=by unfold da; rw[if_pos (show (aT w (eA b w.at_=0)).e≠0 from he)]
  have e2:fx b w=0:=by unfold fx; rw[if_pos (show (aT w (eA b w.at_=0)).e≠0 from he)]
  rw[e1,e2]
  exact rS
 ·have s8:¬ (aT w (eA b w.at_=0)).e≠0:=he
  obtain⟨h1,h2⟩:=vY s8
  obtain⟨⟨F9,MD⟩,hr,O0⟩:=cQ h1
  have hs:=nx hr
  have e1:da b w=if w.cz then { w with cz:=False,at_:=w.at_+br (iA b w.at_).form } else { A6 w w.at_ (br (iA b w.at_).form) with cz:=False,at_:=w.at_+br (iA b w.at_).form }:=by unfold da; rw[if_neg s8]
  have e2:fx b w=if w.cz then 0 else fw w w.at_ (br (iA b w.at_).form):=by unfold fx; rw[if_neg s8]
  rw[e1,e2,bM h1]
  clear e1 e2 he s8
  have D5:=lv (iA b w.at_)
  generalize iA b w.at_=i at hs D5 ⊢
  generalize br i.form=z at hs D5 ⊢
  refine⟨fun hf=>?_,fun hf=>?_⟩
  ·rw[if_neg (show ¬ w.cz from hf),if_neg (show ¬ w.cz from hf)]
   refine D5.u ?_
   refine (xS b w w.at_ z F9 (by omega) hs).e ?_
   refine D5.u ?_
   refine li ?_ (show _<=w.at_+z/\w.at_+z<=_ by omega)
   exact rS
  ·have Ua:w.cz:=Classical.not_not.1 hf
   rw[if_pos Ua,if_pos Ua]
   refine D5.u ?_
   refine li ?_ (show _<=w.at_+z/\w.at_+z<=_ by omega)
   exact rS
theorem A7:∀ s:Fin 35,(cw (s.1:Int)).aq=0\/(cw (s.1:Int)).aq=16639\/(cw (s.1:Int)).aq=33023:=by decide
theorem xT (f:Int):0<=af f/\af f<=34:=by
 unfold af
 split
 ·have key:∀ n:Fin 101,0<=Lu.getD n.1 0/\Lu.getD n.1 0<=34:=by decide
  exact key ⟨f.toNat,by omega⟩
 ·decide
theorem fy {i:IN} (h:bC i) (hi:Py i):0<=i.aq/\i.aq<=65535:=by
 obtain⟨hf,h1,h2,h3,h4,h5,_⟩:=h
 have hb:=xT i.form
 have hr:=A7 ⟨(af i.form).toNat,by omega⟩
 rw[show (((⟨(af i.form).toNat,by omega⟩:Fin 35).1:Nat):Int)=af i.form by simp only[]; omega] at hr
 have hI:=hi i.aq (by simp[uB])
 rcases h5 with ⟨_,e⟩|⟨hn,h0,ha⟩
 ·omega
 ·rcases hr with e|e|e
  ·exact absurd e hn
  ·rw[e] at ha
   have:=p_ 14 (by decide) (by decide) i.aq 16639 (by decide) h0 hI.2 ha
   omega
  ·rw[e] at ha
   have:=p_ 15 (by decide) (by decide) i.aq 33023 (by decide) h0 hI.2 ha
   omega
theorem sM (i:IN) (t:Prop) [Decidable t] {a b:Int} (ha:cb a) (hb:cb b) (h0:0<=i.aq) (h1:i.aq<=65535):1<=dL i t a b/\dL i t a b<=20:=by
 have e1:=nf ha.2
 have e2:=oT i.aq h0 h1
 unfold dL
 repeat' split
 all_goals first|omega|(unfold i_; split<;>omega)|(unfold divC; split<;>omega)
def vZ (f:Int):Prop:=f=46\/f=47\/f=99\/f=100\/f=31
theorem v3 (i:IN):ai gT 9 [bJ i] (.bool (vZ i.form)):=by
 refine Spec.enter aw P9 100 Tryz.func9 rfl (by kernel_rfl) ?_
 unfold vZ
 repeat' ((conv=>whnf); first|(refine (And.intro (fun _=>?_) (fun _=>?_):(_->_)/\(_->_))<;>(first|(exfalso; first|contradiction|omega)|skip))|refine Or.inl (And.intro (by first|exact aA (by omega)|exact ah (by omega)|exact cH (by omega)|exact dF (by omega)) ?_)|(refine And.intro (show (_:Int)≠0 by omega) (Or.inl (And.intro (show (0:Int)<=_ by omega) (And.intro (show (0:Int) < _ by omega) ?_))))|(refine And.intro (show (_:Int)≠0 by omega) (Or.inl (And.intro (show (0:Int)<=_ by omega) (And.intro (by first|exact (show (_:Int)<=9223372036854775807 by omega)|exact (show (_:Int)<=4294967295 by omega)) (And.intro (show (0:Int) < _ by omega) ?_)))))|(refine al ?_; (show (_=46\/_=47\/_=99\/_=100\/_=31)); omega)|(refine al ?_; show ¬ _; omega)|(intro _))
def dp (i:IN):Prop:=i.form=43/\xJ i.aq
theorem xU (i:IN):ai gT 68 [bJ i] (.bool (dp i)):=by
 refine Spec.enter aw VA 100 Tryz.func68 rfl (by kernel_rfl) ?_
 refine⟨fun h=>?_,fun h=>?_⟩
 ·refine⟨by decide,?_⟩
  exact al (show (_:Prop)↔dp i from ⟨fun q=>⟨h,q⟩,fun q=>q.2⟩)
 ·exact al (show ¬ dp i from fun q=>h q.1)
theorem A8:¬ bC iZ:=fun h=>absurd h.1 (by decide)
theorem v5 {w:Int} {wide:Prop} (h:AR w wide≠0):yg w wide=iZ:=by
 unfold AR at h
 unfold yg
 split at h
 ·exact absurd rfl h
 ·rename_i hn
  rw[dif_neg hn]
theorem O1 {b:List Int} {n:Int} (h:eA b n≠0):iA b n=iZ:=by
 unfold eA at h
 unfold iA
 split at h
 ·rename_i hr
  rw[if_pos hr]
  unfold yi at h
  unfold yh
  split at h
  ·rename_i h1
   rw[if_pos h1]
  ·rename_i h1
   rw[if_neg h1]
   split at h
   ·rename_i h2
    rw[if_pos h2]; exact v5 h
   ·rename_i h2
    rw[if_neg h2]
    split at h
    ·rename_i h3
     rw[if_pos h3]
    ·rename_i h3
     rw[if_neg h3]; exact v5 h
 ·rename_i hr
  rw[if_neg hr]
open Classical in
noncomputable def cR (b:List Int) (n:Int):Int:=if eA b n=0 then dL (iA b n) False 0 0 else 0
theorem A9 (b:List Int) (n:Int):0<=cR b n/\cR b n<=20:=by
 unfold cR
 split
 ·rename_i h
  obtain⟨_,hr,O0⟩:=cQ h
  obtain⟨r0,r1⟩:=fy hr O0
  have:=sM (iA b n) False (a:=0) (b:=0) ⟨by decide,by decide⟩ ⟨by decide,by decide⟩ r0 r1
  exact⟨by omega,this.2⟩
 ·decide
theorem nA (b:List Int) (n:Int):∃ e,ai gT 10 [bJ (iA b n),.bool False,.int .u32 0,.int .u32 0] (.tup [.int .i64 (cR b n),.int .i64 e]):=by
 by_cases h:eA b n=0
 ·obtain⟨_,hr,O0⟩:=cQ h
  obtain⟨r0,r1⟩:=fy hr O0
  have:=xK (iA b n) False 0 0 hr (O0 (iA b n).av (by simp[uB])) r0 r1 ⟨by decide,by decide⟩ ⟨by decide,by decide⟩
  refine⟨0,?_⟩
  rw[show cR b n=dL (iA b n) False 0 0 by unfold cR; rw[if_pos h]]
  exact this
 ·refine⟨10,?_⟩
  rw[O1 h,show cR b n=0 by unfold cR; rw[if_neg h]]
  refine Spec.enter aw Tc 100 Tryz.func10 rfl (by kernel_rfl) ?_
  refine (jv iZ (by unfold gM; decide)).u ?_
  refine⟨fun _=>?_,fun h=>absurd (Classical.not_not.1 h) A8⟩
  exact rA
structure DV where
 at_:Int
 a:T
 b:T
def lR (d:DV):PV:=.agg [.int .i64 d.at_,.int .i64 d.a.op,.int .u32 d.a.num,.sl 3 (cD d.a),.int .i64 d.b.op,.int .u32 d.b.num,.sl 3 (cD d.b)]
inductive G where
 | mk (op n:Int) (l:List G)
namespace G
def op:G->Int|.mk o _ _=>o
def n:G->Int|.mk _ n _=>n
def l:G->List G|.mk _ _ l=>l
end G
mutual
def A':G->List PV
 | .mk _ _ l=>A_ l
def A_:List G->List PV
 | []=>[]
 | g::l=>.agg [.int .i64 g.op,.int .u32 g.n,.sl 3 (A' g)]::A_ l
end
structure dJ where
 w:WK
 out:List C
 a_:List DV
def nB (d:DV):C:=.mk 6 0 0 0 0 d.a d.b []
open Classical in
noncomputable def bB (b:List Int) (x:dJ):dJ :=
 let w1:=aT x.w (¬ x.w.last)
 let i:=iA b x.w.at_
 let w4:={ aT (da b w1) (¬ vZ i.form/\i.form≠45) with last:=dp i }
 let out:=x.out++[bh (cR b x.w.at_) (fx b w1)]
 if i.form≠97 then ⟨w4,out,x.a_⟩ else match x.a_ with
  | []=>⟨{ w4 with e:=201 },out,[]⟩
  | d::l=>if d.at_≠x.w.at_ then ⟨{ w4 with e:=201 },out,d::l⟩ else ⟨w4,out++[nB d],l⟩
def xW (b:List Int) (x:dJ):Prop:=(iA b x.w.at_).form=97/\match x.a_ with
 | []=>True
 | d::_=>d.at_≠x.w.at_
open Classical in
noncomputable def runN (b:List Int) (till:Int):Nat->dJ->dJ
 | 0,x=>x
 | n+1,x=>if x.w.at_ < till/\x.w.e=0 then (if xW b x then bB b x else runN b till n (bB b x)) else x
open Classical in
noncomputable def sN (till:Int) (x:dJ):Nat:=if x.w.e=0 then (till - x.w.at_).toNat else 0
theorem D6 {b:List Int} {w:WK} (h:(da b w).e=0):w.e=0/\eA b w.at_=0/\(da b w).at_=w.at_+br (iA b w.at_).form:=by
 unfold da at h ⊢
 by_cases he:(aT w (eA b w.at_=0)).e≠0
 ·rw[if_pos he] at h; exact absurd h he
 ·rw[if_neg he] at h ⊢
  obtain⟨h1,h2⟩:=vY he
  refine⟨h2,h1,?_⟩
  split<;>rfl
theorem sO (b:List Int) (w:WK):(da b w).at_=w.at_\/(eA b w.at_=0/\(da b w).at_=w.at_+br (iA b w.at_).form):=by
 unfold da
 by_cases he:(aT w (eA b w.at_=0)).e≠0
 ·rw[if_pos he]; exact .inl rfl
 ·rw[if_neg he]
  obtain⟨h1,h2⟩:=vY he
  refine .inr ⟨h1,?_⟩
  split<;>rfl
theorem v7 {w:WK} {p:Prop} (h:(aT w p).e=0):p/\w.e=0:=vY (fun k=>k h)
theorem nC (b:List Int) (x:dJ):(bB b x).w.at_=(da b (aT x.w (¬ x.w.last))).at_:=by
 unfold bB
 simp only
 split
 ·rfl
 ·split
  ·rfl
  ·split<;>rfl
theorem v8 {b:List Int} {x:dJ} (h:(bB b x).w.e=0):eA b x.w.at_=0/\x.w.e=0/\¬ x.w.last/\(bB b x).w.at_=x.w.at_+br (iA b x.w.at_).form:=by
 have ha:=nC b x
 have key:(aT (da b (aT x.w (¬ x.w.last))) (¬ vZ (iA b x.w.at_).form/\(iA b x.w.at_).form≠45)).e=0:=by
  unfold bB at h
  simp only at h
  split at h
  ·exact h
  ·split at h
   ·exact absurd (show (201:Int)=0 from h) (by decide)
   ·split at h
    ·exact absurd (show (201:Int)=0 from h) (by decide)
    ·exact h
 obtain⟨_,h1⟩:=v7 key
 obtain⟨h2,h3,h4⟩:=D6 h1
 obtain⟨h5,h6⟩:=v7 h2
 exact⟨h3,h6,h5,ha.trans h4⟩
theorem o9 {b:List Int} {till:Int} {x:dJ} (h:x.w.at_ < till/\x.w.e=0):sN till (bB b x) < sN till x:=by
 unfold sN
 rw[if_pos h.2]
 by_cases he:(bB b x).w.e=0
 ·rw[if_pos he]
  obtain⟨h1,_,_,h4⟩:=v8 he
  have hs:=nx (cQ h1).2.1
  omega
 ·rw[if_neg he]; omega
open Go Go.RowKit
theorem sP (b:List Int) (w:WK):Spec gT 46 [.ptr 0 0] [nw b w] [] fun y S'=>y = .tup []/\S' = [nw b { w with e:=201 }]:=by
 refine Spec.BP (Spec.enter aw Q5 100 Tryz.func46 rfl (by kernel_rfl) ?_)
 exact rS
def im (c:C):Prop:=((c.kind=1/\(0<=c.fj/\c.fj<=20)/\0<=c.fG/\c.fG<=2)\/c.kind=6)/\c.l = []
theorem ma:∀ {l:List C},(∀ c∈l,im c)->eH l=l
 | [],_=>rfl
 | c::l,h=>by
  have h1:=h c (List.mem_cons_self ..)
  rw[eH,ij,if_neg (by rcases h1.1 with h1|h1<;>omega),ma (fun x hx=>h x (List.mem_cons_of_mem _ hx))]
  rfl
def gJ (c:C):PV:=.agg [.int .i64 c.kind,.int .i64 c.fj,.int .i64 c.fG,.int .i64 c.word,.int .i64 c.size,.int .i64 c.a.op,.int .u32 c.a.num,.sl 3 (cD c.a),.int .i64 c.b.op,.int .u32 c.b.num,.sl 3 (cD c.b),if c.kind=6 then .nil else .sl 12 []]
theorem D7 {c:C} (h:c.l = []):iC pQ [.int .i64 c.kind,.int .i64 c.fj,.int .i64 c.fG,.int .i64 c.word,.int .i64 c.size,.int .i64 c.a.op,.int .u32 c.a.num,.sl 3 (cD c.a),.int .i64 c.b.op,.int .u32 c.b.num,.sl 3 (cD c.b),if c.kind=6 then .nil else .sl 12 []] (DW c):=by
 have e:ja c = []:=by rw[dT,h]; rfl
 unfold DW
 rw[e]
 split
 ·repeat' first|exact trivial|exact rfl|refine And.intro ?_ ?_
 ·repeat' first|exact trivial|exact rfl|refine And.intro ?_ ?_
theorem sQ:∀ {l:List C},(∀ c∈l,c.l = [])->xC (l.map gJ) (l.map bj)
 | [],_=>trivial
 | c::l,h=>⟨D7 (h c (List.mem_cons_self ..)),sQ fun x hx=>h x (List.mem_cons_of_mem _ hx)⟩
def Wk (l:List C):aj:=⟨.dyn,30,12,.w,true,l.map gJ⟩
structure SP where
 kind:Int
 fr:Int
 till:Int
 stub:Int
 skip:Int
 size:Int
 word:Int
 A:G
 B:G
 a_:List PV
 hd:List PV
 bd:List PV
 el:List PV
def Sg (s:SP):List PV:=[.int .i64 s.kind,.int .i64 s.fr,.int .i64 s.till,.int .i64 s.stub,.int .i64 s.skip,.int .i64 s.size,.int .i64 s.word,.int .i64 s.A.op,.int .u32 s.A.n,.sl 3 (A' s.A),.int .i64 s.B.op,.int .u32 s.B.n,.sl 3 (A' s.B),.sl 7 s.a_,.sl 17 s.hd,.sl 17 s.bd,.sl 17 s.el]
def te (s:SP):PV:=.agg (Sg s)
def Wl (s:SP):aj:=⟨.loc,37,1,.w,true,Sg s⟩
structure oa (b:List Int) (till:Int) (R:dJ) (a0:Int) where
 x:dJ
 n:Nat
 jE:sN till x < n
 eq:runN b till n x=R
 hI:gM x.w.at_
 a:a0<=x.w.at_/\(x.w.at_=a0\/(0<=a0/\x.w.at_<=b.length+4))
 len:(x.out.length:Int)<=2*(x.w.at_ - a0)+2/\(x.w.e=0->(x.out.length:Int)<=2*(x.w.at_ - a0))
 outs:∀ c∈x.out,im c
theorem kZ {b:List Int} {x:dJ} (h:∀ c∈x.out,im c):(∀ c∈(bB b x).out,im c)/\(bB b x).out.length<=x.out.length+2/\x.out.length+1<=(bB b x).out.length:=by
 have hb:=A9 b x.w.at_
 have hn:0<=fx b (aT x.w (¬ x.w.last))/\fx b (aT x.w (¬ x.w.last))<=2:=by
  unfold fx
  split
  ·decide
  ·split
   ·decide
   ·exact nz ..
 have h1:∀ c∈x.out++[bh (cR b x.w.at_) (fx b (aT x.w (¬ x.w.last)))],im c:=fun c hc=>by
  rcases List.mem_append.1 hc with hc|hc
  ·exact h c hc
  ·rw[List.mem_singleton] at hc
   rw[hc]
   exact⟨.inl ⟨rfl,hb,hn⟩,rfl⟩
 unfold bB
 simp only
 split
 ·exact⟨h1,by rw[List.length_append,List.length_singleton]; omega,by rw[List.length_append,List.length_singleton]; omega⟩
 ·split
  ·exact⟨h1,by rw[List.length_append,List.length_singleton]; omega,by rw[List.length_append,List.length_singleton]; omega⟩
  ·split
   ·exact⟨h1,by rw[List.length_append,List.length_singleton]; omega,by rw[List.length_append,List.length_singleton]; omega⟩
   ·refine⟨fun c hc=>?_,by simp only[List.length_append,List.length_singleton]; omega,by simp only[List.length_append,List.length_singleton]; omega⟩
    rcases List.mem_append.1 hc with hc|hc
    ·exact h1 c hc
    ·rw[List.mem_singleton] at hc
     rw[hc]
     exact⟨.inr rfl,rfl⟩
theorem gx {l:List C} (hl:l.length<=1000000) (h:∀ c∈l,im c):ai gT 45 [.sl 12 (l.map gJ)] (bj (c_ l)):=by
 have hj:=o7 l (by rw[ma h]; exact hl) (fun c hc hk=>by
  rw[ma h] at hc
  rcases (h c hc).1 with ⟨_,h1,h2⟩|h1<;>omega)
 exact Spec.E4 hj ⟨E3 (sQ fun c hc=>(h c hc).2),trivial⟩
noncomputable def oa.next {b:List Int} {till:Int} {R:dJ} {a0:Int} (r:oa b till R a0) (hl:b.length<=2000) (h:r.x.w.at_ < till/\r.x.w.e=0) (hb:¬ xW b r.x):oa b till R a0:=by
 have lL:=nC b r.x
 have hn:=sO b (aT r.x.w (¬ r.x.w.last))
 rw[← lL] at hn
 have Fe:(bB b r.x).w.at_=r.x.w.at_\/(eA b r.x.w.at_=0/\(bB b r.x).w.at_=r.x.w.at_+br (iA b r.x.w.at_).form):=hn
 have Ba:(bB b r.x).w.at_=r.x.w.at_\/((0<=r.x.w.at_/\r.x.w.at_+2<=b.length)/\((bB b r.x).w.at_=r.x.w.at_+2\/(bB b r.x).w.at_=r.x.w.at_+4)):=by
  rcases Fe with h1|⟨h1,h2⟩
  ·exact .inl h1
  ·obtain⟨h3,h4,_⟩:=cQ h1
   have:=nx h4
   exact .inr ⟨h3,by omega⟩
 have ho:=kZ (b:=b) r.outs
 have O2:=o9 (b:=b) h
 have hr:=r.jE
 have ha:=r.a
 have hlen:=r.len.2 h.2
 have hI:=r.hI
 refine⟨bB b r.x,r.n - 1,by omega,?_,?_,?_,?_,ho.1⟩
 ·have e:=r.eq
  obtain⟨k,hk⟩:∃ k,r.n=k+1:=⟨r.n - 1,by omega⟩
  rw[hk] at e ⊢
  rw[runN,if_pos h,if_neg hb] at e
  exact e
 ·unfold gM at hI ⊢; omega
 ·omega
 ·refine⟨by omega,fun he=>?_⟩
  obtain⟨q1,q2,_,q4⟩:=v8 he
  have hs:=nx (cQ q1).2.1
  omega
theorem oa.v9 {b:List Int} {till:Int} {R:dJ} {a0:Int} (r:oa b till R a0) (hl:b.length<=2000) (h:r.x.w.at_ < till/\r.x.w.e=0) (hb:¬ xW b r.x):∃ r':oa b till R a0,r'.x=bB b r.x/\r'.n < r.n :=
 ⟨r.next hl h hb,rfl,by have:=r.jE; show r.n - 1 < r.n; omega⟩
end Go.Proofs.YtnbhdacpogplgaaGreatDoor.Pw

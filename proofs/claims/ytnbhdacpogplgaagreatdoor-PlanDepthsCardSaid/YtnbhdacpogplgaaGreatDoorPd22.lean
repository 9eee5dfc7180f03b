/- What this claim is proved with: no condition. -/
import Derived.Test.YtnbhdacpogplgaaGreatDoorPd21
import Derived.Test.YtnbhdacpogplgaaGreatDoorPd10
set_option maxRecDepth 100000
set_option maxHeartbeats 4000000
set_option linter.unusedVariables false
set_option linter.unusedSimpArgs false
namespace Go.Proofs.YtnbhdacpogplgaaGreatDoor.Pw
open Go Go.RowKit
mutual
def Fh:C->List C
 | .mk k cy mi wo si a b l=>if k=2 then ez l else [.mk k cy mi wo si a b l]
def ez:List C->List C
 | []=>[]
 | c::l=>Fh c++ez l
end
theorem gJ (c:C):Fh c=if c.kind=2 then ez c.l else [c]:=by cases c; rfl
theorem qm:∀ {l:List C},(∀ c∈l,∀ x∈Fh c,x.kind≠2)->∀ x∈ez l,x.kind≠2
 | [],_,x,hx=>by simp[ez] at hx
 | c::l,h,x,hx=>by
  rw[ez] at hx
  rcases List.mem_append.1 hx with hx|hx
  ·exact h c (by simp) x hx
  ·exact qm (fun y hy=>h y (by simp[hy])) x hx
theorem Fi:∀ c:C,∀ x∈Fh c,x.kind≠2:=C.nw fun c ih x hx=>by
 rw[gJ] at hx
 split at hx
 ·exact qm ih x hx
 ·rename_i h
  rw[List.mem_singleton] at hx
  rw[hx]; exact h
def bQ (out:List C) (c:C):List C :=
 match out.getLast? with
 | some d=>if c.kind=1/\d.kind=1 then out.dropLast++[aE (d.fj+c.fj) (d.fC+c.fC)] else out++[c]
 | none=>out++[c]
def bf (c:C):Bool:=!(decide (c.kind=1) && (decide (c.fj=0) && decide (c.fC=0)))
def iq (l:List C):List C:=((ez l).foldl bQ []).filter bf
def ba (l:List C):C:=match iq l with
 | [c]=>c
 | o=>.mk 2 0 0 0 0 gI gI o
def fu (c:C):Prop:=c.kind=1->0<=c.fj/\0<=c.fC
theorem ky {out:List C} {c:C} {p:C->Prop} (ho:∀ x∈out,p x) (hc:p c) (hf:∀ d∈out,c.kind=1->d.kind=1->p (aE (d.fj+c.fj) (d.fC+c.fC))):∀ x∈bQ out c,p x:=by
 have app:∀ x∈out++[c],p x:=fun x hx=>by
  rcases List.mem_append.1 hx with hx|hx
  ·exact ho x hx
  ·rw[List.mem_singleton] at hx; rw[hx]; exact hc
 unfold bQ
 cases he:out.getLast? with
 | none=>exact app
 | some d =>
  simp only
  by_cases hk:c.kind=1/\d.kind=1
  ·rw[if_pos hk]
   intro x hx
   rcases List.mem_append.1 hx with hx|hx
   ·exact ho x (List.dropLast_subset _ hx)
   ·rw[List.mem_singleton] at hx; rw[hx]
    exact hf d (List.mem_of_getLast? he) hk.1 hk.2
  ·rw[if_neg hk]; exact app
theorem BN (out:List C) (c:C):(bQ out c).length<=out.length+1:=by
 unfold bQ
 split
 ·split
  ·simp only[List.length_append,List.length_dropLast,List.length_cons,List.length_nil]; omega
  ·simp
 ·simp
theorem BO {l:List C}:∀ c∈iq l,c.kind≠2:=by
 have hm:∀ (m out:List C),(∀ c∈m,c.kind≠2)->(∀ c∈out,c.kind≠2)->∀ c∈m.foldl bQ out,c.kind≠2:=by
  intro m
  induction m with
  | nil=>intro out _ h; exact h
  | cons x m ih=>intro out h1 h2; exact ih _ (fun c hc=>h1 c (by simp[hc])) (ky h2 (h1 x (by simp)) fun d _ _ _=>by show (1:Int)≠2; decide)
 intro c hc
 exact hm _ [] (qm fun c _=>Fi c) (by simp) c (List.mem_filter.1 hc).1
open Classical in
noncomputable def cS {α:Type} (p:α->Prop):List α->Nat->Int
 | [],_=>-1
 | x::l,i=>if p x then (i:Int) else cS p l (i+1)
theorem gK {α:Type} {p:α->Prop}:∀ {l:List α} {i:Nat},0<=cS p l i↔∃ x∈l,p x
 | [],i=>by simp[cS]
 | x::l,i=>by
  rw[cS]
  by_cases h:p x
  ·rw[if_pos h]
   exact⟨fun _=>⟨x,by simp,h⟩,fun _=>by omega⟩
  ·rw[if_neg h,gK (l:=l)]
   refine⟨fun ⟨y,hy,hp⟩=>⟨y,by simp[hy],hp⟩,fun ⟨y,hy,hp⟩=>?_⟩
   rcases List.mem_cons.1 hy with rfl|hy
   ·exact absurd hp h
   ·exact⟨y,hy,hp⟩
theorem fv {α:Type} {p:α->Prop} {l:List α} {i:Nat} {x:α} (h:l[i]?=some x):(p x->cS p (l.drop i) i=i)/\(¬ p x->cS p (l.drop i) i=cS p (l.drop (i+1)) (i+1)):=by
 obtain⟨bG,hx⟩:=List.getElem?_eq_some_iff.1 h
 rw[List.drop_eq_getElem_cons bG,hx,cS]
 exact⟨fun h=>if_pos h,fun h=>if_neg h⟩
theorem I7 (L:List T) (p:T->Prop) (hp:∀ x∈L,ai gT 145 [gF x] (.bool (p x))):ai gT 153 [.sl 3 (L.map gF),.clo 145 []] (.int .i64 (cS p L 0)):=by
 refine Spec.enter al oE 100 Tryz.func153 rfl (by kernel_rfl) ?_
 intro hm
 rw[List.length_map] at hm
 obtain⟨z,hz⟩:∃ z,z=cS p L 0:=⟨_,rfl⟩
 rw[← hz]
 refine SW.hU al oE (by kernel_rfl) (α:={i:Nat // z=cS p (L.drop i) i}) (fun i=>[(8,.int .i64 i.1)]) (fun i=>L.length - i.1) ⟨0,hz⟩ 60 ?_ ?_
 ·repeat' first|exact trivial|exact rfl|refine And.intro ?_ ?_
 rintro⟨i,hi⟩
 refine⟨fun h=>?_,fun h=>?_⟩
 ·have h':(i:Int) < ((L.map gF).length:Nat):=h
  rw[List.length_map] at h'
  refine⟨T,L,gF,rfl,show (0:Int)<=(i:Int) by omega,show (i:Int) < (L.length:Int) by omega,fun x hx=>?_⟩
  have dp:L[i]?=some x:=hx
  obtain⟨s1,s2⟩:=fv (p:=p) dp
  refine (hp x (List.mem_of_getElem? dp)).u ?_
  refine⟨fun nx=>?_,fun nx=>?_⟩
  ·refine aj ?_
   exact (show (i:Int)=z by rw[hi,s1 nx])
  ·unfold maxLen at hm
   refine .inl ⟨ay (show _<=(i:Int)+1/\(i:Int)+1<=_ by omega),⟨⟨i+1,by rw[hi,s2 nx]⟩,show L.length - (i+1) < L.length - i by omega,?_⟩⟩
   repeat' first|exact trivial|exact rfl|refine And.intro ?_ ?_
 ·have h':¬ (i:Int) < ((L.map gF).length:Nat):=h
  rw[List.length_map] at h'
  refine aj ?_
  exact (show (-1:Int)=z by rw[hi,List.drop_of_length_le (by omega),cS])
theorem I8 (L:List T) (p:T->Prop) (hp:∀ x∈L,ai gT 145 [gF x] (.bool (p x))):ai gT 144 [.sl 3 (L.map gF),.clo 145 []] (.bool (∃ x∈L,p x)):=by
 refine Spec.enter al Hs 100 Tryz.func144 rfl (by kernel_rfl) ?_
 refine (I7 L p hp).u ?_
 exact aj gK
theorem I9 (L:List C) (p:C->Prop) (hp:∀ x∈L,ai gT 91 [bo x] (.bool (p x))):ai gT 124 [.sl 12 (L.map bo),.clo 91 []] (.int .i64 (cS p L 0)):=by
 refine Spec.enter al Ht 100 Tryz.func124 rfl (by kernel_rfl) ?_
 intro hm
 rw[List.length_map] at hm
 obtain⟨z,hz⟩:∃ z,z=cS p L 0:=⟨_,rfl⟩
 rw[← hz]
 refine SW.hU al Ht (by kernel_rfl) (α:={i:Nat // z=cS p (L.drop i) i}) (fun i=>[(8,.int .i64 i.1)]) (fun i=>L.length - i.1) ⟨0,hz⟩ 60 ?_ ?_
 ·repeat' first|exact trivial|exact rfl|refine And.intro ?_ ?_
 rintro⟨i,hi⟩
 refine⟨fun h=>?_,fun h=>?_⟩
 ·have h':(i:Int) < ((L.map bo).length:Nat):=h
  rw[List.length_map] at h'
  refine⟨C,L,bo,rfl,show (0:Int)<=(i:Int) by omega,show (i:Int) < (L.length:Int) by omega,fun x hx=>?_⟩
  have dp:L[i]?=some x:=hx
  obtain⟨s1,s2⟩:=fv (p:=p) dp
  refine (hp x (List.mem_of_getElem? dp)).u ?_
  refine⟨fun nx=>?_,fun nx=>?_⟩
  ·refine aj ?_
   exact (show (i:Int)=z by rw[hi,s1 nx])
  ·unfold maxLen at hm
   refine .inl ⟨ay (show _<=(i:Int)+1/\(i:Int)+1<=_ by omega),⟨⟨i+1,by rw[hi,s2 nx]⟩,show L.length - (i+1) < L.length - i by omega,?_⟩⟩
   repeat' first|exact trivial|exact rfl|refine And.intro ?_ ?_
 ·have h':¬ (i:Int) < ((L.map bo).length:Nat):=h
  rw[List.length_map] at h'
  refine aj ?_
  exact (show (-1:Int)=z by rw[hi,List.drop_of_length_le (by omega),cS])
theorem z5 (L:List C) (p:C->Prop) (hp:∀ x∈L,ai gT 91 [bo x] (.bool (p x))):ai gT 90 [.sl 12 (L.map bo),.clo 91 []] (.bool (∃ x∈L,p x)):=by
 refine Spec.enter al P90 100 Tryz.func90 rfl (by kernel_rfl) ?_
 refine (I9 L p hp).u ?_
 exact aj gK
theorem UI (L M:List T) (hp:∀ x∈L,∀ y∈M,ai gT 34 [gF x,gF y] (.bool (x=y))):ai gT 65 [.sl 3 (L.map gF),.sl 3 (M.map gF),.clo 34 []] (.bool (L=M)):=by
 refine Spec.enter al ZP 100 Tryz.func65 rfl (by kernel_rfl) ?_
 intro hm uL
 rw[List.length_map] at hm uL
 refine⟨fun h0=>?_,fun h0=>?_⟩
 ·have CD:¬ ((L.map gF).length:Int)=((M.map gF).length:Nat):=h0
  rw[List.length_map,List.length_map] at CD
  refine aj ?_
  exact (show ¬ L=M from fun e=>CD (by rw[e]))
 have CD:((L.map gF).length:Int)=((M.map gF).length:Nat):=Classical.not_not.1 h0
 rw[List.length_map,List.length_map] at CD
 intro _
 refine SW.hU al ZP (by kernel_rfl) (α:={i:Nat // i<=L.length/\L.take i=M.take i}) (fun i=>[(17,.int .i64 i.1)]) (fun i=>L.length - i.1) ⟨0,Nat.zero_le _,by simp⟩ 60 ?_ ?_
 ·repeat' first|exact trivial|exact rfl|refine And.intro ?_ ?_
 rintro⟨i,hle,hi⟩
 refine⟨fun h=>?_,fun h=>?_⟩
 ·have h':(i:Int) < ((L.map gF).length:Nat):=h
  rw[List.length_map] at h'
  refine⟨T,L,gF,rfl,show (0:Int)<=(i:Int) by omega,show (i:Int) < (L.length:Int) by omega,fun x hx=>?_⟩
  have dp:L[i]?=some x:=hx
  refine⟨T,M,gF,rfl,show (0:Int)<=(i:Int) by omega,show (i:Int) < (M.length:Int) by omega,fun y hy=>?_⟩
  have uv:M[i]?=some y:=hy
  refine (hp x (List.mem_of_getElem? dp) y (List.mem_of_getElem? uv)).u ?_
  refine⟨fun bZ=>?_,fun he=>?_⟩
  ·refine aj ?_
   exact (show ¬ L=M from fun e=>bZ (by rw[e,uv] at dp; exact (Option.some.inj dp).symm))
  ·have xf:x=y:=Classical.not_not.1 he
   unfold maxLen at hm
   refine .inl ⟨ay (show _<=(i:Int)+1/\(i:Int)+1<=_ by omega),⟨⟨i+1,by omega,by rw[List.take_add_one,List.take_add_one,hi,dp,uv,xf]⟩,show L.length - (i+1) < L.length - i by omega,?_⟩⟩
   repeat' first|exact trivial|exact rfl|refine And.intro ?_ ?_
 ·have h':¬ (i:Int) < ((L.map gF).length:Nat):=h
  rw[List.length_map] at h'
  refine aj ?_
  exact (show L=M by rw[List.take_of_length_le (by omega),List.take_of_length_le (by omega)] at hi; exact hi)
theorem UJ (L M:List C) (hp:∀ x∈L,∀ y∈M,ai gT 13 [bo x,bo y] (.bool (x=y))):ai gT 35 [.sl 12 (L.map bo),.sl 12 (M.map bo),.clo 13 []] (.bool (L=M)):=by
 refine Spec.enter al ZQ 100 Tryz.func35 rfl (by kernel_rfl) ?_
 intro hm uL
 rw[List.length_map] at hm uL
 refine⟨fun h0=>?_,fun h0=>?_⟩
 ·have CD:¬ ((L.map bo).length:Int)=((M.map bo).length:Nat):=h0
  rw[List.length_map,List.length_map] at CD
  refine aj ?_
  exact (show ¬ L=M from fun e=>CD (by rw[e]))
 have CD:((L.map bo).length:Int)=((M.map bo).length:Nat):=Classical.not_not.1 h0
 rw[List.length_map,List.length_map] at CD
 intro _
 refine SW.hU al ZQ (by kernel_rfl) (α:={i:Nat // i<=L.length/\L.take i=M.take i}) (fun i=>[(17,.int .i64 i.1)]) (fun i=>L.length - i.1) ⟨0,Nat.zero_le _,by simp⟩ 60 ?_ ?_
 ·repeat' first|exact trivial|exact rfl|refine And.intro ?_ ?_
 rintro⟨i,hle,hi⟩
 refine⟨fun h=>?_,fun h=>?_⟩
 ·have h':(i:Int) < ((L.map bo).length:Nat):=h
  rw[List.length_map] at h'
  refine⟨C,L,bo,rfl,show (0:Int)<=(i:Int) by omega,show (i:Int) < (L.length:Int) by omega,fun x hx=>?_⟩
  have dp:L[i]?=some x:=hx
  refine⟨C,M,bo,rfl,show (0:Int)<=(i:Int) by omega,show (i:Int) < (M.length:Int) by omega,fun y hy=>?_⟩
  have uv:M[i]?=some y:=hy
  refine (hp x (List.mem_of_getElem? dp) y (List.mem_of_getElem? uv)).u ?_
  refine⟨fun bZ=>?_,fun he=>?_⟩
  ·refine aj ?_
   exact (show ¬ L=M from fun e=>bZ (by rw[e,uv] at dp; exact (Option.some.inj dp).symm))
  ·have xf:x=y:=Classical.not_not.1 he
   unfold maxLen at hm
   refine .inl ⟨ay (show _<=(i:Int)+1/\(i:Int)+1<=_ by omega),⟨⟨i+1,by omega,by rw[List.take_add_one,List.take_add_one,hi,dp,uv,xf]⟩,show L.length - (i+1) < L.length - i by omega,?_⟩⟩
   repeat' first|exact trivial|exact rfl|refine And.intro ?_ ?_
 ·have h':¬ (i:Int) < ((L.map bo).length:Nat):=h
  rw[List.length_map] at h'
  refine aj ?_
  exact (show L=M by rw[List.take_of_length_le (by omega),List.take_of_length_le (by omega)] at hi; exact hi)
theorem T.nw {p:T->Prop} (h:∀ t:T,(∀ x∈eV t,p x)->p t):∀ t,p t
 | .leaf o n=>h _ (by simp[eV])
 | .one o n a=>h _ (by simp only[eV,List.mem_singleton]; rintro x rfl; exact T.nw h x)
 | .two o n a b=>h _ (by
  simp only[eV,List.mem_cons,List.not_mem_nil,or_false]
  rintro x (rfl|rfl)
  ·exact T.nw h _
  ·exact T.nw h _)
theorem T.eq_iff (a b:T):a=b↔a.op=b.op/\a.num=b.num/\eV a=eV b:=by
 cases a<;>cases b<;>simp[T.op,T.num,eV]
theorem C.eq_iff (a b:C):a=b↔(a.kind=b.kind/\a.fj=b.fj/\a.fC=b.fC/\a.word=b.word/\a.size=b.size)/\a.a=b.a/\a.b=b.b/\a.l=b.l:=by
 cases a; cases b; simp only[C.mk.injEq,C.kind,C.fj,C.fC,C.word,C.size,C.a,C.b,C.l]
 exact⟨fun ⟨a,b,c,d,e,f,g,h⟩=>⟨⟨a,b,c,d,e⟩,f,g,h⟩,fun ⟨⟨a,b,c,d,e⟩,f,g,h⟩=>⟨a,b,c,d,e,f,g,h⟩⟩
theorem qn:∀ a b:T,ai gT 34 [gF a,gF b] (.bool (a=b)):=T.nw fun a ih b=>by
 refine Spec.enter al P34 100 Tryz.func34 rfl (by kernel_rfl) ?_
 refine⟨fun h1=>And.intro (fun h2=>?_) (fun h2=>?_),fun h1=>?_⟩
 ·have hk:=UI (eV a) (eV b) fun x hx y _=>ih x hx y
  rw[← qk,← qk] at hk
  refine hk.u ?_
  refine aj ?_
  exact (show (eV a=eV b)↔a=b by rw[T.eq_iff]; exact⟨fun h=>⟨h1,h2,h⟩,fun h=>h.2.2⟩)
 ·refine aj ?_
  exact (show ¬ a=b from fun e=>h2 (by rw[e]))
 ·refine aj ?_
  exact (show ¬ a=b from fun e=>h1 (by rw[e]))
theorem yy:∀ a b:C,ai gT 13 [bo a,bo b] (.bool (a=b)):=C.nw fun a ih b=>by
 refine Spec.enter al P13 100 Tryz.func13 rfl (by kernel_rfl) ?_
 refine⟨fun h1=>?_,fun h1=>?_⟩
 ·refine (qn a.a b.a).u ?_
  refine⟨fun h2=>?_,fun h2=>?_⟩
  ·refine (qn a.b b.b).u ?_
   refine⟨fun h3=>?_,fun h3=>?_⟩
   ·have hk:=UJ a.l b.l fun x hx y _=>ih x hx y
    rw[← dh,← dh] at hk
    refine hk.u ?_
    refine aj ?_
    obtain⟨e1,e2,e3,e4,e5,_⟩:=h1
    exact (show (a.l=b.l)↔a=b by rw[C.eq_iff]; exact⟨fun h=>⟨⟨e1,e2,e3,e4,e5⟩,h2,h3,h⟩,fun h=>h.2.2.2⟩)
   ·refine aj ?_
    exact (show ¬ a=b from fun e=>h3 (by rw[e]))
  ·refine aj ?_
   exact (show ¬ a=b from fun e=>h2 (by rw[e]))
 ·refine aj ?_
  exact (show ¬ a=b from fun e=>h1 (by rw[e]; exact⟨rfl,rfl,rfl,rfl,rfl,trivial⟩))
theorem qo (l m:List C):ez (l++m)=ez l++ez m:=by
 induction l with
 | nil=>rfl
 | cons c l ih=>rw[List.cons_append,ez,ez,ih,List.append_assoc]
theorem Fj {l:List C} {i:Nat} {c:C} (h:l[i]?=some c):ez (l.take (i+1))=ez (l.take i)++Fh c:=by
 rw[List.take_add_one,h,qo]
 show _++(Fh c++[])=_
 rw[List.append_nil]
theorem n_ (l:List C) (i:Nat):(ez (l.take i)).length<=(ez l).length:=by
 have h:=qo (l.take i) (l.drop i)
 rw[List.take_append_drop] at h
 rw[h,List.length_append]; omega
def mC (l:List C):Prop:=(ez l).length<=1000000->ai gT 84 [.sl 12 (l.map bo)] (.sl 12 ((ez l).map bo))
theorem oa (l:List C) (hk:∀ c∈l,c.kind=2->mC c.l):mC l:=fun hn=>by
 refine Spec.enter al ZI 100 Tryz.func84 rfl (by kernel_rfl) ?_
 intro hm
 refine SW.J1 al ZI (by kernel_rfl) (fun i:Nat=>[(8,.int .i64 i),(3,.wref 0)]) (fun i=>[⟨.dyn,30,12,.w,true,(ez (l.take i)).map bo⟩]) (fun i=>l.length - i) 0 60 [none] ?_ fun i=>?_
 ·repeat' first|exact trivial|exact rfl|exact Iff.rfl|refine And.intro ?_ ?_
 have hle:=n_ l i
 refine⟨fun h=>?_,fun h=>?_⟩
 ·have h':(i:Int) < ((l.map bo).length:Nat):=h
  rw[List.length_map] at h'
  refine⟨C,l,bo,rfl,show (0:Int)<=(i:Int) by omega,show (i:Int) < (l.length:Int) by omega,fun x hx=>?_⟩
  have dp:l[i]?=some x:=hx
  have e1:=Fj dp
  have lp:=n_ l (i+1)
  rw[e1,List.length_append,gJ] at lp
  unfold maxLen at hm
  have el:(((ez (l.take i)).map bo).length:Nat)=(ez (l.take i)).length:=List.length_map ..
  refine⟨fun kO=>?_,fun kO=>?_⟩
  ·have BP:x.kind=2:=kO
   rw[if_pos BP] at lp
   have k7:=List.mem_of_getElem? dp
   have hp:=hk x k7 BP (by omega)
   rw[← dh] at hp
   have el2:(((ez x.l).map bo).length:Nat)=(ez x.l).length:=List.length_map ..
   refine hp.u ?_
   refine⟨show ((ez (l.take i)).map bo).length+((ez x.l).map bo).length<=maxLen by unfold maxLen; omega,show (((ez (l.take i)).map bo).length+((ez x.l).map bo).length)*144<=140737488355328 by omega,?_⟩
   refine .inl ⟨ay (show _<=(i:Int)+1/\(i:Int)+1<=_ by omega),⟨i+1,[some 2],by omega,?_⟩⟩
   repeat' first|exact trivial|exact rfl|exact Iff.rfl|refine And.intro ?_ ?_
   exact (show (ez (l.take i)).map bo++(ez x.l).map bo=(ez (l.take (i+1))).map bo by rw[e1,gJ,if_pos BP,List.map_append])
  ·have BP:¬ x.kind=2:=kO
   rw[if_neg BP] at lp
   refine⟨show ((ez (l.take i)).map bo).length+1<=maxLen by unfold maxLen; simp at lp; omega,show (((ez (l.take i)).map bo).length+1)*144<=140737488355328 by simp at lp; omega,?_⟩
   refine .inl ⟨ay (show _<=(i:Int)+1/\(i:Int)+1<=_ by omega),⟨i+1,[some 3],by omega,?_⟩⟩
   repeat' first|exact trivial|exact rfl|exact Iff.rfl|refine And.intro ?_ ?_
   exact (show (ez (l.take i)).map bo++[bo x]=(ez (l.take (i+1))).map bo by rw[e1,gJ,if_neg BP,List.map_append]; rfl)
 ·have h':¬ (i:Int) < ((l.map bo).length:Nat):=h
  rw[List.length_map] at h'
  refine aj ?_
  rw[List.take_of_length_le (by omega)]
  exact (show (ez l).map bo=(ez l).map bo from rfl)
theorem yz:∀ c:C,mC c.l:=C.nw fun c ih=>oa c.l fun x hx _=>ih x hx
theorem wa (l:List C):mC l:=oa l fun c _ _=>yz c
theorem qp (c:C):ai gT 86 [bo c] (.bool (¬ bf c=true)):=by
 have e:(¬ bf c=true)↔(c.kind=1/\c.fj=0)/\c.fC=0:=by
  unfold bf; simp[and_assoc]
 refine Spec.enter al P86 100 Tryz.func86 rfl (by kernel_rfl) ?_
 refine⟨fun h1=>And.intro (fun h2=>?_) (fun h2=>?_),fun h1=>?_⟩
 ·refine aj ?_
  have gf:c.kind=1:=h1
  have Ij:c.fj=0:=h2
  exact (show c.fC=0↔¬ bf c=true from ⟨fun h=>e.2 ⟨⟨gf,Ij⟩,h⟩,fun h=>(e.1 h).2⟩)
 ·refine aj ?_
  have Ij:¬ c.fj=0:=h2
  exact (show ¬ ¬ bf c=true from fun h=>Ij (e.1 h).1.2)
 ·refine aj ?_
  have gf:¬ c.kind=1:=h1
  exact (show ¬ ¬ bf c=true from fun h=>gf (e.1 h).1.1)
theorem I_ (L:List C) (p:C->Prop) (hp:∀ x∈L,ai gT 86 [bo x] (.bool (p x))):ai gT 124 [.sl 12 (L.map bo),.clo 86 []] (.int .i64 (cS p L 0)):=by
 refine Spec.enter al Ht 100 Tryz.func124 rfl (by kernel_rfl) ?_
 intro hm
 rw[List.length_map] at hm
 obtain⟨z,hz⟩:∃ z,z=cS p L 0:=⟨_,rfl⟩
 rw[← hz]
 refine SW.hU al Ht (by kernel_rfl) (α:={i:Nat // z=cS p (L.drop i) i}) (fun i=>[(8,.int .i64 i.1)]) (fun i=>L.length - i.1) ⟨0,hz⟩ 60 ?_ ?_
 ·repeat' first|exact trivial|exact rfl|refine And.intro ?_ ?_
 rintro⟨i,hi⟩
 refine⟨fun h=>?_,fun h=>?_⟩
 ·have h':(i:Int) < ((L.map bo).length:Nat):=h
  rw[List.length_map] at h'
  refine⟨C,L,bo,rfl,show (0:Int)<=(i:Int) by omega,show (i:Int) < (L.length:Int) by omega,fun x hx=>?_⟩
  have dp:L[i]?=some x:=hx
  obtain⟨s1,s2⟩:=fv (p:=p) dp
  refine (hp x (List.mem_of_getElem? dp)).u ?_
  refine⟨fun nx=>?_,fun nx=>?_⟩
  ·refine aj ?_
   exact (show (i:Int)=z by rw[hi,s1 nx])
  ·unfold maxLen at hm
   refine .inl ⟨ay (show _<=(i:Int)+1/\(i:Int)+1<=_ by omega),⟨⟨i+1,by rw[hi,s2 nx]⟩,show L.length - (i+1) < L.length - i by omega,?_⟩⟩
   repeat' first|exact trivial|exact rfl|refine And.intro ?_ ?_
 ·have h':¬ (i:Int) < ((L.map bo).length:Nat):=h
  rw[List.length_map] at h'
  refine aj ?_
  exact (show (-1:Int)=z by rw[hi,List.drop_of_length_le (by omega),cS])
theorem sv {α:Type} {p:α->Prop}:∀ {l:List α} {i:Nat},cS p l i = -1->∀ x∈l,¬ p x
 | [],_,_,x,hx=>by simp at hx
 | y::l,i,h,x,hx=>by
  rw[cS] at h
  by_cases hy:p y
  ·rw[if_pos hy] at h; omega
  ·rw[if_neg hy] at h
   rcases List.mem_cons.1 hx with rfl|hx
   ·exact hy
   ·exact sv h x hx
theorem qq {α:Type} {p:α->Prop}:∀ {l:List α} {i:Nat},¬ cS p l i = -1->∃ k:Nat,cS p l i=((i+k:Nat):Int)/\(∃ x,l[k]?=some x/\p x)/\∀ x∈l.take k,¬ p x
 | [],_,h=>absurd rfl h
 | y::l,i,h=>by
  rw[cS] at h ⊢
  by_cases hy:p y
  ·rw[if_pos hy]
   exact⟨0,rfl,⟨y,rfl,hy⟩,by simp⟩
  ·rw[if_neg hy] at h ⊢
   obtain⟨k,h1,⟨x,h2,h3⟩,h4⟩:=qq h
   refine⟨k+1,by rw[h1]; congr 1; omega,⟨x,h2,h3⟩,fun z hz=>?_⟩
   rw[List.take_succ_cons] at hz
   rcases List.mem_cons.1 hz with rfl|hz
   ·exact hy
   ·exact h4 z hz
def dB (l:List C):ak:=⟨.dyn,30,12,.w,true,l.map bo⟩
structure ib (L:List C) (x:Nat × List C):Prop where
 le:x.1<=L.length
 len:x.2.length=L.length
 Yn:x.2.take ((L.take x.1).filter bf).length=(L.take x.1).filter bf
 rest:x.2.drop x.1=L.drop x.1
 lt:((L.take x.1).filter bf).length < x.1
theorem ib.at {L cs:List C} {j:Nat} {y:C} (h:ib L (j,cs)) (hj:(j:Int) < L.length) (hy:cs[j]?=some y):L[j]?=some y:=by
 have h1:=congrArg (fun l=>l[0]?) h.rest
 simpa [List.getElem?_drop,hy] using h1.symm
theorem ib.step {L cs:List C} {j:Nat} {y:C} (h:ib L (j,cs)) (hj:(j:Int) < L.length) (hy:cs[j]?=some y):(L.take (j+1)).filter bf=(L.take j).filter bf++[y].filter bf:=by
 rw[List.take_add_one,h.at hj hy,List.filter_append]; rfl
theorem ib.Kg {L cs:List C} {j:Nat} (h:cs.drop j=L.drop j):cs.drop (j+1)=L.drop (j+1):=by
 rw[← List.drop_drop,← List.drop_drop,h]
theorem mD {L cs:List C} {j:Nat} {y:C} (h:ib L (j,cs)) (hj:(j:Int) < L.length) (hy:cs[j]?=some y) (hk:¬ bf y=true):(L.take (j+1)).filter bf=(L.take j).filter bf:=by
 rw[h.step hj hy,List.filter_cons_of_neg hk]; simp
theorem Fk {L cs:List C} {j:Nat} {y:C} (h:ib L (j,cs)) (hj:(j:Int) < L.length) (hy:cs[j]?=some y) (hk:¬ bf y=true):ib L (j+1,cs):=by
 have e:=mD h hj hy hk
 have h1:=h.lt
 have h2:=h.Yn
 simp only at h1 h2
 exact⟨by show j+1<=_; omega,h.len,by simp only; rw[e]; exact h2,ib.Kg h.rest,by simp only; rw[e]; omega⟩
theorem mE {L cs:List C} {j:Nat} {y:C} (h:ib L (j,cs)) (hj:(j:Int) < L.length) (hy:cs[j]?=some y) (hk:bf y=true):(L.take (j+1)).filter bf=(L.take j).filter bf++[y]:=by
 rw[h.step hj hy,List.filter_cons_of_pos hk]; simp
theorem Fl {L cs:List C} {j:Nat} {y:C} (h:ib L (j,cs)) (hj:(j:Int) < L.length) (hy:cs[j]?=some y) (hk:bf y=true):ib L (j+1,cs.set ((L.take j).filter bf).length y):=by
 have e:=mE h hj hy hk
 have h1:=h.lt
 have h2:=h.Yn
 have h3:=h.len
 simp only at h1 h2 h3
 obtain⟨K,hK⟩:∃ K,(L.take j).filter bf=K:=⟨_,rfl⟩
 rw[hK] at e h1 h2 ⊢
 have bG:K.length < cs.length:=by omega
 refine⟨by show j+1<=_; omega,by simp only; rw[List.length_set]; exact h3,?_,?_,?_⟩
 ·simp only
  rw[e,List.length_append,List.length_singleton,List.take_add_one,List.getElem?_set_self bG,List.take_set_of_le (Nat.le_refl _),h2]
  rfl
 ·simp only
  rw[List.drop_set_of_lt (by omega)]
  exact ib.Kg h.rest
 ·simp only
  rw[e,List.length_append,List.length_singleton]; omega
def zC:ak:=⟨.loc,30,1,.w,true,[.lit .i64 0,.lit .i64 0,.lit .i64 0,.lit .i64 0,.lit .i64 0,.lit .i64 0,.lit .u32 0,.nil,.lit .i64 0,.lit .u32 0,.nil,.nil]⟩
theorem wb (L:List C) (hL:L.length<=1000000):Spec gT 85 [.wref 1,.clo 86 []] [zC,dB L] [] fun r S'=>∃ b:ak,S' = [zC,b]/\b.k = .dyn/\b.live=true/\b.m = .w/\b.size=12/\((r = .wref 1/\b.cs=(L.filter bf).map bo)\/(r = .ref 1 0 ((L.filter bf).map bo).length/\b.cs.take ((L.filter bf).map bo).length=(L.filter bf).map bo)):=by
 have hi:=I_ L (fun x=>¬ bf x=true) fun x _=>qp x
 obtain⟨z,hz⟩:∃ z,cS (fun x=>¬ bf x=true) L 0=z:=⟨_,rfl⟩
 rw[hz] at hi
 unfold dB zC
 refine Spec.enter al ZJ 100 Tryz.func85 rfl (by kernel_rfl) ?_
 refine⟨[],av,hi.XE [1] (by repeat' first|exact trivial|exact rfl|exact Iff.rfl|exact Or.inl rfl|refine And.intro ?_ ?_) rfl rfl ?_⟩
 refine⟨fun h1=>?_,fun h1=>?_⟩
 ·have gf:z = -1:=h1
  have cZ:=sv (hz.trans gf)
  have hf:L.filter bf=L:=List.filter_eq_self.2 fun x hx=>Classical.not_not.1 (cZ x hx)
  rw[hf]
  refine Exists.intro (.wref 1) (And.intro (pJ.refl _) ?_)
  exact⟨⟨.dyn,30,12,.w,true,L.map bo⟩,rfl,rfl,rfl,rfl,rfl,.inl ⟨rfl,rfl⟩⟩
 ·have gf:¬ z = -1:=h1
  obtain⟨k,hk,⟨x0,XR,VD⟩,Yo⟩:=qq (fun e=>gf (hz.symm.trans e))
  rw[hz,Nat.zero_add] at hk
  subst hk
  have Ja:k < L.length:=(List.getElem?_eq_some_iff.1 XR).1
  have hK0:(L.take (k+1)).filter bf=L.take k:=by
   rw[List.take_add_one,XR,List.filter_append,List.filter_eq_self.2 fun x hx=>Classical.not_not.1 (Yo x hx)]
   show L.take k++[x0].filter bf=_
   rw[List.filter_cons_of_neg VD]; simp
  have hKl:((L.take (k+1)).filter bf).length=k:=by rw[hK0,List.length_take]; omega
  refine li ?_ (show _<=(k:Int)+1/\(k:Int)+1<=_ by omega)
  refine SW.loop al ZJ (by kernel_rfl) (α:={x:Nat × List C // ib L x}) (fun x=>[(5,.int .i64 ((L.take x.1.1).filter bf).length),(6,.int .i64 x.1.1)]) (fun x=>[⟨.loc,30,1,.w,true,[.lit .i64 0,.lit .i64 0,.lit .i64 0,.lit .i64 0,.lit .i64 0,.lit .i64 0,.lit .u32 0,.nil,.lit .i64 0,.lit .u32 0,.nil,.nil]⟩,⟨.dyn,30,12,.w,true,x.1.2.map bo⟩]) (fun x=>L.length - x.1.1) ⟨(k+1,L),⟨by omega,rfl,by rw[hK0,List.length_take,Nat.min_eq_left (by omega)],rfl,by show _ < k+1; rw[hKl]; omega⟩⟩ 60 [some 0,some 1] ?_ fun x=>?_
  ·repeat' first|exact trivial|exact rfl|exact Iff.rfl|refine And.intro ?_ ?_
   all_goals exact (show (k:Int)=(((L.take (k+1)).filter bf).length:Int) by rw[hKl])
  obtain⟨⟨j,cs⟩,hx⟩:=x
  have GA:=hx.len
  have Ll:=hx.le
  have hx3:=hx.lt
  simp only at GA Ll hx3
  have ecs:(((cs.map bo).length:Nat):Int)=L.length:=by rw[List.length_map,GA]
  intro hm
  refine⟨fun h=>?_,fun h=>?_⟩
  ·have h':(j:Int) < ((cs.map bo).length:Nat):=h
   rw[ecs] at h'
   refine⟨show (0:Int)<=(j:Int) by omega,show (j:Int) < ((cs.map bo).length:Nat) by omega,C,cs,bo,rfl,show (j:Int).toNat < cs.length by omega,fun y hy=>?_⟩
   have uv:cs[j]?=some y:=hy
   refine (qp y).u ?_
   refine⟨fun kO=>?_,fun kO=>?_⟩
   ·have UK:bf y=true:=Classical.not_not.1 kO
    refine⟨show (0:Int)<=(((L.take j).filter bf).length:Int) by omega,show (((L.take j).filter bf).length:Int) < ((cs.map bo).length:Nat) by omega,?_⟩
    refine And.intro (show (((L.take j).filter bf).length:Int).toNat < (cs.map bo).length by omega) ?_
    refine li ?_ (show _<=(((L.take j).filter bf).length:Int)+1/\(((L.take j).filter bf).length:Int)+1<=_ by omega)
    refine .inl ⟨ay (show _<=(j:Int)+1/\(j:Int)+1<=_ by omega),⟨⟨(j+1,cs.set ((L.take j).filter bf).length y),Fl hx h' uv UK⟩,[some 0,some 1],show L.length - (j+1) < L.length - j by omega,?_⟩⟩
    repeat' first|exact trivial|exact rfl|exact Iff.rfl|refine And.intro ?_ ?_
    all_goals first|exact (show (((L.take j).filter bf).length:Int)+1=(((L.take (j+1)).filter bf).length:Int) by rw[mE hx h' uv UK,List.length_append]; simp)|exact (show (cs.map bo).set (((L.take j).filter bf).length:Int).toNat (bo y)=(cs.set ((L.take j).filter bf).length y).map bo by rw[Int.toNat_natCast,List.map_set])
   ·have UK:¬ bf y=true:=fun h=>kO (fun h2=>h2 h)
    refine .inl ⟨ay (show _<=(j:Int)+1/\(j:Int)+1<=_ by omega),⟨⟨(j+1,cs),Fk hx h' uv UK⟩,[some 0,some 1],show L.length - (j+1) < L.length - j by omega,?_⟩⟩
    repeat' first|exact trivial|exact rfl|exact Iff.rfl|refine And.intro ?_ ?_
    all_goals exact (show (((L.take j).filter bf).length:Int)=(((L.take (j+1)).filter bf).length:Int) by rw[mD hx h' uv UK])
  ·have h':¬ (j:Int) < ((cs.map bo).length:Nat):=h
   rw[ecs] at h'
   have hj:j=L.length:=by omega
   subst hj
   obtain⟨n,hn⟩:∃ n,((L.take L.length).filter bf).length=n:=⟨_,rfl⟩
   have ur:(cs.map bo).length=L.length:=by rw[List.length_map,GA]
   refine⟨n,L.length,show ((((L.take L.length).filter bf).length:Nat):Int)=n by rw[hn],show (((cs.map bo).length:Nat):Int)=(L.length:Nat) by rw[ur],by omega,show L.length<=(cs.map bo).length by omega,show n < (cs.map bo).length by omega,?_⟩
   refine AP al ?_
   refine⟨n,rfl,show n+(L.length - n)=(cs.map bo).length by omega,by omega,?_⟩
   refine⟨0,n,rfl,show ((((L.take L.length).filter bf).length:Nat):Int)=n by rw[hn],by omega,?_⟩
   have eJ:∀ e:PV,((cs.map bo).take n++List.replicate (L.length - n) e).length=L.length:=fun e=>by
    rw[List.length_append,List.length_take,List.length_replicate,ur]; omega
   have hg:=hx.Yn
   simp only at hg
   rw[hn] at hg
   refine And.intro (show n<=((cs.map bo).take n++List.replicate (L.length - n) _).length by rw[eJ]; omega) (And.intro (show 0 < ((cs.map bo).take n++List.replicate (L.length - n) _).length by rw[eJ]; omega) ?_)
   have hfl:(L.filter bf).length=n:=by rw[← hn,List.take_length]
   have J6:cs.take n=L.filter bf:=by rw[hg,List.take_length]
   refine Exists.intro (.ref 1 (0*12) (n - 0)) (And.intro (pJ.refl _) ?_)
   refine⟨_,rfl,rfl,rfl,rfl,rfl,.inr ⟨?_,?_⟩⟩
   ·show PV.ref 1 (0*12) (n - 0)=_
    rw[List.length_map,hfl,Nat.zero_mul,Nat.sub_zero]
   ·show ((cs.map bo).take n++List.replicate (L.length - n) _).take ((L.filter bf).map bo).length=_
    rw[List.length_map,hfl,List.take_append_of_le_length (by rw[List.length_take,ur]; omega),List.take_take,Nat.min_self,← List.map_take,J6]
theorem yA (L:List C) (hL:L.length<=1000000):Spec gT 85 [.wref 1,.clo 86 []] [zC,dB L] [] fun r S'=>r = .sl 12 ((L.filter bf).map bo)/\S' = [zC,⟨.dyn,(dB L).ty,12,.w,false,[]⟩] :=
 (wb L hL).XO rfl rfl rfl
def gL (B:Int) (c:C):Prop:=c.kind=1->(0<=c.fj/\c.fj<=B)/\(0<=c.fC/\c.fC<=B)
theorem gL.more {B B':Int} {c:C} (h:gL B c) (hB:B<=B'):gL B' c:=fun k=>by have:=h k; omega
theorem kz {S:List C} {i:Nat} {c:C} (h:S[i]?=some c):(S.take (i+1)).foldl bQ []=bQ ((S.take i).foldl bQ []) c:=by
 rw[List.take_add_one,h,List.foldl_append]; rfl
theorem o4 {S:List C} (hS:∀ c∈S,gL 2147483647 c):∀ i:Nat,∀ x∈(S.take i).foldl bQ [],gL (i*2147483647) x
 | 0,x,hx=>by simp at hx
 | i+1,x,hx=>by
  cases hc:S[i]? with
  | none =>
   have hl:S.length<=i:=List.getElem?_eq_none_iff.1 hc
   rw[List.take_of_length_le (by omega),← List.take_of_length_le (i:=i) hl] at hx
   exact (o4 hS i x hx).more (by omega)
  | some c =>
   rw[kz hc] at hx
   have AE:=hS c (List.mem_of_getElem? hc)
   refine ky (p:=gL ((i+1:Nat)*2147483647)) (fun y hy=>(o4 hS i y hy).more (by omega)) (AE.more (by omega)) (fun d hd k1 k2 _=>?_) x hx
   have h1:=o4 hS i d hd k2
   have h2:=AE k1
   show (0<=d.fj+c.fj/\d.fj+c.fj<=_)/\(0<=d.fC+c.fC/\d.fC+c.fC<=_)
   omega
theorem j_ (S:List C):∀ i:Nat,((S.take i).foldl bQ []).length<=i
 | 0=>by simp
 | i+1=>by
  cases hc:S[i]? with
  | none =>
   have hl:S.length<=i:=List.getElem?_eq_none_iff.1 hc
   rw[List.take_of_length_le (by omega),← List.take_of_length_le (i:=i) hl]
   have:=j_ S i; omega
  | some c =>
   rw[kz hc]
   have:=j_ S i; have:=BN ((S.take i).foldl bQ []) c; omega
theorem ny {out:List C} {c:C} (h:∀ d,out[out.length - 1]?=some d->¬ (c.kind=1/\d.kind=1)):bQ out c=out++[c]:=by
 unfold bQ
 cases he:out.getLast? with
 | none=>rfl
 | some d =>
  simp only
  rw[if_neg (h d (by rw[← List.getLast?_eq_getElem?]; exact he))]
theorem BQ {out:List C} {c d:C} (hd:out[out.length - 1]?=some d) (h1:c.kind=1) (h2:d.kind=1):bQ out c=out.set (out.length - 1) (aE (d.fj+c.fj) (d.fC+c.fC)):=by
 have he:out.getLast?=some d:=by rw[List.getLast?_eq_getElem?]; exact hd
 unfold bQ
 rw[he]
 simp only
 rw[if_pos ⟨h1,h2⟩]
 obtain⟨pre,Ql⟩:=List.getLast?_eq_some_iff.1 he
 rw[Ql,List.dropLast_concat]
 simp
theorem nz (l:List C) (hn:(ez l).length<=1000000) (hS:∀ c∈ez l,gL 2147483647 c):ai gT 45 [.sl 12 (l.map bo)] (bo (ba l)):=by
 have hs:=wa l hn
 obtain⟨S,hSe⟩:∃ S,ez l=S:=⟨_,rfl⟩
 rw[hSe] at hs hn hS
 refine Spec.enter al ZH 100 Tryz.func45 rfl (by kernel_rfl) ?_
 refine hs.u ?_
 intro hm
 have el:(((S.map bo).length:Nat):Int)=S.length:=by rw[List.length_map]
 refine SW.J1 al ZH (by kernel_rfl) (fun i:Nat=>[(10,.int .i64 i),(3,.wref 1)]) (fun i=>[⟨.dyn,30,12,.w,true,((S.take i).foldl bQ []).map bo⟩]) (fun i=>S.length - i) 0 60 [none] ?_ fun i=>?_
 ·repeat' first|exact trivial|exact rfl|exact Iff.rfl|refine And.intro ?_ ?_
 have hle:=j_ S i
 have JK:=o4 hS i
 obtain⟨out,gV⟩:∃ out,(S.take i).foldl bQ []=out:=⟨_,rfl⟩
 rw[gV] at hle JK ⊢
 have eo:(((out.map bo).length:Nat):Int)=out.length:=by rw[List.length_map]
 refine⟨fun h=>?_,fun h=>?_⟩
 ·have h':(i:Int) < ((S.map bo).length:Nat):=h
  rw[el] at h'
  refine⟨C,S,bo,rfl,show (0:Int)<=(i:Int) by omega,show (i:Int) < (S.length:Int) by omega,fun c hc=>?_⟩
  have rO:S[i]?=some c:=hc
  have AE:=hS c (List.mem_of_getElem? rO)
  have e1:=kz rO
  rw[gV] at e1
  refine fun uL=>?_
  refine⟨fun hk=>?_,fun hk=>?_⟩
  ·refine⟨fun h0=>?_,fun h0=>?_⟩
   ·have CD:(0:Int) < ((out.map bo).length:Nat):=h0
    refine li ?_ (show _<=(((out.map bo).length:Nat):Int) - 1/\(((out.map bo).length:Nat):Int) - 1<=_ by omega)
    refine⟨show (0:Int)<=(((out.map bo).length:Nat):Int) - 1 by omega,show (((out.map bo).length:Nat):Int) - 1 < ((out.map bo).length:Nat) by omega,?_⟩
    refine⟨C,out,bo,rfl,show ((((out.map bo).length:Nat):Int) - 1).toNat < out.length by omega,fun d hd=>?_⟩
    have ot:out[out.length - 1]?=some d:=by
     rw[← show ((((out.map bo).length:Nat):Int) - 1).toNat=out.length - 1 by omega]; exact hd
    refine⟨fun Yp=>?_,fun Yp=>?_⟩
    ·have fg:c.kind=1:=hk
     have UL:d.kind=1:=Yp
     have b1:=AE fg
     have b2:=JK d (List.mem_of_getElem? ot) UL
     have hi6:(i:Int)<=1000000:=by omega
     have bG:((((out.map bo).length:Nat):Int) - 1).toNat < out.length:=by omega
     have th:((((out.map bo).length:Nat):Int) - 1).toNat < (out.map bo).length:=by omega
     have r6:-9223372036854775808<=(i:Int)+1/\(i:Int)+1<=9223372036854775807:=by omega
     have r7:S.length - (i+1) < S.length - i:=by omega
     have r1:-9223372036854775808<=(((out.map bo).length:Nat):Int) - 1/\(((out.map bo).length:Nat):Int) - 1<=9223372036854775807:=by omega
     have r2:(0:Int)<=(((out.map bo).length:Nat):Int) - 1:=by omega
     have r3:(((out.map bo).length:Nat):Int) - 1 < ((out.map bo).length:Nat):=by omega
     have r4:-9223372036854775808<=d.fj+c.fj/\d.fj+c.fj<=9223372036854775807:=by omega
     have r5:-9223372036854775808<=d.fC+c.fC/\d.fC+c.fC<=9223372036854775807:=by omega
     have hdd:∀ d2,out[((((out.map bo).length:Nat):Int) - 1).toNat]?=some d2->d=d2:=fun d2 h2=>Option.some.inj (hd.symm.trans h2)
     repeat' first
      | refine .inl ⟨ay r1,?_⟩
      | refine⟨r2,r3,?_⟩
      | (refine⟨C,out,bo,rfl,bG,fun d2 uT=>?_⟩; have e9:=hdd d2 uT; subst e9)
      | refine .inl ⟨ay r4,?_⟩
      | refine .inl ⟨ay r5,?_⟩
      | refine⟨[],av,(bu (d.fj+c.fj) (d.fC+c.fC)).use (And.intro rfl (And.intro rfl trivial)) rfl rfl ?_⟩
      | refine And.intro th ?_
      | refine .inl ⟨ay r6,⟨i+1,[some 1],r7,?_⟩⟩
      | fail
     all_goals repeat' first|exact trivial|exact rfl|exact Iff.rfl|refine And.intro ?_ ?_
     all_goals exact (show (out.map bo).set ((((out.map bo).length:Nat):Int) - 1).toNat (bo (aE (d.fj+c.fj) (d.fC+c.fC)))=((S.take (i+1)).foldl bQ []).map bo by rw[e1,BQ ot fg UL,List.map_set,show ((((out.map bo).length:Nat):Int) - 1).toNat=out.length - 1 by omega])
    ·refine⟨show (out.map bo).length+1<=maxLen by unfold maxLen; omega,show ((out.map bo).length+1)*144<=140737488355328 by omega,?_⟩
     refine .inl ⟨ay (show _<=(i:Int)+1/\(i:Int)+1<=_ by omega),⟨i+1,[some 4],by omega,?_⟩⟩
     repeat' first|exact trivial|exact rfl|exact Iff.rfl|refine And.intro ?_ ?_
     exact (show out.map bo++[bo c]=((S.take (i+1)).foldl bQ []).map bo by rw[e1,ny (fun d2 uT ⟨_,h3⟩=>by rw[ot] at uT; cases uT; exact Yp h3),List.map_append]; rfl)
   ·refine⟨show (out.map bo).length+1<=maxLen by unfold maxLen; omega,show ((out.map bo).length+1)*144<=140737488355328 by omega,?_⟩
    refine .inl ⟨ay (show _<=(i:Int)+1/\(i:Int)+1<=_ by omega),⟨i+1,[some 4],by omega,?_⟩⟩
    repeat' first|exact trivial|exact rfl|exact Iff.rfl|refine And.intro ?_ ?_
    exact (show out.map bo++[bo c]=((S.take (i+1)).foldl bQ []).map bo by rw[e1,ny (fun d2 uT _=>by have h3:=(List.getElem?_eq_some_iff.1 uT).1; exact h0 (show (0:Int) < ((out.map bo).length:Nat) by omega)),List.map_append]; rfl)
  ·refine⟨show (out.map bo).length+1<=maxLen by unfold maxLen; omega,show ((out.map bo).length+1)*144<=140737488355328 by omega,?_⟩
   refine .inl ⟨ay (show _<=(i:Int)+1/\(i:Int)+1<=_ by omega),⟨i+1,[some 4],by omega,?_⟩⟩
   repeat' first|exact trivial|exact rfl|exact Iff.rfl|refine And.intro ?_ ?_
   exact (show out.map bo++[bo c]=((S.take (i+1)).foldl bQ []).map bo by rw[e1,ny (fun d2 uT ⟨h3,_⟩=>hk h3),List.map_append]; rfl)
 ·have h':¬ (i:Int) < ((S.map bo).length:Nat):=h
  rw[el] at h'
  have Cs:S.take i=S:=List.take_of_length_le (by omega)
  rw[Cs] at gV
  have lp:=j_ S S.length
  rw[List.take_length,gV] at lp
  have Yq:=yA out (by omega)
  have hoc:out.filter bf=iq l:=by rw[← gV,← hSe]; rfl
  rw[hoc] at Yq
  unfold zC dB at Yq
  refine⟨[],av,Spec.Sc Yq rfl rfl rfl rfl (by repeat' first|exact trivial|exact rfl|exact Iff.rfl|exact Or.inl rfl|refine And.intro ?_ ?_) ?_⟩
  refine And.intro (by repeat' first|exact trivial|exact rfl|exact Iff.rfl|refine And.intro ?_ ?_) (And.intro (by repeat' first|exact trivial|exact rfl|exact Iff.rfl|refine And.intro ?_ ?_) ?_)
  refine fun Uu=>?_
  have ec:((((iq l).map bo).length:Nat):Int)=(iq l).length:=by rw[List.length_map]
  refine⟨fun h1=>?_,fun h1=>?_⟩
  ·have gf:((((iq l).map bo).length:Nat):Int)=1:=h1
   rw[ec] at gf
   obtain⟨c,hc⟩:∃ c,iq l = [c]:=List.length_eq_one_iff.1 (by omega)
   refine⟨C,iq l,bo,rfl,show (0:Int)<=0 by decide,show (0:Int) < ((iq l).length:Int) by omega,fun x hx=>?_⟩
   have dp:(iq l)[0]?=some x:=hx
   rw[hc] at dp
   cases dp
   refine aj ?_
   have ej:ba l=c:=by unfold ba; rw[hc]
   rw[ej]
   repeat' first|exact trivial|exact rfl|exact Iff.rfl|refine And.intro ?_ ?_
  ·have gf:¬ ((((iq l).map bo).length:Nat):Int)=1:=h1
   rw[ec] at gf
   have ej:ba l = .mk 2 0 0 0 0 gI gI (iq l):=by
    unfold ba
    split
    ·rename_i c hc; rw[hc] at gf; exact absurd rfl gf
    ·rfl
   rw[ej]
   have ek:gG (.mk 2 0 0 0 0 gI gI (iq l))=(iq l).map bo:=nv _
   refine aj ?_
   repeat' first|exact trivial|exact rfl|exact Iff.rfl|refine And.intro ?_ ?_
   all_goals exact ek.symm
structure WK where
 at_:Int
 full:Prop
 line:Int
 bN:Prop
 last:Prop
 e:Int
def wkL (b:List Int) (w:WK):List PV:=[.sl 1 (mz b),.int .i64 w.at_,.bool w.full,.int .u32 w.line,.bool w.bN,.bool w.last,.int .i64 w.e]
def eC (b:List Int) (w:WK):ak:=⟨.loc,70,1,.w,true,wkL b w⟩
open Classical in
noncomputable def aC (w:WK) (p:Prop):WK:={ w with e:=if p then w.e else 201 }
theorem bR {w:WK} {p:Prop} (h:p):aC w p=w:=by unfold aC; rw[if_pos h]
theorem cX {w:WK} {p:Prop} (h:¬ p):aC w p = { w with e:=201 }:=by unfold aC; rw[if_neg h]
noncomputable def iA (b:List Int) (n:Int):IN:=if 0<=n/\n<=b.length then CB b n.toNat else iZ
noncomputable def eA (b:List Int) (n:Int):Int:=if 0<=n/\n<=b.length then CC b n.toNat else 11
theorem sw {w:Int} {wide:Prop} (h:E_ w wide=0):bD (CA w wide)/\Kc (CA w wide):=by
 unfold E_ at h
 split at h
 ·rename_i hf
  obtain⟨f,hf⟩:=hf
  have e:=tW hf
  rw[e]
  have hI:ck f:=by have:=hf.1; unfold dL at this; unfold ck; omega
  exact⟨hf.2.1.1,zU hI⟩
 ·cases h
theorem bz {b:List Int} {n:Int} (h:eA b n=0):(0<=n/\n+2<=b.length)/\bD (iA b n)/\Kc (iA b n):=by
 unfold eA at h
 split at h
 ·rename_i hr
  unfold iA
  rw[if_pos hr]
  unfold CC at h
  unfold CB
  split at h
  ·cases h
  ·rename_i h1
   rw[if_neg h1]
   split at h
   ·rename_i h2
    rw[if_pos h2]
    exact⟨by omega,sw h⟩
   ·rename_i h2
    rw[if_neg h2]
    split at h
    ·cases h
    ·rename_i h3
     rw[if_neg h3]
     exact⟨by omega,sw h⟩
 ·cases h
theorem eW {i:IN} (h:bD i):aY i.form=2\/aY i.form=4:=by
 have:=h.1
 unfold aY
 split
 ·exact .inr rfl
 ·rw[if_pos (by omega)]; exact .inl rfl
theorem qs (b:List Int) (hb:oK b) (hl:b.length<=100000) (n:Int) (hn:ck n):ai gT 8 [.sl 1 (mz b),.int .i64 n] (.tup [bX (iA b n),.int .i64 (eA b n)]):=by
 have hm:b.length<=maxLen:=by unfold maxLen; omega
 unfold iA eA
 by_cases hr:0<=n/\n<=b.length
 ·rw[if_pos hr,if_pos hr]
  obtain⟨k,rfl⟩:∃ k:Nat,n=k:=⟨n.toNat,by omega⟩
  rw[Int.toNat_natCast]
  exact UF b k hb hm (by omega)
 ·rw[if_neg hr,if_neg hr]
  exact Qj b n hm hn (by omega)
theorem bs (b:List Int) (w:WK) (p:Prop):Spec gT 22 [.ptr 0 0,.bool p] [eC b w] [] fun y S'=>y = .tup []/\S' = [eC b (aC w p)]:=by
 refine Spec.rT (Spec.enter al Xh 100 Tryz.func22 rfl (by kernel_rfl) ?_)
 refine⟨fun h=>?_,fun h=>?_⟩
 ·rw[cX (show ¬ p from h)]
  refine⟨[],av,Spec.enter al Xi 100 Tryz.func46 rfl (by kernel_rfl) ?_⟩
  refine Exists.intro _ (And.intro (pJ.refl _) ?_)
  exact rS
 ·rw[bR (show p from Classical.not_not.1 h)]
  exact rS
theorem bO (b:List Int) (w:WK):Spec gT 22 [.ptr 0 0,.ff] [eC b w] [] fun y S'=>y = .tup []/\S' = [eC b { w with e:=201 }]:=by
 refine Spec.rT (Spec.enter al Xh 100 Tryz.func22 rfl (by kernel_rfl) ?_)
 refine⟨[],av,Spec.enter al Xi 100 Tryz.func46 rfl (by kernel_rfl) ?_⟩
 refine Exists.intro _ (And.intro (pJ.refl _) ?_)
 exact rS
theorem mF (b:List Int) (w:WK):Spec gT 22 [.ptr 0 0,.tt] [eC b w] [] fun y S'=>y = .tup []/\S' = [eC b w]:=by
 refine Spec.rT (Spec.enter al Xh 100 Tryz.func22 rfl (by kernel_rfl) ?_)
 exact rS
theorem o5 (b:List Int) (hb:oK b) (hl:b.length<=100000) (w:WK) (n:Int) (hn:ck n):Spec gT 121 [.ptr 0 0,.int .i64 n] [eC b w] [] fun y S'=>y=bX (iA b n)/\S' = [eC b (aC w (eA b n=0))]:=by
 have ha:=qs b hb hl n hn
 have hr:=@bz b n
 refine Spec.rT (Spec.enter al Xk 100 Tryz.func121 rfl (by kernel_rfl) ?_)
 refine ha.u ?_
 generalize iA b n=i at hr ⊢
 generalize eA b n=e at hr ⊢
 refine⟨fun he=>?_,fun he=>?_⟩
 ·have jy:=(hr he).1.1
  refine (bs b w (0<=n)).e ?_
  rw[bR jy,bR he]
  exact rS
 ·refine (bO b w).e ?_
  rw[cX he]
  exact rS
open Classical in
noncomputable def fk (w:WK) (n size:Int):Int:=qj w.full w.line (134217728+n) size
def yB (w:WK) (n size:Int):WK:={ w with full:=True,line:=v8 (134217728+n) size }
open Classical in
noncomputable def dt (b:List Int) (w:WK):WK :=
 if (aC w (eA b w.at_=0)).e≠0 then aC w (eA b w.at_=0)
 else if w.bN then { w with bN:=False,at_:=w.at_+aY (iA b w.at_).form }
 else { yB w w.at_ (aY (iA b w.at_).form) with bN:=False,at_:=w.at_+aY (iA b w.at_).form }
open Classical in
noncomputable def eX (b:List Int) (w:WK):Int :=
 if (aC w (eA b w.at_=0)).e≠0 then 0 else if w.bN then 0 else fk w w.at_ (aY (iA b w.at_).form)
theorem iT (w:WK) (n size:Int):0<=fk w n size/\fk w n size<=2:=by
 unfold fk qj eU
 repeat' split
 all_goals omega
theorem sA (b:List Int) (w:WK) (n size:Int) (h0:0<=n) (h1:n<=100000) (hs:size=2\/size=4):Spec gT 142 [.ptr 0 0,.int .i64 n,.int .i64 size] [eC b w] [] fun y S'=>y = .int .i64 (fk w n size)/\S' = [eC b (yB w n size)]:=by
 have hf:=@lE w.full (Classical.propDecidable _) w.line (134217728+n) size ⟨by omega,by omega⟩ hs
 refine Spec.rT (Spec.enter al Xx 100 Tryz.func142 rfl (by kernel_rfl) ?_)
 refine lu ?_ (show 0<=n/\n<=4294967295 by omega)
 refine lu ?_ (show 0<=134217728+n/\134217728+n<=4294967295 by omega)
 refine hf.u ?_
 exact rS
theorem mG {w:WK} {p:Prop} (h:¬ (aC w p).e≠0):p/\w.e=0:=by
 have h:=Classical.not_not.1 h
 unfold aC at h
 by_cases hp:p
 ·refine⟨hp,?_⟩
  rw[if_pos hp] at h; exact h
 ·rw[if_neg hp] at h
  exact absurd h (show ¬ (201:Int)=0 by decide)
open Classical in
theorem z6 (b:List Int) (hb:oK b) (hl:b.length<=100000) (w:WK) (hn:ck w.at_):Spec gT 119 [.ptr 0 0] [eC b w] [] fun y S'=>y = .tup [bX (iA b w.at_),.int .i64 (eX b w)]/\S' = [eC b (dt b w)]:=by
 refine Spec.rT (Spec.enter al Xj 100 Tryz.func119 rfl (by kernel_rfl) ?_)
 refine (o5 b hb hl w w.at_ hn).e ?_
 refine⟨fun he=>?_,fun he=>?_⟩
 ·have e1:dt b w=aC w (eA b w.at_=0):=by unfold dt; rw[if_pos (show (aC w (eA b w.at_=0)).e≠0 from he)]
  have e2:eX b w=0:=by unfold eX; rw[if_pos (show (aC w (eA b w.at_=0)).e≠0 from he)]
  rw[e1,e2]
  exact rS
 ·have xf:¬ (aC w (eA b w.at_=0)).e≠0:=he
  obtain⟨h1,h2⟩:=mG xf
  obtain⟨⟨Hx,QZ⟩,hr,GB⟩:=bz h1
  have hs:=eW hr
  have e1:dt b w=if w.bN then { w with bN:=False,at_:=w.at_+aY (iA b w.at_).form } else { yB w w.at_ (aY (iA b w.at_).form) with bN:=False,at_:=w.at_+aY (iA b w.at_).form }:=by unfold dt; rw[if_neg xf]
  have e2:eX b w=if w.bN then 0 else fk w w.at_ (aY (iA b w.at_).form):=by unfold eX; rw[if_neg xf]
  rw[e1,e2,bR h1]
  clear e1 e2 he xf
  have qt:=eE (iA b w.at_)
  generalize iA b w.at_=i at hs qt ⊢
  generalize aY i.form=z at hs qt ⊢
  refine⟨fun hf=>?_,fun hf=>?_⟩
  ·rw[if_neg (show ¬ w.bN from hf),if_neg (show ¬ w.bN from hf)]
   refine qt.u ?_
   refine (sA b w w.at_ z Hx (by omega) hs).e ?_
   refine qt.u ?_
   refine li ?_ (show _<=w.at_+z/\w.at_+z<=_ by omega)
   exact rS
  ·have hf':w.bN:=Classical.not_not.1 hf
   rw[if_pos hf',if_pos hf']
   refine qt.u ?_
   refine li ?_ (show _<=w.at_+z/\w.at_+z<=_ by omega)
   exact rS
theorem Fm:∀ s:Fin 35,(cW (s.1:Int)).an=0\/(cW (s.1:Int)).an=16639\/(cW (s.1:Int)).an=33023:=by decide
theorem BR (f:Int):0<=af f/\af f<=34:=by
 unfold af
 split
 ·have key:∀ n:Fin 101,0<=Q1.getD n.1 0/\Q1.getD n.1 0<=34:=by decide
  exact key ⟨f.toNat,by omega⟩
 ·decide
theorem dA {i:IN} (h:bD i) (hi:Kc i):0<=i.an/\i.an<=65535:=by
 obtain⟨hf,h1,h2,h3,h4,h5,_⟩:=h
 have hb:=BR i.form
 have hr:=Fm ⟨(af i.form).toNat,by omega⟩
 rw[show (((⟨(af i.form).toNat,by omega⟩:Fin 35).1:Nat):Int)=af i.form by simp only[]; omega] at hr
 have hI:=hi i.an (by simp[yo])
 rcases h5 with ⟨_,e⟩|⟨hn,h0,ha⟩
 ·omega
 ·rcases hr with e|e|e
  ·exact absurd e hn
  ·rw[e] at ha
   have:=tJ 14 (by decide) (by decide) i.an 16639 (by decide) h0 hI.2 ha
   omega
  ·rw[e] at ha
   have:=tJ 15 (by decide) (by decide) i.an 33023 (by decide) h0 hI.2 ha
   omega
theorem wc (i:IN) (t:Prop) [Decidable t] {a b:Int} (ha:cA a) (hb:cA b) (h0:0<=i.an) (h1:i.an<=65535):1<=fi i t a b/\fi i t a b<=20:=by
 have e1:=qh ha.2
 have e2:=dD i.an h0 h1
 unfold fi
 repeat' split
 all_goals first|omega|(unfold kS; split<;>omega)|(unfold divC; split<;>omega)
def BS (f:Int):Prop:=f=46\/f=47\/f=99\/f=100\/f=31
theorem Jb (i:IN):ai gT 9 [bX i] (.bool (BS i.form)):=by
 refine Spec.enter al P9 100 Tryz.func9 rfl (by kernel_rfl) ?_
 unfold BS
 repeat' ((conv=>whnf); first|(refine (And.intro (fun _=>?_) (fun _=>?_):(_->_)/\(_->_))<;>(first|(exfalso; first|contradiction|omega)|skip))|refine Or.inl (And.intro (by first|exact ay (by omega)|exact ah (by omega)|exact c_ (by omega)|exact ey (by omega)) ?_)|(refine And.intro (show (_:Int)≠0 by omega) (Or.inl (And.intro (show (0:Int)<=_ by omega) (And.intro (show (0:Int) < _ by omega) ?_))))|(refine And.intro (show (_:Int)≠0 by omega) (Or.inl (And.intro (show (0:Int)<=_ by omega) (And.intro (by first|exact (show (_:Int)<=9223372036854775807 by omega)|exact (show (_:Int)<=4294967295 by omega)) (And.intro (show (0:Int) < _ by omega) ?_)))))|(refine aj ?_; (show (_=46\/_=47\/_=99\/_=100\/_=31)); omega)|(refine aj ?_; show ¬ _; omega)|(intro _))
def dT (i:IN):Prop:=i.form=43/\BI i.an
theorem sB (i:IN):ai gT 68 [bX i] (.bool (dT i)):=by
 refine Spec.enter al P68 100 Tryz.func68 rfl (by kernel_rfl) ?_
 refine⟨fun h=>?_,fun h=>?_⟩
 ·refine⟨by decide,?_⟩
  exact aj (show (_:Prop)↔dT i from ⟨fun q=>⟨h,q⟩,fun q=>q.2⟩)
 ·exact aj (show ¬ dT i from fun q=>h q.1)
theorem Fo:¬ bD iZ:=fun h=>absurd h.1 (by decide)
theorem z7 {w:Int} {wide:Prop} (h:E_ w wide≠0):CA w wide=iZ:=by
 unfold E_ at h
 unfold CA
 split at h
 ·exact absurd rfl h
 ·rename_i hn
  rw[dif_neg hn]
theorem UM {b:List Int} {n:Int} (h:eA b n≠0):iA b n=iZ:=by
 unfold eA at h
 unfold iA
 split at h
 ·rename_i hr
  rw[if_pos hr]
  unfold CC at h
  unfold CB
  split at h
  ·rename_i h1
   rw[if_pos h1]
  ·rename_i h1
   rw[if_neg h1]
   split at h
   ·rename_i h2
    rw[if_pos h2]; exact z7 h
   ·rename_i h2
    rw[if_neg h2]
    split at h
    ·rename_i h3
     rw[if_pos h3]
    ·rename_i h3
     rw[if_neg h3]; exact z7 h
 ·rename_i hr
  rw[if_neg hr]
open Classical in
noncomputable def dU (b:List Int) (n:Int):Int:=if eA b n=0 then fi (iA b n) False 0 0 else 0
theorem Fp (b:List Int) (n:Int):0<=dU b n/\dU b n<=20:=by
 unfold dU
 split
 ·rename_i h
  obtain⟨_,hr,GB⟩:=bz h
  obtain⟨r0,r1⟩:=dA hr GB
  have:=wc (iA b n) False (a:=0) (b:=0) ⟨by decide,by decide⟩ ⟨by decide,by decide⟩ r0 r1
  exact⟨by omega,this.2⟩
 ·decide
theorem yC (b:List Int) (n:Int):∃ e,ai gT 10 [bX (iA b n),.bool False,.int .u32 0,.int .u32 0] (.tup [.int .i64 (dU b n),.int .i64 e]):=by
 by_cases h:eA b n=0
 ·obtain⟨_,hr,GB⟩:=bz h
  obtain⟨r0,r1⟩:=dA hr GB
  have:=BJ (iA b n) False 0 0 hr (GB (iA b n).aw (by simp[yo])) r0 r1 ⟨by decide,by decide⟩ ⟨by decide,by decide⟩
  refine⟨0,?_⟩
  rw[show dU b n=fi (iA b n) False 0 0 by unfold dU; rw[if_pos h]]
  exact this
 ·refine⟨10,?_⟩
  rw[UM h,show dU b n=0 by unfold dU; rw[if_neg h]]
  refine Spec.enter al ZG 100 Tryz.func10 rfl (by kernel_rfl) ?_
  refine (lx iZ (by unfold ck; decide)).u ?_
  refine⟨fun _=>?_,fun h=>absurd (Classical.not_not.1 h) Fo⟩
  exact rA
structure DV where
 at_:Int
 a:T
 b:T
def mU (d:DV):PV:=.agg [.int .i64 d.at_,.int .i64 d.a.op,.int .u32 d.a.num,.sl 3 (cb d.a),.int .i64 d.b.op,.int .u32 d.b.num,.sl 3 (cb d.b)]
inductive G where
 | mk (op n:Int) (l:List G)
namespace G
def op:G->Int|.mk o _ _=>o
def n:G->Int|.mk _ n _=>n
def l:G->List G|.mk _ _ l=>l
end G
mutual
def eG:G->List PV
 | .mk _ _ l=>gM l
def gM:List G->List PV
 | []=>[]
 | g::l=>.agg [.int .i64 g.op,.int .u32 g.n,.sl 3 (eG g)]::gM l
end
structure eY where
 w:WK
 out:List C
 aN:List DV
def qu (d:DV):C:=.mk 6 0 0 0 0 d.a d.b []
open Classical in
noncomputable def bJ (b:List Int) (x:eY):eY :=
 let w1:=aC x.w (¬ x.w.last)
 let i:=iA b x.w.at_
 let w4:={ aC (dt b w1) (¬ BS i.form/\i.form≠45) with last:=dT i }
 let out:=x.out++[aE (dU b x.w.at_) (eX b w1)]
 if i.form≠97 then ⟨w4,out,x.aN⟩ else match x.aN with
  | []=>⟨{ w4 with e:=201 },out,[]⟩
  | d::l=>if d.at_≠x.w.at_ then ⟨{ w4 with e:=201 },out,d::l⟩ else ⟨w4,out++[qu d],l⟩
def yD (b:List Int) (x:eY):Prop:=(iA b x.w.at_).form=97/\match x.aN with
 | []=>True
 | d::_=>d.at_≠x.w.at_
open Classical in
noncomputable def runN (b:List Int) (till:Int):Nat->eY->eY
 | 0,x=>x
 | n+1,x=>if x.w.at_ < till/\x.w.e=0 then (if yD b x then bJ b x else runN b till n (bJ b x)) else x
open Classical in
noncomputable def we (till:Int) (x:eY):Nat:=if x.w.e=0 then (till - x.w.at_).toNat else 0
theorem z8 {b:List Int} {w:WK} (h:(dt b w).e=0):w.e=0/\eA b w.at_=0/\(dt b w).at_=w.at_+aY (iA b w.at_).form:=by
 unfold dt at h ⊢
 by_cases he:(aC w (eA b w.at_=0)).e≠0
 ·rw[if_pos he] at h; exact absurd h he
 ·rw[if_neg he] at h ⊢
  obtain⟨h1,h2⟩:=mG he
  refine⟨h2,h1,?_⟩
  split<;>rfl
theorem qv (b:List Int) (w:WK):(dt b w).at_=w.at_\/(eA b w.at_=0/\(dt b w).at_=w.at_+aY (iA b w.at_).form):=by
 unfold dt
 by_cases he:(aC w (eA b w.at_=0)).e≠0
 ·rw[if_pos he]; exact .inl rfl
 ·rw[if_neg he]
  obtain⟨h1,h2⟩:=mG he
  refine .inr ⟨h1,?_⟩
  split<;>rfl
theorem cm {w:WK} {p:Prop} (h:(aC w p).e=0):p/\w.e=0:=mG (fun k=>k h)
theorem qw (b:List Int) (x:eY):(bJ b x).w.at_=(dt b (aC x.w (¬ x.w.last))).at_:=by
 unfold bJ
 simp only
 split
 ·rfl
 ·split
  ·rfl
  ·split<;>rfl
theorem tZ {b:List Int} {x:eY} (h:(bJ b x).w.e=0):eA b x.w.at_=0/\x.w.e=0/\¬ x.w.last/\(bJ b x).w.at_=x.w.at_+aY (iA b x.w.at_).form:=by
 have ha:=qw b x
 have key:(aC (dt b (aC x.w (¬ x.w.last))) (¬ BS (iA b x.w.at_).form/\(iA b x.w.at_).form≠45)).e=0:=by
  unfold bJ at h
  simp only at h
  split at h
  ·exact h
  ·split at h
   ·exact absurd (show (201:Int)=0 from h) (by decide)
   ·split at h
    ·exact absurd (show (201:Int)=0 from h) (by decide)
    ·exact h
 obtain⟨_,h1⟩:=cm key
 obtain⟨h2,h3,h4⟩:=z8 h1
 obtain⟨h5,h6⟩:=cm h2
 exact⟨h3,h6,h5,ha.trans h4⟩
theorem sC {b:List Int} {till:Int} {x:eY} (h:x.w.at_ < till/\x.w.e=0):we till (bJ b x) < we till x:=by
 unfold we
 rw[if_pos h.2]
 by_cases he:(bJ b x).w.e=0
 ·rw[if_pos he]
  obtain⟨h1,_,_,h4⟩:=tZ he
  have hs:=eW (bz h1).2.1
  omega
 ·rw[if_neg he]; omega
end Go.Proofs.YtnbhdacpogplgaaGreatDoor.Pw

/- What this claim is proved with: no condition. -/
import Derived.Test.YtlgkljpgagfndaaGreatDoorNu5
set_option linter.unusedVariables false
set_option linter.unusedSimpArgs false
namespace Go.Proofs.YtlgkljpgagfndaaGreatDoor.Pw
open Go Go.RowKit
section
variable {w w':World} {I I':Nat->Prop} {β aU:aB} {cx:Ev.Cx} {G:Gx} {P:Program} {s:ba} {a:Act} {st eU:List an}
def fB (w:World) (I:Nat->Prop) (es:List PV) (n:Nat) (xs:List Value):Prop :=
 xs.length=es.length*n/\∀ i e,es[i]?=some e->e.cells.length=n/\∀ j c,e.cells[j]?=some c->∃ v,xs[i*n+j]?=some v/\c.Is w I (fun _=>none) v/\v.oneCell'=true
def eA (w:World) (I:Nat->Prop) (β:aB) (cs:List PV) (xs:List Value):Prop:=xs.length=cs.length/\∀ (j:Nat) (c:PV),cs[j]?=some c->∃ v:Value,xs[j]?=some v/\c.Is w I β v/\v.oneCell'=true
def pY (w:World) (I:Nat->Prop) (β:aB) (n:Nat):Src->List Value->Prop
 | .stat cs,xs=>eA w I β cs xs
 | .told es,xs=>fB w I es n xs
theorem fB.append {es fs:List PV} {n:Nat} {xs ys:List Value} (h:fB w I es n xs) (k:fB w I fs n ys):fB w I (es++fs) n (xs++ys):=by
 refine⟨by rw[List.length_append,List.length_append,h.1,k.1,Nat.add_mul],fun i e he=>?_⟩
 by_cases hi:i < es.length
 ·rw[List.getElem?_append_left hi] at he
  obtain⟨h1,h2⟩:=h.2 i e he
  refine⟨h1,fun j c hc=>?_⟩
  obtain⟨v,hv,h3⟩:=h2 j c hc
  have:=(List.getElem?_eq_some_iff.1 hv).1
  exact⟨v,by rw[List.getElem?_append_left this]; exact hv,h3⟩
 ·rw[List.getElem?_append_right (by omega)] at he
  obtain⟨h1,h2⟩:=k.2 _ e he
  refine⟨h1,fun j c hc=>?_⟩
  obtain⟨v,hv,h3⟩:=h2 j c hc
  have e1:es.length*n<=i*n:=Nat.mul_le_mul_right _ (by omega)
  refine⟨v,?_,h3⟩
  rw[List.getElem?_append_right (by rw[h.1]; omega),h.1,show i*n+j - es.length*n=(i - es.length)*n+j by rw[Nat.sub_mul]; omega]
  exact hv
theorem eA.append {cs ds:List PV} {xs ys:List Value} (h:eA w I β cs xs) (k:eA w I β ds ys):eA w I β (cs++ds) (xs++ys):=by
 refine⟨by rw[List.length_append,List.length_append,h.1,k.1],fun j c hc=>?_⟩
 by_cases hj:j < cs.length
 ·rw[List.getElem?_append_left hj] at hc
  rw[List.getElem?_append_left (by rw[h.1]; exact hj)]
  exact h.2 j c hc
 ·rw[List.getElem?_append_right (by omega)] at hc
  rw[List.getElem?_append_right (by rw[h.1]; omega),h.1]
  exact k.2 _ c hc
theorem fB.mono {es:List PV} {n:Nat} {xs:List Value} (hI:∀ g,I g->I' g) (hw:∀ g,I g->w'.heap[g]?=w.heap[g]?) (h:fB w I es n xs):fB w' I' es n xs :=
 ⟨h.1,fun i e he=>⟨(h.2 i e he).1,fun j c hc=>let ⟨v,h1,h2,h3⟩:=(h.2 i e he).2 j c hc; ⟨v,h1,PV.Is.mono hI hw c _ _ v (fun _ _ _ h=>h) h2,h3⟩⟩⟩
theorem eA.mono {cs:List PV} {xs:List Value} (hI:∀ g,I g->I' g) (hw:∀ g,I g->w'.heap[g]?=w.heap[g]?) (hb:∀ l p,β l=some p->aU l=some p) (h:eA w I β cs xs):eA w' I' aU cs xs :=
 ⟨h.1,fun j c hc=>let ⟨v,h1,h2,h3⟩:=h.2 j c hc; ⟨v,h1,PV.Is.mono hI hw c _ _ v (fun l p _=>hb l p) h2,h3⟩⟩
theorem cD.row:∀ {es:List PV} {n g o:Nat},cD w I es n g o->∃ xs,fB w I es n xs/\∀ j v,xs[j]?=some v->w.cell? ⟨g,o+j,none⟩=some v
 | [],n,g,o,_=>⟨[],⟨by simp,fun i e he=>by simp at he⟩,fun j v h=>by simp at h⟩
 | e::es,n,g,o,h=>by
  rw[cD.cons] at h
  obtain⟨⟨hl,hc⟩,h⟩:=h
  obtain⟨xs,hx,hy⟩:=cD.row h
  have key:∀ (cs:List PV) (o:Nat),du w I cs g o->∃ ys:List Value,ys.length=cs.length/\(∀ (j:Nat) (c:PV),cs[j]?=some c->∃ v:Value,ys[j]?=some v/\c.Is w I (fun _=>none) v/\v.oneCell'=true)/\∀ (j:Nat) (v:Value),ys[j]?=some v->w.cell? ⟨g,o+j,none⟩=some v:=by
   intro cs
   induction cs with
   | nil=>intro o _; exact⟨[],rfl,fun j c h=>by simp at h,fun j v h=>by simp at h⟩
   | cons c cs ih =>
    intro o h
    simp only[du] at h
    obtain⟨⟨v,h1,h2⟩,h3⟩:=h
    obtain⟨ys,g1,g2,g3⟩:=ih (o+1) h3
    refine⟨v::ys,by simp[g1],fun j c' zO=>?_,fun j u hu=>?_⟩
    ·cases j with
     | zero=>simp at zO; subst zO; exact⟨v,rfl,h2⟩
     | succ j=>simpa using g2 j c' (by simpa using zO)
    ·cases j with
     | zero=>simp at hu; subst hu; exact h1
     | succ j=>rw[show o+(j+1)=o+1+j by omega]; exact g3 j u (by simpa using hu)
  obtain⟨ys,g1,g2,g3⟩:=key e.cells o hc
  have Kq:ys.length=n:=by omega
  refine⟨ys++xs,?_,fun j v hv=>?_⟩
  ·refine⟨by rw[List.length_append,hx.1,List.length_cons,Kq,Nat.succ_mul]; omega,fun i e' CT=>?_⟩
   cases i with
   | zero =>
    simp at CT; subst CT
    refine⟨hl,fun j c hj=>?_⟩
    obtain⟨v,hv,h2⟩:=g2 j c hj
    have:=(List.getElem?_eq_some_iff.1 hv).1
    exact⟨v,by rw[Nat.zero_mul,Nat.zero_add,List.getElem?_append_left this]; exact hv,h2⟩
   | succ i =>
    obtain⟨h1,h2⟩:=hx.2 i e' (by simpa using CT)
    refine⟨h1,fun j c hj=>?_⟩
    obtain⟨v,hv,h3⟩:=h2 j c hj
    refine⟨v,?_,h3⟩
    rw[Nat.succ_mul,List.getElem?_append_right (by omega),show i*n+n+j - ys.length=i*n+j by omega]
    exact hv
  ·by_cases hj:j < ys.length
   ·rw[List.getElem?_append_left hj] at hv; exact g3 j v hv
   ·rw[List.getElem?_append_right (by omega)] at hv
    have:=hy _ v hv
    rw[show o+n+(j - ys.length)=o+j by omega] at this
    exact this
theorem fB.at {es:List PV} {n g:Nat} {xs:List Value} (h:fB w I es n xs) (hc:∀ j v,xs[j]?=some v->w'.cell? ⟨g,j,none⟩=some v) (hI:∀ g,I g->I' g) (hw:∀ g,I g->w'.heap[g]?=w.heap[g]?):cD w' I' es n g 0:=cD.of fun i e he=>by
 obtain⟨h1,h2⟩:=h.2 i e he
 refine⟨h1,du.of fun j c hj=>?_⟩
 obtain⟨v,hv,h3,h4⟩:=h2 j c hj
 exact⟨v,by rw[Nat.zero_add]; exact hc _ v hv,PV.Is.mono hI hw c _ _ v (fun _ _ _ h=>h) h3,h4⟩
theorem fB.Gj {es:List PV} {n:Nat} {xs:List Value} (h:fB w I es n xs):∀ v∈xs,v.oneCell'=true:=by
 intro v hv
 obtain⟨k,hk,rfl⟩:=List.getElem_of_mem hv
 have jq:k < es.length*n:=by rw[← h.1]; exact hk
 have hn:0 < n:=by
  rcases Nat.eq_zero_or_pos n with h0|h0
  ·rw[h0] at jq; omega
  ·exact h0
 have hi:k / n < es.length:=Nat.div_lt_of_lt_mul (by rw[Nat.mul_comm]; exact jq)
 obtain⟨h1,h2⟩:=h.2 _ _ (List.getElem?_eq_getElem hi)
 have hm:k % n < n:=Nat.mod_lt _ hn
 obtain⟨u,hu,_,h3⟩:=h2 (k % n) _ (List.getElem?_eq_getElem (by omega))
 rw[show k / n*n+k % n=k by rw[Nat.mul_comm]; exact Nat.div_add_mod k n,List.getElem?_eq_getElem hk] at hu
 cases hu; exact h3
theorem eA.Gj {cs:List PV} {xs:List Value} (h:eA w I β cs xs):∀ v∈xs,v.oneCell'=true:=by
 intro v hv
 obtain⟨k,hk,rfl⟩:=List.getElem_of_mem hv
 have jq:k < cs.length:=by rw[← h.1]; exact hk
 obtain⟨u,hu,_,h3⟩:=h.2 _ _ (List.getElem?_eq_getElem jq)
 rw[List.getElem?_eq_getElem hk] at hu
 cases hu; exact h3
theorem pY.Gj {n:Nat} {x:Src} {xs:List Value} (h:pY w I β n x xs):∀ v∈xs,v.oneCell'=true:=by
 cases x with
 | stat cs=>exact eA.Gj h
 | told es=>exact fB.Gj h
theorem xv {ag:Bool} {n:Nat} (hn:0 < n) (KV:ag=true\/n=1):∀ (k:Nat) {cs:List PV} {xs:List Value},cs.length=k*n->eA w I β cs xs->(chunk ag n k cs).all PV.elem=true->(chunk ag n k cs).length=k/\fB w I (chunk ag n k cs) n xs
 | 0,cs,xs,hl,h,_=>by
  have:xs = []:=List.eq_nil_of_length_eq_zero (by rw[h.1,hl,Nat.zero_mul])
  subst this
  exact⟨rfl,by simp[chunk],fun i e he=>by simp[chunk] at he⟩
 | k+1,cs,xs,hl,h,eQ=>by
  simp only[chunk,List.all_cons,Bool.and_eq_true] at eQ
  obtain⟨he,eQ⟩:=eQ
  have XK:(cs.drop n).length=k*n:=by rw[List.length_drop,hl,Nat.succ_mul]; omega
  have XL:eA w I β (cs.drop n) (xs.drop n):=⟨by rw[List.length_drop,List.length_drop,h.1],fun j c hc=>by
   rw[List.getElem?_drop] at hc ⊢; exact h.2 _ c hc⟩
  obtain⟨Kk,KF⟩:=xv hn KV k XK XL eQ
  have hcn:n<=cs.length:=by rw[hl,Nat.succ_mul]; omega
  have nr:∀ {c:PV} {y:Value},c.pT=true->c.Is w I β y->c.Is w I (fun _=>none) y:=fun {c y} hc hi=>by
   refine PV.Is.mono (fun _ h=>h) (fun _ _=>rfl) _ β _ _ (fun l p hl=>?_) hi
   cases c<;>simp_all [PV.dv,PV.pT]
  refine⟨by simp[chunk,Kk],by rw[h.1,hl]; simp only[chunk,List.length_cons,Kk],fun i e hi=>?_⟩
  cases i with
  | zero =>
   simp only[chunk,List.getElem?_cons_zero,Option.some.injEq] at hi
   subst hi
   cases ag with
   | true =>
    simp only[if_true,PV.elem,List.all_eq_true] at he
    simp only[if_true,PV.cells]
    refine⟨by rw[List.length_take]; omega,fun j c hj=>?_⟩
    rw[List.getElem?_take] at hj
    split at hj
    ·obtain⟨v,hv,h2,h3⟩:=h.2 j c hj
     refine⟨v,by rw[Nat.zero_mul,Nat.zero_add]; exact hv,nr (he c ?_) h2,h3⟩
     refine List.mem_of_getElem? (i:=j) ?_
     rw[List.getElem?_take,if_pos ‹_›]; exact hj
    ·cases hj
   | false =>
    have l6:n=1:=by simpa using KV
    subst l6
    cases cs with
    | nil=>simp at hcn
    | cons c cs =>
     simp only[Bool.false_eq_true,if_false] at he ⊢
     obtain⟨v,hv,h2,h3⟩:=h.2 0 c rfl
     have hc1:c.cells = [c]:=by
      cases c<;>first|rfl|(simp only[PV.Is] at h2; obtain⟨vs,rfl,_⟩:=h2; simp[Value.oneCell'] at h3)
     rw[hc1]
     refine⟨rfl,fun j c' hj=>?_⟩
     cases j with
     | zero =>
      simp at hj; subst hj
      refine⟨v,by simpa using hv,nr ?_ h2,h3⟩
      cases c<;>first|exact he|(exfalso; simp only[PV.Is] at h2; obtain⟨vs,rfl,_⟩:=h2; simp[Value.oneCell'] at h3)
     | succ j=>simp at hj
  | succ i =>
   simp only[chunk,List.getElem?_cons_succ] at hi
   obtain⟨h1,h2⟩:=KF.2 i e hi
   refine⟨h1,fun j c hj=>?_⟩
   obtain⟨v,hv,h3⟩:=h2 j c hj
   refine⟨v,?_,h3⟩
   rw[List.getElem?_drop] at hv
   rw[Nat.succ_mul,show i*n+n+j=n+(i*n+j) by omega]
   exact hv
theorem By {x:PV} {v:Value} (h:x.Is w I β v):x.norm.Is w I β v:=by
 cases x<;>first|exact h|(simp only[PV.norm,PV.Is] at h ⊢; exact h)
theorem zP {cs:List PV} {xs:List Value} (h:eA w I β cs xs):eA w I β (cs.map PV.norm) xs:=by
 refine⟨by rw[List.length_map]; exact h.1,fun j c hj=>?_⟩
 rw[List.getElem?_map,Option.map_eq_some_iff] at hj
 obtain⟨d,hd,rfl⟩:=hj
 obtain⟨v,h1,h2,h3⟩:=h.2 j d hd
 exact⟨v,h1,By h2,h3⟩
theorem gQ {ag:Bool} {n:Nat} (hn:0 < n) (KV:ag=true\/n=1) {x:Src} {es:List PV} {xs:List Value} {len:Nat} (h:gA ag n x=some es) (hx:pY w I β n x xs) (hl:xs.length=len*n):es.length=len/\fB w I es n xs:=by
 have hc:∀ {a b:Nat},a*n=b*n->a=b:=fun h=>Nat.eq_of_mul_eq_mul_right hn h
 cases x with
 | told es' =>
  simp only[gA,Option.some.injEq] at h
  subst h
  exact⟨hc (by rw[← hx.1,hl]),hx⟩
 | stat cs =>
  simp only[gA,Bm,Nat.zero_add] at h
  split at h
  ·rename_i eQ
   cases h
   have Fq:cs.length=len*n:=by rw[← hx.1,hl]
   have hd:cs.length / n=len:=by rw[Fq]; exact Nat.mul_div_cancel _ hn
   rw[hd] at eQ ⊢
   exact xv hn KV len (by rw[List.length_map]; exact Fq) (zP hx) eQ
  ·cases h
theorem nR {arr:Array Value} {g:Nat} {ty:TypeId} {fr:Nat × Nat} (hh:w.heap[g]?=some (.cells arr ty fr)) (o k:Nat):∀ (j:Nat) (v:Value),((arr.toList.drop o).take k)[j]?=some v->w.cell? ⟨g,o+j,none⟩=some v:=fun j v hv=>by
 rw[List.getElem?_take] at hv
 split at hv
 ·rw[List.getElem?_drop] at hv
  rw[Ev.gy hh]; simpa using hv
 ·cases hv
theorem K5 (hO:Ev.gw cx) (hh:aN I β st w) {n:Nat} (hn:0 < n) {x:PV} {u:Value} {q:Src->Prop} (h:PT cx st n x q) (hx:x.Is w I β u) :
  ∃ src ad len c news,q src/\u = .slice ad len c/\pY w I β n src news/\news.length=len*n/\(len=0\/∃ g o,ad=some ⟨g,o,none⟩)/\∀ g o,ad=some ⟨g,o,none⟩->∀ j v,news[j]?=some v->w.cell? ⟨g,o+j,none⟩=some v:=by
 unfold PT at h
 split at h<;>try simp only[PV.Is] at hx
 ·exact⟨_,none,0,0,[],h,hx,⟨by simp,fun i e he=>by simp at he⟩,by simp,.inl rfl,fun _ _ _ j v hv=>by simp at hv⟩
 ·rename_i m es
  replace h:=bs h
  obtain⟨hm,h⟩:=h
  have hm:=Nat.eq_of_beq_eq_true hm
  obtain⟨ad,cap,rfl,_,_,h4,h5⟩:=hx
  by_cases h0:es.length=0
  ·have:es = []:=List.eq_nil_of_length_eq_zero h0
   subst this
   exact⟨_,ad,0,cap,[],h,rfl,⟨by simp,fun i e he=>by simp at he⟩,by simp,.inl rfl,fun _ _ _ j v hv=>by simp at hv⟩
  ·obtain⟨g,o,rfl,hg,_⟩:=h5 h0
   obtain⟨xs,h6,h7⟩:=(h4 g o rfl).row
   rw[hm] at h6
   exact⟨_,_,es.length,cap,xs,h,rfl,h6,h6.1,(.inr ⟨_,_,rfl⟩),fun g' o' e=>by cases e; exact h7⟩
 ·rename_i l off len
  replace h:=aD h
  obtain⟨b,hb,h⟩:=h
  replace h:=bs h
  obtain⟨hc,h⟩:=h
  simp only[Bool.and_eq_true] at hc
  have hle:=Nat.le_of_ble_eq_true hc.2
  obtain⟨p,g,o,cap,hp,ha,rfl,_⟩:=hx
  obtain⟨arr,ty,fr,jo,qK,_⟩:=jY hh hb hc.1 hp ha
  have ga:0 < len*n->o+off+len*n<=arr.size:=fun h0=>by
   obtain⟨z,hz,_⟩:=qK _ _ (List.getElem?_eq_getElem (show off+len*n - 1 < b.cs.length by omega))
   have:=(Array.getElem?_eq_some_iff.1 hz).1
   omega
  have Ks:((arr.toList.drop (o+off)).take (len*n)).length=len*n:=by
   rw[List.length_take,List.length_drop,Array.length_toList]
   rcases Nat.eq_zero_or_pos (len*n) with h0|h0
   ·omega
   ·have:=ga h0; omega
  refine⟨_,_,len,cap,_,cS h,rfl,⟨?_,fun j c hj=>?_⟩,Ks,(.inr ⟨_,_,rfl⟩),fun g' o' e=>by cases e; exact nR jo _ _⟩
  ·rw[Ks,List.length_take,List.length_drop]; omega
  ·rw[List.getElem?_take] at hj
   split at hj
   ·rename_i vz
    rw[List.getElem?_drop] at hj
    obtain⟨v,hv,h1,h2⟩:=qK _ _ hj
    exact⟨v,by rw[List.getElem?_take,if_pos vz,List.getElem?_drop]; simpa [Nat.add_assoc] using hv,h1,h2⟩
   ·cases hj
 ·rename_i l
  replace h:=aD h
  obtain⟨b,hb,h⟩:=h
  replace h:=bs h
  obtain⟨hc,h⟩:=h
  simp only[Bool.and_eq_true] at hc
  have xr:=Nat.eq_of_beq_eq_true hc.2
  obtain⟨p,hp,rfl⟩:=hx
  split at h
  ·rename_i hk
   obtain⟨g,arr,fr,ha,hw,jo,qK,_,hlen,hle,_,has,_⟩:=gk hh hb hc.1 hk hp
   rw[xr] at hlen has
   have ga:p.len*n<=arr.size:=by rw[has]; exact Nat.mul_le_mul_right _ hle
   refine⟨_,_,p.len,p.cap,(arr.toList.drop 0).take (p.len*n),h,hw,⟨?_,fun j c hj=>?_⟩,?_,(.inr ⟨_,_,rfl⟩),fun g' o' e=>by cases e; exact nR jo _ _⟩
   ·rw[List.length_take,List.length_drop,Array.length_toList]; omega
   ·obtain⟨v,hv,h1,h2⟩:=qK _ _ hj
    have vz:j < p.len*n:=by rw[← hlen]; exact (List.getElem?_eq_some_iff.1 hj).1
    exact⟨v,by rw[List.getElem?_take,if_pos vz,List.getElem?_drop]; simpa using hv,h1,h2⟩
   ·rw[List.length_take,List.length_drop,Array.length_toList]; omega
  ·rename_i hk
   obtain⟨_,hlen,hle,_,nO⟩:=dS hh hb hc.1 hk hp
   rcases nO with ⟨_,rf,hw⟩|⟨g,arr,fr,ha,hw,jo,pW,_,has⟩
   ·have gq:b.cs = []:=List.eq_nil_of_length_eq_zero (by omega)
    rw[gq] at h
    exact⟨_,none,0,0,[],h,hw,⟨by simp,fun i e he=>by simp at he⟩,by simp,.inl rfl,fun _ _ _ j v hv=>by simp at hv⟩
   ·obtain⟨xs,h6,h7⟩:=pW.row
    rw[xr] at h6
    exact⟨_,_,p.len,p.cap,xs,h,hw,h6,by rw[h6.1,hlen],(.inr ⟨_,_,rfl⟩),fun g' o' e=>by cases e; exact h7⟩
  ·exact h.elim
 ·exact h.elim
theorem xw {l:Nat} {b:an} {q:List an->Prop} (hb:st[l]?=some b) (h:F2 st l q):∃ b',b'.live=false/\q (st.set l b'):=by
 replace h:=aD h
 obtain⟨b2,eu,h⟩:=h
 cases b2
 exact⟨_,rfl,(l_ h).2⟩
theorem Gk (hh:aN I β st w) {n:Nat} (hn:0 < n) {elem:TypeId} {x:PV} {v:Value} {q:Src->List an->Prop} (h:F3 st elem n x q) (hx:x.Is w I β v) :
  ∃ dst eU xs len,q dst eU/\w.ownsRow 0 elem n v len xs/\pY w I β n dst xs/\xs.length=len*n/\aN I β eU w/\eU.length=st.length/\Ext I β st w I β eU w/\(∀ g,v.ownBlock=some g->Wr β st g/\¬ I g/\¬ jV β eU g)/\(v = .slice none 0 0\/∃ ad m c,v = .slice (some ad) m c):=by
 unfold F3 at h
 split at h<;>try simp only[PV.Is] at hx
 ·subst hx
  exact⟨_,st,[],0,h,World.ownsRow_nil _ _ _ _,⟨by simp,fun j c hj=>by simp at hj⟩,by simp,hh,rfl,Ext.refl,fun g e=>by simp[Value.ownBlock] at e,.inl rfl⟩
 ·rename_i l
  replace h:=aD h
  obtain⟨b,hb,h⟩:=h
  replace h:=bs h
  obtain⟨hc,h⟩:=h
  simp only[Bool.and_eq_true] at hc
  obtain⟨aP,hm⟩:=vx hc.1.1
  have xr:=Nat.eq_of_beq_eq_true hc.1.2
  have Gl:=Nat.eq_of_beq_eq_true hc.2
  obtain⟨p,hp,rfl⟩:=hx
  have dead:∀ {g o:Nat} {b':an},p.a=some (g,o)->b'.live=false->(Own I β st l g (0,0) b\/∃ fr,Own I β st l g fr b)->Wr β st g/\¬ I g/\¬ jV β (st.set l b') g:=by
   intro g o b' ha dw ho
   have ho:∃ fr,Own I β st l g fr b:=ho.elim (fun h=>⟨_,h⟩) id
   obtain⟨fr,ho⟩:=ho
   refine⟨⟨l,b,p,o,hb,aP,hm,hp,ha⟩,(ho.1 (by rw[hm]; decide)).2.1,fun ⟨l2,b2,p2,o2,h1,h2,h3,h4⟩=>?_⟩
   by_cases dk:l2=l
   ·subst dk
    rw[List.getElem?_set_self (by simpa using (List.getElem?_eq_some_iff.1 h1).1)] at h1
    cases h1; rw[dw] at h2; cases h2
   ·rw[List.getElem?_set_ne (fun e=>dk e.symm)] at h1
    exact (ho.1 (by rw[hm]; decide)).2.2 l2 b2 dk h1 h2 p2 g o2 h3 h4 rfl
  split at h
  ·rename_i hk
   obtain⟨b',dw,h⟩:=xw hb h
   obtain⟨g,arr,fr,ha,hw,jo,qK,fR,hlen,hle,tE,has,_⟩:=gk hh hb aP hk hp
   rw[xr] at hlen has
   have Bv:fr=(0,0):=(fR.1 (by rw[hm]; decide)).1
   subst Bv
   have ga:p.len*n<=arr.size:=by rw[has]; exact Nat.mul_le_mul_right _ hle
   have rr:(arr.toList.take (p.len*n)).length=p.len*n:=by rw[List.length_take,Array.length_toList]; omega
   refine⟨_,_,arr.toList.take (p.len*n),p.len,h,⟨rr,.inr ⟨g,p.cap,arr,hw,Nat.zero_le _,by rw[← Gl]; exact jo,hle,tE,has,rfl⟩⟩,⟨by rw[rr,hlen],fun j c hj=>?_⟩,rr,hh.kill l dw,by simp,Ext.kill dw,fun g' e=>?_,.inr ⟨_,_,_,hw⟩⟩
   ·obtain⟨u,hu,h1,h2⟩:=qK _ _ hj
    have vz:j < p.len*n:=by rw[← hlen]; exact (List.getElem?_eq_some_iff.1 hj).1
    exact⟨u,by rw[List.getElem?_take,if_pos vz]; simpa using hu,h1,h2⟩
   ·rw[hw] at e
    simp only[Value.ownBlock,Option.some.injEq] at e
    subst e
    exact dead ha dw (.inl fR)
  ·rename_i hk
   obtain⟨b',dw,h⟩:=xw hb h
   obtain⟨_,hlen,hle,tE,nO⟩:=dS hh hb aP hk hp
   rcases nO with ⟨_,rf,hw⟩|⟨g,arr,fr,ha,hw,jo,pW,fR,has⟩
   ·have gq:b.cs = []:=List.eq_nil_of_length_eq_zero (by omega)
    rw[gq] at h
    rw[hw]
    exact⟨_,_,[],0,h,World.ownsRow_nil _ _ _ _,⟨by simp,fun i e he=>by simp at he⟩,by simp,hh.kill l dw,by simp,Ext.kill dw,fun g e=>by simp[Value.ownBlock] at e,.inl rfl⟩
   ·rw[xr] at pW has
    have Bv:fr=(0,0):=(fR.1 (by rw[hm]; decide)).1
    subst Bv
    obtain⟨xs,h6,h7⟩:=pW.row
    have ga:p.len*n<=arr.size:=by rw[has]; exact Nat.mul_le_mul_right _ hle
    have rr:xs.length=p.len*n:=by rw[h6.1,hlen]
    refine⟨_,_,xs,p.len,h,⟨rr,.inr ⟨g,p.cap,arr,hw,Nat.zero_le _,by rw[← Gl]; exact jo,hle,tE,has,?_⟩⟩,h6,rr,hh.kill l dw,by simp,Ext.kill dw,fun g' e=>?_,.inr ⟨_,_,_,hw⟩⟩
    ·apply List.ext_getElem?
     intro j
     rw[List.getElem?_take]
     split
     ·rename_i hj
      have XC:j < xs.length:=by omega
      have:=h7 j _ (List.getElem?_eq_getElem XC)
      rw[Ev.gy jo,Nat.zero_add] at this
      rw[List.getElem?_eq_getElem XC]; simpa using this
     ·rename_i hj
      rw[List.getElem?_eq_none (by omega)]
    ·rw[hw] at e
     simp only[Value.ownBlock,Option.some.injEq] at e
     subst e
     exact dead ha dw (.inl fR)
  ·exact h.elim
 ·exact h.elim
theorem qo (t ty e:TypeId) (i:TypeInfo) (ht:P.underlying t=some (.slice e)) (hi:P.info? e=some i) (b:Option Addr) (n cap c:Nat) (hle:n<=cap):(Builtin.append_ #[t,t] ty #[.slice b n cap,.slice none 0 c]).run P w = .ok (.slice b n cap) w:=by
 cases b<;>simp[Builtin.append_,run_underlying ht,sizeOf,typeInfo,hi,Builtin.lenOf,Builtin.firstCells,hle,storeCells]
end
section
variable {w w':World} {I I':Nat->Prop} {β aU:aB} {cx:Ev.Cx} {G:Gx} {P:Program} {s:ba} {a:Act} {st eU:List an}
theorem xx (s:ba) (x y:List an):(s.store x).store y=s.store y:=by cases s; rfl
theorem Ext.add2 {lj:List an} (h:aN I β lj w) (m7:∀ g,Wr β lj g->Wr β st g) (hos:w'.os=w.os) (Gc:w'.tape=w.tape) (rh:w'.output=w.output) (ga:w.heap.size<=w'.heap.size) {b:an} {p:o8} (hw:∀ g,g < w.heap.size->¬ Wr β st g->w'.heap[g]?=w.heap[g]?)
  (hp:∀ g o,p.a=some (g,o)->g < w.heap.size->Wr β st g):Ext I β st w I (β.set lj.length p) (lj++[b]) w' :=
 ⟨hos,Gc,rh,ga,hw,fun g hg ⟨l,b',q,o,h1,h2,h3,h4,h5⟩=>by
  unfold aB.set at h4
  split at h4
  ·cases h4
   exact hp g o h5 hg
  ·have:=h.lt h4
   rw[List.getElem?_append_left this] at h1
   exact m7 g ⟨l,b',q,o,h1,h2,h3,h4,h5⟩,fun _ h=>h,fun _ _ h=>.inl h⟩
theorem ry (hR:Rel G I β s a w) {lj:List an} (hk:aN I β lj w) (m7:∀ g,Wr β lj g->Wr β s.st g) (hlen:lj.length=s.st.length) {v:Value} (hv:∀ g,v.ownBlock=some g->Wr β s.st g/\¬ I g/\¬ jV β lj g)
  (hg:w.grownBy w' v.ownBlock) {b:an} {p:o8} {q:PV->ba->Prop} (h:nL (s.store lj) b q) (hp:∀ g o,p.a=some (g,o)->v.ownBlock=some g\/g=w.heap.size) (hm:b.m = .w)
  (hb:(∀ g,p.a=some (g,0)->Own I (β.set lj.length p) (lj++[b]) lj.length g (0,0) b)->(∀ g,I g->w'.heap[g]?=w.heap[g]?)->gz I (β.set lj.length p) (lj++[b]) w' lj.length b):dj G s I β w a q p.whole w':=by
 have zu:(s.store lj).st=lj:=(ba.eP s lj).2.2.1
 unfold nL at h
 rw[zu] at h
 replace h:=ma (gY h)
 rw[Nat.zero_add,xx] at h
 have qn:=aB.jW hk p
 have fR:∀ g,jV β lj g\/I g->w'.heap[g]?=w.heap[g]?:=fun g Gm=>by
  refine hg.block g (Gm.elim hk.dW (hR.ay.ay g)) fun e=>?_
  obtain⟨_,h1,h2⟩:=hv g e.symm
  exact Gm.elim h2 h1
 have gb:∀ g o,p.a=some (g,o)->¬ I g/\¬ jV β lj g:=fun g o ha=>by
  rcases hp g o ha with e|e
  ·exact (hv g e).2
  ·subst e
   exact⟨fun h=>by have:=hR.ay.ay _ h; omega,fun h=>by have:=hk.dW h; omega⟩
 have hO:∀ g,p.a=some (g,0)->Own I (β.set lj.length p) (lj++[b]) lj.length g (0,0) b:=fun g ha=>by
  refine⟨fun _=>⟨rfl,(gb g 0 ha).1,fun l' b' dk jT fA p' g' o' e_ dH e=>?_⟩,fun hr=>by rw[hm] at hr; cases hr⟩
  subst e
  unfold aB.set at e_
  rw[if_neg dk] at e_
  have:=hk.lt e_
  rw[List.getElem?_append_left this] at jT
  exact (gb _ _ ha).2 ⟨l',b',p',o',jT,fA,e_,dH⟩
 have hH:=hk.add fR gb (hb hO fun g hg=>fR g (.inr hg))
 have hE:Ext I β s.st w I (β.set lj.length p) (lj++[b]) w':=Ext.add2 hk m7 hg.os hg.tape hg.output hg.size (fun g cE hn=>hg.block g cE fun e=>hn (hv g e.symm).1) fun g o ha cE=>by
  rcases hp g o ha with e|e
  ·exact (hv g e).1
  ·omega
 refine dj.mk' hR h hH hE qn (by simp; omega) (fun l hl=>if_neg (by omega)) ?_
 simp only[PV.Is]; exact⟨_,aB.dB ..,rfl⟩
theorem zQ (hG:m5 G) (hR:Rel G I β s a w) {t ty:TypeId} {d x:PV} {u v:Value} {q:PV->ba->Prop} (h:Bn G s t d x q) (hd:d.Is w I β v) (hx:x.Is w I β u) :
  ∃ r w',(Builtin.append_ #[t,t] ty #[v,u]).run G.cx.P w = .ok r w'/\dj G s I β w a q r w':=by
 replace h:=aD h
 obtain⟨td,hu,h⟩:=h
 split at h
 ·rename_i elem
  replace h:=aD h
  obtain⟨n,hn,h⟩:=h
  replace h:=aD h
  obtain⟨ag,KV,h⟩:=h
  replace h:=aD h
  obtain⟨bF,OJ,h⟩:=h
  replace h:=jU (w:=w) (I:=I) (β:=β) hG.ok h
  obtain⟨z,i,zv,h,hi,Ko,vu⟩:=h
  replace h:=bs h
  obtain⟨hc,h⟩:=h
  simp only[Bool.and_eq_true,Bool.or_eq_true] at hc
  have jk:0 < n:=Nat.le_of_ble_eq_true hc.1.1
  have hzn:z.length=n:=Nat.eq_of_beq_eq_true hc.1.2
  have XM:ag=true\/n=1:=hc.2.imp id Nat.eq_of_beq_eq_true
  obtain⟨i1,hi1,vB⟩:=Ev.jR hG.ok hn
  rw[hi] at hi1
  cases hi1
  obtain⟨i3,OM,WH⟩:=hG.bF _ (Ev.jn OJ)
  simp only at OM WH
  rw[hi] at OM
  cases OM
  have hzl:=vu.length
  simp only[Array.length_toList] at hzl
  replace h:=K5 hG.ok hR.heap jk h hx
  obtain⟨src,ad,len,c,news,h,rfl,rz,Ks,P0,XN⟩:=h
  replace h:=Gk hR.heap jk h hd
  obtain⟨dst,lj,xs,pf,h,fR,P',rr,hk,XO,K6,hv,hvf⟩:=h
  have m7:∀ g,Wr β lj g->Wr β s.st g:=fun g hw=>by
   have:=K6.wr g
   rcases Nat.lt_or_ge g w.heap.size with cE|Bz
   ·exact this cE hw
   ·obtain⟨l,b,p,o,h1,h2,h3,h4,h5⟩:=hw
    have:=hk.dW ⟨l,b,p,o,h1,h2,h4,h5⟩
    omega
  have XP:=rz.Gj
  
  have run:(pf+len)<=maxLen->(pf+len)*bF<=140737488355328->∃ r w',(Builtin.append_ #[t,t] ty #[v,.slice ad len c]).run G.cx.P w = .ok r w'/\w'.ownsRow 0 elem n r (pf+len) (xs++news)/\w.grownBy w' v.ownBlock/\(r.ownBlock=v.ownBlock\/r.ownBlock=some w.heap.size):=by
   intro h1 h2
   cases ad with
   | none =>
    have Ft:len=0:=by rcases P0 with h|⟨g,o,h⟩<;>first|exact h|cases h
    subst Ft
    have PY:news = []:=List.eq_nil_of_length_eq_zero (by rw[Ks,Nat.zero_mul])
    subst PY
    have hvv:∃ b m c',v = .slice b m c'/\m<=c':=by
     rcases fR.2 with ⟨rfl,_⟩|⟨g,cap,cur,rfl,_,_,hle,_⟩
     ·exact⟨_,_,_,rfl,Nat.le_refl _⟩
     ·exact⟨_,_,_,rfl,hle⟩
    obtain⟨b,m,c',rfl,hle⟩:=hvv
    refine⟨_,w,qo t ty elem i (hG.ok.un hu) hi b m c' c hle,?_,⟨rfl,rfl,rfl,Nat.le_refl _,fun _ _ _=>rfl⟩,.inl rfl⟩
    rw[List.append_nil]; exact fR
   | some ad =>
    obtain⟨r,w',hr,h3,h4,_,h5⟩:=run_append_own_at (P:=G.cx.P) w 0 t ty elem i zv n bF (hG.ok.un hu) hi Ko vB WH (by omega) jk v pf xs fR ad len c news Ks (fun j u hj=>by
     rcases P0 with h0|⟨g,o,e⟩
     ·rw[h0,Nat.zero_mul] at Ks
      have:=List.eq_nil_of_length_eq_zero Ks
      subst this; simp at hj
     ·cases e
      rw[Ev.iT]; exact XN g o rfl j u hj) XP h1 h2 (Nat.zero_le _)
    exact⟨r,w',hr,h3,h4,h5⟩
  
  have nS:∀ {r:Value} {w':World} {b:an},w'.ownsRow 0 elem n r (pf+len) (xs++news)->w.grownBy w' v.ownBlock->(r.ownBlock=v.ownBlock\/r.ownBlock=some w.heap.size)->nL (s.store lj) b q->b.m = .w ->
    (∀ (p:o8),((p.a=none/\p.len=0/\p.cap=0/\pf+len=0)\/∃ g cur,p.a=some (g,0)/\p.len=pf+len/\w'.heap[g]?=some (.cells cur elem (0,0))/\p.len<=p.cap/\p.cap<=maxLen/\cur.size=p.cap*n/\(∀ (j:Nat) (v:Value),(xs++news)[j]?=some v->cur[j]?=some v)) ->
     (∀ g,p.a=some (g,0)->Own I (β.set lj.length p) (lj++[b]) lj.length g (0,0) b)->(∀ g,I g->w'.heap[g]?=w.heap[g]?)->gz I (β.set lj.length p) (lj++[b]) w' lj.length b)->dj G s I β w a q r w':=by
   intro r w' b xy hg nQ h hm hb
   rcases xy.2 with ⟨rfl,h0⟩|⟨g,cap,cur,rfl,_,m8,hle,tE,iD,iU⟩
   ·have:=ry (p:=⟨none,0,0⟩) hR hk m7 XO hv hg h (fun g o e=>by cases e) hm (hb ⟨none,0,0⟩ (.inl ⟨rfl,rfl,rfl,h0⟩))
    exact this
   ·have:=ry (p:=⟨some (g,0),pf+len,cap⟩) hR hk m7 XO hv hg h (fun g' o e=>by
     cases e
     simp only[Value.ownBlock] at nQ
     exact nQ.imp (fun e=>e.symm) (fun e=>by cases e; rfl)) hm (hb ⟨some (g,0),pf+len,cap⟩ (.inr ⟨g,cur,rfl,rfl,m8,hle,tE,iD,fun j v hj=>by
      rw[← iU,List.getElem?_take] at hj
      split at hj
      ·simpa using hj
      ·cases hj⟩))
    exact this
  have nP:∀ {w':World},w.grownBy w' v.ownBlock->∀ g,I g->w'.heap[g]?=w.heap[g]?:=fun hg g hI=>hg.block g (hR.ay.ay g hI) fun e=>(hv g e.symm).2.1 hI
  have hlenE:(xs++news).length=(pf+len)*n:=by rw[List.length_append,rr,Ks,Nat.add_mul]
  have told:(bB (gA ag n dst) fun es=>bB (gA ag n src) fun fs=>es.length+fs.length<=maxLen/\(es.length+fs.length)*bF<=140737488355328/\nL (s.store lj) ⟨.dyn,elem,n,.w,true,es++fs⟩ q)->∃ r w',(Builtin.append_ #[t,t] ty #[v,.slice ad len c]).run G.cx.P w = .ok r w'/\dj G s I β w a q r w':=by
   intro h
   replace h:=aD h
   obtain⟨es,pW,h⟩:=h
   replace h:=aD h
   obtain⟨fs,Xx,h⟩:=h
   obtain⟨he1,he2⟩:=gQ jk XM pW P' rr
   obtain⟨hf1,XQ⟩:=gQ jk XM Xx rz Ks
   obtain⟨h1,h2,h⟩:=h
   rw[he1,hf1] at h1 h2
   obtain⟨r,w',hr,xy,hg,nQ⟩:=run h1 h2
   refine⟨r,w',hr,nS xy hg nQ h rfl fun p hp hO hI=>⟨p,aB.dB ..,?_⟩⟩
   rcases hp with ⟨ha,hl,hcp,h0⟩|⟨g,cur,ha,hl,m8,hle,tE,iD,mH⟩
   ·exact⟨⟨jk,by simp only[List.length_append]; omega,by omega,by rw[hcp]; exact Nat.zero_le _⟩,.inl ⟨ha,hcp⟩⟩
   ·refine⟨⟨jk,by simp only[List.length_append]; omega,hle,tE⟩,.inr ⟨g,cur,(0,0),ha,m8,?_,hO g ha,iD⟩⟩
    exact (he2.append XQ).at (fun j v hj=>by rw[Ev.gy m8]; exact mH j v hj) (fun _ h=>h) hI
  split at h
  ·rename_i cs ds
   rw[l9,l9,Nat.zero_add,Nat.zero_add] at h
   replace h:=bs h
   obtain⟨iP,h⟩:=h
   simp only[Bool.and_eq_true] at iP
   obtain⟨⟨⟨hd0,hd1⟩,hd2⟩,hd3⟩:=iP
   have hd0:0 < ds.length:=Nat.le_of_ble_eq_true hd0
   have hd2:=Nat.le_of_ble_eq_true hd2
   have hd3:=Nat.le_of_ble_eq_true hd3
   replace h:=cS h
   have Fq:cs.length=pf*n:=by rw[← P'.1,rr]
   have hdl:ds.length=len*n:=by rw[← rz.1,Ks]
   have e1:pf<=pf*n:=Nat.le_mul_of_pos_right _ jk
   have e2:len<=len*n:=Nat.le_mul_of_pos_right _ jk
   obtain⟨r,w',hr,xy,hg,nQ⟩:=run (by omega) (Nat.le_trans (Nat.mul_le_mul_right _ (by omega)) hd2)
   have hlen0:0 < len:=by
    rcases Nat.eq_zero_or_pos len with h0|h0
    ·rw[h0,Nat.zero_mul] at hdl; omega
    ·exact h0
   refine⟨r,w',hr,nS xy hg nQ h rfl fun p hp hO hI=>⟨p,aB.dB ..,?_⟩⟩
   rcases hp with ⟨ha,hl,hcp,h0⟩|⟨g,cur,ha,hl,m8,hle,tE,iD,mH⟩
   ·omega
   ·refine⟨g,cur,(0,0),ha,m8,fun j c hj=>?_,hO g ha,by simp only[List.length_append]; rw[hl,Nat.add_mul]; omega,hle,tE,iD,jk⟩
    obtain⟨v',h1,h2,h3⟩:=(eA.append P' rz).2 j c hj
    exact⟨v',by rw[Nat.zero_add]; exact mH j v' h1,PV.Is.mono (fun _ h=>h) hI c β _ v' (fun l p' _ e_=>aB.jW hk p l p' e_) h2,h3⟩
  ·exact told h
 ·exact h.elim
theorem xz (hR:Rel G I β s a w):∀ {os:List Operand} {q:List PV->Prop},Bo s os q->∃ l,q l/\bG w I l β (os.map a.eval)
 | [],q,h=>⟨[],h,by simp only[List.map_nil,bG]⟩
 | o::os,q,h=>by
  replace h:=ba.cN hR h
  obtain⟨x,h,hx⟩:=h
  obtain⟨l,h,hl⟩:=xz hR h
  exact⟨_,h,by simp only[List.map_cons,bG]; exact⟨hx,hl⟩⟩
theorem TM.pg {rl:List Nat}:∀ {t:TM} {n:Nat} {x:PV},(t.clear rl).get n=some x->t.get n=some x/\x.leads rl=false
 | .nil,n,x,h=>by cases h
 | .node v l r,n,x,h=>by
  simp only[TM.clear,TM.get] at h ⊢
  cases h0:Nat.beq n 0<;>rw[h0] at h
  ·cases h1:Nat.beq (n % 2) 1<;>rw[h1] at h
   ·exact TM.pg (t:=r) h
   ·exact TM.pg (t:=l) h
  ·cases v with
   | none=>cases h
   | some y =>
    simp only[cond_true] at h ⊢
    split at h
    ·cases h
    ·cases h
     rename_i hl
     exact⟨rfl,by simpa using hl⟩
theorem CU {rl:List Nat} {t:TM} {q:TM->Prop} (h:zH rl t q):∃ t',q t'/\∀ n x,t'.get n=some x->t.get n=some x/\∀ l∈x.dv,l ∉ rl:=by
 unfold zH at h
 split at h
 ·exact⟨t,h,fun n x hx=>⟨hx,fun _ _ hl=>by cases hl⟩⟩
 ·refine⟨_,h,fun n x hx=>?_⟩
  obtain⟨h1,h2⟩:=TM.pg hx
  refine⟨h1,fun l hl hr=>?_⟩
  unfold PV.leads at h2
  rw[List.any_eq_false] at h2
  refine h2 l hl (List.any_eq_true.2 ⟨l,hr,?_⟩)
  exact Nat.beq_refl l
theorem Gn (hR:Rel G I β s a w) {f:FuncId} {args:List PV} {vals:List Value} {q:PV->ba->Prop} (h:F4 G s f args q) (ha:bG w I args β vals) :
  Ev.iu G.cx.P f/\Calls G.cx.P f vals.toArray w fun e w'=>∃ v,e = .returned v/\dj G s I β w a q v w':=by
 obtain⟨n,t,st,b,rl0⟩:=s
 obtain⟨rl,ON,hs⟩:=h
 unfold Spec at hs
 obtain⟨he,hs⟩:=hs
 refine⟨he,(hs I β w vals hR.heap hR.ay ha).mono fun e w' ⟨v,r,S',I',aU,he,hk,hr,hH,hM,hE,hlen,m4⟩=>⟨v,he,?_⟩⟩
 obtain⟨t',hq,Bs⟩:=CU hk
 refine⟨r,_,I',aU,hq,⟨hR.small,hR.defers,hR.size,Nat.le_trans hR.base hlen,fun m x hx=>?_,hH,hM⟩,hr,hE,rfl,rfl,rfl,fun l hl hn=>?_,fun l b' dw hm=>m4 l (List.getElem?_eq_some_iff.1 dw).1 fun hr=>(ON l hr).2 b' dw hm⟩
 ·obtain⟨h1,h2⟩:=Bs m x hx
  obtain⟨u,hu,hi⟩:=hR.get m x h1
  refine⟨u,hu,PV.Is.mono hE.ay (hE.keeps hR.heap hR.ay.ay) x β aU u (fun l p hl hp=>?_) hi⟩
  rw[m4 l (hR.heap.lt hp) (h2 l hl)]; exact hp
 ·have jT:l < b:=hl
  refine m4 l (Nat.lt_of_lt_of_le jT hR.base) fun hr=>?_
  rcases (ON l hr).1 with h|h
  ·omega
  ·exact hn h
set_option maxHeartbeats 1000000 in
theorem vC (hG:m5 G) (hR:Rel G I β s a w) {o:Oper} {q:PV->ba->Prop} (h:pop G s o q):Ev.nF G.cx.P (dj G s I β w a q) ((execOp a.eval o).run G.cx.P w):=by
 have xA:∀ {q':PV->Prop},pS G.cx s o.op q'->(∀ v,q' v->q v s)->Ev.nF G.cx.P (dj G s I β w a q) ((execOp a.eval o).run G.cx.P w):=by
  intro q' h hq
  obtain⟨x,r,hx,hi,hr⟩:=xo hG.ok hR h
  rw[hr w]
  exact dj.same hR (hq x hx) hi
 unfold pop at h
 split at h
 ·
  rename_i t ad vE
  replace h:=ba.cN hR h
  obtain⟨x,h,hx⟩:=h
  obtain⟨z,v,g,h,hz,_,cj⟩:=ri hG.ok hR.heap hR.ay h hx
  replace cj:=cj w rfl
  unfold execOp
  rw[vE]
  simp only[Sem.run_bind,cj,Result.andThen_ok,Sem.run_pure]
  exact dj.same hR h hz
 ·
  rename_i t ad y vE
  replace h:=ba.cN hR h
  obtain⟨x,h,hx⟩:=h
  replace h:=ba.cN hR h
  obtain⟨v,h,hv⟩:=h
  obtain⟨w',cj,hp⟩:=CS hG hR h hx hv
  unfold execOp
  rw[vE]
  simp only[Sem.run_bind,cj,Result.andThen_ok,Sem.run_pure]
  exact hp
 ·
  rename_i t vE
  replace h:=jU (w:=w) (I:=I) (β:=β) hG.ok h
  obtain⟨z,i,v,h,hi,Ko,vu⟩:=h
  replace h:=bs (cS h)
  obtain⟨eQ,h⟩:=h
  rw[List.all_eq_true] at eQ
  have cj:(execOp a.eval o).run G.cx.P w = .ok (.value (.pointer (some ⟨w.heap.size,0,none⟩))) (w.alloc (.cells v.cells t)):=by
   unfold execOp
   rw[vE]
   simp[Instr.alloc,zeroValue,typeInfo,hi,Ko,newVar,newRow]
  rw[cj]
  exact Bx hR h vu eQ
 ·
  rename_i t y vE
  replace h:=ba.cN hR h
  obtain⟨x,h,hx⟩:=h
  have cj:(execOp a.eval o).run G.cx.P w = .ok (.value (.pointer (some ⟨w.heap.size,0,none⟩))) (w.alloc (.cells (a.eval y).cells t)):=by
   unfold execOp
   rw[vE]
   simp[Instr.box,newVar,newRow]
  rw[cj]
  split at h
  ·exact h.elim
  ·rename_i Bt
   replace h:=bs h
   obtain⟨eQ,h⟩:=h
   rw[List.all_eq_true] at eQ
   exact Bx hR (cS h) (hx.lx fun vs e=>Bt vs e) eQ
 ·
  rename_i t len ps vE
  replace h:=aD h
  obtain⟨d,hu,h⟩:=h
  split at h
  ·rename_i elem
   replace h:=aD h
   obtain⟨n,hn,h⟩:=h
   replace h:=jU (w:=w) (I:=I) (β:=β) hG.ok h
   obtain⟨z,i,v,h,hi,Ko,vu⟩:=h
   replace h:=o_ hR h
   obtain⟨l,h,hl⟩:=h
   replace h:=bs h
   obtain⟨hc,h⟩:=h
   simp only[Bool.and_eq_true] at hc
   have hzl:z.length=n:=Nat.eq_of_beq_eq_true hc.1.1
   have nT:len*n<=16777216:=Nat.le_of_ble_eq_true hc.1.2
   have jk:0 < n:=Nat.le_of_ble_eq_true hc.2
   replace h:=nM h
   obtain⟨cs,XR,h⟩:=h
   replace h:=bs (cS h)
   obtain⟨iP,h⟩:=h
   simp only[Bool.and_eq_true,List.all_eq_true] at iP
   have Fq:=Nat.eq_of_beq_eq_true iP.1.2
   have tE:=Nat.le_of_ble_eq_true iP.2
   have hzs:=vu.length
   simp only[Array.length_toList] at hzs
   have rep:∀ k,bG w I ((List.replicate k z).flatten) β ((List.replicate k v.cells.toList).flatten):=fun k=>by
    induction k with
    | zero=>simp only[List.replicate_zero,List.flatten_nil,bG]
    | succ k ih=>simp only[List.replicate_succ,List.flatten_cons]; exact vu.append ih
   have P_:bG w I ((List.replicate len z).flatten) β ((Array.range (len*n)).map fun i=>v.cells[i % v.cells.size]!).toList:=by
    rw[show n=v.cells.size by omega,Ev.FQ len (by omega)]; exact rep len
   obtain⟨B,hB,Xy⟩:=nN XR P_ hl
   have cj:(execOp a.eval o).run G.cx.P w = .ok (.value (.slice (some ⟨w.heap.size,0,none⟩) len len)) (w.alloc (.cells B elem)):=by
    unfold execOp
    rw[vE]
    have hB':Instr.fill (fun i=>some (i*n,n)) ((Array.range (len*n)).map fun i=>v.cells[i % v.cells.size]!) (ps.map fun (i,y)=>(i,a.eval y)).toList=some B:=by
     rw[← hB]; simp
    have OO:¬ (len*n > 2 ^ 24):=by omega
    by_cases h0:len*n=0
    ·have hE:∀ g:Nat->Value,(Array.range (len*n)).map g = #[]:=fun g=>by rw[h0]; simp
     rw[hE] at hB'
     simp only[Instr.buildSlice,Sem.run_bind,run_underlying (hG.ok.un hu),Result.andThen_ok,Ev.eJ hG.ok hn,if_neg OO,if_pos h0,Sem.run_pure,hE,hB']
     simp[newRow]
    ·have hzr:(zeroValue elem).run G.cx.P w = .ok v w:=by simp[zeroValue,typeInfo,hi,Ko]
     simp only[Instr.buildSlice,Sem.run_bind,run_underlying (hG.ok.un hu),Result.andThen_ok,Ev.eJ hG.ok hn,if_neg OO,if_neg h0,Sem.run_pure,hzr,hB']
     simp[newRow]
   rw[cj]
   exact Gi hR h Xy iP.1.1 Fq jk tE
  ·exact h.elim
 ·
  rename_i y WB argTypes vE
  replace h:=ba.cN hR h
  obtain⟨x,h,hx⟩:=h
  split at h
  ·rename_i f kY
   cases K6:G.ext.any (Nat.beq f) with
   | true=>rw[K6] at h; replace h:qZ G s o q:=h; unfold qZ at h; exact h I β a w hR
   | false =>
   rw[K6] at h
   replace h:Bo s WB fun l=>F4 G s f (l++kY) q:=h
   simp only[PV.Is] at hx
   obtain⟨cvs,hfv,hcv⟩:=hx
   replace h:=xz hR h
   obtain⟨l,h,hl⟩:=h
   obtain⟨hent,XT⟩:=Gn hR h (hl.append hcv)
   have cj:(execOp a.eval o).run G.cx.P w = .ok (.enter f (WB.map a.eval++cvs.toList).toArray) w:=by
    unfold execOp
    rw[vE]
    have e1:(Array.mk WB).map a.eval++cvs=(WB.map a.eval++cvs.toList).toArray:=by simp
    simp only[resolve,hfv,Deferred.ofValue,Sem.run_bind,Sem.run_pure,Result.andThen_ok,invoke]
    simp only[Array.empty_append]
    rw[e1]
    exact hent _ w
   rw[cj]
   exact XT
  ·exact h.elim
 ·
  rename_i od ox t t' vE
  replace h:=bs h
  obtain⟨ht,h⟩:=h
  have:=Nat.eq_of_beq_eq_true ht
  subst this
  replace h:=ba.cN hR h
  obtain⟨d,h,hd⟩:=h
  replace h:=ba.cN hR h
  obtain⟨x,h,hx⟩:=h
  obtain⟨r,w',hr,hp⟩:=zQ (ty:=o.type) hG hR h hd hx
  have cj:(execOp a.eval o).run G.cx.P w = .ok (.value r) w':=by
   unfold execOp
   rw[vE]
   simp[resolve,invoke,builtin,hr]
  rw[cj]
  exact hp
 ·unfold qZ at h; exact h I β a w hR
 ·unfold qZ at h; exact h I β a w hR
 ·unfold qZ at h; exact h I β a w hR
 ·unfold qZ at h; exact h I β a w hR
 ·unfold qZ at h; exact h I β a w hR
 ·unfold qZ at h; exact h I β a w hR
 ·rename_i src dst ox vE
  cases hb:Nat.beq dst 9 with
  | true=>rw[hb] at h; replace h:qZ G s o q:=h; unfold qZ at h; exact h I β a w hR
  | false=>rw[hb] at h; exact xA (by rw[vE]; exact h) fun _ h=>h
 ·exact xA h fun _ h=>h
end
section
variable {w w':World} {I I':Nat->Prop} {β aU:aB} {cx:Ev.Cx} {G:Gx} {P:Program} {s:ba} {a:Act} {st eU:List an}
theorem TM.qL {v:Option PV}:∀ {f:Nat} {t:TM} {n:Nat} {k:TM->Prop},TM.vn v f t n k->∃ t',k t'/\∀ m,t'.get m=if m=n then v else t.get m
 | 0,_,_,_,h=>h.elim
 | f+1,t,n,k,h=>by
  have arith:∀ m,Nat.beq n 0=false->(m=n↔Nat.beq m 0=false/\m % 2=n % 2/\(m - 1) / 2=(n - 1) / 2):=fun m h0=>by
   have hn:n≠0:=fun e=>by subst e; cases h0
   constructor
   ·rintro rfl; exact⟨h0,rfl,rfl⟩
   ·rintro⟨h1,h2,h3⟩
    have hm:m≠0:=fun e=>by subst e; cases h1
    omega
  have key:∀ (u:Option PV) (l r:TM),(bif Nat.beq n 0 then k (.node v l r) else bif Nat.beq (n % 2) 1 then TM.vn v f l ((n - 1) / 2) (fun t=>k (.node u t r)) else TM.vn v f r ((n - 1) / 2) (fun t=>k (.node u l t))) ->
    ∃ t',k t'/\∀ m,t'.get m=if m=n then v else (TM.node u l r).get m:=by
   intro u l r h
   cases h0:Nat.beq n 0<;>rw[h0] at h
   ·cases h1:Nat.beq (n % 2) 1<;>rw[h1] at h
    ·obtain⟨t',hk,ht⟩:=TM.qL h
     refine⟨_,hk,fun m=>?_⟩
     have hp:n % 2=0:=by
      have:n % 2≠1:=fun e=>by rw[e] at h1; cases h1
      omega
     simp only[TM.get]
     cases m0:Nat.beq m 0
     ·cases qF:Nat.beq (m % 2) 1
      ·have rB:m % 2=0:=by
        have:m % 2≠1:=fun e=>by rw[e] at qF; cases qF
        omega
       simp only[cond_false,ht]
       by_cases e:(m - 1) / 2=(n - 1) / 2
       ·rw[if_pos e,if_pos ((arith m h0).2 ⟨m0,by omega,e⟩)]
       ·rw[if_neg e,if_neg fun e'=>e ((arith m h0).1 e').2.2]
      ·have rB:m % 2=1:=Nat.eq_of_beq_eq_true qF
       simp only[cond_false,cond_true]
       rw[if_neg fun e'=>by rw[e'] at rB; omega]
     ·have:=Nat.eq_of_beq_eq_true m0
      subst this
      simp only[cond_true]
      rw[if_neg fun e=>by rw[← e] at h0; cases h0]
    ·obtain⟨t',hk,ht⟩:=TM.qL h
     refine⟨_,hk,fun m=>?_⟩
     have hp:n % 2=1:=Nat.eq_of_beq_eq_true h1
     simp only[TM.get]
     cases m0:Nat.beq m 0
     ·cases qF:Nat.beq (m % 2) 1
      ·simp only[cond_false]
       rw[if_neg fun e'=>by rw[e'] at qF; rw[qF] at h1; cases h1]
      ·have rB:m % 2=1:=Nat.eq_of_beq_eq_true qF
       simp only[cond_false,cond_true,ht]
       by_cases e:(m - 1) / 2=(n - 1) / 2
       ·rw[if_pos e,if_pos ((arith m h0).2 ⟨m0,by omega,e⟩)]
       ·rw[if_neg e,if_neg fun e'=>e ((arith m h0).1 e').2.2]
     ·have:=Nat.eq_of_beq_eq_true m0
      subst this
      simp only[cond_true]
      rw[if_neg fun e=>by rw[← e] at h0; cases h0]
   ·have:=Nat.eq_of_beq_eq_true h0
    subst this
    refine⟨_,h,fun m=>?_⟩
    simp only[TM.get]
    cases m0:Nat.beq m 0
    ·rw[if_neg fun e=>by subst e; cases m0]; rfl
    ·rw[if_pos (Nat.eq_of_beq_eq_true m0)]; rfl
  cases t with
  | nil =>
   obtain⟨t',hk,ht⟩:=key none .nil .nil h
   refine⟨t',hk,fun m=>?_⟩
   rw[ht]
   split
   ·rfl
   ·simp only[TM.get]; cases Nat.beq m 0<;>cases Nat.beq (m % 2) 1<;>rfl
  | node u l r=>exact key u l r h
structure js (s s':ba):Prop where
 n:s'.n=s.n
 st:s'.st=s.st
 base:s'.base=s.base
 rl:s'.rl=s.rl
theorem ba.bV {dst:Option Tmp} {x:PV} {k:ba->Prop} (h:s.put dst x k):∃ s',k s'/\js s s'/\∀ I β a w v,Rel G I β s a w->x.Is w I β v->Rel G I β s' (a.put dst v) w:=by
 obtain⟨n,t,st,b,rl⟩:=s
 unfold ba.put at h
 simp only at h
 split at h
 ·exact⟨_,h,⟨rfl,rfl,rfl,rfl⟩,fun I β a w v hR _=>hR⟩
 ·rename_i d
  replace h:=bs h
  obtain⟨hd,h⟩:=h
  have hd:d < n:=Nat.le_of_ble_eq_true hd
  replace h:=F5 h
  obtain⟨t',hk,ht⟩:=TM.qL h
  refine⟨_,hk,⟨rfl,rfl,rfl,rfl⟩,fun I β a w v hR hx=>⟨hR.small,hR.defers,by simpa [Act.put] using hR.size,hR.base,fun m y hy=>?_,hR.heap,hR.ay⟩⟩
  have ga:d < a.tmps.size:=by rw[hR.size]; exact hd
  have CV:t'.get m=some y:=hy
  rw[ht] at CV
  by_cases e:m=d
  ·subst e
   rw[if_pos rfl] at CV
   cases CV
   exact⟨v,by simp[Act.put,ga],hx⟩
  ·rw[if_neg e] at CV
   obtain⟨u,hu,hi⟩:=hR.get m y CV
   exact⟨u,by simp only[Act.put,Array.getElem?_setIfInBounds_ne (Ne.symm e)]; exact hu,hi⟩
theorem ba.fI {t:Nat} {x:PV} {v:Value} {k:ba->Prop} (hR:Rel G I β s a w) (hv:a.tmps[t]?=some v) (hx:x.Is w I β v) (h:s.put (some t) x k):∃ s',k s'/\js s s'/\Rel G I β s' a w:=by
 obtain⟨s',hk,hs,hr⟩:=ba.bV (G:=G) h
 refine⟨s',hk,hs,?_⟩
 have:=hr I β a w v hR hx
 have e:a.put (some t) v=a:=by
  unfold Act.put
  simp only
  have:a.tmps.setIfInBounds t v=a.tmps:=by
   apply Array.ext_getElem?
   intro i
   rw[Array.getElem?_setIfInBounds]
   split
   ·rename_i hi
    subst hi
    have:=(Array.getElem?_eq_some_iff.1 hv).1
    rw[if_pos this,hv]
   ·rfl
  rw[this]
 rw[e] at this
 exact this
theorem Is.undef:(PV.tup []).Is w I β Go.undef:=by simp only[PV.Is]; exact⟨#[],rfl,by simp only[bG]⟩
theorem iQ {ops:Array Oper} {o:Oper} {run skip:ba->Prop} (hR:Rel G I β s a w) (h:mX ops.toList s o run skip) :
  (Region.wanted o (yielded ops a.tmps)=true/\∃ s',run s'/\js s s'/\Rel G I β s' a w)\/(Region.wanted o (yielded ops a.tmps)=false/\∃ s',skip s'/\js s s'/\Rel G I β s' a w):=by
 have same:js s s:=⟨rfl,rfl,rfl,rfl⟩
 unfold mX at h
 cases hg:o.guard with
 | none =>
  rw[hg] at h
  exact .inl ⟨by simp[Region.wanted,hg],s,h,same,hR⟩
 | some jw =>
  obtain⟨j,want⟩:=jw
  rw[hg] at h
  simp only at h
  replace h:=aD h
  obtain⟨t,ht,h⟩:=h
  replace h:=aD h
  obtain⟨x,hx,h⟩:=h
  obtain⟨v,hv,hi⟩:=hR.get t x hx
  have Bs:(ops[j]?).bind (·.dst)=some t:=by simpa using ht
  have hy:∀ b,v = .bool b->Region.wanted o (yielded ops a.tmps)=(b == want):=fun b hb=>by
   subst hb
   have:yielded ops a.tmps j=some b:=by unfold yielded; rw[Option.bind_eq_some_iff.2 ⟨t,Bs,hv⟩]
   simp[Region.wanted,hg,this]
  split at h<;>try simp only[PV.Is] at hi
  ·cases want
   ·exact .inr ⟨by rw[hy _ hi]; rfl,s,h,same,hR⟩
   ·exact .inl ⟨by rw[hy _ hi]; rfl,s,h,same,hR⟩
  ·cases want
   ·exact .inl ⟨by rw[hy _ hi]; rfl,s,h,same,hR⟩
   ·exact .inr ⟨by rw[hy _ hi]; rfl,s,h,same,hR⟩
  ·rename_i p
   by_cases hp:p
   ·obtain⟨s',hk,hs,hr⟩:=ba.fI hR hv (x:=.tt) (by rw[hi,cz hp]; exact Is.tt) (h.1 hp)
    cases want
    ·exact .inr ⟨by rw[hy _ hi,cz hp]; rfl,s',hk,hs,hr⟩
    ·exact .inl ⟨by rw[hy _ hi,cz hp]; rfl,s',hk,hs,hr⟩
   ·obtain⟨s',hk,hs,hr⟩:=ba.fI hR hv (x:=.ff) (by rw[hi,cb hp]; exact Is.ff) (h.2 hp)
    cases want
    ·exact .inl ⟨by rw[hy _ hi,cb hp]; rfl,s',hk,hs,hr⟩
    ·exact .inr ⟨by rw[hy _ hi,cb hp]; rfl,s',hk,hs,hr⟩
  ·obtain⟨vs,rfl,_⟩:=hi
   refine .inr ⟨?_,s,h,same,hR⟩
   have:yielded ops a.tmps j=none:=by unfold yielded; rw[Option.bind_eq_some_iff.2 ⟨t,Bs,hv⟩]
   simp[Region.wanted,hg,this]
  ·exact h.elim
structure bW (I:Nat->Prop) (β:aB) (s:ba) (w:World) (I':Nat->Prop) (aU:aB) (s':ba) (w':World):Prop where
 ext:Ext I β s.st w I' aU s'.st w'
 base:s'.base=s.base
 rl:s'.rl=s.rl
 n:s'.n=s.n
 low:∀ l,l < s.base->l ∉ s.rl->aU l=β l
theorem bW.same {s':ba} (h:js s s'):bW I β s w I β s' w:=⟨by rw[h.st]; exact Ext.refl,h.base,h.rl,h.n,fun _ _ _=>rfl⟩
theorem bW.trans {Xp:Nat->Prop} {FV:aB} {s' s'':ba} {w9:World} (h:bW I β s w I' aU s' w') (k:bW I' aU s' w' Xp FV s'' w9):bW I β s w Xp FV s'' w9 :=
 ⟨h.ext.trans k.ext,k.base.trans h.base,k.rl.trans h.rl,k.n.trans h.n,fun l hl hr=>(k.low l (by rw[h.base]; exact hl) (by rw[h.rl]; exact hr)).trans (h.low l hl hr)⟩
theorem vG (hG:m5 G) {ops:Array Oper} {Q:X->ba->Prop} {Q':Exit->Act->World->Prop}:∀ (l:List Oper) {s:ba} {a:Act} {I:Nat->Prop} {β:aB} {w:World},xk G ops.toList Q l s->Rel G I β s a w ->
  (∀ x s' I' aU a' w',Q x s'->Rel G I' aU s' a' w'->bW I β s w I' aU s' w'->Q' (X.e x) a' w')->wpList G.cx.P ops Q' l a w
 | [],s,a,I,β,w,h,hR,hQ=>hQ .f_ s I β a w h hR (bW.same ⟨rfl,rfl,rfl,rfl⟩)
 | o::l,s,a,I,β,w,h,hR,hQ=>by
  unfold wpList
  rcases iQ hR h with ⟨hw,s1,h1,mZ,ib⟩|⟨hw,s1,h1,mZ,ib⟩
  ·rw[hw,if_pos rfl]
   refine .inl (Ev.vm (vC hG ib h1) fun v w' hp=>?_)
   obtain⟨x,s2,I2,gl,h2,kO,hx,hE,e1,e2,e3,gJ,_⟩:=hp
   obtain⟨s3,h3,ny,tL⟩:=ba.bV (G:=G) h2
   have g1:bW I β s w I2 gl s2 w':=(bW.same mZ).trans ⟨hE,e1,e2,e3,gJ⟩
   exact vG hG l h3 (tL _ _ _ _ v kO hx) fun x s' I' aU a' w9 hq dm hg=>hQ x s' I' aU a' w9 hq dm ((g1.trans (bW.same ny)).trans hg)
  ·rw[hw,if_neg (by simp)]
   obtain⟨s3,h3,ny,tL⟩:=ba.bV (G:=G) h1
   exact vG hG l h3 (tL _ _ _ _ _ ib Is.undef) fun x s' I' aU a' w9 hq dm hg=>hQ x s' I' aU a' w9 hq dm (((bW.same mZ).trans (bW.same ny)).trans hg)
end
def m9:Op->Bool
 | .load ..=>true
 | _=>false
def bq (op:Op):Bool:=!(Ev.mU op || m9 op)
structure my where
 k:Nat
 D:List Nat
 Y:World->Prop
section
variable {P:Program} {ops:Array Oper} {Q:Exit->Act->World->Prop}
def Yields (P:Program) (ops:Array Oper) (S:World->Prop) (o:Oper) (v:Value) (a:Act):Prop :=
 (Region.wanted o (yielded ops a.tmps)=true/\∀ w,S w->(execOp a.eval o).run P w = .ok (.value v) w)\/(Region.wanted o (yielded ops a.tmps)=false/\v=undef)
theorem Yields.mono {S S':World->Prop} {o:Oper} {v:Value} {a:Act} (hS:∀ w,S' w->S w) (h:Yields P ops S o v a):Yields P ops S' o v a:=h.imp (fun ⟨h1,h2⟩=>⟨h1,fun w hw=>h2 w (hS w hw)⟩) id
theorem Yields.of_same {S:World->Prop} {o:Oper} {v:Value} {a a':Act} (hy:Yields P ops S o v a) (he:execOp a'.eval o=execOp a.eval o) (hw:Region.wanted o (yielded ops a'.tmps)=Region.wanted o (yielded ops a.tmps)):Yields P ops S o v a':=by
 unfold Yields at *; rw[he,hw]; exact hy
def dh (i:Nat) (pins:List my):List my:=pins.filter fun p=>!p.D.any (Nat.beq i)
def dX (P:Program) (ops:Array Oper) (Q:Exit->Act->World->Prop):Nat->Array Bool->Act->(World->Prop)->List my->Prop
 | 0,l,a,S,_=>Region.ready .any ops l = []/\∀ w,S w->Q .normal a w
 | f+1,l,a,S,pins=>(Region.ready .any ops l = []->∀ w,S w->Q .normal a w)/\∀ i∈Region.ready .any ops l,∀ o,ops[i]?=some o ->
   (bq o.op=false->∃ v,Yields P ops S o v a/\dX P ops Q f (l.setIfInBounds i true) (a.put o.dst v) S (dh i pins)) /\
   (bq o.op=true->∀ w,S w->Ev.qm P ops o a w fun v w'=>∃ S':World->Prop,(∀ p∈dh i pins,∀ w,S' w->p.Y w)/\S' w'/\dX P ops Q f (l.setIfInBounds i true) (a.put o.dst v) S' (dh i pins))
theorem dX.sound:∀ (f:Nat) (l:Array Bool) (a:Act) (S:World->Prop) (pins:List my) (w:World),dX P ops Q f l a S pins->S w->wpAny P .any ops Q f l a w
 | 0,l,a,S,_,w,h,hw=>⟨h.1,h.2 w hw⟩
 | f+1,l,a,S,pins,w,h,hw=>by
  refine⟨fun h0=>h.1 h0 w hw,fun i hi=>?_⟩
  obtain⟨o,ho⟩:=Ev.xh hi
  obtain⟨h0,h1⟩:=h.2 i hi o ho
  unfold wpOp
  rw[ho]
  simp only
  by_cases hl:bq o.op=false
  ·obtain⟨v,hy,hn⟩:=h0 hl
   rcases hy with ⟨ic,hy⟩|⟨ic,rfl⟩
   ·rw[if_pos ic]
    refine .inl (Ev.vm (K:=fun u w'=>u=v/\w'=w) (by rw[hy w hw]; exact⟨rfl,rfl⟩) fun u w' ⟨hu,hb⟩=>?_)
    subst hu; subst hb
    exact dX.sound f _ _ S _ w' hn hw
   ·rw[if_neg (by rw[ic]; simp)]
    exact dX.sound f _ _ S _ w hn hw
  ·rcases h1 (by simpa using hl) w hw with ⟨ic,hd⟩|⟨ic,S',_,Kt,hn⟩
   ·rw[if_pos ic]
    refine .inl (Ev.vm hd fun u w' ⟨S',_,Kt,hn⟩=>?_)
    exact dX.sound f _ _ S' _ w' hn Kt
   ·rw[if_neg (by rw[ic]; simp)]
    exact dX.sound f _ _ S' _ w hn Kt
theorem mc {o:Oper} {a:Act} {w:World} {K K':Value->World->Prop} (hK:∀ v w,K v w->K' v w) (h:Ev.qm P ops o a w K):Ev.qm P ops o a w K':=Ev.qm.mono hK h
theorem ph {i:Nat} {pins ux:List my} (h:∀ p∈ux,p∈pins):∀ p∈dh i ux,p∈dh i pins:=fun p hp=>by
 unfold dh at *
 rw[List.mem_filter] at *
 exact⟨h p hp.1,hp.2⟩
theorem dX.sub:∀ (f:Nat) (l:Array Bool) (a:Act) (S:World->Prop) (pins ux:List my),(∀ p∈ux,p∈pins)->dX P ops Q f l a S pins->dX P ops Q f l a S ux
 | 0,_,_,_,_,_,_,h=>h
 | f+1,l,a,S,pins,ux,hs,h=>by
  refine⟨h.1,fun i hi o ho=>?_⟩
  obtain⟨h0,h1⟩:=h.2 i hi o ho
  refine⟨fun hl=>?_,fun hl w hw=>mc (fun v w' ⟨S',h2,h3,h4⟩=>⟨S',fun p hp=>h2 p (ph hs p hp),h3,dX.sub f _ _ _ _ _ (ph hs) h4⟩) (h1 hl w hw)⟩
  obtain⟨v,hy,hn⟩:=h0 hl
  exact⟨v,hy,dX.sub f _ _ _ _ _ (ph hs) hn⟩
theorem dX.first {i:Nat} {oi:Oper} {v:Value} {D:List Nat} {Y:World->Prop} (hi:ops[i]?=some oi) (hli:bq oi.op=false) (zR:Region.noSelect ops=true) :
  ∀ (f:Nat) (l:Array Bool) (a:Act) (S:World->Prop) (pins:List my),
   (∀ j oj,ops[j]?=some oj->j≠i->l.getD j true=false->(∀ e∈oj.after,Region.binds .any e=true->e.on≠i)->oi.apart ops oj=true) ->
   (∀ j∈D,l.getD j false=false/\∃ oj,ops[j]?=some oj/\∃ e∈oj.after,Region.binds .any e=true/\(e.on=i\/e.on∈D)) ->
   Yields P ops Y oi v a->(∀ w,S w->Y w)->i∈Region.ready .any ops l->dX P ops Q f (l.setIfInBounds i true) (a.put oi.dst v) S (⟨i,D,Y⟩::pins)->dX P ops Q (f+1) l a S pins:=by
 intro f
 induction f with
 | zero =>
  intro l a S pins _ _ hY hSY hr H
  refine⟨fun h0=>(by rw[h0] at hr; cases hr),fun j hj o ho=>?_⟩
  by_cases Fs:j=i
  ·subst Fs
   rw[hi] at ho; cases ho
   exact⟨fun _=>⟨v,hY.mono hSY,H⟩,fun h=>by rw[hli] at h; cases h⟩
  ·have:=ready_mono hj Fs
   rw[H.1] at this
   cases this
 | succ f ih =>
  intro l a S pins OP hD hY hSY hr H
  refine⟨fun h0=>(by rw[h0] at hr; cases hr),fun j hj oj mz=>?_⟩
  by_cases Fs:j=i
  ·subst Fs
   rw[hi] at mz; cases mz
   refine⟨fun _=>⟨v,hY.mono hSY,?_⟩,fun h=>by rw[hli] at h; cases h⟩
   refine dX.sub _ _ _ _ _ _ (fun p hp=>?_) H
   unfold dh at hp
   exact List.mem_cons_of_mem _ (List.mem_filter.1 hp).1
  ·obtain⟨XU,oj',rC,eQ⟩:=mem_ready.1 hj
   rw[mz] at rC; cases rC
   have Qa:=(mem_ready.1 hr).1
   have XV:l.getD i false=false:=by
    have cE:i < l.size:=by
     rcases Nat.lt_or_ge i l.size with h'|h'
     ·exact h'
     ·simp[Array.getElem?_eq_none h'] at Qa
    simp[cE] at Qa ⊢; exact Qa
   have XW:∀ e∈oj.after,Region.binds .any e=true->e.on≠i:=fun e he hb heq=>by
    have h1:=eQ e he hb
    rw[heq,XV] at h1; cases h1
   have hjD:D.any (Nat.beq j)=false:=by
    rw[List.any_eq_false]
    intro x hx e
    have:=Nat.eq_of_beq_eq_true e
    subst this
    obtain⟨_,oj2,XA,ed,he,hb,h3⟩:=hD j hx
    rw[mz] at XA; cases XA
    rcases h3 with h3|h3
    ·exact XW ed he hb h3
    ·have h4:=eQ ed he hb
     rw[(hD _ h3).1] at h4; cases h4
   have hjD':j ∉ D:=fun hm=>by
    rw[List.any_eq_false] at hjD
    exact hjD j hm (Nat.beq_refl j)
   have WI:dh j (⟨i,D,Y⟩::pins)=⟨i,D,Y⟩::dh j pins:=by
    unfold dh
    rw[List.filter_cons,if_pos (by simp only[hjD]; rfl)]
   have hap:=OP j oj mz Fs XU XW
   obtain⟨a1,a2,a3⟩:=Oper.apart_spec hap
   have hsi:=fun cs b=>Region.noSelect_spec zR i oi cs b hi
   have hsj:=fun cs b=>Region.noSelect_spec zR j oj cs b mz
   have ej:execOp (a.put oi.dst v).eval oj=execOp a.eval oj:=execOp_put oj hsj a oi.dst v a1
   have wj:Region.wanted oj (yielded ops (a.put oi.dst v).tmps)=Region.wanted oj (yielded ops a.tmps):=wanted_put oj a oi.dst v a1
   have ei:∀ u,execOp (a.put oj.dst u).eval oi=execOp a.eval oi:=fun u=>execOp_put oi hsi a oj.dst u a3
   have wi:∀ u,Region.wanted oi (yielded ops (a.put oj.dst u).tmps)=Region.wanted oi (yielded ops a.tmps):=fun u=>wanted_put oi a oj.dst u a3
   have Gp:∀ k ok,ops[k]?=some ok->k≠i->(l.setIfInBounds j true).getD k true=false->(∀ e∈ok.after,Region.binds .any e=true->e.on≠i)->oi.apart ops ok=true:=fun k ok hk hki WI BA=>by
    refine OP k ok hk hki ?_ BA
    by_cases hjk:j=k
    ·subst hjk; exact XU
    ·rw[getD_set_ne true hjk] at WI; exact WI
   have hD':∀ k∈D,(l.setIfInBounds j true).getD k false=false/\∃ oj,ops[k]?=some oj/\∃ e∈oj.after,Region.binds .any e=true/\(e.on=i\/e.on∈D):=fun k hk=>by
    refine⟨?_,(hD k hk).2⟩
    rw[getD_set_ne false (fun e=>hjD' (by rw[e]; exact hk))]
    exact (hD k hk).1
   obtain⟨h0,h1⟩:=H.2 j (ready_mono hj Fs) oj mz
   rw[WI] at h0 h1
   refine⟨fun hl=>?_,fun hl w hw=>?_⟩
   ·obtain⟨u,hu,hn⟩:=h0 hl
    refine⟨u,hu.of_same ej.symm wj.symm,?_⟩
    refine ih (l.setIfInBounds j true) (a.put oj.dst u) S (dh j pins) Gp hD' (hY.of_same (ei u) (wi u)) hSY (ready_mono hr (Ne.symm Fs)) ?_
    rw[Array.setIfInBounds_comm _ _ Fs,← Act.put_comm a v u a2]
    exact hn
   ·have hd:=h1 hl w hw
    unfold Ev.qm at hd ⊢
    rw[ej,wj] at hd
    have step:∀ u w',(∃ S':World->Prop,(∀ p∈⟨i,D,Y⟩::dh j pins,∀ w,S' w->p.Y w)/\S' w'/\dX P ops Q f ((l.setIfInBounds i true).setIfInBounds j true) ((a.put oi.dst v).put oj.dst u) S' (⟨i,D,Y⟩::dh j pins)) ->
      ∃ S':World->Prop,(∀ p∈dh j pins,∀ w,S' w->p.Y w)/\S' w'/\dX P ops Q (f+1) (l.setIfInBounds j true) (a.put oj.dst u) S' (dh j pins):=by
     rintro u w' ⟨S',Kt,hw',hn⟩
     refine⟨S',fun p hp=>Kt p (List.mem_cons_of_mem _ hp),hw',ih (l.setIfInBounds j true) (a.put oj.dst u) S' (dh j pins) Gp hD' (hY.of_same (ei u) (wi u)) (Kt _ List.mem_cons_self) (ready_mono hr (Ne.symm Fs)) ?_⟩
     rw[Array.setIfInBounds_comm _ _ Fs,← Act.put_comm a v u a2]
     exact hn
    rcases hd with ⟨hw1,hd⟩|⟨hw1,hd⟩
    ·exact .inl ⟨hw1,Ev.l8 step hd⟩
    ·exact .inr ⟨hw1,step _ _ hd⟩
end
end Go.Proofs.YtlgkljpgagfndaaGreatDoor.Pw

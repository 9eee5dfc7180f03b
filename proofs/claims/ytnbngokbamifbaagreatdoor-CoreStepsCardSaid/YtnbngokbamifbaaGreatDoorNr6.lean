/- What this claim is proved with: no condition. -/
import Derived.Test.YtnbngokbamifbaaGreatDoorNr5
set_option linter.unusedVariables false
set_option linter.unusedSimpArgs false
namespace Go.Proofs.YtnbngokbamifbaaGreatDoor.Pw
open Go Go.RowKit
section
variable {w w':World} {I I':Nat->Prop} {β aN:ay} {cx:Ev.Cx} {G:Gx} {P:Program} {s:aV} {a:Act} {st dY:List au}
def eZ (w:World) (I:Nat->Prop) (es:List PV) (n:Nat) (xs:List Value):Prop :=
 xs.length=es.length*n/\∀ i e,es[i]?=some e->e.cells.length=n/\∀ j c,e.cells[j]?=some c->∃ v,xs[i*n+j]?=some v/\c.Is w I (fun _=>none) v/\v.oneCell'=true
def dP (w:World) (I:Nat->Prop) (β:ay) (cs:List PV) (xs:List Value):Prop:=xs.length=cs.length/\∀ (j:Nat) (c:PV),cs[j]?=some c->∃ v:Value,xs[j]?=some v/\c.Is w I β v/\v.oneCell'=true
def qa (w:World) (I:Nat->Prop) (β:ay) (n:Nat):Src->List Value->Prop
 | .stat cs,xs=>dP w I β cs xs
 | .told es,xs=>eZ w I es n xs
theorem eZ.append {es fs:List PV} {n:Nat} {xs ys:List Value} (h:eZ w I es n xs) (k:eZ w I fs n ys):eZ w I (es++fs) n (xs++ys):=by
 refine⟨by rw[List.length_append,List.length_append,h.1,k.1,Nat.add_mul],fun i e he=>?_⟩
 by_cases hi:i < es.length
 ·rw[List.getElem?_append_left hi] at he
  obtain⟨h1,h2⟩:=h.2 i e he
  refine⟨h1,fun j c hc=>?_⟩
  obtain⟨v,hv,h3⟩:=h2 j c hc
  have:=(List.getElem?_eq_some_iff.1 hv).1
  exact⟨v,by rw[List.getElem?_append_left this]; exact hv,h3⟩
 ·rw[List.getElem?_append_right (by omega)] at he
  obtain⟨h1,h2⟩:=k.2 _ e he
  refine⟨h1,fun j c hc=>?_⟩
  obtain⟨v,hv,h3⟩:=h2 j c hc
  have e1:es.length*n<=i*n:=Nat.mul_le_mul_right _ (by omega)
  refine⟨v,?_,h3⟩
  rw[List.getElem?_append_right (by rw[h.1]; omega),h.1,show i*n+j - es.length*n=(i - es.length)*n+j by rw[Nat.sub_mul]; omega]
  exact hv
theorem dP.append {cs ds:List PV} {xs ys:List Value} (h:dP w I β cs xs) (k:dP w I β ds ys):dP w I β (cs++ds) (xs++ys):=by
 refine⟨by rw[List.length_append,List.length_append,h.1,k.1],fun j c hc=>?_⟩
 by_cases hj:j < cs.length
 ·rw[List.getElem?_append_left hj] at hc
  rw[List.getElem?_append_left (by rw[h.1]; exact hj)]
  exact h.2 j c hc
 ·rw[List.getElem?_append_right (by omega)] at hc
  rw[List.getElem?_append_right (by rw[h.1]; omega),h.1]
  exact k.2 _ c hc
theorem eZ.mono {es:List PV} {n:Nat} {xs:List Value} (hI:∀ g,I g->I' g) (hw:∀ g,I g->w'.heap[g]?=w.heap[g]?) (h:eZ w I es n xs):eZ w' I' es n xs :=
 ⟨h.1,fun i e he=>⟨(h.2 i e he).1,fun j c hc=>let ⟨v,h1,h2,h3⟩:=(h.2 i e he).2 j c hc; ⟨v,h1,PV.Is.mono hI hw c _ _ v (fun _ _ _ h=>h) h2,h3⟩⟩⟩
theorem dP.mono {cs:List PV} {xs:List Value} (hI:∀ g,I g->I' g) (hw:∀ g,I g->w'.heap[g]?=w.heap[g]?) (hb:∀ l p,β l=some p->aN l=some p) (h:dP w I β cs xs):dP w' I' aN cs xs :=
 ⟨h.1,fun j c hc=>let ⟨v,h1,h2,h3⟩:=h.2 j c hc; ⟨v,h1,PV.Is.mono hI hw c _ _ v (fun l p _=>hb l p) h2,h3⟩⟩
theorem cr.row:∀ {es:List PV} {n g o:Nat},cr w I es n g o->∃ xs,eZ w I es n xs/\∀ j v,xs[j]?=some v->w.cell? ⟨g,o+j,none⟩=some v
 | [],n,g,o,_=>⟨[],⟨by simp,fun i e he=>by simp at he⟩,fun j v h=>by simp at h⟩
 | e::es,n,g,o,h=>by
  rw[cr.cons] at h
  obtain⟨⟨hl,hc⟩,h⟩:=h
  obtain⟨xs,hx,hy⟩:=cr.row h
  have key:∀ (cs:List PV) (o:Nat),dc w I cs g o->∃ ys:List Value,ys.length=cs.length/\(∀ (j:Nat) (c:PV),cs[j]?=some c->∃ v:Value,ys[j]?=some v/\c.Is w I (fun _=>none) v/\v.oneCell'=true)/\∀ (j:Nat) (v:Value),ys[j]?=some v->w.cell? ⟨g,o+j,none⟩=some v:=by
   intro cs
   induction cs with
   | nil=>intro o _; exact⟨[],rfl,fun j c h=>by simp at h,fun j v h=>by simp at h⟩
   | cons c cs ih =>
    intro o h
    simp only[dc] at h
    obtain⟨⟨v,h1,h2⟩,h3⟩:=h
    obtain⟨ys,g1,g2,g3⟩:=ih (o+1) h3
    refine⟨v::ys,by simp[g1],fun j c' vO=>?_,fun j u hu=>?_⟩
    ·cases j with
     | zero=>simp at vO; subst vO; exact⟨v,rfl,h2⟩
     | succ j=>simpa using g2 j c' (by simpa using vO)
    ·cases j with
     | zero=>simp at hu; subst hu; exact h1
     | succ j=>rw[show o+(j+1)=o+1+j by omega]; exact g3 j u (by simpa using hu)
  obtain⟨ys,g1,g2,g3⟩:=key e.cells o hc
  have KH:ys.length=n:=by omega
  refine⟨ys++xs,?_,fun j v hv=>?_⟩
  ·refine⟨by rw[List.length_append,hx.1,List.length_cons,KH,Nat.succ_mul]; omega,fun i e' nC=>?_⟩
   cases i with
   | zero =>
    simp at nC; subst nC
    refine⟨hl,fun j c hj=>?_⟩
    obtain⟨v,hv,h2⟩:=g2 j c hj
    have:=(List.getElem?_eq_some_iff.1 hv).1
    exact⟨v,by rw[Nat.zero_mul,Nat.zero_add,List.getElem?_append_left this]; exact hv,h2⟩
   | succ i =>
    obtain⟨h1,h2⟩:=hx.2 i e' (by simpa using nC)
    refine⟨h1,fun j c hj=>?_⟩
    obtain⟨v,hv,h3⟩:=h2 j c hj
    refine⟨v,?_,h3⟩
    rw[Nat.succ_mul,List.getElem?_append_right (by omega),show i*n+n+j - ys.length=i*n+j by omega]
    exact hv
  ·by_cases hj:j < ys.length
   ·rw[List.getElem?_append_left hj] at hv; exact g3 j v hv
   ·rw[List.getElem?_append_right (by omega)] at hv
    have:=hy _ v hv
    rw[show o+n+(j - ys.length)=o+j by omega] at this
    exact this
theorem eZ.at {es:List PV} {n g:Nat} {xs:List Value} (h:eZ w I es n xs) (hc:∀ j v,xs[j]?=some v->w'.cell? ⟨g,j,none⟩=some v) (hI:∀ g,I g->I' g) (hw:∀ g,I g->w'.heap[g]?=w.heap[g]?):cr w' I' es n g 0:=cr.of fun i e he=>by
 obtain⟨h1,h2⟩:=h.2 i e he
 refine⟨h1,dc.of fun j c hj=>?_⟩
 obtain⟨v,hv,h3,h4⟩:=h2 j c hj
 exact⟨v,by rw[Nat.zero_add]; exact hc _ v hv,PV.Is.mono hI hw c _ _ v (fun _ _ _ h=>h) h3,h4⟩
theorem eZ.GM {es:List PV} {n:Nat} {xs:List Value} (h:eZ w I es n xs):∀ v∈xs,v.oneCell'=true:=by
 intro v hv
 obtain⟨k,hk,rfl⟩:=List.getElem_of_mem hv
 have jf:k < es.length*n:=by rw[← h.1]; exact hk
 have hn:0 < n:=by
  rcases Nat.eq_zero_or_pos n with h0|h0
  ·rw[h0] at jf; omega
  ·exact h0
 have hi:k / n < es.length:=Nat.div_lt_of_lt_mul (by rw[Nat.mul_comm]; exact jf)
 obtain⟨h1,h2⟩:=h.2 _ _ (List.getElem?_eq_getElem hi)
 have hm:k % n < n:=Nat.mod_lt _ hn
 obtain⟨u,hu,_,h3⟩:=h2 (k % n) _ (List.getElem?_eq_getElem (by omega))
 rw[show k / n*n+k % n=k by rw[Nat.mul_comm]; exact Nat.div_add_mod k n,List.getElem?_eq_getElem hk] at hu
 cases hu; exact h3
theorem dP.GM {cs:List PV} {xs:List Value} (h:dP w I β cs xs):∀ v∈xs,v.oneCell'=true:=by
 intro v hv
 obtain⟨k,hk,rfl⟩:=List.getElem_of_mem hv
 have jf:k < cs.length:=by rw[← h.1]; exact hk
 obtain⟨u,hu,_,h3⟩:=h.2 _ _ (List.getElem?_eq_getElem jf)
 rw[List.getElem?_eq_getElem hk] at hu
 cases hu; exact h3
theorem qa.GM {n:Nat} {x:Src} {xs:List Value} (h:qa w I β n x xs):∀ v∈xs,v.oneCell'=true:=by
 cases x with
 | stat cs=>exact dP.GM h
 | told es=>exact eZ.GM h
theorem xW {ag:Bool} {n:Nat} (hn:0 < n) (Ky:ag=true\/n=1):∀ (k:Nat) {cs:List PV} {xs:List Value},cs.length=k*n->dP w I β cs xs->(chunk ag n k cs).all PV.elem=true->(chunk ag n k cs).length=k/\eZ w I (chunk ag n k cs) n xs
 | 0,cs,xs,hl,h,_=>by
  have:xs = []:=List.eq_nil_of_length_eq_zero (by rw[h.1,hl,Nat.zero_mul])
  subst this
  exact⟨rfl,by simp[chunk],fun i e he=>by simp[chunk] at he⟩
 | k+1,cs,xs,hl,h,du=>by
  simp only[chunk,List.all_cons,Bool.and_eq_true] at du
  obtain⟨he,du⟩:=du
  have WZ:(cs.drop n).length=k*n:=by rw[List.length_drop,hl,Nat.succ_mul]; omega
  have W0:dP w I β (cs.drop n) (xs.drop n):=⟨by rw[List.length_drop,List.length_drop,h.1],fun j c hc=>by
   rw[List.getElem?_drop] at hc ⊢; exact h.2 _ c hc⟩
  obtain⟨J0,Kj⟩:=xW hn Ky k WZ W0 du
  have hcn:n<=cs.length:=by rw[hl,Nat.succ_mul]; omega
  have nr:∀ {c:PV} {y:Value},c.pZ=true->c.Is w I β y->c.Is w I (fun _=>none) y:=fun {c y} hc hi=>by
   refine PV.Is.mono (fun _ h=>h) (fun _ _=>rfl) _ β _ _ (fun l p hl=>?_) hi
   cases c<;>simp_all [PV.dx,PV.pZ]
  refine⟨by simp[chunk,J0],by rw[h.1,hl]; simp only[chunk,List.length_cons,J0],fun i e hi=>?_⟩
  cases i with
  | zero =>
   simp only[chunk,List.getElem?_cons_zero,Option.some.injEq] at hi
   subst hi
   cases ag with
   | true =>
    simp only[if_true,PV.elem,List.all_eq_true] at he
    simp only[if_true,PV.cells]
    refine⟨by rw[List.length_take]; omega,fun j c hj=>?_⟩
    rw[List.getElem?_take] at hj
    split at hj
    ·obtain⟨v,hv,h2,h3⟩:=h.2 j c hj
     refine⟨v,by rw[Nat.zero_mul,Nat.zero_add]; exact hv,nr (he c ?_) h2,h3⟩
     refine List.mem_of_getElem? (i:=j) ?_
     rw[List.getElem?_take,if_pos ‹_›]; exact hj
    ·cases hj
   | false =>
    have lx:n=1:=by simpa using Ky
    subst lx
    cases cs with
    | nil=>simp at hcn
    | cons c cs =>
     simp only[Bool.false_eq_true,if_false] at he ⊢
     obtain⟨v,hv,h2,h3⟩:=h.2 0 c rfl
     have P4:c.cells = [c]:=by
      cases c<;>first|rfl|(simp only[PV.Is] at h2; obtain⟨vs,rfl,_⟩:=h2; simp[Value.oneCell'] at h3)
     rw[P4]
     refine⟨rfl,fun j c' hj=>?_⟩
     cases j with
     | zero =>
      simp at hj; subst hj
      refine⟨v,by simpa using hv,nr ?_ h2,h3⟩
      cases c<;>first|exact he|(exfalso; simp only[PV.Is] at h2; obtain⟨vs,rfl,_⟩:=h2; simp[Value.oneCell'] at h3)
     | succ j=>simp at hj
  | succ i =>
   simp only[chunk,List.getElem?_cons_succ] at hi
   obtain⟨h1,h2⟩:=Kj.2 i e hi
   refine⟨h1,fun j c hj=>?_⟩
   obtain⟨v,hv,h3⟩:=h2 j c hj
   refine⟨v,?_,h3⟩
   rw[List.getElem?_drop] at hv
   rw[Nat.succ_mul,show i*n+n+j=n+(i*n+j) by omega]
   exact hv
theorem B9 {x:PV} {v:Value} (h:x.Is w I β v):x.norm.Is w I β v:=by
 cases x<;>first|exact h|(simp only[PV.norm,PV.Is] at h ⊢; exact h)
theorem Au {cs:List PV} {xs:List Value} (h:dP w I β cs xs):dP w I β (cs.map PV.norm) xs:=by
 refine⟨by rw[List.length_map]; exact h.1,fun j c hj=>?_⟩
 rw[List.getElem?_map,Option.map_eq_some_iff] at hj
 obtain⟨d,hd,rfl⟩:=hj
 obtain⟨v,h1,h2,h3⟩:=h.2 j d hd
 exact⟨v,h1,B9 h2,h3⟩
theorem gI {ag:Bool} {n:Nat} (hn:0 < n) (Ky:ag=true\/n=1) {x:Src} {es:List PV} {xs:List Value} {len:Nat} (h:gg ag n x=some es) (hx:qa w I β n x xs) (hl:xs.length=len*n):es.length=len/\eZ w I es n xs:=by
 have hc:∀ {a b:Nat},a*n=b*n->a=b:=fun h=>Nat.eq_of_mul_eq_mul_right hn h
 cases x with
 | told es' =>
  simp only[gg,Option.some.injEq] at h
  subst h
  exact⟨hc (by rw[← hx.1,hl]),hx⟩
 | stat cs =>
  simp only[gg,BY,Nat.zero_add] at h
  split at h
  ·rename_i du
   cases h
   have B6:cs.length=len*n:=by rw[← hx.1,hl]
   have hd:cs.length / n=len:=by rw[B6]; exact Nat.mul_div_cancel _ hn
   rw[hd] at du ⊢
   exact xW hn Ky len (by rw[List.length_map]; exact B6) (Au hx) du
  ·cases h
theorem om {arr:Array Value} {g:Nat} {ty:TypeId} {fr:Nat × Nat} (hh:w.heap[g]?=some (.cells arr ty fr)) (o k:Nat):∀ (j:Nat) (v:Value),((arr.toList.drop o).take k)[j]?=some v->w.cell? ⟨g,o+j,none⟩=some v:=fun j v hv=>by
 rw[List.getElem?_take] at hv
 split at hv
 ·rw[List.getElem?_drop] at hv
  rw[Ev.f_ hh]; simpa using hv
 ·cases hv
theorem KJ (hO:Ev.fY cx) (hh:aE I β st w) {n:Nat} (hn:0 < n) {x:PV} {u:Value} {q:Src->Prop} (h:PT cx st n x q) (hx:x.Is w I β u) :
  ∃ src ad len c news,q src/\u = .slice ad len c/\qa w I β n src news/\news.length=len*n/\(len=0\/∃ g o,ad=some ⟨g,o,none⟩)/\∀ g o,ad=some ⟨g,o,none⟩->∀ j v,news[j]?=some v->w.cell? ⟨g,o+j,none⟩=some v:=by
 unfold PT at h
 split at h<;>try simp only[PV.Is] at hx
 ·exact⟨_,none,0,0,[],h,hx,⟨by simp,fun i e he=>by simp at he⟩,by simp,.inl rfl,fun _ _ _ j v hv=>by simp at hv⟩
 ·rename_i m es
  replace h:=bp h
  obtain⟨hm,h⟩:=h
  have hm:=Nat.eq_of_beq_eq_true hm
  obtain⟨ad,cap,rfl,_,_,h4,h5⟩:=hx
  by_cases h0:es.length=0
  ·have:es = []:=List.eq_nil_of_length_eq_zero h0
   subst this
   exact⟨_,ad,0,cap,[],h,rfl,⟨by simp,fun i e he=>by simp at he⟩,by simp,.inl rfl,fun _ _ _ j v hv=>by simp at hv⟩
  ·obtain⟨g,o,rfl,hg,_⟩:=h5 h0
   obtain⟨xs,h6,h7⟩:=(h4 g o rfl).row
   rw[hm] at h6
   exact⟨_,_,es.length,cap,xs,h,rfl,h6,h6.1,(.inr ⟨_,_,rfl⟩),fun g' o' e=>by cases e; exact h7⟩
 ·rename_i l off len
  replace h:=az h
  obtain⟨b,hb,h⟩:=h
  replace h:=bp h
  obtain⟨hc,h⟩:=h
  simp only[Bool.and_eq_true] at hc
  have hle:=Nat.le_of_ble_eq_true hc.2
  obtain⟨p,g,o,cap,hp,ha,rfl,_⟩:=hx
  obtain⟨arr,ty,fr,je,qX,_⟩:=jQ hh hb hc.1 hp ha
  have fA:0 < len*n->o+off+len*n<=arr.size:=fun h0=>by
   obtain⟨z,hz,_⟩:=qX _ _ (List.getElem?_eq_getElem (show off+len*n - 1 < b.cs.length by omega))
   have:=(Array.getElem?_eq_some_iff.1 hz).1
   omega
  have J7:((arr.toList.drop (o+off)).take (len*n)).length=len*n:=by
   rw[List.length_take,List.length_drop,Array.length_toList]
   rcases Nat.eq_zero_or_pos (len*n) with h0|h0
   ·omega
   ·have:=fA h0; omega
  refine⟨_,_,len,cap,_,cO h,rfl,⟨?_,fun j c hj=>?_⟩,J7,(.inr ⟨_,_,rfl⟩),fun g' o' e=>by cases e; exact om je _ _⟩
  ·rw[J7,List.length_take,List.length_drop]; omega
  ·rw[List.getElem?_take] at hj
   split at hj
   ·rename_i vP
    rw[List.getElem?_drop] at hj
    obtain⟨v,hv,h1,h2⟩:=qX _ _ hj
    exact⟨v,by rw[List.getElem?_take,if_pos vP,List.getElem?_drop]; simpa [Nat.add_assoc] using hv,h1,h2⟩
   ·cases hj
 ·rename_i l
  replace h:=az h
  obtain⟨b,hb,h⟩:=h
  replace h:=bp h
  obtain⟨hc,h⟩:=h
  simp only[Bool.and_eq_true] at hc
  have xU:=Nat.eq_of_beq_eq_true hc.2
  obtain⟨p,hp,rfl⟩:=hx
  split at h
  ·rename_i hk
   obtain⟨g,arr,fr,ha,hw,je,qX,_,hlen,hle,_,has,_⟩:=fT hh hb hc.1 hk hp
   rw[xU] at hlen has
   have fA:p.len*n<=arr.size:=by rw[has]; exact Nat.mul_le_mul_right _ hle
   refine⟨_,_,p.len,p.cap,(arr.toList.drop 0).take (p.len*n),h,hw,⟨?_,fun j c hj=>?_⟩,?_,(.inr ⟨_,_,rfl⟩),fun g' o' e=>by cases e; exact om je _ _⟩
   ·rw[List.length_take,List.length_drop,Array.length_toList]; omega
   ·obtain⟨v,hv,h1,h2⟩:=qX _ _ hj
    have vP:j < p.len*n:=by rw[← hlen]; exact (List.getElem?_eq_some_iff.1 hj).1
    exact⟨v,by rw[List.getElem?_take,if_pos vP,List.getElem?_drop]; simpa using hv,h1,h2⟩
   ·rw[List.length_take,List.length_drop,Array.length_toList]; omega
  ·rename_i hk
   obtain⟨_,hlen,hle,_,oe⟩:=dE hh hb hc.1 hk hp
   rcases oe with ⟨_,qW,hw⟩|⟨g,arr,fr,ha,hw,je,p9,_,has⟩
   ·have gw:b.cs = []:=List.eq_nil_of_length_eq_zero (by omega)
    rw[gw] at h
    exact⟨_,none,0,0,[],h,hw,⟨by simp,fun i e he=>by simp at he⟩,by simp,.inl rfl,fun _ _ _ j v hv=>by simp at hv⟩
   ·obtain⟨xs,h6,h7⟩:=p9.row
    rw[xU] at h6
    exact⟨_,_,p.len,p.cap,xs,h,hw,h6,by rw[h6.1,hlen],(.inr ⟨_,_,rfl⟩),fun g' o' e=>by cases e; exact h7⟩
  ·exact h.elim
 ·exact h.elim
theorem xX {l:Nat} {b:au} {q:List au->Prop} (hb:st[l]?=some b) (h:Gq st l q):∃ b',b'.live=false/\q (st.set l b'):=by
 replace h:=az h
 obtain⟨b2,dO,h⟩:=h
 cases b2
 exact⟨_,rfl,(mn h).2⟩
theorem GN (hh:aE I β st w) {n:Nat} (hn:0 < n) {elem:TypeId} {x:PV} {v:Value} {q:Src->List au->Prop} (h:Gr st elem n x q) (hx:x.Is w I β v) :
  ∃ dst dY xs len,q dst dY/\w.ownsRow 0 elem n v len xs/\qa w I β n dst xs/\xs.length=len*n/\aE I β dY w/\dY.length=st.length/\Ext I β st w I β dY w/\(∀ g,v.ownBlock=some g->Wr β st g/\¬ I g/\¬ jN β dY g)/\(v = .slice none 0 0\/∃ ad m c,v = .slice (some ad) m c):=by
 unfold Gr at h
 split at h<;>try simp only[PV.Is] at hx
 ·subst hx
  exact⟨_,st,[],0,h,World.ownsRow_nil _ _ _ _,⟨by simp,fun j c hj=>by simp at hj⟩,by simp,hh,rfl,Ext.refl,fun g e=>by simp[Value.ownBlock] at e,.inl rfl⟩
 ·rename_i l
  replace h:=az h
  obtain⟨b,hb,h⟩:=h
  replace h:=bp h
  obtain⟨hc,h⟩:=h
  simp only[Bool.and_eq_true] at hc
  obtain⟨aH,hm⟩:=vL hc.1.1
  have xU:=Nat.eq_of_beq_eq_true hc.1.2
  have GO:=Nat.eq_of_beq_eq_true hc.2
  obtain⟨p,hp,rfl⟩:=hx
  have dead:∀ {g o:Nat} {b':au},p.a=some (g,o)->b'.live=false->(Own I β st l g (0,0) b\/∃ fr,Own I β st l g fr b)->Wr β st g/\¬ I g/\¬ jN β (st.set l b') g:=by
   intro g o b' ha di ho
   have ho:∃ fr,Own I β st l g fr b:=ho.elim (fun h=>⟨_,h⟩) id
   obtain⟨fr,ho⟩:=ho
   refine⟨⟨l,b,p,o,hb,aH,hm,hp,ha⟩,(ho.1 (by rw[hm]; decide)).2.1,fun ⟨l2,b2,p2,o2,h1,h2,h3,h4⟩=>?_⟩
   by_cases dt:l2=l
   ·subst dt
    rw[List.getElem?_set_self (by simpa using (List.getElem?_eq_some_iff.1 h1).1)] at h1
    cases h1; rw[di] at h2; cases h2
   ·rw[List.getElem?_set_ne (fun e=>dt e.symm)] at h1
    exact (ho.1 (by rw[hm]; decide)).2.2 l2 b2 dt h1 h2 p2 g o2 h3 h4 rfl
  split at h
  ·rename_i hk
   obtain⟨b',di,h⟩:=xX hb h
   obtain⟨g,arr,fr,ha,hw,je,qX,fC,hlen,hle,rQ,has,_⟩:=fT hh hb aH hk hp
   rw[xU] at hlen has
   have GJ:fr=(0,0):=(fC.1 (by rw[hm]; decide)).1
   subst GJ
   have fA:p.len*n<=arr.size:=by rw[has]; exact Nat.mul_le_mul_right _ hle
   have tO:(arr.toList.take (p.len*n)).length=p.len*n:=by rw[List.length_take,Array.length_toList]; omega
   refine⟨_,_,arr.toList.take (p.len*n),p.len,h,⟨tO,.inr ⟨g,p.cap,arr,hw,Nat.zero_le _,by rw[← GO]; exact je,hle,rQ,has,rfl⟩⟩,⟨by rw[tO,hlen],fun j c hj=>?_⟩,tO,hh.kill l di,by simp,Ext.kill di,fun g' e=>?_,.inr ⟨_,_,_,hw⟩⟩
   ·obtain⟨u,hu,h1,h2⟩:=qX _ _ hj
    have vP:j < p.len*n:=by rw[← hlen]; exact (List.getElem?_eq_some_iff.1 hj).1
    exact⟨u,by rw[List.getElem?_take,if_pos vP]; simpa using hu,h1,h2⟩
   ·rw[hw] at e
    simp only[Value.ownBlock,Option.some.injEq] at e
    subst e
    exact dead ha di (.inl fC)
  ·rename_i hk
   obtain⟨b',di,h⟩:=xX hb h
   obtain⟨_,hlen,hle,rQ,oe⟩:=dE hh hb aH hk hp
   rcases oe with ⟨_,qW,hw⟩|⟨g,arr,fr,ha,hw,je,p9,fC,has⟩
   ·have gw:b.cs = []:=List.eq_nil_of_length_eq_zero (by omega)
    rw[gw] at h
    rw[hw]
    exact⟨_,_,[],0,h,World.ownsRow_nil _ _ _ _,⟨by simp,fun i e he=>by simp at he⟩,by simp,hh.kill l di,by simp,Ext.kill di,fun g e=>by simp[Value.ownBlock] at e,.inl rfl⟩
   ·rw[xU] at p9 has
    have GJ:fr=(0,0):=(fC.1 (by rw[hm]; decide)).1
    subst GJ
    obtain⟨xs,h6,h7⟩:=p9.row
    have fA:p.len*n<=arr.size:=by rw[has]; exact Nat.mul_le_mul_right _ hle
    have tO:xs.length=p.len*n:=by rw[h6.1,hlen]
    refine⟨_,_,xs,p.len,h,⟨tO,.inr ⟨g,p.cap,arr,hw,Nat.zero_le _,by rw[← GO]; exact je,hle,rQ,has,?_⟩⟩,h6,tO,hh.kill l di,by simp,Ext.kill di,fun g' e=>?_,.inr ⟨_,_,_,hw⟩⟩
    ·apply List.ext_getElem?
     intro j
     rw[List.getElem?_take]
     split
     ·rename_i hj
      have hj2:j < xs.length:=by omega
      have:=h7 j _ (List.getElem?_eq_getElem hj2)
      rw[Ev.f_ je,Nat.zero_add] at this
      rw[List.getElem?_eq_getElem hj2]; simpa using this
     ·rename_i hj
      rw[List.getElem?_eq_none (by omega)]
    ·rw[hw] at e
     simp only[Value.ownBlock,Option.some.injEq] at e
     subst e
     exact dead ha di (.inl fC)
  ·exact h.elim
 ·exact h.elim
theorem qD (t ty e:TypeId) (i:TypeInfo) (ht:P.underlying t=some (.slice e)) (hi:P.info? e=some i) (b:Option Addr) (n cap c:Nat) (hle:n<=cap):(Builtin.append_ #[t,t] ty #[.slice b n cap,.slice none 0 c]).run P w = .ok (.slice b n cap) w:=by
 cases b<;>simp[Builtin.append_,run_underlying ht,sizeOf,typeInfo,hi,Builtin.lenOf,Builtin.firstCells,hle,storeCells]
end
section
variable {w w':World} {I I':Nat->Prop} {β aN:ay} {cx:Ev.Cx} {G:Gx} {P:Program} {s:aV} {a:Act} {st dY:List au}
theorem xY (s:aV) (x y:List au):(s.store x).store y=s.store y:=by cases s; rfl
theorem Ext.add2 {ly:List au} (h:aE I β ly w) (nD:∀ g,Wr β ly g->Wr β st g) (hos:w'.os=w.os) (GD:w'.tape=w.tape) (rR:w'.output=w.output) (fA:w.heap.size<=w'.heap.size) {b:au} {p:ph} (hw:∀ g,g < w.heap.size->¬ Wr β st g->w'.heap[g]?=w.heap[g]?)
  (hp:∀ g o,p.a=some (g,o)->g < w.heap.size->Wr β st g):Ext I β st w I (β.set ly.length p) (ly++[b]) w' :=
 ⟨hos,GD,rR,fA,hw,fun g hg ⟨l,b',q,o,h1,h2,h3,h4,h5⟩=>by
  unfold ay.set at h4
  split at h4
  ·cases h4
   exact hp g o h5 hg
  ·have:=h.lt h4
   rw[List.getElem?_append_left this] at h1
   exact nD g ⟨l,b',q,o,h1,h2,h3,h4,h5⟩,fun _ h=>h,fun _ _ h=>.inl h⟩
theorem rW (hR:Rel G I β s a w) {ly:List au} (hk:aE I β ly w) (nD:∀ g,Wr β ly g->Wr β s.st g) (hlen:ly.length=s.st.length) {v:Value} (hv:∀ g,v.ownBlock=some g->Wr β s.st g/\¬ I g/\¬ jN β ly g)
  (hg:w.grownBy w' v.ownBlock) {b:au} {p:ph} {q:PV->aV->Prop} (h:n_ (s.store ly) b q) (hp:∀ g o,p.a=some (g,o)->v.ownBlock=some g\/g=w.heap.size) (hm:b.m = .w)
  (hb:(∀ g,p.a=some (g,0)->Own I (β.set ly.length p) (ly++[b]) ly.length g (0,0) b)->(∀ g,I g->w'.heap[g]?=w.heap[g]?)->gb I (β.set ly.length p) (ly++[b]) w' ly.length b):dn G s I β w a q p.whole w':=by
 have z7:(s.store ly).st=ly:=(aV.dT s ly).2.2.1
 unfold n_ at h
 rw[z7] at h
 replace h:=mo (gR h)
 rw[Nat.zero_add,xY] at h
 have lH:=ay.jO hk p
 have fC:∀ g,jN β ly g\/I g->w'.heap[g]?=w.heap[g]?:=fun g GP=>by
  refine hg.block g (GP.elim hk.dH (hR.av.av g)) fun e=>?_
  obtain⟨_,h1,h2⟩:=hv g e.symm
  exact GP.elim h2 h1
 have fN:∀ g o,p.a=some (g,o)->¬ I g/\¬ jN β ly g:=fun g o ha=>by
  rcases hp g o ha with e|e
  ·exact (hv g e).2
  ·subst e
   exact⟨fun h=>by have:=hR.av.av _ h; omega,fun h=>by have:=hk.dH h; omega⟩
 have hO:∀ g,p.a=some (g,0)->Own I (β.set ly.length p) (ly++[b]) ly.length g (0,0) b:=fun g ha=>by
  refine⟨fun _=>⟨rfl,(fN g 0 ha).1,fun l' b' dt jL eY p' g' o' dA dv e=>?_⟩,fun hr=>by rw[hm] at hr; cases hr⟩
  subst e
  unfold ay.set at dA
  rw[if_neg dt] at dA
  have:=hk.lt dA
  rw[List.getElem?_append_left this] at jL
  exact (fN _ _ ha).2 ⟨l',b',p',o',jL,eY,dA,dv⟩
 have hH:=hk.add fC fN (hb hO fun g hg=>fC g (.inr hg))
 have hE:Ext I β s.st w I (β.set ly.length p) (ly++[b]) w':=Ext.add2 hk nD hg.os hg.tape hg.output hg.size (fun g cI hn=>hg.block g cI fun e=>hn (hv g e.symm).1) fun g o ha cI=>by
  rcases hp g o ha with e|e
  ·exact (hv g e).1
  ·omega
 refine dn.mk' hR h hH hE lH (by simp; omega) (fun l hl=>if_neg (by omega)) ?_
 simp only[PV.Is]; exact⟨_,ay.eU ..,rfl⟩
theorem Av (hG:nA G) (hR:Rel G I β s a w) {t ty:TypeId} {d x:PV} {u v:Value} {q:PV->aV->Prop} (h:BZ G s t d x q) (hd:d.Is w I β v) (hx:x.Is w I β u) :
  ∃ r w',(Builtin.append_ #[t,t] ty #[v,u]).run G.cx.P w = .ok r w'/\dn G s I β w a q r w':=by
 replace h:=az h
 obtain⟨td,hu,h⟩:=h
 split at h
 ·rename_i elem
  replace h:=az h
  obtain⟨n,hn,h⟩:=h
  replace h:=az h
  obtain⟨ag,Ky,h⟩:=h
  replace h:=az h
  obtain⟨bG,Ol,h⟩:=h
  replace h:=jM (w:=w) (I:=I) (β:=β) hG.ok h
  obtain⟨z,i,zv,h,hi,J4,vI⟩:=h
  replace h:=bp h
  obtain⟨hc,h⟩:=h
  simp only[Bool.and_eq_true,Bool.or_eq_true] at hc
  have iP:0 < n:=Nat.le_of_ble_eq_true hc.1.1
  have hzn:z.length=n:=Nat.eq_of_beq_eq_true hc.1.2
  have W6:ag=true\/n=1:=hc.2.imp id Nat.eq_of_beq_eq_true
  obtain⟨i1,hi1,uC⟩:=Ev.jJ hG.ok hn
  rw[hi] at hi1
  cases hi1
  obtain⟨i3,Oo,V0⟩:=hG.bG _ (Ev.jd Ol)
  simp only at Oo V0
  rw[hi] at Oo
  cases Oo
  have hzl:=vI.length
  simp only[Array.length_toList] at hzl
  replace h:=KJ hG.ok hR.heap iP h hx
  obtain⟨src,ad,len,c,news,h,rfl,rX,J7,P0,W_⟩:=h
  replace h:=GN hR.heap iP h hd
  obtain⟨dst,ly,xs,pt,h,fC,P',tO,hk,Xa,KK,hv,hvf⟩:=h
  have nD:∀ g,Wr β ly g->Wr β s.st g:=fun g hw=>by
   have:=KK.wr g
   rcases Nat.lt_or_ge g w.heap.size with cI|Xb
   ·exact this cI hw
   ·obtain⟨l,b,p,o,h1,h2,h3,h4,h5⟩:=hw
    have:=hk.dH ⟨l,b,p,o,h1,h2,h4,h5⟩
    omega
  have Xc:=rX.GM
  
  have run:(pt+len)<=maxLen->(pt+len)*bG<=140737488355328->∃ r w',(Builtin.append_ #[t,t] ty #[v,.slice ad len c]).run G.cx.P w = .ok r w'/\w'.ownsRow 0 elem n r (pt+len) (xs++news)/\w.grownBy w' v.ownBlock/\(r.ownBlock=v.ownBlock\/r.ownBlock=some w.heap.size):=by
   intro h1 h2
   cases ad with
   | none =>
    have FP:len=0:=by rcases P0 with h|⟨g,o,h⟩<;>first|exact h|cases h
    subst FP
    have PY:news = []:=List.eq_nil_of_length_eq_zero (by rw[J7,Nat.zero_mul])
    subst PY
    have hvv:∃ b m c',v = .slice b m c'/\m<=c':=by
     rcases fC.2 with ⟨rfl,_⟩|⟨g,cap,cur,rfl,_,_,hle,_⟩
     ·exact⟨_,_,_,rfl,Nat.le_refl _⟩
     ·exact⟨_,_,_,rfl,hle⟩
    obtain⟨b,m,c',rfl,hle⟩:=hvv
    refine⟨_,w,qD t ty elem i (hG.ok.un hu) hi b m c' c hle,?_,⟨rfl,rfl,rfl,Nat.le_refl _,fun _ _ _=>rfl⟩,.inl rfl⟩
    rw[List.append_nil]; exact fC
   | some ad =>
    obtain⟨r,w',hr,h3,h4,_,h5⟩:=run_append_own_at (P:=G.cx.P) w 0 t ty elem i zv n bG (hG.ok.un hu) hi J4 uC V0 (by omega) iP v pt xs fC ad len c news J7 (fun j u hj=>by
     rcases P0 with h0|⟨g,o,e⟩
     ·rw[h0,Nat.zero_mul] at J7
      have:=List.eq_nil_of_length_eq_zero J7
      subst this; simp at hj
     ·cases e
      rw[Ev.iO]; exact W_ g o rfl j u hj) Xc h1 h2 (Nat.zero_le _)
    exact⟨r,w',hr,h3,h4,h5⟩
  
  have oo:∀ {r:Value} {w':World} {b:au},w'.ownsRow 0 elem n r (pt+len) (xs++news)->w.grownBy w' v.ownBlock->(r.ownBlock=v.ownBlock\/r.ownBlock=some w.heap.size)->n_ (s.store ly) b q->b.m = .w ->
    (∀ (p:ph),((p.a=none/\p.len=0/\p.cap=0/\pt+len=0)\/∃ g cur,p.a=some (g,0)/\p.len=pt+len/\w'.heap[g]?=some (.cells cur elem (0,0))/\p.len<=p.cap/\p.cap<=maxLen/\cur.size=p.cap*n/\(∀ (j:Nat) (v:Value),(xs++news)[j]?=some v->cur[j]?=some v)) ->
     (∀ g,p.a=some (g,0)->Own I (β.set ly.length p) (ly++[b]) ly.length g (0,0) b)->(∀ g,I g->w'.heap[g]?=w.heap[g]?)->gb I (β.set ly.length p) (ly++[b]) w' ly.length b)->dn G s I β w a q r w':=by
   intro r w' b xZ hg oh h hm hb
   rcases xZ.2 with ⟨rfl,h0⟩|⟨g,cap,cur,rfl,_,nE,hle,rQ,ja,iQ⟩
   ·have:=rW (p:=⟨none,0,0⟩) hR hk nD Xa hv hg h (fun g o e=>by cases e) hm (hb ⟨none,0,0⟩ (.inl ⟨rfl,rfl,rfl,h0⟩))
    exact this
   ·have:=rW (p:=⟨some (g,0),pt+len,cap⟩) hR hk nD Xa hv hg h (fun g' o e=>by
     cases e
     simp only[Value.ownBlock] at oh
     exact oh.imp (fun e=>e.symm) (fun e=>by cases e; rfl)) hm (hb ⟨some (g,0),pt+len,cap⟩ (.inr ⟨g,cur,rfl,rfl,nE,hle,rQ,ja,fun j v hj=>by
      rw[← iQ,List.getElem?_take] at hj
      split at hj
      ·simpa using hj
      ·cases hj⟩))
    exact this
  have og:∀ {w':World},w.grownBy w' v.ownBlock->∀ g,I g->w'.heap[g]?=w.heap[g]?:=fun hg g hI=>hg.block g (hR.av.av g hI) fun e=>(hv g e.symm).2.1 hI
  have hlenE:(xs++news).length=(pt+len)*n:=by rw[List.length_append,tO,J7,Nat.add_mul]
  have told:(bD (gg ag n dst) fun es=>bD (gg ag n src) fun fs=>es.length+fs.length<=maxLen/\(es.length+fs.length)*bG<=140737488355328/\n_ (s.store ly) ⟨.dyn,elem,n,.w,true,es++fs⟩ q)->∃ r w',(Builtin.append_ #[t,t] ty #[v,.slice ad len c]).run G.cx.P w = .ok r w'/\dn G s I β w a q r w':=by
   intro h
   replace h:=az h
   obtain⟨es,p9,h⟩:=h
   replace h:=az h
   obtain⟨fs,WO,h⟩:=h
   obtain⟨he1,he2⟩:=gI iP W6 p9 P' tO
   obtain⟨hf1,hf2⟩:=gI iP W6 WO rX J7
   obtain⟨h1,h2,h⟩:=h
   rw[he1,hf1] at h1 h2
   obtain⟨r,w',hr,xZ,hg,oh⟩:=run h1 h2
   refine⟨r,w',hr,oo xZ hg oh h rfl fun p hp hO hI=>⟨p,ay.eU ..,?_⟩⟩
   rcases hp with ⟨ha,hl,hcp,h0⟩|⟨g,cur,ha,hl,nE,hle,rQ,ja,m_⟩
   ·exact⟨⟨iP,by simp only[List.length_append]; omega,by omega,by rw[hcp]; exact Nat.zero_le _⟩,.inl ⟨ha,hcp⟩⟩
   ·refine⟨⟨iP,by simp only[List.length_append]; omega,hle,rQ⟩,.inr ⟨g,cur,(0,0),ha,nE,?_,hO g ha,ja⟩⟩
    exact (he2.append hf2).at (fun j v hj=>by rw[Ev.f_ nE]; exact m_ j v hj) (fun _ h=>h) hI
  split at h
  ·rename_i cs ds
   rw[mm,mm,Nat.zero_add,Nat.zero_add] at h
   replace h:=bp h
   obtain⟨jv,h⟩:=h
   simp only[Bool.and_eq_true] at jv
   obtain⟨⟨⟨hd0,hd1⟩,hd2⟩,hd3⟩:=jv
   have hd0:0 < ds.length:=Nat.le_of_ble_eq_true hd0
   have hd2:=Nat.le_of_ble_eq_true hd2
   have hd3:=Nat.le_of_ble_eq_true hd3
   replace h:=cO h
   have B6:cs.length=pt*n:=by rw[← P'.1,tO]
   have hdl:ds.length=len*n:=by rw[← rX.1,J7]
   have e1:pt<=pt*n:=Nat.le_mul_of_pos_right _ iP
   have e2:len<=len*n:=Nat.le_mul_of_pos_right _ iP
   obtain⟨r,w',hr,xZ,hg,oh⟩:=run (by omega) (Nat.le_trans (Nat.mul_le_mul_right _ (by omega)) hd2)
   have hlen0:0 < len:=by
    rcases Nat.eq_zero_or_pos len with h0|h0
    ·rw[h0,Nat.zero_mul] at hdl; omega
    ·exact h0
   refine⟨r,w',hr,oo xZ hg oh h rfl fun p hp hO hI=>⟨p,ay.eU ..,?_⟩⟩
   rcases hp with ⟨ha,hl,hcp,h0⟩|⟨g,cur,ha,hl,nE,hle,rQ,ja,m_⟩
   ·omega
   ·refine⟨g,cur,(0,0),ha,nE,fun j c hj=>?_,hO g ha,by simp only[List.length_append]; rw[hl,Nat.add_mul]; omega,hle,rQ,ja,iP⟩
    obtain⟨v',h1,h2,h3⟩:=(dP.append P' rX).2 j c hj
    exact⟨v',by rw[Nat.zero_add]; exact m_ j v' h1,PV.Is.mono (fun _ h=>h) hI c β _ v' (fun l p' _ dA=>ay.jO hk p l p' dA) h2,h3⟩
  ·exact told h
 ·exact h.elim
theorem x5 (hR:Rel G I β s a w):∀ {os:List Operand} {q:List PV->Prop},B0 s os q->∃ l,q l/\bJ w I l β (os.map a.eval)
 | [],q,h=>⟨[],h,by simp only[List.map_nil,bJ]⟩
 | o::os,q,h=>by
  replace h:=aV.cN hR h
  obtain⟨x,h,hx⟩:=h
  obtain⟨l,h,hl⟩:=x5 hR h
  exact⟨_,h,by simp only[List.map_cons,bJ]; exact⟨hx,hl⟩⟩
theorem TM.pv {rl:List Nat}:∀ {t:TM} {n:Nat} {x:PV},(t.clear rl).get n=some x->t.get n=some x/\x.leads rl=false
 | .nil,n,x,h=>by cases h
 | .node v l r,n,x,h=>by
  simp only[TM.clear,TM.get] at h ⊢
  cases h0:Nat.beq n 0<;>rw[h0] at h
  ·cases h1:Nat.beq (n % 2) 1<;>rw[h1] at h
   ·exact TM.pv (t:=r) h
   ·exact TM.pv (t:=l) h
  ·cases v with
   | none=>cases h
   | some y =>
    simp only[cond_true] at h ⊢
    split at h
    ·cases h
    ·cases h
     rename_i hl
     exact⟨rfl,by simpa using hl⟩
theorem DS {rl:List Nat} {t:TM} {q:TM->Prop} (h:Am rl t q):∃ t',q t'/\∀ n x,t'.get n=some x->t.get n=some x/\∀ l∈x.dx,l ∉ rl:=by
 unfold Am at h
 split at h
 ·exact⟨t,h,fun n x hx=>⟨hx,fun _ _ hl=>by cases hl⟩⟩
 ·refine⟨_,h,fun n x hx=>?_⟩
  obtain⟨h1,h2⟩:=TM.pv hx
  refine⟨h1,fun l hl hr=>?_⟩
  unfold PV.leads at h2
  rw[List.any_eq_false] at h2
  refine h2 l hl (List.any_eq_true.2 ⟨l,hr,?_⟩)
  exact Nat.beq_refl l
theorem GQ (hR:Rel G I β s a w) {f:FuncId} {args:List PV} {vals:List Value} {q:PV->aV->Prop} (h:Gs G s f args q) (ha:bJ w I args β vals) :
  Ev.ia G.cx.P f/\Calls G.cx.P f vals.toArray w fun e w'=>∃ v,e = .returned v/\dn G s I β w a q v w':=by
 obtain⟨n,t,st,b,rl0⟩:=s
 obtain⟨rl,Oq,hs⟩:=h
 unfold Spec at hs
 obtain⟨he,hs⟩:=hs
 refine⟨he,(hs I β w vals hR.heap hR.av ha).mono fun e w' ⟨v,r,S',I',aN,he,hk,hr,hH,hM,hE,hlen,nz⟩=>⟨v,he,?_⟩⟩
 obtain⟨t',hq,B4⟩:=DS hk
 refine⟨r,_,I',aN,hq,⟨hR.small,hR.defers,hR.size,Nat.le_trans hR.base hlen,fun m x hx=>?_,hH,hM⟩,hr,hE,rfl,rfl,rfl,fun l hl hn=>?_,fun l b' di hm=>nz l (List.getElem?_eq_some_iff.1 di).1 fun hr=>(Oq l hr).2 b' di hm⟩
 ·obtain⟨h1,h2⟩:=B4 m x hx
  obtain⟨u,hu,hi⟩:=hR.get m x h1
  refine⟨u,hu,PV.Is.mono hE.av (hE.keeps hR.heap hR.av.av) x β aN u (fun l p hl hp=>?_) hi⟩
  rw[nz l (hR.heap.lt hp) (h2 l hl)]; exact hp
 ·have jL:l < b:=hl
  refine nz l (Nat.lt_of_lt_of_le jL hR.base) fun hr=>?_
  rcases (Oq l hr).1 with h|h
  ·omega
  ·exact hn h
set_option maxHeartbeats 1000000 in
theorem vQ (hG:nA G) (hR:Rel G I β s a w) {o:Oper} {q:PV->aV->Prop} (h:pop G s o q):Ev.nX G.cx.P (dn G s I β w a q) ((execOp a.eval o).run G.cx.P w):=by
 have x6:∀ {q':PV->Prop},pY G.cx s o.op q'->(∀ v,q' v->q v s)->Ev.nX G.cx.P (dn G s I β w a q) ((execOp a.eval o).run G.cx.P w):=by
  intro q' h hq
  obtain⟨x,r,hx,hi,hr⟩:=xS hG.ok hR h
  rw[hr w]
  exact dn.same hR (hq x hx) hi
 unfold pop at h
 split at h
 ·
  rename_i t ad vR
  replace h:=aV.cN hR h
  obtain⟨x,h,hx⟩:=h
  obtain⟨z,v,g,h,hz,_,ck⟩:=rT hG.ok hR.heap hR.av h hx
  replace ck:=ck w rfl
  unfold execOp
  rw[vR]
  simp only[Sem.run_bind,ck,Result.andThen_ok,Sem.run_pure]
  exact dn.same hR h hz
 ·
  rename_i t ad y vR
  replace h:=aV.cN hR h
  obtain⟨x,h,hx⟩:=h
  replace h:=aV.cN hR h
  obtain⟨v,h,hv⟩:=h
  obtain⟨w',ck,hp⟩:=DQ hG hR h hx hv
  unfold execOp
  rw[vR]
  simp only[Sem.run_bind,ck,Result.andThen_ok,Sem.run_pure]
  exact hp
 ·
  rename_i t vR
  replace h:=jM (w:=w) (I:=I) (β:=β) hG.ok h
  obtain⟨z,i,v,h,hi,J4,vI⟩:=h
  replace h:=bp (cO h)
  obtain⟨du,h⟩:=h
  rw[List.all_eq_true] at du
  have ck:(execOp a.eval o).run G.cx.P w = .ok (.value (.pointer (some ⟨w.heap.size,0,none⟩))) (w.alloc (.cells v.cells t)):=by
   unfold execOp
   rw[vR]
   simp[Instr.alloc,zeroValue,typeInfo,hi,J4,newVar,newRow]
  rw[ck]
  exact B8 hR h vI du
 ·
  rename_i t y vR
  replace h:=aV.cN hR h
  obtain⟨x,h,hx⟩:=h
  have ck:(execOp a.eval o).run G.cx.P w = .ok (.value (.pointer (some ⟨w.heap.size,0,none⟩))) (w.alloc (.cells (a.eval y).cells t)):=by
   unfold execOp
   rw[vR]
   simp[Instr.box,newVar,newRow]
  rw[ck]
  split at h
  ·exact h.elim
  ·rename_i B5
   replace h:=bp h
   obtain⟨du,h⟩:=h
   rw[List.all_eq_true] at du
   exact B8 hR (cO h) (hx.lB fun vs e=>B5 vs e) du
 ·
  rename_i t len ps vR
  replace h:=az h
  obtain⟨d,hu,h⟩:=h
  split at h
  ·rename_i elem
   replace h:=az h
   obtain⟨n,hn,h⟩:=h
   replace h:=jM (w:=w) (I:=I) (β:=β) hG.ok h
   obtain⟨z,i,v,h,hi,J4,vI⟩:=h
   replace h:=pn hR h
   obtain⟨l,h,hl⟩:=h
   replace h:=bp h
   obtain⟨hc,h⟩:=h
   simp only[Bool.and_eq_true] at hc
   have hzl:z.length=n:=Nat.eq_of_beq_eq_true hc.1.1
   have oq:len*n<=16777216:=Nat.le_of_ble_eq_true hc.1.2
   have iP:0 < n:=Nat.le_of_ble_eq_true hc.2
   replace h:=oa h
   obtain⟨cs,Xd,h⟩:=h
   replace h:=bp (cO h)
   obtain⟨jv,h⟩:=h
   simp only[Bool.and_eq_true,List.all_eq_true] at jv
   have B6:=Nat.eq_of_beq_eq_true jv.1.2
   have rQ:=Nat.le_of_ble_eq_true jv.2
   have hzs:=vI.length
   simp only[Array.length_toList] at hzs
   have rep:∀ k,bJ w I ((List.replicate k z).flatten) β ((List.replicate k v.cells.toList).flatten):=fun k=>by
    induction k with
    | zero=>simp only[List.replicate_zero,List.flatten_nil,bJ]
    | succ k ih=>simp only[List.replicate_succ,List.flatten_cons]; exact vI.append ih
   have P_:bJ w I ((List.replicate len z).flatten) β ((Array.range (len*n)).map fun i=>v.cells[i % v.cells.size]!).toList:=by
    rw[show n=v.cells.size by omega,Ev.Gf len (by omega)]; exact rep len
   obtain⟨B,hB,WQ⟩:=oc Xd P_ hl
   have ck:(execOp a.eval o).run G.cx.P w = .ok (.value (.slice (some ⟨w.heap.size,0,none⟩) len len)) (w.alloc (.cells B elem)):=by
    unfold execOp
    rw[vR]
    have hB':Instr.fill (fun i=>some (i*n,n)) ((Array.range (len*n)).map fun i=>v.cells[i % v.cells.size]!) (ps.map fun (i,y)=>(i,a.eval y)).toList=some B:=by
     rw[← hB]; simp
    have Ot:¬ (len*n > 2 ^ 24):=by omega
    by_cases h0:len*n=0
    ·have hE:∀ g:Nat->Value,(Array.range (len*n)).map g = #[]:=fun g=>by rw[h0]; simp
     rw[hE] at hB'
     simp only[Instr.buildSlice,Sem.run_bind,run_underlying (hG.ok.un hu),Result.andThen_ok,Ev.dS hG.ok hn,if_neg Ot,if_pos h0,Sem.run_pure,hE,hB']
     simp[newRow]
    ·have hzr:(zeroValue elem).run G.cx.P w = .ok v w:=by simp[zeroValue,typeInfo,hi,J4]
     simp only[Instr.buildSlice,Sem.run_bind,run_underlying (hG.ok.un hu),Result.andThen_ok,Ev.dS hG.ok hn,if_neg Ot,if_neg h0,Sem.run_pure,hzr,hB']
     simp[newRow]
   rw[ck]
   exact GL hR h WQ jv.1.1 B6 iP rQ
  ·exact h.elim
 ·
  rename_i y VW argTypes vR
  replace h:=aV.cN hR h
  obtain⟨x,h,hx⟩:=h
  split at h
  ·rename_i f k8
   cases KK:G.ext.any (Nat.beq f) with
   | true=>rw[KK] at h; replace h:rL G s o q:=h; unfold rL at h; exact h I β a w hR
   | false =>
   rw[KK] at h
   replace h:B0 s VW fun l=>Gs G s f (l++k8) q:=h
   simp only[PV.Is] at hx
   obtain⟨cvs,hfv,hcv⟩:=hx
   replace h:=x5 hR h
   obtain⟨l,h,hl⟩:=h
   obtain⟨hent,Xe⟩:=GQ hR h (hl.append hcv)
   have ck:(execOp a.eval o).run G.cx.P w = .ok (.enter f (VW.map a.eval++cvs.toList).toArray) w:=by
    unfold execOp
    rw[vR]
    have e1:(Array.mk VW).map a.eval++cvs=(VW.map a.eval++cvs.toList).toArray:=by simp
    simp only[resolve,hfv,Deferred.ofValue,Sem.run_bind,Sem.run_pure,Result.andThen_ok,invoke]
    simp only[Array.empty_append]
    rw[e1]
    exact hent _ w
   rw[ck]
   exact Xe
  ·exact h.elim
 ·
  rename_i od ox t t' vR
  replace h:=bp h
  obtain⟨ht,h⟩:=h
  have:=Nat.eq_of_beq_eq_true ht
  subst this
  replace h:=aV.cN hR h
  obtain⟨d,h,hd⟩:=h
  replace h:=aV.cN hR h
  obtain⟨x,h,hx⟩:=h
  obtain⟨r,w',hr,hp⟩:=Av (ty:=o.type) hG hR h hd hx
  have ck:(execOp a.eval o).run G.cx.P w = .ok (.value r) w':=by
   unfold execOp
   rw[vR]
   simp[resolve,invoke,builtin,hr]
  rw[ck]
  exact hp
 ·unfold rL at h; exact h I β a w hR
 ·unfold rL at h; exact h I β a w hR
 ·unfold rL at h; exact h I β a w hR
 ·unfold rL at h; exact h I β a w hR
 ·unfold rL at h; exact h I β a w hR
 ·unfold rL at h; exact h I β a w hR
 ·rename_i src dst ox vR
  cases hb:Nat.beq dst 9 with
  | true=>rw[hb] at h; replace h:rL G s o q:=h; unfold rL at h; exact h I β a w hR
  | false=>rw[hb] at h; exact x6 (by rw[vR]; exact h) fun _ h=>h
 ·exact x6 h fun _ h=>h
end
section
variable {w w':World} {I I':Nat->Prop} {β aN:ay} {cx:Ev.Cx} {G:Gx} {P:Program} {s:aV} {a:Act} {st dY:List au}
theorem TM.qY {v:Option PV}:∀ {f:Nat} {t:TM} {n:Nat} {k:TM->Prop},TM.vB v f t n k->∃ t',k t'/\∀ m,t'.get m=if m=n then v else t.get m
 | 0,_,_,_,h=>h.elim
 | f+1,t,n,k,h=>by
  have arith:∀ m,Nat.beq n 0=false->(m=n↔Nat.beq m 0=false/\m % 2=n % 2/\(m - 1) / 2=(n - 1) / 2):=fun m h0=>by
   have hn:n≠0:=fun e=>by subst e; cases h0
   constructor
   ·rintro rfl; exact⟨h0,rfl,rfl⟩
   ·rintro⟨h1,h2,h3⟩
    have hm:m≠0:=fun e=>by subst e; cases h1
    omega
  have key:∀ (u:Option PV) (l r:TM),(bif Nat.beq n 0 then k (.node v l r) else bif Nat.beq (n % 2) 1 then TM.vB v f l ((n - 1) / 2) (fun t=>k (.node u t r)) else TM.vB v f r ((n - 1) / 2) (fun t=>k (.node u l t))) ->
    ∃ t',k t'/\∀ m,t'.get m=if m=n then v else (TM.node u l r).get m:=by
   intro u l r h
   cases h0:Nat.beq n 0<;>rw[h0] at h
   ·cases h1:Nat.beq (n % 2) 1<;>rw[h1] at h
    ·obtain⟨t',hk,ht⟩:=TM.qY h
     refine⟨_,hk,fun m=>?_⟩
     have hp:n % 2=0:=by
      have:n % 2≠1:=fun e=>by rw[e] at h1; cases h1
      omega
     simp only[TM.get]
     cases lG:Nat.beq m 0
     ·cases qz:Nat.beq (m % 2) 1
      ·have rY:m % 2=0:=by
        have:m % 2≠1:=fun e=>by rw[e] at qz; cases qz
        omega
       simp only[cond_false,ht]
       by_cases e:(m - 1) / 2=(n - 1) / 2
       ·rw[if_pos e,if_pos ((arith m h0).2 ⟨lG,by omega,e⟩)]
       ·rw[if_neg e,if_neg fun e'=>e ((arith m h0).1 e').2.2]
      ·have rY:m % 2=1:=Nat.eq_of_beq_eq_true qz
       simp only[cond_false,cond_true]
       rw[if_neg fun e'=>by rw[e'] at rY; omega]
     ·have:=Nat.eq_of_beq_eq_true lG
      subst this
      simp only[cond_true]
      rw[if_neg fun e=>by rw[← e] at h0; cases h0]
    ·obtain⟨t',hk,ht⟩:=TM.qY h
     refine⟨_,hk,fun m=>?_⟩
     have hp:n % 2=1:=Nat.eq_of_beq_eq_true h1
     simp only[TM.get]
     cases lG:Nat.beq m 0
     ·cases qz:Nat.beq (m % 2) 1
      ·simp only[cond_false]
       rw[if_neg fun e'=>by rw[e'] at qz; rw[qz] at h1; cases h1]
      ·have rY:m % 2=1:=Nat.eq_of_beq_eq_true qz
       simp only[cond_false,cond_true,ht]
       by_cases e:(m - 1) / 2=(n - 1) / 2
       ·rw[if_pos e,if_pos ((arith m h0).2 ⟨lG,by omega,e⟩)]
       ·rw[if_neg e,if_neg fun e'=>e ((arith m h0).1 e').2.2]
     ·have:=Nat.eq_of_beq_eq_true lG
      subst this
      simp only[cond_true]
      rw[if_neg fun e=>by rw[← e] at h0; cases h0]
   ·have:=Nat.eq_of_beq_eq_true h0
    subst this
    refine⟨_,h,fun m=>?_⟩
    simp only[TM.get]
    cases lG:Nat.beq m 0
    ·rw[if_neg fun e=>by subst e; cases lG]; rfl
    ·rw[if_pos (Nat.eq_of_beq_eq_true lG)]; rfl
  cases t with
  | nil =>
   obtain⟨t',hk,ht⟩:=key none .nil .nil h
   refine⟨t',hk,fun m=>?_⟩
   rw[ht]
   split
   ·rfl
   ·simp only[TM.get]; cases Nat.beq m 0<;>cases Nat.beq (m % 2) 1<;>rfl
  | node u l r=>exact key u l r h
structure jh (s s':aV):Prop where
 n:s'.n=s.n
 st:s'.st=s.st
 base:s'.base=s.base
 rl:s'.rl=s.rl
theorem aV.bT {dst:Option Tmp} {x:PV} {k:aV->Prop} (h:s.put dst x k):∃ s',k s'/\jh s s'/\∀ I β a w v,Rel G I β s a w->x.Is w I β v->Rel G I β s' (a.put dst v) w:=by
 obtain⟨n,t,st,b,rl⟩:=s
 unfold aV.put at h
 simp only at h
 split at h
 ·exact⟨_,h,⟨rfl,rfl,rfl,rfl⟩,fun I β a w v hR _=>hR⟩
 ·rename_i d
  replace h:=bp h
  obtain⟨hd,h⟩:=h
  have hd:d < n:=Nat.le_of_ble_eq_true hd
  replace h:=Gt h
  obtain⟨t',hk,ht⟩:=TM.qY h
  refine⟨_,hk,⟨rfl,rfl,rfl,rfl⟩,fun I β a w v hR hx=>⟨hR.small,hR.defers,by simpa [Act.put] using hR.size,hR.base,fun m y hy=>?_,hR.heap,hR.av⟩⟩
  have fA:d < a.tmps.size:=by rw[hR.size]; exact hd
  have Qa:t'.get m=some y:=hy
  rw[ht] at Qa
  by_cases e:m=d
  ·subst e
   rw[if_pos rfl] at Qa
   cases Qa
   exact⟨v,by simp[Act.put,fA],hx⟩
  ·rw[if_neg e] at Qa
   obtain⟨u,hu,hi⟩:=hR.get m y Qa
   exact⟨u,by simp only[Act.put,Array.getElem?_setIfInBounds_ne (Ne.symm e)]; exact hu,hi⟩
theorem aV.fq {t:Nat} {x:PV} {v:Value} {k:aV->Prop} (hR:Rel G I β s a w) (hv:a.tmps[t]?=some v) (hx:x.Is w I β v) (h:s.put (some t) x k):∃ s',k s'/\jh s s'/\Rel G I β s' a w:=by
 obtain⟨s',hk,hs,hr⟩:=aV.bT (G:=G) h
 refine⟨s',hk,hs,?_⟩
 have:=hr I β a w v hR hx
 have e:a.put (some t) v=a:=by
  unfold Act.put
  simp only
  have:a.tmps.setIfInBounds t v=a.tmps:=by
   apply Array.ext_getElem?
   intro i
   rw[Array.getElem?_setIfInBounds]
   split
   ·rename_i hi
    subst hi
    have:=(Array.getElem?_eq_some_iff.1 hv).1
    rw[if_pos this,hv]
   ·rfl
  rw[this]
 rw[e] at this
 exact this
theorem Is.undef:(PV.tup []).Is w I β Go.undef:=by simp only[PV.Is]; exact⟨#[],rfl,by simp only[bJ]⟩
theorem iK {ops:Array Oper} {o:Oper} {run skip:aV->Prop} (hR:Rel G I β s a w) (h:nx ops.toList s o run skip) :
  (Region.wanted o (yielded ops a.tmps)=true/\∃ s',run s'/\jh s s'/\Rel G I β s' a w)\/(Region.wanted o (yielded ops a.tmps)=false/\∃ s',skip s'/\jh s s'/\Rel G I β s' a w):=by
 have same:jh s s:=⟨rfl,rfl,rfl,rfl⟩
 unfold nx at h
 cases hg:o.guard with
 | none =>
  rw[hg] at h
  exact .inl ⟨by simp[Region.wanted,hg],s,h,same,hR⟩
 | some jw =>
  obtain⟨j,want⟩:=jw
  rw[hg] at h
  simp only at h
  replace h:=az h
  obtain⟨t,ht,h⟩:=h
  replace h:=az h
  obtain⟨x,hx,h⟩:=h
  obtain⟨v,hv,hi⟩:=hR.get t x hx
  have B4:(ops[j]?).bind (·.dst)=some t:=by simpa using ht
  have hy:∀ b,v = .bool b->Region.wanted o (yielded ops a.tmps)=(b == want):=fun b hb=>by
   subst hb
   have:yielded ops a.tmps j=some b:=by unfold yielded; rw[Option.bind_eq_some_iff.2 ⟨t,B4,hv⟩]
   simp[Region.wanted,hg,this]
  split at h<;>try simp only[PV.Is] at hi
  ·cases want
   ·exact .inr ⟨by rw[hy _ hi]; rfl,s,h,same,hR⟩
   ·exact .inl ⟨by rw[hy _ hi]; rfl,s,h,same,hR⟩
  ·cases want
   ·exact .inl ⟨by rw[hy _ hi]; rfl,s,h,same,hR⟩
   ·exact .inr ⟨by rw[hy _ hi]; rfl,s,h,same,hR⟩
  ·rename_i p
   by_cases hp:p
   ·obtain⟨s',hk,hs,hr⟩:=aV.fq hR hv (x:=.tt) (by rw[hi,ct hp]; exact Is.tt) (h.1 hp)
    cases want
    ·exact .inr ⟨by rw[hy _ hi,ct hp]; rfl,s',hk,hs,hr⟩
    ·exact .inl ⟨by rw[hy _ hi,ct hp]; rfl,s',hk,hs,hr⟩
   ·obtain⟨s',hk,hs,hr⟩:=aV.fq hR hv (x:=.ff) (by rw[hi,b_ hp]; exact Is.ff) (h.2 hp)
    cases want
    ·exact .inl ⟨by rw[hy _ hi,b_ hp]; rfl,s',hk,hs,hr⟩
    ·exact .inr ⟨by rw[hy _ hi,b_ hp]; rfl,s',hk,hs,hr⟩
  ·obtain⟨vs,rfl,_⟩:=hi
   refine .inr ⟨?_,s,h,same,hR⟩
   have:yielded ops a.tmps j=none:=by unfold yielded; rw[Option.bind_eq_some_iff.2 ⟨t,B4,hv⟩]
   simp[Region.wanted,hg,this]
  ·exact h.elim
structure bU (I:Nat->Prop) (β:ay) (s:aV) (w:World) (I':Nat->Prop) (aN:ay) (s':aV) (w':World):Prop where
 ext:Ext I β s.st w I' aN s'.st w'
 base:s'.base=s.base
 rl:s'.rl=s.rl
 n:s'.n=s.n
 low:∀ l,l < s.base->l ∉ s.rl->aN l=β l
theorem bU.same {s':aV} (h:jh s s'):bU I β s w I β s' w:=⟨by rw[h.st]; exact Ext.refl,h.base,h.rl,h.n,fun _ _ _=>rfl⟩
theorem bU.trans {WG:Nat->Prop} {Gi:ay} {s' s'':aV} {xz:World} (h:bU I β s w I' aN s' w') (k:bU I' aN s' w' WG Gi s'' xz):bU I β s w WG Gi s'' xz :=
 ⟨h.ext.trans k.ext,k.base.trans h.base,k.rl.trans h.rl,k.n.trans h.n,fun l hl hr=>(k.low l (by rw[h.base]; exact hl) (by rw[h.rl]; exact hr)).trans (h.low l hl hr)⟩
theorem vS (hG:nA G) {ops:Array Oper} {Q:X->aV->Prop} {Q':Exit->Act->World->Prop}:∀ (l:List Oper) {s:aV} {a:Act} {I:Nat->Prop} {β:ay} {w:World},xN G ops.toList Q l s->Rel G I β s a w ->
  (∀ x s' I' aN a' w',Q x s'->Rel G I' aN s' a' w'->bU I β s w I' aN s' w'->Q' (X.e x) a' w')->wpList G.cx.P ops Q' l a w
 | [],s,a,I,β,w,h,hR,hQ=>hQ .fL s I β a w h hR (bU.same ⟨rfl,rfl,rfl,rfl⟩)
 | o::l,s,a,I,β,w,h,hR,hQ=>by
  unfold wpList
  rcases iK hR h with ⟨hw,s1,h1,mZ,gX⟩|⟨hw,s1,h1,mZ,gX⟩
  ·rw[hw,if_pos rfl]
   refine .inl (Ev.vA (vQ hG gX h1) fun v w' hp=>?_)
   obtain⟨x,s2,I2,fU,h2,kP,hx,hE,e1,e2,e3,gx,_⟩:=hp
   obtain⟨s3,h3,nS,tW⟩:=aV.bT (G:=G) h2
   have g1:bU I β s w I2 fU s2 w':=(bU.same mZ).trans ⟨hE,e1,e2,e3,gx⟩
   exact vS hG l h3 (tW _ _ _ _ v kP hx) fun x s' I' aN a' xz hq dp hg=>hQ x s' I' aN a' xz hq dp ((g1.trans (bU.same nS)).trans hg)
  ·rw[hw,if_neg (by simp)]
   obtain⟨s3,h3,nS,tW⟩:=aV.bT (G:=G) h1
   exact vS hG l h3 (tW _ _ _ _ _ gX Is.undef) fun x s' I' aN a' xz hq dp hg=>hQ x s' I' aN a' xz hq dp (((bU.same mZ).trans (bU.same nS)).trans hg)
end
def GR:Op->Bool
 | .load ..=>true
 | _=>false
def bA (op:Op):Bool:=!(Ev.Gb op || GR op)
structure m0 where
 k:Nat
 D:List Nat
 Y:World->Prop
section
variable {P:Program} {ops:Array Oper} {Q:Exit->Act->World->Prop}
def Yields (P:Program) (ops:Array Oper) (S:World->Prop) (o:Oper) (v:Value) (a:Act):Prop :=
 (Region.wanted o (yielded ops a.tmps)=true/\∀ w,S w->(execOp a.eval o).run P w = .ok (.value v) w)\/(Region.wanted o (yielded ops a.tmps)=false/\v=undef)
theorem Yields.mono {S S':World->Prop} {o:Oper} {v:Value} {a:Act} (hS:∀ w,S' w->S w) (h:Yields P ops S o v a):Yields P ops S' o v a:=h.imp (fun ⟨h1,h2⟩=>⟨h1,fun w hw=>h2 w (hS w hw)⟩) id
theorem Yields.of_same {S:World->Prop} {o:Oper} {v:Value} {a a':Act} (hy:Yields P ops S o v a) (he:execOp a'.eval o=execOp a.eval o) (hw:Region.wanted o (yielded ops a'.tmps)=Region.wanted o (yielded ops a.tmps)):Yields P ops S o v a':=by
 unfold Yields at *; rw[he,hw]; exact hy
def dj (i:Nat) (pins:List m0):List m0:=pins.filter fun p=>!p.D.any (Nat.beq i)
def dI (P:Program) (ops:Array Oper) (Q:Exit->Act->World->Prop):Nat->Array Bool->Act->(World->Prop)->List m0->Prop
 | 0,l,a,S,_=>Region.ready .any ops l = []/\∀ w,S w->Q .normal a w
 | f+1,l,a,S,pins=>(Region.ready .any ops l = []->∀ w,S w->Q .normal a w)/\∀ i∈Region.ready .any ops l,∀ o,ops[i]?=some o ->
   (bA o.op=false->∃ v,Yields P ops S o v a/\dI P ops Q f (l.setIfInBounds i true) (a.put o.dst v) S (dj i pins)) /\
   (bA o.op=true->∀ w,S w->Ev.qA P ops o a w fun v w'=>∃ S':World->Prop,(∀ p∈dj i pins,∀ w,S' w->p.Y w)/\S' w'/\dI P ops Q f (l.setIfInBounds i true) (a.put o.dst v) S' (dj i pins))
theorem dI.sound:∀ (f:Nat) (l:Array Bool) (a:Act) (S:World->Prop) (pins:List m0) (w:World),dI P ops Q f l a S pins->S w->wpAny P .any ops Q f l a w
 | 0,l,a,S,_,w,h,hw=>⟨h.1,h.2 w hw⟩
 | f+1,l,a,S,pins,w,h,hw=>by
  refine⟨fun h0=>h.1 h0 w hw,fun i hi=>?_⟩
  obtain⟨o,ho⟩:=Ev.xK hi
  obtain⟨h0,h1⟩:=h.2 i hi o ho
  unfold wpOp
  rw[ho]
  simp only
  by_cases hl:bA o.op=false
  ·obtain⟨v,hy,hn⟩:=h0 hl
   rcases hy with ⟨gY,hy⟩|⟨gY,rfl⟩
   ·rw[if_pos gY]
    refine .inl (Ev.vA (K:=fun u w'=>u=v/\w'=w) (by rw[hy w hw]; exact⟨rfl,rfl⟩) fun u w' ⟨hu,hb⟩=>?_)
    subst hu; subst hb
    exact dI.sound f _ _ S _ w' hn hw
   ·rw[if_neg (by rw[gY]; simp)]
    exact dI.sound f _ _ S _ w hn hw
  ·rcases h1 (by simpa using hl) w hw with ⟨gY,hd⟩|⟨gY,S',_,J8,hn⟩
   ·rw[if_pos gY]
    refine .inl (Ev.vA hd fun u w' ⟨S',_,J8,hn⟩=>?_)
    exact dI.sound f _ _ S' _ w' hn J8
   ·rw[if_neg (by rw[gY]; simp)]
    exact dI.sound f _ _ S' _ w hn J8
theorem mq {o:Oper} {a:Act} {w:World} {K K':Value->World->Prop} (hK:∀ v w,K v w->K' v w) (h:Ev.qA P ops o a w K):Ev.qA P ops o a w K':=Ev.qA.mono hK h
theorem px {i:Nat} {pins uD:List m0} (h:∀ p∈uD,p∈pins):∀ p∈dj i uD,p∈dj i pins:=fun p hp=>by
 unfold dj at *
 rw[List.mem_filter] at *
 exact⟨h p hp.1,hp.2⟩
theorem dI.sub:∀ (f:Nat) (l:Array Bool) (a:Act) (S:World->Prop) (pins uD:List m0),(∀ p∈uD,p∈pins)->dI P ops Q f l a S pins->dI P ops Q f l a S uD
 | 0,_,_,_,_,_,_,h=>h
 | f+1,l,a,S,pins,uD,hs,h=>by
  refine⟨h.1,fun i hi o ho=>?_⟩
  obtain⟨h0,h1⟩:=h.2 i hi o ho
  refine⟨fun hl=>?_,fun hl w hw=>mq (fun v w' ⟨S',h2,h3,h4⟩=>⟨S',fun p hp=>h2 p (px hs p hp),h3,dI.sub f _ _ _ _ _ (px hs) h4⟩) (h1 hl w hw)⟩
  obtain⟨v,hy,hn⟩:=h0 hl
  exact⟨v,hy,dI.sub f _ _ _ _ _ (px hs) hn⟩
theorem dI.first {i:Nat} {oi:Oper} {v:Value} {D:List Nat} {Y:World->Prop} (hi:ops[i]?=some oi) (hli:bA oi.op=false) (Aw:Region.noSelect ops=true) :
  ∀ (f:Nat) (l:Array Bool) (a:Act) (S:World->Prop) (pins:List m0),
   (∀ j oj,ops[j]?=some oj->j≠i->l.getD j true=false->(∀ e∈oj.after,Region.binds .any e=true->e.on≠i)->oi.apart ops oj=true) ->
   (∀ j∈D,l.getD j false=false/\∃ oj,ops[j]?=some oj/\∃ e∈oj.after,Region.binds .any e=true/\(e.on=i\/e.on∈D)) ->
   Yields P ops Y oi v a->(∀ w,S w->Y w)->i∈Region.ready .any ops l->dI P ops Q f (l.setIfInBounds i true) (a.put oi.dst v) S (⟨i,D,Y⟩::pins)->dI P ops Q (f+1) l a S pins:=by
 intro f
 induction f with
 | zero =>
  intro l a S pins _ _ hY hSY hr H
  refine⟨fun h0=>(by rw[h0] at hr; cases hr),fun j hj o ho=>?_⟩
  by_cases FO:j=i
  ·subst FO
   rw[hi] at ho; cases ho
   exact⟨fun _=>⟨v,hY.mono hSY,H⟩,fun h=>by rw[hli] at h; cases h⟩
  ·have:=ready_mono hj FO
   rw[H.1] at this
   cases this
 | succ f ih =>
  intro l a S pins Ou hD hY hSY hr H
  refine⟨fun h0=>(by rw[h0] at hr; cases hr),fun j hj oj nT=>?_⟩
  by_cases FO:j=i
  ·subst FO
   rw[hi] at nT; cases nT
   refine⟨fun _=>⟨v,hY.mono hSY,?_⟩,fun h=>by rw[hli] at h; cases h⟩
   refine dI.sub _ _ _ _ _ _ (fun p hp=>?_) H
   unfold dj at hp
   exact List.mem_cons_of_mem _ (List.mem_filter.1 hp).1
  ·obtain⟨Xf,oj',rZ,du⟩:=mem_ready.1 hj
   rw[nT] at rZ; cases rZ
   have Qb:=(mem_ready.1 hr).1
   have Xg:l.getD i false=false:=by
    have cI:i < l.size:=by
     rcases Nat.lt_or_ge i l.size with h'|h'
     ·exact h'
     ·simp[Array.getElem?_eq_none h'] at Qb
    simp[cI] at Qb ⊢; exact Qb
   have Xh:∀ e∈oj.after,Region.binds .any e=true->e.on≠i:=fun e he hb heq=>by
    have h1:=du e he hb
    rw[heq,Xg] at h1; cases h1
   have hjD:D.any (Nat.beq j)=false:=by
    rw[List.any_eq_false]
    intro x hx e
    have:=Nat.eq_of_beq_eq_true e
    subst this
    obtain⟨_,oj2,WR,ed,he,hb,h3⟩:=hD j hx
    rw[nT] at WR; cases WR
    rcases h3 with h3|h3
    ·exact Xh ed he hb h3
    ·have h4:=du ed he hb
     rw[(hD _ h3).1] at h4; cases h4
   have hjD':j ∉ D:=fun hm=>by
    rw[List.any_eq_false] at hjD
    exact hjD j hm (Nat.beq_refl j)
   have V3:dj j (⟨i,D,Y⟩::pins)=⟨i,D,Y⟩::dj j pins:=by
    unfold dj
    rw[List.filter_cons,if_pos (by simp only[hjD]; rfl)]
   have hap:=Ou j oj nT FO Xf Xh
   obtain⟨a1,a2,a3⟩:=Oper.apart_spec hap
   have hsi:=fun cs b=>Region.noSelect_spec Aw i oi cs b hi
   have hsj:=fun cs b=>Region.noSelect_spec Aw j oj cs b nT
   have ej:execOp (a.put oi.dst v).eval oj=execOp a.eval oj:=execOp_put oj hsj a oi.dst v a1
   have wj:Region.wanted oj (yielded ops (a.put oi.dst v).tmps)=Region.wanted oj (yielded ops a.tmps):=wanted_put oj a oi.dst v a1
   have ei:∀ u,execOp (a.put oj.dst u).eval oi=execOp a.eval oi:=fun u=>execOp_put oi hsi a oj.dst u a3
   have wi:∀ u,Region.wanted oi (yielded ops (a.put oj.dst u).tmps)=Region.wanted oi (yielded ops a.tmps):=fun u=>wanted_put oi a oj.dst u a3
   have GS:∀ k ok,ops[k]?=some ok->k≠i->(l.setIfInBounds j true).getD k true=false->(∀ e∈ok.after,Region.binds .any e=true->e.on≠i)->oi.apart ops ok=true:=fun k ok hk hki V3 tP=>by
    refine Ou k ok hk hki ?_ tP
    by_cases hjk:j=k
    ·subst hjk; exact Xf
    ·rw[getD_set_ne true hjk] at V3; exact V3
   have hD':∀ k∈D,(l.setIfInBounds j true).getD k false=false/\∃ oj,ops[k]?=some oj/\∃ e∈oj.after,Region.binds .any e=true/\(e.on=i\/e.on∈D):=fun k hk=>by
    refine⟨?_,(hD k hk).2⟩
    rw[getD_set_ne false (fun e=>hjD' (by rw[e]; exact hk))]
    exact (hD k hk).1
   obtain⟨h0,h1⟩:=H.2 j (ready_mono hj FO) oj nT
   rw[V3] at h0 h1
   refine⟨fun hl=>?_,fun hl w hw=>?_⟩
   ·obtain⟨u,hu,hn⟩:=h0 hl
    refine⟨u,hu.of_same ej.symm wj.symm,?_⟩
    refine ih (l.setIfInBounds j true) (a.put oj.dst u) S (dj j pins) GS hD' (hY.of_same (ei u) (wi u)) hSY (ready_mono hr (Ne.symm FO)) ?_
    rw[Array.setIfInBounds_comm _ _ FO,← Act.put_comm a v u a2]
    exact hn
   ·have hd:=h1 hl w hw
    unfold Ev.qA at hd ⊢
    rw[ej,wj] at hd
    have step:∀ u w',(∃ S':World->Prop,(∀ p∈⟨i,D,Y⟩::dj j pins,∀ w,S' w->p.Y w)/\S' w'/\dI P ops Q f ((l.setIfInBounds i true).setIfInBounds j true) ((a.put oi.dst v).put oj.dst u) S' (⟨i,D,Y⟩::dj j pins)) ->
      ∃ S':World->Prop,(∀ p∈dj j pins,∀ w,S' w->p.Y w)/\S' w'/\dI P ops Q (f+1) (l.setIfInBounds j true) (a.put oj.dst u) S' (dj j pins):=by
     rintro u w' ⟨S',J8,cd,hn⟩
     refine⟨S',fun p hp=>J8 p (List.mem_cons_of_mem _ hp),cd,ih (l.setIfInBounds j true) (a.put oj.dst u) S' (dj j pins) GS hD' (hY.of_same (ei u) (wi u)) (J8 _ List.mem_cons_self) (ready_mono hr (Ne.symm FO)) ?_⟩
     rw[Array.setIfInBounds_comm _ _ FO,← Act.put_comm a v u a2]
     exact hn
    rcases hd with ⟨hw1,hd⟩|⟨hw1,hd⟩
    ·exact .inl ⟨hw1,Ev.mj step hd⟩
    ·exact .inr ⟨hw1,step _ _ hd⟩
end
end Go.Proofs.YtnbngokbamifbaaGreatDoor.Pw

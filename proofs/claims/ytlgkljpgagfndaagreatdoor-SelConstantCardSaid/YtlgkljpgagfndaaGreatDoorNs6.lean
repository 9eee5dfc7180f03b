/- What this claim is proved with: no condition. -/
import Derived.Test.YtlgkljpgagfndaaGreatDoorNs5
set_option linter.unusedVariables false
set_option linter.unusedSimpArgs false
namespace Go.Proofs.YtlgkljpgagfndaaGreatDoor.Pw
open Go Go.RowKit
section
variable {w w':World} {I I':Nat->Prop} {β aV:aB} {cx:Ev.Cx} {G:Gx} {P:Program} {s:ba} {a:Act} {st dM:List ak}
def eg (w:World) (I:Nat->Prop) (es:List PV) (n:Nat) (xs:List Value):Prop :=
 xs.length=es.length*n/\∀ i e,es[i]?=some e->e.cells.length=n/\∀ j c,e.cells[j]?=some c->∃ v,xs[i*n+j]?=some v/\c.Is w I (fun _=>none) v/\v.oneCell'=true
def dw (w:World) (I:Nat->Prop) (β:aB) (cs:List PV) (xs:List Value):Prop:=xs.length=cs.length/\∀ (j:Nat) (c:PV),cs[j]?=some c->∃ v:Value,xs[j]?=some v/\c.Is w I β v/\v.oneCell'=true
def nh (w:World) (I:Nat->Prop) (β:aB) (n:Nat):Src->List Value->Prop
 | .stat cs,xs=>dw w I β cs xs
 | .told es,xs=>eg w I es n xs
theorem eg.append {es fs:List PV} {n:Nat} {xs ys:List Value} (h:eg w I es n xs) (k:eg w I fs n ys):eg w I (es++fs) n (xs++ys):=by
 refine⟨by rw[List.length_append,List.length_append,h.1,k.1,Nat.add_mul],fun i e he=>?_⟩
 by_cases hi:i < es.length
 ·rw[List.getElem?_append_left hi] at he
  obtain⟨h1,h2⟩:=h.2 i e he
  refine⟨h1,fun j c hc=>?_⟩
  obtain⟨v,hv,h3⟩:=h2 j c hc
  have:=(List.getElem?_eq_some_iff.1 hv).1
  exact⟨v,by rw[List.getElem?_append_left this]; exact hv,h3⟩
 ·rw[List.getElem?_append_right (by omega)] at he
  obtain⟨h1,h2⟩:=k.2 _ e he
  refine⟨h1,fun j c hc=>?_⟩
  obtain⟨v,hv,h3⟩:=h2 j c hc
  have e1:es.length*n<=i*n:=Nat.mul_le_mul_right _ (by omega)
  refine⟨v,?_,h3⟩
  rw[List.getElem?_append_right (by rw[h.1]; omega),h.1,show i*n+j - es.length*n=(i - es.length)*n+j by rw[Nat.sub_mul]; omega]
  exact hv
theorem dw.append {cs ds:List PV} {xs ys:List Value} (h:dw w I β cs xs) (k:dw w I β ds ys):dw w I β (cs++ds) (xs++ys):=by
 refine⟨by rw[List.length_append,List.length_append,h.1,k.1],fun j c hc=>?_⟩
 by_cases hj:j < cs.length
 ·rw[List.getElem?_append_left hj] at hc
  rw[List.getElem?_append_left (by rw[h.1]; exact hj)]
  exact h.2 j c hc
 ·rw[List.getElem?_append_right (by omega)] at hc
  rw[List.getElem?_append_right (by rw[h.1]; omega),h.1]
  exact k.2 _ c hc
theorem eg.mono {es:List PV} {n:Nat} {xs:List Value} (hI:∀ g,I g->I' g) (hw:∀ g,I g->w'.heap[g]?=w.heap[g]?) (h:eg w I es n xs):eg w' I' es n xs :=
 ⟨h.1,fun i e he=>⟨(h.2 i e he).1,fun j c hc=>let ⟨v,h1,h2,h3⟩:=(h.2 i e he).2 j c hc; ⟨v,h1,PV.Is.mono hI hw c _ _ v (fun _ _ _ h=>h) h2,h3⟩⟩⟩
theorem dw.mono {cs:List PV} {xs:List Value} (hI:∀ g,I g->I' g) (hw:∀ g,I g->w'.heap[g]?=w.heap[g]?) (hb:∀ l p,β l=some p->aV l=some p) (h:dw w I β cs xs):dw w' I' aV cs xs :=
 ⟨h.1,fun j c hc=>let ⟨v,h1,h2,h3⟩:=h.2 j c hc; ⟨v,h1,PV.Is.mono hI hw c _ _ v (fun l p _=>hb l p) h2,h3⟩⟩
theorem cl.row:∀ {es:List PV} {n g o:Nat},cl w I es n g o->∃ xs,eg w I es n xs/\∀ j v,xs[j]?=some v->w.cell? ⟨g,o+j,none⟩=some v
 | [],n,g,o,_=>⟨[],⟨by simp,fun i e he=>by simp at he⟩,fun j v h=>by simp at h⟩
 | e::es,n,g,o,h=>by
  rw[cl.cons] at h
  obtain⟨⟨hl,hc⟩,h⟩:=h
  obtain⟨xs,hx,hy⟩:=cl.row h
  have key:∀ (cs:List PV) (o:Nat),cX w I cs g o->∃ ys:List Value,ys.length=cs.length/\(∀ (j:Nat) (c:PV),cs[j]?=some c->∃ v:Value,ys[j]?=some v/\c.Is w I (fun _=>none) v/\v.oneCell'=true)/\∀ (j:Nat) (v:Value),ys[j]?=some v->w.cell? ⟨g,o+j,none⟩=some v:=by
   intro cs
   induction cs with
   | nil=>intro o _; exact⟨[],rfl,fun j c h=>by simp at h,fun j v h=>by simp at h⟩
   | cons c cs ih =>
    intro o h
    simp only[cX] at h
    obtain⟨⟨v,h1,h2⟩,h3⟩:=h
    obtain⟨ys,g1,g2,g3⟩:=ih (o+1) h3
    refine⟨v::ys,by simp[g1],fun j c' vD=>?_,fun j u hu=>?_⟩
    ·cases j with
     | zero=>simp at vD; subst vD; exact⟨v,rfl,h2⟩
     | succ j=>simpa using g2 j c' (by simpa using vD)
    ·cases j with
     | zero=>simp at hu; subst hu; exact h1
     | succ j=>rw[show o+(j+1)=o+1+j by omega]; exact g3 j u (by simpa using hu)
  obtain⟨ys,g1,g2,g3⟩:=key e.cells o hc
  have Fa:ys.length=n:=by omega
  refine⟨ys++xs,?_,fun j v hv=>?_⟩
  ·refine⟨by rw[List.length_append,hx.1,List.length_cons,Fa,Nat.succ_mul]; omega,fun i e' Wn=>?_⟩
   cases i with
   | zero =>
    simp at Wn; subst Wn
    refine⟨hl,fun j c hj=>?_⟩
    obtain⟨v,hv,h2⟩:=g2 j c hj
    have:=(List.getElem?_eq_some_iff.1 hv).1
    exact⟨v,by rw[Nat.zero_mul,Nat.zero_add,List.getElem?_append_left this]; exact hv,h2⟩
   | succ i =>
    obtain⟨h1,h2⟩:=hx.2 i e' (by simpa using Wn)
    refine⟨h1,fun j c hj=>?_⟩
    obtain⟨v,hv,h3⟩:=h2 j c hj
    refine⟨v,?_,h3⟩
    rw[Nat.succ_mul,List.getElem?_append_right (by omega),show i*n+n+j - ys.length=i*n+j by omega]
    exact hv
  ·by_cases hj:j < ys.length
   ·rw[List.getElem?_append_left hj] at hv; exact g3 j v hv
   ·rw[List.getElem?_append_right (by omega)] at hv
    have:=hy _ v hv
    rw[show o+n+(j - ys.length)=o+j by omega] at this
    exact this
theorem eg.at {es:List PV} {n g:Nat} {xs:List Value} (h:eg w I es n xs) (hc:∀ j v,xs[j]?=some v->w'.cell? ⟨g,j,none⟩=some v) (hI:∀ g,I g->I' g) (hw:∀ g,I g->w'.heap[g]?=w.heap[g]?):cl w' I' es n g 0:=cl.of fun i e he=>by
 obtain⟨h1,h2⟩:=h.2 i e he
 refine⟨h1,cX.of fun j c hj=>?_⟩
 obtain⟨v,hv,h3,h4⟩:=h2 j c hj
 exact⟨v,by rw[Nat.zero_add]; exact hc _ v hv,PV.Is.mono hI hw c _ _ v (fun _ _ _ h=>h) h3,h4⟩
theorem eg.BS {es:List PV} {n:Nat} {xs:List Value} (h:eg w I es n xs):∀ v∈xs,v.oneCell'=true:=by
 intro v hv
 obtain⟨k,hk,rfl⟩:=List.getElem_of_mem hv
 have gP:k < es.length*n:=by rw[← h.1]; exact hk
 have hn:0 < n:=by
  rcases Nat.eq_zero_or_pos n with h0|h0
  ·rw[h0] at gP; omega
  ·exact h0
 have hi:k / n < es.length:=Nat.div_lt_of_lt_mul (by rw[Nat.mul_comm]; exact gP)
 obtain⟨h1,h2⟩:=h.2 _ _ (List.getElem?_eq_getElem hi)
 have hm:k % n < n:=Nat.mod_lt _ hn
 obtain⟨u,hu,_,h3⟩:=h2 (k % n) _ (List.getElem?_eq_getElem (by omega))
 rw[show k / n*n+k % n=k by rw[Nat.mul_comm]; exact Nat.div_add_mod k n,List.getElem?_eq_getElem hk] at hu
 cases hu; exact h3
theorem dw.BS {cs:List PV} {xs:List Value} (h:dw w I β cs xs):∀ v∈xs,v.oneCell'=true:=by
 intro v hv
 obtain⟨k,hk,rfl⟩:=List.getElem_of_mem hv
 have gP:k < cs.length:=by rw[← h.1]; exact hk
 obtain⟨u,hu,_,h3⟩:=h.2 _ _ (List.getElem?_eq_getElem gP)
 rw[List.getElem?_eq_getElem hk] at hu
 cases hu; exact h3
theorem nh.BS {n:Nat} {x:Src} {xs:List Value} (h:nh w I β n x xs):∀ v∈xs,v.oneCell'=true:=by
 cases x with
 | stat cs=>exact dw.BS h
 | told es=>exact eg.BS h
theorem te {ag:Bool} {n:Nat} (hn:0 < n) (FE:ag=true\/n=1):∀ (k:Nat) {cs:List PV} {xs:List Value},cs.length=k*n->dw w I β cs xs->(chunk ag n k cs).all PV.elem=true->(chunk ag n k cs).length=k/\eg w I (chunk ag n k cs) n xs
 | 0,cs,xs,hl,h,_=>by
  have:xs = []:=List.eq_nil_of_length_eq_zero (by rw[h.1,hl,Nat.zero_mul])
  subst this
  exact⟨rfl,by simp[chunk],fun i e he=>by simp[chunk] at he⟩
 | k+1,cs,xs,hl,h,dE=>by
  simp only[chunk,List.all_cons,Bool.and_eq_true] at dE
  obtain⟨he,dE⟩:=dE
  have hlk:(cs.drop n).length=k*n:=by rw[List.length_drop,hl,Nat.succ_mul]; omega
  have Rq:dw w I β (cs.drop n) (xs.drop n):=⟨by rw[List.length_drop,List.length_drop,h.1],fun j c hc=>by
   rw[List.getElem?_drop] at hc ⊢; exact h.2 _ c hc⟩
  obtain⟨E7,Fk⟩:=te hn FE k hlk Rq dE
  have hcn:n<=cs.length:=by rw[hl,Nat.succ_mul]; omega
  have nr:∀ {c:PV} {y:Value},c.nf=true->c.Is w I β y->c.Is w I (fun _=>none) y:=fun {c y} hc hi=>by
   refine PV.Is.mono (fun _ h=>h) (fun _ _=>rfl) _ β _ _ (fun l p hl=>?_) hi
   cases c<;>simp_all [PV.cR,PV.nf]
  refine⟨by simp[chunk,E7],by rw[h.1,hl]; simp only[chunk,List.length_cons,E7],fun i e hi=>?_⟩
  cases i with
  | zero =>
   simp only[chunk,List.getElem?_cons_zero,Option.some.injEq] at hi
   subst hi
   cases ag with
   | true =>
    simp only[if_true,PV.elem,List.all_eq_true] at he
    simp only[if_true,PV.cells]
    refine⟨by rw[List.length_take]; omega,fun j c hj=>?_⟩
    rw[List.getElem?_take] at hj
    split at hj
    ·obtain⟨v,hv,h2,h3⟩:=h.2 j c hj
     refine⟨v,by rw[Nat.zero_mul,Nat.zero_add]; exact hv,nr (he c ?_) h2,h3⟩
     refine List.mem_of_getElem? (i:=j) ?_
     rw[List.getElem?_take,if_pos ‹_›]; exact hj
    ·cases hj
   | false =>
    have lv:n=1:=by simpa using FE
    subst lv
    cases cs with
    | nil=>simp at hcn
    | cons c cs =>
     simp only[Bool.false_eq_true,if_false] at he ⊢
     obtain⟨v,hv,h2,h3⟩:=h.2 0 c rfl
     have Ri:c.cells = [c]:=by
      cases c<;>first|rfl|(simp only[PV.Is] at h2; obtain⟨vs,rfl,_⟩:=h2; simp[Value.oneCell'] at h3)
     rw[Ri]
     refine⟨rfl,fun j c' hj=>?_⟩
     cases j with
     | zero =>
      simp at hj; subst hj
      refine⟨v,by simpa using hv,nr ?_ h2,h3⟩
      cases c<;>first|exact he|(exfalso; simp only[PV.Is] at h2; obtain⟨vs,rfl,_⟩:=h2; simp[Value.oneCell'] at h3)
     | succ j=>simp at hj
  | succ i =>
   simp only[chunk,List.getElem?_cons_succ] at hi
   obtain⟨h1,h2⟩:=Fk.2 i e hi
   refine⟨h1,fun j c hj=>?_⟩
   obtain⟨v,hv,h3⟩:=h2 j c hj
   refine⟨v,?_,h3⟩
   rw[List.getElem?_drop] at hv
   rw[Nat.succ_mul,show i*n+n+j=n+(i*n+j) by omega]
   exact hv
theorem xw {x:PV} {v:Value} (h:x.Is w I β v):x.norm.Is w I β v:=by
 cases x<;>first|exact h|(simp only[PV.norm,PV.Is] at h ⊢; exact h)
theorem vE {cs:List PV} {xs:List Value} (h:dw w I β cs xs):dw w I β (cs.map PV.norm) xs:=by
 refine⟨by rw[List.length_map]; exact h.1,fun j c hj=>?_⟩
 rw[List.getElem?_map,Option.map_eq_some_iff] at hj
 obtain⟨d,hd,rfl⟩:=hj
 obtain⟨v,h1,h2,h3⟩:=h.2 j d hd
 exact⟨v,h1,xw h2,h3⟩
theorem fE {ag:Bool} {n:Nat} (hn:0 < n) (FE:ag=true\/n=1) {x:Src} {es:List PV} {xs:List Value} {len:Nat} (h:fj ag n x=some es) (hx:nh w I β n x xs) (hl:xs.length=len*n):es.length=len/\eg w I es n xs:=by
 have hc:∀ {a b:Nat},a*n=b*n->a=b:=fun h=>Nat.eq_of_mul_eq_mul_right hn h
 cases x with
 | told es' =>
  simp only[fj,Option.some.injEq] at h
  subst h
  exact⟨hc (by rw[← hx.1,hl]),hx⟩
 | stat cs =>
  simp only[fj,xi,Nat.zero_add] at h
  split at h
  ·rename_i dE
   cases h
   have A5:cs.length=len*n:=by rw[← hx.1,hl]
   have hd:cs.length / n=len:=by rw[A5]; exact Nat.mul_div_cancel _ hn
   rw[hd] at dE ⊢
   exact te hn FE len (by rw[List.length_map]; exact A5) (vE hx) dE
  ·cases h
theorem lI {arr:Array Value} {g:Nat} {ty:TypeId} {fr:Nat × Nat} (hh:w.heap[g]?=some (.cells arr ty fr)) (o k:Nat):∀ (j:Nat) (v:Value),((arr.toList.drop o).take k)[j]?=some v->w.cell? ⟨g,o+j,none⟩=some v:=fun j v hv=>by
 rw[List.getElem?_take] at hv
 split at hv
 ·rw[List.getElem?_drop] at hv
  rw[Ev.fi hh]; simpa using hv
 ·cases hv
theorem FQ (hO:Ev.fg cx) (hh:aN I β st w) {n:Nat} (hn:0 < n) {x:PV} {u:Value} {q:Src->Prop} (h:Kh cx st n x q) (hx:x.Is w I β u) :
  ∃ src ad len c news,q src/\u = .slice ad len c/\nh w I β n src news/\news.length=len*n/\(len=0\/∃ g o,ad=some ⟨g,o,none⟩)/\∀ g o,ad=some ⟨g,o,none⟩->∀ j v,news[j]?=some v->w.cell? ⟨g,o+j,none⟩=some v:=by
 unfold Kh at h
 split at h<;>try simp only[PV.Is] at hx
 ·exact⟨_,none,0,0,[],h,hx,⟨by simp,fun i e he=>by simp at he⟩,by simp,.inl rfl,fun _ _ _ j v hv=>by simp at hv⟩
 ·rename_i m es
  replace h:=bf h
  obtain⟨hm,h⟩:=h
  have hm:=Nat.eq_of_beq_eq_true hm
  obtain⟨ad,cap,rfl,_,_,h4,h5⟩:=hx
  by_cases h0:es.length=0
  ·have:es = []:=List.eq_nil_of_length_eq_zero h0
   subst this
   exact⟨_,ad,0,cap,[],h,rfl,⟨by simp,fun i e he=>by simp at he⟩,by simp,.inl rfl,fun _ _ _ j v hv=>by simp at hv⟩
  ·obtain⟨g,o,rfl,hg,_⟩:=h5 h0
   obtain⟨xs,h6,h7⟩:=(h4 g o rfl).row
   rw[hm] at h6
   exact⟨_,_,es.length,cap,xs,h,rfl,h6,h6.1,(.inr ⟨_,_,rfl⟩),fun g' o' e=>by cases e; exact h7⟩
 ·rename_i l off len
  replace h:=ay h
  obtain⟨b,hb,h⟩:=h
  replace h:=bf h
  obtain⟨hc,h⟩:=h
  simp only[Bool.and_eq_true] at hc
  have hle:=Nat.le_of_ble_eq_true hc.2
  obtain⟨p,g,o,cap,hp,ha,rfl,_⟩:=hx
  obtain⟨arr,ty,fr,gO,nT,_⟩:=iq hh hb hc.1 hp ha
  have fe:0 < len*n->o+off+len*n<=arr.size:=fun h0=>by
   obtain⟨z,hz,_⟩:=nT _ _ (List.getElem?_eq_getElem (show off+len*n - 1 < b.cs.length by omega))
   have:=(Array.getElem?_eq_some_iff.1 hz).1
   omega
  have Fc:((arr.toList.drop (o+off)).take (len*n)).length=len*n:=by
   rw[List.length_take,List.length_drop,Array.length_toList]
   rcases Nat.eq_zero_or_pos (len*n) with h0|h0
   ·omega
   ·have:=fe h0; omega
  refine⟨_,_,len,cap,_,cv h,rfl,⟨?_,fun j c hj=>?_⟩,Fc,(.inr ⟨_,_,rfl⟩),fun g' o' e=>by cases e; exact lI gO _ _⟩
  ·rw[Fc,List.length_take,List.length_drop]; omega
  ·rw[List.getElem?_take] at hj
   split at hj
   ·rename_i yP
    rw[List.getElem?_drop] at hj
    obtain⟨v,hv,h1,h2⟩:=nT _ _ hj
    exact⟨v,by rw[List.getElem?_take,if_pos yP,List.getElem?_drop]; simpa [Nat.add_assoc] using hv,h1,h2⟩
   ·cases hj
 ·rename_i l
  replace h:=ay h
  obtain⟨b,hb,h⟩:=h
  replace h:=bf h
  obtain⟨hc,h⟩:=h
  simp only[Bool.and_eq_true] at hc
  have tc:=Nat.eq_of_beq_eq_true hc.2
  obtain⟨p,hp,rfl⟩:=hx
  split at h
  ·rename_i hk
   obtain⟨g,arr,fr,ha,hw,gO,nT,_,hlen,hle,_,has,_⟩:=e8 hh hb hc.1 hk hp
   rw[tc] at hlen has
   have fe:p.len*n<=arr.size:=by rw[has]; exact Nat.mul_le_mul_right _ hle
   refine⟨_,_,p.len,p.cap,(arr.toList.drop 0).take (p.len*n),h,hw,⟨?_,fun j c hj=>?_⟩,?_,(.inr ⟨_,_,rfl⟩),fun g' o' e=>by cases e; exact lI gO _ _⟩
   ·rw[List.length_take,List.length_drop,Array.length_toList]; omega
   ·obtain⟨v,hv,h1,h2⟩:=nT _ _ hj
    have yP:j < p.len*n:=by rw[← hlen]; exact (List.getElem?_eq_some_iff.1 hj).1
    exact⟨v,by rw[List.getElem?_take,if_pos yP,List.getElem?_drop]; simpa using hv,h1,h2⟩
   ·rw[List.length_take,List.length_drop,Array.length_toList]; omega
  ·rename_i hk
   obtain⟨_,hlen,hle,_,lE⟩:=df hh hb hc.1 hk hp
   rcases lE with ⟨_,vf,hw⟩|⟨g,arr,fr,ha,hw,gO,ow,_,has⟩
   ·have fw:b.cs = []:=List.eq_nil_of_length_eq_zero (by omega)
    rw[fw] at h
    exact⟨_,none,0,0,[],h,hw,⟨by simp,fun i e he=>by simp at he⟩,by simp,.inl rfl,fun _ _ _ j v hv=>by simp at hv⟩
   ·obtain⟨xs,h6,h7⟩:=ow.row
    rw[tc] at h6
    exact⟨_,_,p.len,p.cap,xs,h,hw,h6,by rw[h6.1,hlen],(.inr ⟨_,_,rfl⟩),fun g' o' e=>by cases e; exact h7⟩
  ·exact h.elim
 ·exact h.elim
theorem tg {l:Nat} {b:ak} {q:List ak->Prop} (hb:st[l]?=some b) (h:By st l q):∃ b',b'.live=false/\q (st.set l b'):=by
 replace h:=ay h
 obtain⟨b2,dD,h⟩:=h
 cases b2
 exact⟨_,rfl,(jX h).2⟩
theorem BT (hh:aN I β st w) {n:Nat} (hn:0 < n) {elem:TypeId} {x:PV} {v:Value} {q:Src->List ak->Prop} (h:Bz st elem n x q) (hx:x.Is w I β v) :
  ∃ dst dM xs len,q dst dM/\w.ownsRow 0 elem n v len xs/\nh w I β n dst xs/\xs.length=len*n/\aN I β dM w/\dM.length=st.length/\Ext I β st w I β dM w/\(∀ g,v.ownBlock=some g->Wr β st g/\¬ I g/\¬ ik β dM g)/\(v = .slice none 0 0\/∃ ad m c,v = .slice (some ad) m c):=by
 unfold Bz at h
 split at h<;>try simp only[PV.Is] at hx
 ·subst hx
  exact⟨_,st,[],0,h,World.ownsRow_nil _ _ _ _,⟨by simp,fun j c hj=>by simp at hj⟩,by simp,hh,rfl,Ext.refl,fun g e=>by simp[Value.ownBlock] at e,.inl rfl⟩
 ·rename_i l
  replace h:=ay h
  obtain⟨b,hb,h⟩:=h
  replace h:=bf h
  obtain⟨hc,h⟩:=h
  simp only[Bool.and_eq_true] at hc
  obtain⟨aL,hm⟩:=rE hc.1.1
  have tc:=Nat.eq_of_beq_eq_true hc.1.2
  have BU:=Nat.eq_of_beq_eq_true hc.2
  obtain⟨p,hp,rfl⟩:=hx
  have dead:∀ {g o:Nat} {b':ak},p.a=some (g,o)->b'.live=false->(Own I β st l g (0,0) b\/∃ fr,Own I β st l g fr b)->Wr β st g/\¬ I g/\¬ ik β (st.set l b') g:=by
   intro g o b' ha db ho
   have ho:∃ fr,Own I β st l g fr b:=ho.elim (fun h=>⟨_,h⟩) id
   obtain⟨fr,ho⟩:=ho
   refine⟨⟨l,b,p,o,hb,aL,hm,hp,ha⟩,(ho.1 (by rw[hm]; decide)).2.1,fun ⟨l2,b2,p2,o2,h1,h2,h3,h4⟩=>?_⟩
   by_cases cZ:l2=l
   ·subst cZ
    rw[List.getElem?_set_self (by simpa using (List.getElem?_eq_some_iff.1 h1).1)] at h1
    cases h1; rw[db] at h2; cases h2
   ·rw[List.getElem?_set_ne (fun e=>cZ e.symm)] at h1
    exact (ho.1 (by rw[hm]; decide)).2.2 l2 b2 cZ h1 h2 p2 g o2 h3 h4 rfl
  split at h
  ·rename_i hk
   obtain⟨b',db,h⟩:=tg hb h
   obtain⟨g,arr,fr,ha,hw,gO,nT,eK,hlen,hle,pP,has,_⟩:=e8 hh hb aL hk hp
   rw[tc] at hlen has
   have xr:fr=(0,0):=(eK.1 (by rw[hm]; decide)).1
   subst xr
   have fe:p.len*n<=arr.size:=by rw[has]; exact Nat.mul_le_mul_right _ hle
   have oE:(arr.toList.take (p.len*n)).length=p.len*n:=by rw[List.length_take,Array.length_toList]; omega
   refine⟨_,_,arr.toList.take (p.len*n),p.len,h,⟨oE,.inr ⟨g,p.cap,arr,hw,Nat.zero_le _,by rw[← BU]; exact gO,hle,pP,has,rfl⟩⟩,⟨by rw[oE,hlen],fun j c hj=>?_⟩,oE,hh.kill l db,by simp,Ext.kill db,fun g' e=>?_,.inr ⟨_,_,_,hw⟩⟩
   ·obtain⟨u,hu,h1,h2⟩:=nT _ _ hj
    have yP:j < p.len*n:=by rw[← hlen]; exact (List.getElem?_eq_some_iff.1 hj).1
    exact⟨u,by rw[List.getElem?_take,if_pos yP]; simpa using hu,h1,h2⟩
   ·rw[hw] at e
    simp only[Value.ownBlock,Option.some.injEq] at e
    subst e
    exact dead ha db (.inl eK)
  ·rename_i hk
   obtain⟨b',db,h⟩:=tg hb h
   obtain⟨_,hlen,hle,pP,lE⟩:=df hh hb aL hk hp
   rcases lE with ⟨_,vf,hw⟩|⟨g,arr,fr,ha,hw,gO,ow,eK,has⟩
   ·have fw:b.cs = []:=List.eq_nil_of_length_eq_zero (by omega)
    rw[fw] at h
    rw[hw]
    exact⟨_,_,[],0,h,World.ownsRow_nil _ _ _ _,⟨by simp,fun i e he=>by simp at he⟩,by simp,hh.kill l db,by simp,Ext.kill db,fun g e=>by simp[Value.ownBlock] at e,.inl rfl⟩
   ·rw[tc] at ow has
    have xr:fr=(0,0):=(eK.1 (by rw[hm]; decide)).1
    subst xr
    obtain⟨xs,h6,h7⟩:=ow.row
    have fe:p.len*n<=arr.size:=by rw[has]; exact Nat.mul_le_mul_right _ hle
    have oE:xs.length=p.len*n:=by rw[h6.1,hlen]
    refine⟨_,_,xs,p.len,h,⟨oE,.inr ⟨g,p.cap,arr,hw,Nat.zero_le _,by rw[← BU]; exact gO,hle,pP,has,?_⟩⟩,h6,oE,hh.kill l db,by simp,Ext.kill db,fun g' e=>?_,.inr ⟨_,_,_,hw⟩⟩
    ·apply List.ext_getElem?
     intro j
     rw[List.getElem?_take]
     split
     ·rename_i hj
      have Vi:j < xs.length:=by omega
      have:=h7 j _ (List.getElem?_eq_getElem Vi)
      rw[Ev.fi gO,Nat.zero_add] at this
      rw[List.getElem?_eq_getElem Vi]; simpa using this
     ·rename_i hj
      rw[List.getElem?_eq_none (by omega)]
    ·rw[hw] at e
     simp only[Value.ownBlock,Option.some.injEq] at e
     subst e
     exact dead ha db (.inl eK)
  ·exact h.elim
 ·exact h.elim
theorem nD (t ty e:TypeId) (i:TypeInfo) (ht:P.underlying t=some (.slice e)) (hi:P.info? e=some i) (b:Option Addr) (n cap c:Nat) (hle:n<=cap):(Builtin.append_ #[t,t] ty #[.slice b n cap,.slice none 0 c]).run P w = .ok (.slice b n cap) w:=by
 cases b<;>simp[Builtin.append_,run_underlying ht,sizeOf,typeInfo,hi,Builtin.lenOf,Builtin.firstCells,hle,storeCells]
end
section
variable {w w':World} {I I':Nat->Prop} {β aV:aB} {cx:Ev.Cx} {G:Gx} {P:Program} {s:ba} {a:Act} {st dM:List ak}
theorem th (s:ba) (x y:List ak):(s.store x).store y=s.store y:=by cases s; rfl
theorem Ext.Wo {ji:List ak} (h:aN I β ji w) (tj:∀ g,Wr β ji g->Wr β st g) (Wc:w'.os=w.os) (BL:w'.tape=w.tape) (oz:w'.output=w.output) (fe:w.heap.size<=w'.heap.size) {b:ak} {p:na} (hw:∀ g,g < w.heap.size->¬ Wr β st g->w'.heap[g]?=w.heap[g]?)
  (hp:∀ g o,p.a=some (g,o)->g < w.heap.size->Wr β st g):Ext I β st w I (β.set ji.length p) (ji++[b]) w' :=
 ⟨Wc,BL,oz,fe,hw,fun g hg ⟨l,b',q,o,h1,h2,h3,h4,h5⟩=>by
  unfold aB.set at h4
  split at h4
  ·cases h4
   exact hp g o h5 hg
  ·have:=h.lt h4
   rw[List.getElem?_append_left this] at h1
   exact tj g ⟨l,b',q,o,h1,h2,h3,h4,h5⟩,fun _ h=>h,fun _ _ h=>.inl h⟩
theorem oF (hR:Rel G I β s a w) {ji:List ak} (hk:aN I β ji w) (tj:∀ g,Wr β ji g->Wr β s.st g) (hlen:ji.length=s.st.length) {v:Value} (hv:∀ g,v.ownBlock=some g->Wr β s.st g/\¬ I g/\¬ ik β ji g)
  (hg:w.grownBy w' v.ownBlock) {b:ak} {p:na} {q:PV->ba->Prop} (h:lB (s.store ji) b q) (hp:∀ g o,p.a=some (g,o)->v.ownBlock=some g\/g=w.heap.size) (hm:b.m = .w)
  (hb:(∀ g,p.a=some (g,0)->Own I (β.set ji.length p) (ji++[b]) ji.length g (0,0) b)->(∀ g,I g->w'.heap[g]?=w.heap[g]?)->fN I (β.set ji.length p) (ji++[b]) w' ji.length b):cN G s I β w a q p.whole w':=by
 have Ku:(s.store ji).st=ji:=(ba.ir s ji).2.2.1
 unfold lB at h
 rw[Ku] at h
 replace h:=jY (ga h)
 rw[Nat.zero_add,th] at h
 have nC:=aB.il hk p
 have eK:∀ g,ik β ji g\/I g->w'.heap[g]?=w.heap[g]?:=fun g BV=>by
  refine hg.block g (BV.elim hk.dk (hR.az.az g)) fun e=>?_
  obtain⟨_,h1,h2⟩:=hv g e.symm
  exact BV.elim h2 h1
 have eW:∀ g o,p.a=some (g,o)->¬ I g/\¬ ik β ji g:=fun g o ha=>by
  rcases hp g o ha with e|e
  ·exact (hv g e).2
  ·subst e
   exact⟨fun h=>by have:=hR.az.az _ h; omega,fun h=>by have:=hk.dk h; omega⟩
 have hO:∀ g,p.a=some (g,0)->Own I (β.set ji.length p) (ji++[b]) ji.length g (0,0) b:=fun g ha=>by
  refine⟨fun _=>⟨rfl,(eW g 0 ha).1,fun l' b' cZ ig eV p' g' o' eE dH e=>?_⟩,fun hr=>by rw[hm] at hr; cases hr⟩
  subst e
  unfold aB.set at eE
  rw[if_neg cZ] at eE
  have:=hk.lt eE
  rw[List.getElem?_append_left this] at ig
  exact (eW _ _ ha).2 ⟨l',b',p',o',ig,eV,eE,dH⟩
 have hH:=hk.add eK eW (hb hO fun g hg=>eK g (.inr hg))
 have hE:Ext I β s.st w I (β.set ji.length p) (ji++[b]) w':=Ext.Wo hk tj hg.os hg.tape hg.output hg.size (fun g cz hn=>hg.block g cz fun e=>hn (hv g e.symm).1) fun g o ha cz=>by
  rcases hp g o ha with e|e
  ·exact (hv g e).1
  ·omega
 refine cN.mk' hR h hH hE nC (by simp; omega) (fun l hl=>if_neg (by omega)) ?_
 simp only[PV.Is]; exact⟨_,aB.c8 ..,rfl⟩
theorem vG (hG:nS G) (hR:Rel G I β s a w) {t ty:TypeId} {d x:PV} {u v:Value} {q:PV->ba->Prop} (h:xj G s t d x q) (hd:d.Is w I β v) (hx:x.Is w I β u) :
  ∃ r w',(Builtin.append_ #[t,t] ty #[v,u]).run G.cx.P w = .ok r w'/\cN G s I β w a q r w':=by
 replace h:=ay h
 obtain⟨td,hu,h⟩:=h
 split at h
 ·rename_i elem
  replace h:=ay h
  obtain⟨n,hn,h⟩:=h
  replace h:=ay h
  obtain⟨ag,FE,h⟩:=h
  replace h:=ay h
  obtain⟨bC,Jn,h⟩:=h
  replace h:=ij (w:=w) (I:=I) (β:=β) hG.ok h
  obtain⟨z,i,zv,h,hi,E_,rz⟩:=h
  replace h:=bf h
  obtain⟨hc,h⟩:=h
  simp only[Bool.and_eq_true,Bool.or_eq_true] at hc
  have iH:0 < n:=Nat.le_of_ble_eq_true hc.1.1
  have hzn:z.length=n:=Nat.eq_of_beq_eq_true hc.1.2
  have Rr:ag=true\/n=1:=hc.2.imp id Nat.eq_of_beq_eq_true
  obtain⟨i1,Y0,tk⟩:=Ev.ib hG.ok hn
  rw[hi] at Y0
  cases Y0
  obtain⟨i3,QE,Y1⟩:=hG.bC _ (Ev.gN Jn)
  simp only at QE Y1
  rw[hi] at QE
  cases QE
  have Vl:=rz.length
  simp only[Array.length_toList] at Vl
  replace h:=FQ hG.ok hR.heap iH h hx
  obtain⟨src,ad,len,c,news,h,rfl,oG,Fc,Kn,Rs⟩:=h
  replace h:=BT hR.heap iH h hd
  obtain⟨dst,ji,xs,mF,h,eK,Kv,oE,hk,Rt,FR,hv,hvf⟩:=h
  have tj:∀ g,Wr β ji g->Wr β s.st g:=fun g hw=>by
   have:=FR.wr g
   rcases Nat.lt_or_ge g w.heap.size with cz|Jq
   ·exact this cz hw
   ·obtain⟨l,b,p,o,h1,h2,h3,h4,h5⟩:=hw
    have:=hk.dk ⟨l,b,p,o,h1,h2,h4,h5⟩
    omega
  have Ru:=oG.BS
  
  have run:(mF+len)<=maxLen->(mF+len)*bC<=140737488355328->∃ r w',(Builtin.append_ #[t,t] ty #[v,.slice ad len c]).run G.cx.P w = .ok r w'/\w'.ownsRow 0 elem n r (mF+len) (xs++news)/\w.grownBy w' v.ownBlock/\(r.ownBlock=v.ownBlock\/r.ownBlock=some w.heap.size):=by
   intro h1 h2
   cases ad with
   | none =>
    have A7:len=0:=by rcases Kn with h|⟨g,o,h⟩<;>first|exact h|cases h
    subst A7
    have Kl:news = []:=List.eq_nil_of_length_eq_zero (by rw[Fc,Nat.zero_mul])
    subst Kl
    have hvv:∃ b m c',v = .slice b m c'/\m<=c':=by
     rcases eK.2 with ⟨rfl,_⟩|⟨g,cap,cur,rfl,_,_,hle,_⟩
     ·exact⟨_,_,_,rfl,Nat.le_refl _⟩
     ·exact⟨_,_,_,rfl,hle⟩
    obtain⟨b,m,c',rfl,hle⟩:=hvv
    refine⟨_,w,nD t ty elem i (hG.ok.un hu) hi b m c' c hle,?_,⟨rfl,rfl,rfl,Nat.le_refl _,fun _ _ _=>rfl⟩,.inl rfl⟩
    rw[List.append_nil]; exact eK
   | some ad =>
    obtain⟨r,w',hr,h3,h4,_,h5⟩:=run_append_own_at (P:=G.cx.P) w 0 t ty elem i zv n bC (hG.ok.un hu) hi E_ tk Y1 (by omega) iH v mF xs eK ad len c news Fc (fun j u hj=>by
     rcases Kn with h0|⟨g,o,e⟩
     ·rw[h0,Nat.zero_mul] at Fc
      have:=List.eq_nil_of_length_eq_zero Fc
      subst this; simp at hj
     ·cases e
      rw[Ev.gr]; exact Rs g o rfl j u hj) Ru h1 h2 (Nat.zero_le _)
    exact⟨r,w',hr,h3,h4,h5⟩
  
  have tl:∀ {r:Value} {w':World} {b:ak},w'.ownsRow 0 elem n r (mF+len) (xs++news)->w.grownBy w' v.ownBlock->(r.ownBlock=v.ownBlock\/r.ownBlock=some w.heap.size)->lB (s.store ji) b q->b.m = .w ->
    (∀ (p:na),((p.a=none/\p.len=0/\p.cap=0/\mF+len=0)\/∃ g cur,p.a=some (g,0)/\p.len=mF+len/\w'.heap[g]?=some (.cells cur elem (0,0))/\p.len<=p.cap/\p.cap<=maxLen/\cur.size=p.cap*n/\(∀ (j:Nat) (v:Value),(xs++news)[j]?=some v->cur[j]?=some v)) ->
     (∀ g,p.a=some (g,0)->Own I (β.set ji.length p) (ji++[b]) ji.length g (0,0) b)->(∀ g,I g->w'.heap[g]?=w.heap[g]?)->fN I (β.set ji.length p) (ji++[b]) w' ji.length b)->cN G s I β w a q r w':=by
   intro r w' b tm hg lH h hm hb
   rcases tm.2 with ⟨rfl,h0⟩|⟨g,cap,cur,rfl,_,Jr,hle,pP,gb,gv⟩
   ·have:=oF (p:=⟨none,0,0⟩) hR hk tj Rt hv hg h (fun g o e=>by cases e) hm (hb ⟨none,0,0⟩ (.inl ⟨rfl,rfl,rfl,h0⟩))
    exact this
   ·have:=oF (p:=⟨some (g,0),mF+len,cap⟩) hR hk tj Rt hv hg h (fun g' o e=>by
     cases e
     simp only[Value.ownBlock] at lH
     exact lH.imp (fun e=>e.symm) (fun e=>by cases e; rfl)) hm (hb ⟨some (g,0),mF+len,cap⟩ (.inr ⟨g,cur,rfl,rfl,Jr,hle,pP,gb,fun j v hj=>by
      rw[← gv,List.getElem?_take] at hj
      split at hj
      ·simpa using hj
      ·cases hj⟩))
    exact this
  have rB:∀ {w':World},w.grownBy w' v.ownBlock->∀ g,I g->w'.heap[g]?=w.heap[g]?:=fun hg g hI=>hg.block g (hR.az.az g hI) fun e=>(hv g e.symm).2.1 hI
  have Y2:(xs++news).length=(mF+len)*n:=by rw[List.length_append,oE,Fc,Nat.add_mul]
  have told:(bq (fj ag n dst) fun es=>bq (fj ag n src) fun fs=>es.length+fs.length<=maxLen/\(es.length+fs.length)*bC<=140737488355328/\lB (s.store ji) ⟨.dyn,elem,n,.w,true,es++fs⟩ q)->∃ r w',(Builtin.append_ #[t,t] ty #[v,.slice ad len c]).run G.cx.P w = .ok r w'/\cN G s I β w a q r w':=by
   intro h
   replace h:=ay h
   obtain⟨es,ow,h⟩:=h
   replace h:=ay h
   obtain⟨fs,Re,h⟩:=h
   obtain⟨he1,he2⟩:=fE iH Rr ow Kv oE
   obtain⟨hf1,hf2⟩:=fE iH Rr Re oG Fc
   obtain⟨h1,h2,h⟩:=h
   rw[he1,hf1] at h1 h2
   obtain⟨r,w',hr,tm,hg,lH⟩:=run h1 h2
   refine⟨r,w',hr,tl tm hg lH h rfl fun p hp hO hI=>⟨p,aB.c8 ..,?_⟩⟩
   rcases hp with ⟨ha,hl,Wp,h0⟩|⟨g,cur,ha,hl,Jr,hle,pP,gb,s9⟩
   ·exact⟨⟨iH,by simp only[List.length_append]; omega,by omega,by rw[Wp]; exact Nat.zero_le _⟩,.inl ⟨ha,Wp⟩⟩
   ·refine⟨⟨iH,by simp only[List.length_append]; omega,hle,pP⟩,.inr ⟨g,cur,(0,0),ha,Jr,?_,hO g ha,gb⟩⟩
    exact (he2.append hf2).at (fun j v hj=>by rw[Ev.fi Jr]; exact s9 j v hj) (fun _ h=>h) hI
  split at h
  ·rename_i cs ds
   rw[jW,jW,Nat.zero_add,Nat.zero_add] at h
   replace h:=bf h
   obtain⟨iI,h⟩:=h
   simp only[Bool.and_eq_true] at iI
   obtain⟨⟨⟨Y3,hd1⟩,Wq⟩,Y4⟩:=iI
   have Y3:0 < ds.length:=Nat.le_of_ble_eq_true Y3
   have Wq:=Nat.le_of_ble_eq_true Wq
   have Y4:=Nat.le_of_ble_eq_true Y4
   replace h:=cv h
   have A5:cs.length=mF*n:=by rw[← Kv.1,oE]
   have hdl:ds.length=len*n:=by rw[← oG.1,Fc]
   have e1:mF<=mF*n:=Nat.le_mul_of_pos_right _ iH
   have e2:len<=len*n:=Nat.le_mul_of_pos_right _ iH
   obtain⟨r,w',hr,tm,hg,lH⟩:=run (by omega) (Nat.le_trans (Nat.mul_le_mul_right _ (by omega)) Wq)
   have Y5:0 < len:=by
    rcases Nat.eq_zero_or_pos len with h0|h0
    ·rw[h0,Nat.zero_mul] at hdl; omega
    ·exact h0
   refine⟨r,w',hr,tl tm hg lH h rfl fun p hp hO hI=>⟨p,aB.c8 ..,?_⟩⟩
   rcases hp with ⟨ha,hl,Wp,h0⟩|⟨g,cur,ha,hl,Jr,hle,pP,gb,s9⟩
   ·omega
   ·refine⟨g,cur,(0,0),ha,Jr,fun j c hj=>?_,hO g ha,by simp only[List.length_append]; rw[hl,Nat.add_mul]; omega,hle,pP,gb,iH⟩
    obtain⟨v',h1,h2,h3⟩:=(dw.append Kv oG).2 j c hj
    exact⟨v',by rw[Nat.zero_add]; exact s9 j v' h1,PV.Is.mono (fun _ h=>h) hI c β _ v' (fun l p' _ eE=>aB.il hk p l p' eE) h2,h3⟩
  ·exact told h
 ·exact h.elim
theorem tp (hR:Rel G I β s a w):∀ {os:List Operand} {q:List PV->Prop},xk s os q->∃ l,q l/\bB w I l β (os.map a.eval)
 | [],q,h=>⟨[],h,by simp only[List.map_nil,bB]⟩
 | o::os,q,h=>by
  replace h:=ba.cq hR h
  obtain⟨x,h,hx⟩:=h
  obtain⟨l,h,hl⟩:=tp hR h
  exact⟨_,h,by simp only[List.map_cons,bB]; exact⟨hx,hl⟩⟩
theorem TM.mG {rl:List Nat}:∀ {t:TM} {n:Nat} {x:PV},(t.clear rl).get n=some x->t.get n=some x/\x.leads rl=false
 | .nil,n,x,h=>by cases h
 | .node v l r,n,x,h=>by
  simp only[TM.clear,TM.get] at h ⊢
  cases h0:Nat.beq n 0<;>rw[h0] at h
  ·cases h1:Nat.beq (n % 2) 1<;>rw[h1] at h
   ·exact TM.mG (t:=r) h
   ·exact TM.mG (t:=l) h
  ·cases v with
   | none=>cases h
   | some y =>
    simp only[cond_true] at h ⊢
    split at h
    ·cases h
    ·cases h
     rename_i hl
     exact⟨rfl,by simpa using hl⟩
theorem yQ {rl:List Nat} {t:TM} {q:TM->Prop} (h:vv rl t q):∃ t',q t'/\∀ n x,t'.get n=some x->t.get n=some x/\∀ l∈x.cR,l ∉ rl:=by
 unfold vv at h
 split at h
 ·exact⟨t,h,fun n x hx=>⟨hx,fun _ _ hl=>by cases hl⟩⟩
 ·refine⟨_,h,fun n x hx=>?_⟩
  obtain⟨h1,h2⟩:=TM.mG hx
  refine⟨h1,fun l hl hr=>?_⟩
  unfold PV.leads at h2
  rw[List.any_eq_false] at h2
  refine h2 l hl (List.any_eq_true.2 ⟨l,hr,?_⟩)
  exact Nat.beq_refl l
theorem BW (hR:Rel G I β s a w) {f:FuncId} {args:List PV} {bw:List Value} {q:PV->ba->Prop} (h:BA G s f args q) (ha:bB w I args β bw) :
  Ev.g_ G.cx.P f/\Calls G.cx.P f bw.toArray w fun e w'=>∃ v,e = .returned v/\cN G s I β w a q v w':=by
 obtain⟨n,t,st,b,V3⟩:=s
 obtain⟨rl,Js,hs⟩:=h
 unfold Spec at hs
 obtain⟨he,hs⟩:=hs
 refine⟨he,(hs I β w bw hR.heap hR.az ha).mono fun e w' ⟨v,r,S',I',aV,he,hk,hr,hH,hM,hE,hlen,kO⟩=>⟨v,he,?_⟩⟩
 obtain⟨t',hq,xo⟩:=yQ hk
 refine⟨r,_,I',aV,hq,⟨hR.small,hR.defers,hR.size,Nat.le_trans hR.base hlen,fun m x hx=>?_,hH,hM⟩,hr,hE,rfl,rfl,rfl,fun l hl hn=>?_,fun l b' db hm=>kO l (List.getElem?_eq_some_iff.1 db).1 fun hr=>(Js l hr).2 b' db hm⟩
 ·obtain⟨h1,h2⟩:=xo m x hx
  obtain⟨u,hu,hi⟩:=hR.get m x h1
  refine⟨u,hu,PV.Is.mono hE.az (hE.keeps hR.heap hR.az.az) x β aV u (fun l p hl hp=>?_) hi⟩
  rw[kO l (hR.heap.lt hp) (h2 l hl)]; exact hp
 ·have ig:l < b:=hl
  refine kO l (Nat.lt_of_lt_of_le ig hR.base) fun hr=>?_
  rcases (Js l hr).1 with h|h
  ·omega
  ·exact hn h
set_option maxHeartbeats 1000000 in
theorem vH (hG:nS G) (hR:Rel G I β s a w) {o:Oper} {q:PV->ba->Prop} (h:pop G s o q):Ev.nz G.cx.P (cN G s I β w a q) ((execOp a.eval o).run G.cx.P w):=by
 have tq:∀ {q':PV->Prop},nd G.cx s o.op q'->(∀ v,q' v->q v s)->Ev.nz G.cx.P (cN G s I β w a q) ((execOp a.eval o).run G.cx.P w):=by
  intro q' h hq
  obtain⟨x,r,hx,hi,hr⟩:=s_ hG.ok hR h
  rw[hr w]
  exact cN.same hR (hq x hx) hi
 unfold pop at h
 split at h
 ·
  rename_i t ad rG
  replace h:=ba.cq hR h
  obtain⟨x,h,hx⟩:=h
  obtain⟨z,v,g,h,hz,_,cf⟩:=oA hG.ok hR.heap hR.az h hx
  replace cf:=cf w rfl
  unfold execOp
  rw[rG]
  simp only[Sem.run_bind,cf,Result.andThen_ok,Sem.run_pure]
  exact cN.same hR h hz
 ·
  rename_i t ad y rG
  replace h:=ba.cq hR h
  obtain⟨x,h,hx⟩:=h
  replace h:=ba.cq hR h
  obtain⟨v,h,hv⟩:=h
  obtain⟨w',cf,hp⟩:=yO hG hR h hx hv
  unfold execOp
  rw[rG]
  simp only[Sem.run_bind,cf,Result.andThen_ok,Sem.run_pure]
  exact hp
 ·
  rename_i t rG
  replace h:=ij (w:=w) (I:=I) (β:=β) hG.ok h
  obtain⟨z,i,v,h,hi,E_,rz⟩:=h
  replace h:=bf (cv h)
  obtain⟨dE,h⟩:=h
  rw[List.all_eq_true] at dE
  have cf:(execOp a.eval o).run G.cx.P w = .ok (.value (.pointer (some ⟨w.heap.size,0,none⟩))) (w.alloc (.cells v.cells t)):=by
   unfold execOp
   rw[rG]
   simp[Instr.alloc,zeroValue,typeInfo,hi,E_,newVar,newRow]
  rw[cf]
  exact xv hR h rz dE
 ·
  rename_i t y rG
  replace h:=ba.cq hR h
  obtain⟨x,h,hx⟩:=h
  have cf:(execOp a.eval o).run G.cx.P w = .ok (.value (.pointer (some ⟨w.heap.size,0,none⟩))) (w.alloc (.cells (a.eval y).cells t)):=by
   unfold execOp
   rw[rG]
   simp[Instr.box,newVar,newRow]
  rw[cf]
  split at h
  ·exact h.elim
  ·rename_i xp
   replace h:=bf h
   obtain⟨dE,h⟩:=h
   rw[List.all_eq_true] at dE
   exact xv hR (cv h) (hx.jo fun vs e=>xp vs e) dE
 ·
  rename_i t len ps rG
  replace h:=ay h
  obtain⟨d,hu,h⟩:=h
  split at h
  ·rename_i elem
   replace h:=ay h
   obtain⟨n,hn,h⟩:=h
   replace h:=ij (w:=w) (I:=I) (β:=β) hG.ok h
   obtain⟨z,i,v,h,hi,E_,rz⟩:=h
   replace h:=mC hR h
   obtain⟨l,h,hl⟩:=h
   replace h:=bf h
   obtain⟨hc,h⟩:=h
   simp only[Bool.and_eq_true] at hc
   have Vl:z.length=n:=Nat.eq_of_beq_eq_true hc.1.1
   have tu:len*n<=16777216:=Nat.le_of_ble_eq_true hc.1.2
   have iH:0 < n:=Nat.le_of_ble_eq_true hc.2
   replace h:=lC h
   obtain⟨cs,Rv,h⟩:=h
   replace h:=bf (cv h)
   obtain⟨iI,h⟩:=h
   simp only[Bool.and_eq_true,List.all_eq_true] at iI
   have A5:=Nat.eq_of_beq_eq_true iI.1.2
   have pP:=Nat.le_of_ble_eq_true iI.2
   have hzs:=rz.length
   simp only[Array.length_toList] at hzs
   have rep:∀ k,bB w I ((List.replicate k z).flatten) β ((List.replicate k v.cells.toList).flatten):=fun k=>by
    induction k with
    | zero=>simp only[List.replicate_zero,List.flatten_nil,bB]
    | succ k ih=>simp only[List.replicate_succ,List.flatten_cons]; exact rz.append ih
   have Kw:bB w I ((List.replicate len z).flatten) β ((Array.range (len*n)).map fun i=>v.cells[i % v.cells.size]!).toList:=by
    rw[show n=v.cells.size by omega,Ev.Bp len (by omega)]; exact rep len
   obtain⟨B,hB,Rf⟩:=lD Rv Kw hl
   have cf:(execOp a.eval o).run G.cx.P w = .ok (.value (.slice (some ⟨w.heap.size,0,none⟩) len len)) (w.alloc (.cells B elem)):=by
    unfold execOp
    rw[rG]
    have Ws:Instr.fill (fun i=>some (i*n,n)) ((Array.range (len*n)).map fun i=>v.cells[i % v.cells.size]!) (ps.map fun (i,y)=>(i,a.eval y)).toList=some B:=by
     rw[← hB]; simp
    have Jt:¬ (len*n > 2 ^ 24):=by omega
    by_cases h0:len*n=0
    ·have hE:∀ g:Nat->Value,(Array.range (len*n)).map g = #[]:=fun g=>by rw[h0]; simp
     rw[hE] at Ws
     simp only[Instr.buildSlice,Sem.run_bind,run_underlying (hG.ok.un hu),Result.andThen_ok,Ev.dA hG.ok hn,if_neg Jt,if_pos h0,Sem.run_pure,hE,Ws]
     simp[newRow]
    ·have hzr:(zeroValue elem).run G.cx.P w = .ok v w:=by simp[zeroValue,typeInfo,hi,E_]
     simp only[Instr.buildSlice,Sem.run_bind,run_underlying (hG.ok.un hu),Result.andThen_ok,Ev.dA hG.ok hn,if_neg Jt,if_neg h0,Sem.run_pure,hzr,Ws]
     simp[newRow]
   rw[cf]
   exact BR hR h Rf iI.1.1 A5 iH pP
  ·exact h.elim
 ·
  rename_i y QA argTypes rG
  replace h:=ba.cq hR h
  obtain⟨x,h,hx⟩:=h
  split at h
  ·rename_i f kl
   cases FR:G.ext.any (Nat.beq f) with
   | true=>rw[FR] at h; replace h:om G s o q:=h; unfold om at h; exact h I β a w hR
   | false =>
   rw[FR] at h
   replace h:xk s QA fun l=>BA G s f (l++kl) q:=h
   simp only[PV.Is] at hx
   obtain⟨Wt,hfv,hcv⟩:=hx
   replace h:=tp hR h
   obtain⟨l,h,hl⟩:=h
   obtain⟨Wu,Rw⟩:=BW hR h (hl.append hcv)
   have cf:(execOp a.eval o).run G.cx.P w = .ok (.enter f (QA.map a.eval++Wt.toList).toArray) w:=by
    unfold execOp
    rw[rG]
    have e1:(Array.mk QA).map a.eval++Wt=(QA.map a.eval++Wt.toList).toArray:=by simp
    simp only[resolve,hfv,Deferred.ofValue,Sem.run_bind,Sem.run_pure,Result.andThen_ok,invoke]
    simp only[Array.empty_append]
    rw[e1]
    exact Wu _ w
   rw[cf]
   exact Rw
  ·exact h.elim
 ·
  rename_i od ox t t' rG
  replace h:=bf h
  obtain⟨ht,h⟩:=h
  have:=Nat.eq_of_beq_eq_true ht
  subst this
  replace h:=ba.cq hR h
  obtain⟨d,h,hd⟩:=h
  replace h:=ba.cq hR h
  obtain⟨x,h,hx⟩:=h
  obtain⟨r,w',hr,hp⟩:=vG (ty:=o.type) hG hR h hd hx
  have cf:(execOp a.eval o).run G.cx.P w = .ok (.value r) w':=by
   unfold execOp
   rw[rG]
   simp[resolve,invoke,builtin,hr]
  rw[cf]
  exact hp
 ·unfold om at h; exact h I β a w hR
 ·unfold om at h; exact h I β a w hR
 ·unfold om at h; exact h I β a w hR
 ·unfold om at h; exact h I β a w hR
 ·unfold om at h; exact h I β a w hR
 ·unfold om at h; exact h I β a w hR
 ·rename_i src dst ox rG
  cases hb:Nat.beq dst 9 with
  | true=>rw[hb] at h; replace h:om G s o q:=h; unfold om at h; exact h I β a w hR
  | false=>rw[hb] at h; exact tq (by rw[rG]; exact h) fun _ h=>h
 ·exact tq h fun _ h=>h
end
section
variable {w w':World} {I I':Nat->Prop} {β aV:aB} {cx:Ev.Cx} {G:Gx} {P:Program} {s:ba} {a:Act} {st dM:List ak}
theorem TM.nU {v:Option PV}:∀ {f:Nat} {t:TM} {n:Nat} {k:TM->Prop},TM.ri v f t n k->∃ t',k t'/\∀ m,t'.get m=if m=n then v else t.get m
 | 0,_,_,_,h=>h.elim
 | f+1,t,n,k,h=>by
  have arith:∀ m,Nat.beq n 0=false->(m=n↔Nat.beq m 0=false/\m % 2=n % 2/\(m - 1) / 2=(n - 1) / 2):=fun m h0=>by
   have hn:n≠0:=fun e=>by subst e; cases h0
   constructor
   ·rintro rfl; exact⟨h0,rfl,rfl⟩
   ·rintro⟨h1,h2,h3⟩
    have hm:m≠0:=fun e=>by subst e; cases h1
    omega
  have key:∀ (u:Option PV) (l r:TM),(bif Nat.beq n 0 then k (.node v l r) else bif Nat.beq (n % 2) 1 then TM.ri v f l ((n - 1) / 2) (fun t=>k (.node u t r)) else TM.ri v f r ((n - 1) / 2) (fun t=>k (.node u l t))) ->
    ∃ t',k t'/\∀ m,t'.get m=if m=n then v else (TM.node u l r).get m:=by
   intro u l r h
   cases h0:Nat.beq n 0<;>rw[h0] at h
   ·cases h1:Nat.beq (n % 2) 1<;>rw[h1] at h
    ·obtain⟨t',hk,ht⟩:=TM.nU h
     refine⟨_,hk,fun m=>?_⟩
     have hp:n % 2=0:=by
      have:n % 2≠1:=fun e=>by rw[e] at h1; cases h1
      omega
     simp only[TM.get]
     cases lG:Nat.beq m 0
     ·cases oe:Nat.beq (m % 2) 1
      ·have Wv:m % 2=0:=by
        have:m % 2≠1:=fun e=>by rw[e] at oe; cases oe
        omega
       simp only[cond_false,ht]
       by_cases e:(m - 1) / 2=(n - 1) / 2
       ·rw[if_pos e,if_pos ((arith m h0).2 ⟨lG,by omega,e⟩)]
       ·rw[if_neg e,if_neg fun e'=>e ((arith m h0).1 e').2.2]
      ·have Wv:m % 2=1:=Nat.eq_of_beq_eq_true oe
       simp only[cond_false,cond_true]
       rw[if_neg fun e'=>by rw[e'] at Wv; omega]
     ·have:=Nat.eq_of_beq_eq_true lG
      subst this
      simp only[cond_true]
      rw[if_neg fun e=>by rw[← e] at h0; cases h0]
    ·obtain⟨t',hk,ht⟩:=TM.nU h
     refine⟨_,hk,fun m=>?_⟩
     have hp:n % 2=1:=Nat.eq_of_beq_eq_true h1
     simp only[TM.get]
     cases lG:Nat.beq m 0
     ·cases oe:Nat.beq (m % 2) 1
      ·simp only[cond_false]
       rw[if_neg fun e'=>by rw[e'] at oe; rw[oe] at h1; cases h1]
      ·have Wv:m % 2=1:=Nat.eq_of_beq_eq_true oe
       simp only[cond_false,cond_true,ht]
       by_cases e:(m - 1) / 2=(n - 1) / 2
       ·rw[if_pos e,if_pos ((arith m h0).2 ⟨lG,by omega,e⟩)]
       ·rw[if_neg e,if_neg fun e'=>e ((arith m h0).1 e').2.2]
     ·have:=Nat.eq_of_beq_eq_true lG
      subst this
      simp only[cond_true]
      rw[if_neg fun e=>by rw[← e] at h0; cases h0]
   ·have:=Nat.eq_of_beq_eq_true h0
    subst this
    refine⟨_,h,fun m=>?_⟩
    simp only[TM.get]
    cases lG:Nat.beq m 0
    ·rw[if_neg fun e=>by subst e; cases lG]; rfl
    ·rw[if_pos (Nat.eq_of_beq_eq_true lG)]; rfl
  cases t with
  | nil =>
   obtain⟨t',hk,ht⟩:=key none .nil .nil h
   refine⟨t',hk,fun m=>?_⟩
   rw[ht]
   split
   ·rfl
   ·simp only[TM.get]; cases Nat.beq m 0<;>cases Nat.beq (m % 2) 1<;>rfl
  | node u l r=>exact key u l r h
structure gR (s s':ba):Prop where
 n:s'.n=s.n
 st:s'.st=s.st
 base:s'.base=s.base
 rl:s'.rl=s.rl
theorem ba.bU {dst:Option Tmp} {x:PV} {k:ba->Prop} (h:s.put dst x k):∃ s',k s'/\gR s s'/\∀ I β a w v,Rel G I β s a w->x.Is w I β v->Rel G I β s' (a.put dst v) w:=by
 obtain⟨n,t,st,b,rl⟩:=s
 unfold ba.put at h
 simp only at h
 split at h
 ·exact⟨_,h,⟨rfl,rfl,rfl,rfl⟩,fun I β a w v hR _=>hR⟩
 ·rename_i d
  replace h:=bf h
  obtain⟨hd,h⟩:=h
  have hd:d < n:=Nat.le_of_ble_eq_true hd
  replace h:=BB h
  obtain⟨t',hk,ht⟩:=TM.nU h
  refine⟨_,hk,⟨rfl,rfl,rfl,rfl⟩,fun I β a w v hR hx=>⟨hR.small,hR.defers,by simpa [Act.put] using hR.size,hR.base,fun m y hy=>?_,hR.heap,hR.az⟩⟩
  have fe:d < a.tmps.size:=by rw[hR.size]; exact hd
  have yR:t'.get m=some y:=hy
  rw[ht] at yR
  by_cases e:m=d
  ·subst e
   rw[if_pos rfl] at yR
   cases yR
   exact⟨v,by simp[Act.put,fe],hx⟩
  ·rw[if_neg e] at yR
   obtain⟨u,hu,hi⟩:=hR.get m y yR
   exact⟨u,by simp only[Act.put,Array.getElem?_setIfInBounds_ne (Ne.symm e)]; exact hu,hi⟩
theorem ba.j3 {t:Nat} {x:PV} {v:Value} {k:ba->Prop} (hR:Rel G I β s a w) (hv:a.tmps[t]?=some v) (hx:x.Is w I β v) (h:s.put (some t) x k):∃ s',k s'/\gR s s'/\Rel G I β s' a w:=by
 obtain⟨s',hk,hs,hr⟩:=ba.bU (G:=G) h
 refine⟨s',hk,hs,?_⟩
 have:=hr I β a w v hR hx
 have e:a.put (some t) v=a:=by
  unfold Act.put
  simp only
  have:a.tmps.setIfInBounds t v=a.tmps:=by
   apply Array.ext_getElem?
   intro i
   rw[Array.getElem?_setIfInBounds]
   split
   ·rename_i hi
    subst hi
    have:=(Array.getElem?_eq_some_iff.1 hv).1
    rw[if_pos this,hv]
   ·rfl
  rw[this]
 rw[e] at this
 exact this
theorem Is.undef:(PV.tup []).Is w I β Go.undef:=by simp only[PV.Is]; exact⟨#[],rfl,by simp only[bB]⟩
theorem j4 {ops:Array Oper} {o:Oper} {run skip:ba->Prop} (hR:Rel G I β s a w) (h:mB ops.toList s o run skip) :
  (Region.wanted o (yielded ops a.tmps)=true/\∃ s',run s'/\gR s s'/\Rel G I β s' a w)\/(Region.wanted o (yielded ops a.tmps)=false/\∃ s',skip s'/\gR s s'/\Rel G I β s' a w):=by
 have same:gR s s:=⟨rfl,rfl,rfl,rfl⟩
 unfold mB at h
 cases hg:o.guard with
 | none =>
  rw[hg] at h
  exact .inl ⟨by simp[Region.wanted,hg],s,h,same,hR⟩
 | some jw =>
  obtain⟨j,want⟩:=jw
  rw[hg] at h
  simp only at h
  replace h:=ay h
  obtain⟨t,ht,h⟩:=h
  replace h:=ay h
  obtain⟨x,hx,h⟩:=h
  obtain⟨v,hv,hi⟩:=hR.get t x hx
  have xo:(ops[j]?).bind (·.dst)=some t:=by simpa using ht
  have hy:∀ b,v = .bool b->Region.wanted o (yielded ops a.tmps)=(b == want):=fun b hb=>by
   subst hb
   have:yielded ops a.tmps j=some b:=by unfold yielded; rw[Option.bind_eq_some_iff.2 ⟨t,xo,hv⟩]
   simp[Region.wanted,hg,this]
  split at h<;>try simp only[PV.Is] at hi
  ·cases want
   ·exact .inr ⟨by rw[hy _ hi]; rfl,s,h,same,hR⟩
   ·exact .inl ⟨by rw[hy _ hi]; rfl,s,h,same,hR⟩
  ·cases want
   ·exact .inl ⟨by rw[hy _ hi]; rfl,s,h,same,hR⟩
   ·exact .inr ⟨by rw[hy _ hi]; rfl,s,h,same,hR⟩
  ·rename_i p
   by_cases hp:p
   ·obtain⟨s',hk,hs,hr⟩:=ba.j3 hR hv (x:=.tt) (by rw[hi,cg hp]; exact Is.tt) (h.1 hp)
    cases want
    ·exact .inr ⟨by rw[hy _ hi,cg hp]; rfl,s',hk,hs,hr⟩
    ·exact .inl ⟨by rw[hy _ hi,cg hp]; rfl,s',hk,hs,hr⟩
   ·obtain⟨s',hk,hs,hr⟩:=ba.j3 hR hv (x:=.ff) (by rw[hi,bT hp]; exact Is.ff) (h.2 hp)
    cases want
    ·exact .inl ⟨by rw[hy _ hi,bT hp]; rfl,s',hk,hs,hr⟩
    ·exact .inr ⟨by rw[hy _ hi,bT hp]; rfl,s',hk,hs,hr⟩
  ·obtain⟨vs,rfl,_⟩:=hi
   refine .inr ⟨?_,s,h,same,hR⟩
   have:yielded ops a.tmps j=none:=by unfold yielded; rw[Option.bind_eq_some_iff.2 ⟨t,xo,hv⟩]
   simp[Region.wanted,hg,this]
  ·exact h.elim
structure cU (I:Nat->Prop) (β:aB) (s:ba) (w:World) (I':Nat->Prop) (aV:aB) (s':ba) (w':World):Prop where
 ext:Ext I β s.st w I' aV s'.st w'
 base:s'.base=s.base
 rl:s'.rl=s.rl
 n:s'.n=s.n
 low:∀ l,l < s.base->l ∉ s.rl->aV l=β l
theorem cU.same {s':ba} (h:gR s s'):cU I β s w I β s' w:=⟨by rw[h.st]; exact Ext.refl,h.base,h.rl,h.n,fun _ _ _=>rfl⟩
theorem cU.trans {Q7:Nat->Prop} {Br:aB} {s' Y6:ba} {xg:World} (h:cU I β s w I' aV s' w') (k:cU I' aV s' w' Q7 Br Y6 xg):cU I β s w Q7 Br Y6 xg :=
 ⟨h.ext.trans k.ext,k.base.trans h.base,k.rl.trans h.rl,k.n.trans h.n,fun l hl hr=>(k.low l (by rw[h.base]; exact hl) (by rw[h.rl]; exact hr)).trans (h.low l hl hr)⟩
theorem rH (hG:nS G) {ops:Array Oper} {Q:X->ba->Prop} {Q':Exit->Act->World->Prop}:∀ (l:List Oper) {s:ba} {a:Act} {I:Nat->Prop} {β:aB} {w:World},Fy G ops.toList Q l s->Rel G I β s a w ->
  (∀ x s' I' aV a' w',Q x s'->Rel G I' aV s' a' w'->cU I β s w I' aV s' w'->Q' (X.e x) a' w')->wpList G.cx.P ops Q' l a w
 | [],s,a,I,β,w,h,hR,hQ=>hQ .nB s I β a w h hR (cU.same ⟨rfl,rfl,rfl,rfl⟩)
 | o::l,s,a,I,β,w,h,hR,hQ=>by
  unfold wpList
  rcases j4 hR h with ⟨hw,s1,h1,lF,mv⟩|⟨hw,s1,h1,lF,mv⟩
  ·rw[hw,if_pos rfl]
   refine .inl (Ev.rh (vH hG mv h1) fun v w' hp=>?_)
   obtain⟨x,s2,I2,iu,h2,oH,hx,hE,e1,e2,e3,gd,_⟩:=hp
   obtain⟨s3,h3,ni,tv⟩:=ba.bU (G:=G) h2
   have g1:cU I β s w I2 iu s2 w':=(cU.same lF).trans ⟨hE,e1,e2,e3,gd⟩
   exact rH hG l h3 (tv _ _ _ _ v oH hx) fun x s' I' aV a' xg hq eC hg=>hQ x s' I' aV a' xg hq eC ((g1.trans (cU.same ni)).trans hg)
  ·rw[hw,if_neg (by simp)]
   obtain⟨s3,h3,ni,tv⟩:=ba.bU (G:=G) h1
   exact rH hG l h3 (tv _ _ _ _ _ mv Is.undef) fun x s' I' aV a' xg hq eC hg=>hQ x s' I' aV a' xg hq eC (((cU.same lF).trans (cU.same ni)).trans hg)
end
def BX:Op->Bool
 | .load ..=>true
 | _=>false
def bP (op:Op):Bool:=!(Ev.Bl op || BX op)
structure km where
 k:Nat
 D:List Nat
 Y:World->Prop
section
variable {P:Program} {ops:Array Oper} {Q:Exit->Act->World->Prop}
def Yields (P:Program) (ops:Array Oper) (S:World->Prop) (o:Oper) (v:Value) (a:Act):Prop :=
 (Region.wanted o (yielded ops a.tmps)=true/\∀ w,S w->(execOp a.eval o).run P w = .ok (.value v) w)\/(Region.wanted o (yielded ops a.tmps)=false/\v=undef)
theorem Yields.mono {S S':World->Prop} {o:Oper} {v:Value} {a:Act} (hS:∀ w,S' w->S w) (h:Yields P ops S o v a):Yields P ops S' o v a:=h.imp (fun ⟨h1,h2⟩=>⟨h1,fun w hw=>h2 w (hS w hw)⟩) id
theorem Yields.of_same {S:World->Prop} {o:Oper} {v:Value} {a a':Act} (hy:Yields P ops S o v a) (he:execOp a'.eval o=execOp a.eval o) (hw:Region.wanted o (yielded ops a'.tmps)=Region.wanted o (yielded ops a.tmps)):Yields P ops S o v a':=by
 unfold Yields at *; rw[he,hw]; exact hy
def cK (i:Nat) (pins:List km):List km:=pins.filter fun p=>!p.D.any (Nat.beq i)
def dm (P:Program) (ops:Array Oper) (Q:Exit->Act->World->Prop):Nat->Array Bool->Act->(World->Prop)->List km->Prop
 | 0,l,a,S,_=>Region.ready .any ops l = []/\∀ w,S w->Q .normal a w
 | f+1,l,a,S,pins=>(Region.ready .any ops l = []->∀ w,S w->Q .normal a w)/\∀ i∈Region.ready .any ops l,∀ o,ops[i]?=some o ->
   (bP o.op=false->∃ v,Yields P ops S o v a/\dm P ops Q f (l.setIfInBounds i true) (a.put o.dst v) S (cK i pins)) /\
   (bP o.op=true->∀ w,S w->Ev.nA P ops o a w fun v w'=>∃ S':World->Prop,(∀ p∈cK i pins,∀ w,S' w->p.Y w)/\S' w'/\dm P ops Q f (l.setIfInBounds i true) (a.put o.dst v) S' (cK i pins))
theorem dm.sound:∀ (f:Nat) (l:Array Bool) (a:Act) (S:World->Prop) (pins:List km) (w:World),dm P ops Q f l a S pins->S w->wpAny P .any ops Q f l a w
 | 0,l,a,S,_,w,h,hw=>⟨h.1,h.2 w hw⟩
 | f+1,l,a,S,pins,w,h,hw=>by
  refine⟨fun h0=>h.1 h0 w hw,fun i hi=>?_⟩
  obtain⟨o,ho⟩:=Ev.sY hi
  obtain⟨h0,h1⟩:=h.2 i hi o ho
  unfold wpOp
  rw[ho]
  simp only
  by_cases hl:bP o.op=false
  ·obtain⟨v,hy,hn⟩:=h0 hl
   rcases hy with ⟨gw,hy⟩|⟨gw,rfl⟩
   ·rw[if_pos gw]
    refine .inl (Ev.rh (K:=fun u w'=>u=v/\w'=w) (by rw[hy w hw]; exact⟨rfl,rfl⟩) fun u w' ⟨hu,hb⟩=>?_)
    subst hu; subst hb
    exact dm.sound f _ _ S _ w' hn hw
   ·rw[if_neg (by rw[gw]; simp)]
    exact dm.sound f _ _ S _ w hn hw
  ·rcases h1 (by simpa using hl) w hw with ⟨gw,hd⟩|⟨gw,S',_,Fe,hn⟩
   ·rw[if_pos gw]
    refine .inl (Ev.rh hd fun u w' ⟨S',_,Fe,hn⟩=>?_)
    exact dm.sound f _ _ S' _ w' hn Fe
   ·rw[if_neg (by rw[gw]; simp)]
    exact dm.sound f _ _ S' _ w hn Fe
theorem j5 {o:Oper} {a:Act} {w:World} {K K':Value->World->Prop} (hK:∀ v w,K v w->K' v w) (h:Ev.nA P ops o a w K):Ev.nA P ops o a w K':=Ev.nA.mono hK h
theorem mH {i:Nat} {pins qp:List km} (h:∀ p∈qp,p∈pins):∀ p∈cK i qp,p∈cK i pins:=fun p hp=>by
 unfold cK at *
 rw[List.mem_filter] at *
 exact⟨h p hp.1,hp.2⟩
theorem dm.sub:∀ (f:Nat) (l:Array Bool) (a:Act) (S:World->Prop) (pins qp:List km),(∀ p∈qp,p∈pins)->dm P ops Q f l a S pins->dm P ops Q f l a S qp
 | 0,_,_,_,_,_,_,h=>h
 | f+1,l,a,S,pins,qp,hs,h=>by
  refine⟨h.1,fun i hi o ho=>?_⟩
  obtain⟨h0,h1⟩:=h.2 i hi o ho
  refine⟨fun hl=>?_,fun hl w hw=>j5 (fun v w' ⟨S',h2,h3,h4⟩=>⟨S',fun p hp=>h2 p (mH hs p hp),h3,dm.sub f _ _ _ _ _ (mH hs) h4⟩) (h1 hl w hw)⟩
  obtain⟨v,hy,hn⟩:=h0 hl
  exact⟨v,hy,dm.sub f _ _ _ _ _ (mH hs) hn⟩
theorem dm.first {i:Nat} {oi:Oper} {v:Value} {D:List Nat} {Y:World->Prop} (hi:ops[i]?=some oi) (Y7:bP oi.op=false) (vI:Region.noSelect ops=true) :
  ∀ (f:Nat) (l:Array Bool) (a:Act) (S:World->Prop) (pins:List km),
   (∀ j oj,ops[j]?=some oj->j≠i->l.getD j true=false->(∀ e∈oj.after,Region.binds .any e=true->e.on≠i)->oi.apart ops oj=true) ->
   (∀ j∈D,l.getD j false=false/\∃ oj,ops[j]?=some oj/\∃ e∈oj.after,Region.binds .any e=true/\(e.on=i\/e.on∈D)) ->
   Yields P ops Y oi v a->(∀ w,S w->Y w)->i∈Region.ready .any ops l->dm P ops Q f (l.setIfInBounds i true) (a.put oi.dst v) S (⟨i,D,Y⟩::pins)->dm P ops Q (f+1) l a S pins:=by
 intro f
 induction f with
 | zero =>
  intro l a S pins _ _ hY Vm hr H
  refine⟨fun h0=>(by rw[h0] at hr; cases hr),fun j hj o ho=>?_⟩
  by_cases A6:j=i
  ·subst A6
   rw[hi] at ho; cases ho
   exact⟨fun _=>⟨v,hY.mono Vm,H⟩,fun h=>by rw[Y7] at h; cases h⟩
  ·have:=ready_mono hj A6
   rw[H.1] at this
   cases this
 | succ f ih =>
  intro l a S pins Ju hD hY Vm hr H
  refine⟨fun h0=>(by rw[h0] at hr; cases hr),fun j hj oj ln=>?_⟩
  by_cases A6:j=i
  ·subst A6
   rw[hi] at ln; cases ln
   refine⟨fun _=>⟨v,hY.mono Vm,?_⟩,fun h=>by rw[Y7] at h; cases h⟩
   refine dm.sub _ _ _ _ _ _ (fun p hp=>?_) H
   unfold cK at hp
   exact List.mem_cons_of_mem _ (List.mem_filter.1 hp).1
  ·obtain⟨Rx,Ww,oI,dE⟩:=mem_ready.1 hj
   rw[ln] at oI; cases oI
   have Kx:=(mem_ready.1 hr).1
   have Ry:l.getD i false=false:=by
    have cz:i < l.size:=by
     rcases Nat.lt_or_ge i l.size with h'|h'
     ·exact h'
     ·simp[Array.getElem?_eq_none h'] at Kx
    simp[cz] at Kx ⊢; exact Kx
   have Rz:∀ e∈oj.after,Region.binds .any e=true->e.on≠i:=fun e he hb heq=>by
    have h1:=dE e he hb
    rw[heq,Ry] at h1; cases h1
   have Wx:D.any (Nat.beq j)=false:=by
    rw[List.any_eq_false]
    intro x hx e
    have:=Nat.eq_of_beq_eq_true e
    subst this
    obtain⟨_,oj2,Rg,ed,he,hb,h3⟩:=hD j hx
    rw[ln] at Rg; cases Rg
    rcases h3 with h3|h3
    ·exact Rz ed he hb h3
    ·have h4:=dE ed he hb
     rw[(hD _ h3).1] at h4; cases h4
   have Wy:j ∉ D:=fun hm=>by
    rw[List.any_eq_false] at Wx
    exact Wx j hm (Nat.beq_refl j)
   have QF:cK j (⟨i,D,Y⟩::pins)=⟨i,D,Y⟩::cK j pins:=by
    unfold cK
    rw[List.filter_cons,if_pos (by simp only[Wx]; rfl)]
   have hap:=Ju j oj ln A6 Rx Rz
   obtain⟨a1,a2,a3⟩:=Oper.apart_spec hap
   have hsi:=fun cs b=>Region.noSelect_spec vI i oi cs b hi
   have hsj:=fun cs b=>Region.noSelect_spec vI j oj cs b ln
   have ej:execOp (a.put oi.dst v).eval oj=execOp a.eval oj:=execOp_put oj hsj a oi.dst v a1
   have wj:Region.wanted oj (yielded ops (a.put oi.dst v).tmps)=Region.wanted oj (yielded ops a.tmps):=wanted_put oj a oi.dst v a1
   have ei:∀ u,execOp (a.put oj.dst u).eval oi=execOp a.eval oi:=fun u=>execOp_put oi hsi a oj.dst u a3
   have wi:∀ u,Region.wanted oi (yielded ops (a.put oj.dst u).tmps)=Region.wanted oi (yielded ops a.tmps):=fun u=>wanted_put oi a oj.dst u a3
   have BY:∀ k ok,ops[k]?=some ok->k≠i->(l.setIfInBounds j true).getD k true=false->(∀ e∈ok.after,Region.binds .any e=true->e.on≠i)->oi.apart ops ok=true:=fun k ok hk hki QF xx=>by
    refine Ju k ok hk hki ?_ xx
    by_cases Y8:j=k
    ·subst Y8; exact Rx
    ·rw[getD_set_ne true Y8] at QF; exact QF
   have Y9:∀ k∈D,(l.setIfInBounds j true).getD k false=false/\∃ oj,ops[k]?=some oj/\∃ e∈oj.after,Region.binds .any e=true/\(e.on=i\/e.on∈D):=fun k hk=>by
    refine⟨?_,(hD k hk).2⟩
    rw[getD_set_ne false (fun e=>Wy (by rw[e]; exact hk))]
    exact (hD k hk).1
   obtain⟨h0,h1⟩:=H.2 j (ready_mono hj A6) oj ln
   rw[QF] at h0 h1
   refine⟨fun hl=>?_,fun hl w hw=>?_⟩
   ·obtain⟨u,hu,hn⟩:=h0 hl
    refine⟨u,hu.of_same ej.symm wj.symm,?_⟩
    refine ih (l.setIfInBounds j true) (a.put oj.dst u) S (cK j pins) BY Y9 (hY.of_same (ei u) (wi u)) Vm (ready_mono hr (Ne.symm A6)) ?_
    rw[Array.setIfInBounds_comm _ _ A6,← Act.put_comm a v u a2]
    exact hn
   ·have hd:=h1 hl w hw
    unfold Ev.nA at hd ⊢
    rw[ej,wj] at hd
    have step:∀ u w',(∃ S':World->Prop,(∀ p∈⟨i,D,Y⟩::cK j pins,∀ w,S' w->p.Y w)/\S' w'/\dm P ops Q f ((l.setIfInBounds i true).setIfInBounds j true) ((a.put oi.dst v).put oj.dst u) S' (⟨i,D,Y⟩::cK j pins)) ->
      ∃ S':World->Prop,(∀ p∈cK j pins,∀ w,S' w->p.Y w)/\S' w'/\dm P ops Q (f+1) (l.setIfInBounds j true) (a.put oj.dst u) S' (cK j pins):=by
     rintro u w' ⟨S',Fe,hw',hn⟩
     refine⟨S',fun p hp=>Fe p (List.mem_cons_of_mem _ hp),hw',ih (l.setIfInBounds j true) (a.put oj.dst u) S' (cK j pins) BY Y9 (hY.of_same (ei u) (wi u)) (Fe _ List.mem_cons_self) (ready_mono hr (Ne.symm A6)) ?_⟩
     rw[Array.setIfInBounds_comm _ _ A6,← Act.put_comm a v u a2]
     exact hn
    rcases hd with ⟨Wz,hd⟩|⟨Wz,hd⟩
    ·exact .inl ⟨Wz,Ev.jV step hd⟩
    ·exact .inr ⟨Wz,step _ _ hd⟩
end
end Go.Proofs.YtlgkljpgagfndaaGreatDoor.Pw

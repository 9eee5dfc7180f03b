/- What this claim is proved with: no condition. -/
import Derived.Test.YtnbhdacpogplgaaGreatDoorPd5
set_option linter.unusedVariables false
set_option linter.unusedSimpArgs false
namespace Go.Proofs.YtnbhdacpogplgaaGreatDoor.Pw
open Go Go.RowKit
section
variable {w w':World} {I I':Nat->Prop} {β aI:ax} {cx:Ev.Cx} {G:Gx} {P:Program} {s:aO} {a:Act} {st dc:List ak}
def df (w:World) (I:Nat->Prop) (es:List PV) (n:Nat) (xs:List Value):Prop :=
 xs.length=es.length*n/\∀ i e,es[i]?=some e->e.cells.length=n/\∀ j c,e.cells[j]?=some c->∃ v,xs[i*n+j]?=some v/\c.Is w I (fun _=>none) v/\v.oneCell'=true
def cT (w:World) (I:Nat->Prop) (β:ax) (cs:List PV) (xs:List Value):Prop:=xs.length=cs.length/\∀ (j:Nat) (c:PV),cs[j]?=some c->∃ v:Value,xs[j]?=some v/\c.Is w I β v/\v.oneCell'=true
def lX (w:World) (I:Nat->Prop) (β:ax) (n:Nat):Src->List Value->Prop
 | .stat cs,xs=>cT w I β cs xs
 | .told es,xs=>df w I es n xs
theorem df.append {es fs:List PV} {n:Nat} {xs ys:List Value} (h:df w I es n xs) (k:df w I fs n ys):df w I (es++fs) n (xs++ys):=by
 refine⟨by rw[List.length_append,List.length_append,h.1,k.1,Nat.add_mul],fun i e he=>?_⟩
 by_cases hi:i < es.length
 ·rw[List.getElem?_append_left hi] at he
  obtain⟨h1,h2⟩:=h.2 i e he
  refine⟨h1,fun j c hc=>?_⟩
  obtain⟨v,hv,h3⟩:=h2 j c hc
  have:=(List.getElem?_eq_some_iff.1 hv).1
  exact⟨v,by rw[List.getElem?_append_left this]; exact hv,h3⟩
 ·rw[List.getElem?_append_right (by omega)] at he
  obtain⟨h1,h2⟩:=k.2 _ e he
  refine⟨h1,fun j c hc=>?_⟩
  obtain⟨v,hv,h3⟩:=h2 j c hc
  have e1:es.length*n<=i*n:=Nat.mul_le_mul_right _ (by omega)
  refine⟨v,?_,h3⟩
  rw[List.getElem?_append_right (by rw[h.1]; omega),h.1,show i*n+j - es.length*n=(i - es.length)*n+j by rw[Nat.sub_mul]; omega]
  exact hv
theorem cT.append {cs ds:List PV} {xs ys:List Value} (h:cT w I β cs xs) (k:cT w I β ds ys):cT w I β (cs++ds) (xs++ys):=by
 refine⟨by rw[List.length_append,List.length_append,h.1,k.1],fun j c hc=>?_⟩
 by_cases hj:j < cs.length
 ·rw[List.getElem?_append_left hj] at hc
  rw[List.getElem?_append_left (by rw[h.1]; exact hj)]
  exact h.2 j c hc
 ·rw[List.getElem?_append_right (by omega)] at hc
  rw[List.getElem?_append_right (by rw[h.1]; omega),h.1]
  exact k.2 _ c hc
theorem df.mono {es:List PV} {n:Nat} {xs:List Value} (hI:∀ g,I g->I' g) (hw:∀ g,I g->w'.heap[g]?=w.heap[g]?) (h:df w I es n xs):df w' I' es n xs :=
 ⟨h.1,fun i e he=>⟨(h.2 i e he).1,fun j c hc=>let ⟨v,h1,h2,h3⟩:=(h.2 i e he).2 j c hc; ⟨v,h1,PV.Is.mono hI hw c _ _ v (fun _ _ _ h=>h) h2,h3⟩⟩⟩
theorem cT.mono {cs:List PV} {xs:List Value} (hI:∀ g,I g->I' g) (hw:∀ g,I g->w'.heap[g]?=w.heap[g]?) (hb:∀ l p,β l=some p->aI l=some p) (h:cT w I β cs xs):cT w' I' aI cs xs :=
 ⟨h.1,fun j c hc=>let ⟨v,h1,h2,h3⟩:=h.2 j c hc; ⟨v,h1,PV.Is.mono hI hw c _ _ v (fun l p _=>hb l p) h2,h3⟩⟩
theorem bE.row:∀ {es:List PV} {n g o:Nat},bE w I es n g o->∃ xs,df w I es n xs/\∀ j v,xs[j]?=some v->w.cell? ⟨g,o+j,none⟩=some v
 | [],n,g,o,_=>⟨[],⟨by simp,fun i e he=>by simp at he⟩,fun j v h=>by simp at h⟩
 | e::es,n,g,o,h=>by
  rw[bE.cons] at h
  obtain⟨⟨hl,hc⟩,h⟩:=h
  obtain⟨xs,hx,hy⟩:=bE.row h
  have key:∀ (cs:List PV) (o:Nat),cd w I cs g o->∃ ys:List Value,ys.length=cs.length/\(∀ (j:Nat) (c:PV),cs[j]?=some c->∃ v:Value,ys[j]?=some v/\c.Is w I (fun _=>none) v/\v.oneCell'=true)/\∀ (j:Nat) (v:Value),ys[j]?=some v->w.cell? ⟨g,o+j,none⟩=some v:=by
   intro cs
   induction cs with
   | nil=>intro o _; exact⟨[],rfl,fun j c h=>by simp at h,fun j v h=>by simp at h⟩
   | cons c cs ih =>
    intro o h
    simp only[cd] at h
    obtain⟨⟨v,h1,h2⟩,h3⟩:=h
    obtain⟨ys,g1,g2,g3⟩:=ih (o+1) h3
    refine⟨v::ys,by simp[g1],fun j c' rO=>?_,fun j u hu=>?_⟩
    ·cases j with
     | zero=>simp at rO; subst rO; exact⟨v,rfl,h2⟩
     | succ j=>simpa using g2 j c' (by simpa using rO)
    ·cases j with
     | zero=>simp at hu; subst hu; exact h1
     | succ j=>rw[show o+(j+1)=o+1+j by omega]; exact g3 j u (by simpa using hu)
  obtain⟨ys,g1,g2,g3⟩:=key e.cells o hc
  have Gs:ys.length=n:=by omega
  refine⟨ys++xs,?_,fun j v hv=>?_⟩
  ·refine⟨by rw[List.length_append,hx.1,List.length_cons,Gs,Nat.succ_mul]; omega,fun i e' xf=>?_⟩
   cases i with
   | zero =>
    simp at xf; subst xf
    refine⟨hl,fun j c hj=>?_⟩
    obtain⟨v,hv,h2⟩:=g2 j c hj
    have:=(List.getElem?_eq_some_iff.1 hv).1
    exact⟨v,by rw[Nat.zero_mul,Nat.zero_add,List.getElem?_append_left this]; exact hv,h2⟩
   | succ i =>
    obtain⟨h1,h2⟩:=hx.2 i e' (by simpa using xf)
    refine⟨h1,fun j c hj=>?_⟩
    obtain⟨v,hv,h3⟩:=h2 j c hj
    refine⟨v,?_,h3⟩
    rw[Nat.succ_mul,List.getElem?_append_right (by omega),show i*n+n+j - ys.length=i*n+j by omega]
    exact hv
  ·by_cases hj:j < ys.length
   ·rw[List.getElem?_append_left hj] at hv; exact g3 j v hv
   ·rw[List.getElem?_append_right (by omega)] at hv
    have:=hy _ v hv
    rw[show o+n+(j - ys.length)=o+j by omega] at this
    exact this
theorem df.at {es:List PV} {n g:Nat} {xs:List Value} (h:df w I es n xs) (hc:∀ j v,xs[j]?=some v->w'.cell? ⟨g,j,none⟩=some v) (hI:∀ g,I g->I' g) (hw:∀ g,I g->w'.heap[g]?=w.heap[g]?):bE w' I' es n g 0:=bE.of fun i e he=>by
 obtain⟨h1,h2⟩:=h.2 i e he
 refine⟨h1,cd.of fun j c hj=>?_⟩
 obtain⟨v,hv,h3,h4⟩:=h2 j c hj
 exact⟨v,by rw[Nat.zero_add]; exact hc _ v hv,PV.Is.mono hI hw c _ _ v (fun _ _ _ h=>h) h3,h4⟩
theorem df.Dh {es:List PV} {n:Nat} {xs:List Value} (h:df w I es n xs):∀ v∈xs,v.oneCell'=true:=by
 intro v hv
 obtain⟨k,hk,rfl⟩:=List.getElem_of_mem hv
 have fg:k < es.length*n:=by rw[← h.1]; exact hk
 have hn:0 < n:=by
  rcases Nat.eq_zero_or_pos n with h0|h0
  ·rw[h0] at fg; omega
  ·exact h0
 have hi:k / n < es.length:=Nat.div_lt_of_lt_mul (by rw[Nat.mul_comm]; exact fg)
 obtain⟨h1,h2⟩:=h.2 _ _ (List.getElem?_eq_getElem hi)
 have hm:k % n < n:=Nat.mod_lt _ hn
 obtain⟨u,hu,_,h3⟩:=h2 (k % n) _ (List.getElem?_eq_getElem (by omega))
 rw[show k / n*n+k % n=k by rw[Nat.mul_comm]; exact Nat.div_add_mod k n,List.getElem?_eq_getElem hk] at hu
 cases hu; exact h3
theorem cT.Dh {cs:List PV} {xs:List Value} (h:cT w I β cs xs):∀ v∈xs,v.oneCell'=true:=by
 intro v hv
 obtain⟨k,hk,rfl⟩:=List.getElem_of_mem hv
 have fg:k < cs.length:=by rw[← h.1]; exact hk
 obtain⟨u,hu,_,h3⟩:=h.2 _ _ (List.getElem?_eq_getElem fg)
 rw[List.getElem?_eq_getElem hk] at hu
 cases hu; exact h3
theorem lX.Dh {n:Nat} {x:Src} {xs:List Value} (h:lX w I β n x xs):∀ v∈xs,v.oneCell'=true:=by
 cases x with
 | stat cs=>exact cT.Dh h
 | told es=>exact df.Dh h
theorem uM {ag:Bool} {n:Nat} (hn:0 < n) (Gq:ag=true\/n=1):∀ (k:Nat) {cs:List PV} {xs:List Value},cs.length=k*n->cT w I β cs xs->(chunk ag n k cs).all PV.elem=true->(chunk ag n k cs).length=k/\df w I (chunk ag n k cs) n xs
 | 0,cs,xs,hl,h,_=>by
  have:xs = []:=List.eq_nil_of_length_eq_zero (by rw[h.1,hl,Nat.zero_mul])
  subst this
  exact⟨rfl,by simp[chunk],fun i e he=>by simp[chunk] at he⟩
 | k+1,cs,xs,hl,h,cZ=>by
  simp only[chunk,List.all_cons,Bool.and_eq_true] at cZ
  obtain⟨he,cZ⟩:=cZ
  have hlk:(cs.drop n).length=k*n:=by rw[List.length_drop,hl,Nat.succ_mul]; omega
  have RG:cT w I β (cs.drop n) (xs.drop n):=⟨by rw[List.length_drop,List.length_drop,h.1],fun j c hc=>by
   rw[List.getElem?_drop] at hc ⊢; exact h.2 _ c hc⟩
  obtain⟨Aq,Ar⟩:=uM hn Gq k hlk RG cZ
  have Wq:n<=cs.length:=by rw[hl,Nat.succ_mul]; omega
  have nr:∀ {c:PV} {y:Value},c.rH=true->c.Is w I β y->c.Is w I (fun _=>none) y:=fun {c y} hc hi=>by
   refine PV.Is.mono (fun _ h=>h) (fun _ _=>rfl) _ β _ _ (fun l p hl=>?_) hi
   cases c<;>simp_all [PV.cr,PV.rH]
  refine⟨by simp[chunk,Aq],by rw[h.1,hl]; simp only[chunk,List.length_cons,Aq],fun i e hi=>?_⟩
  cases i with
  | zero =>
   simp only[chunk,List.getElem?_cons_zero,Option.some.injEq] at hi
   subst hi
   cases ag with
   | true =>
    simp only[if_true,PV.elem,List.all_eq_true] at he
    simp only[if_true,PV.cells]
    refine⟨by rw[List.length_take]; omega,fun j c hj=>?_⟩
    rw[List.getElem?_take] at hj
    split at hj
    ·obtain⟨v,hv,h2,h3⟩:=h.2 j c hj
     refine⟨v,by rw[Nat.zero_mul,Nat.zero_add]; exact hv,nr (he c ?_) h2,h3⟩
     refine List.mem_of_getElem? (i:=j) ?_
     rw[List.getElem?_take,if_pos ‹_›]; exact hj
    ·cases hj
   | false =>
    have sY:n=1:=by simpa using Gq
    subst sY
    cases cs with
    | nil=>simp at Wq
    | cons c cs =>
     simp only[Bool.false_eq_true,if_false] at he ⊢
     obtain⟨v,hv,h2,h3⟩:=h.2 0 c rfl
     have Wn:c.cells = [c]:=by
      cases c<;>first|rfl|(simp only[PV.Is] at h2; obtain⟨vs,rfl,_⟩:=h2; simp[Value.oneCell'] at h3)
     rw[Wn]
     refine⟨rfl,fun j c' hj=>?_⟩
     cases j with
     | zero =>
      simp at hj; subst hj
      refine⟨v,by simpa using hv,nr ?_ h2,h3⟩
      cases c<;>first|exact he|(exfalso; simp only[PV.Is] at h2; obtain⟨vs,rfl,_⟩:=h2; simp[Value.oneCell'] at h3)
     | succ j=>simp at hj
  | succ i =>
   simp only[chunk,List.getElem?_cons_succ] at hi
   obtain⟨h1,h2⟩:=Ar.2 i e hi
   refine⟨h1,fun j c hj=>?_⟩
   obtain⟨v,hv,h3⟩:=h2 j c hj
   refine⟨v,?_,h3⟩
   rw[List.getElem?_drop] at hv
   rw[Nat.succ_mul,show i*n+n+j=n+(i*n+j) by omega]
   exact hv
theorem G' {x:PV} {v:Value} (h:x.Is w I β v):x.norm.Is w I β v:=by
 cases x<;>first|exact h|(simp only[PV.norm,PV.Is] at h ⊢; exact h)
theorem xC {cs:List PV} {xs:List Value} (h:cT w I β cs xs):cT w I β (cs.map PV.norm) xs:=by
 refine⟨by rw[List.length_map]; exact h.1,fun j c hj=>?_⟩
 rw[List.getElem?_map,Option.map_eq_some_iff] at hj
 obtain⟨d,hd,rfl⟩:=hj
 obtain⟨v,h1,h2,h3⟩:=h.2 j d hd
 exact⟨v,h1,G' h2,h3⟩
theorem ew {ag:Bool} {n:Nat} (hn:0 < n) (Gq:ag=true\/n=1) {x:Src} {es:List PV} {xs:List Value} {len:Nat} (h:dZ ag n x=some es) (hx:lX w I β n x xs) (hl:xs.length=len*n):es.length=len/\df w I es n xs:=by
 have hc:∀ {a b:Nat},a*n=b*n->a=b:=fun h=>Nat.eq_of_mul_eq_mul_right hn h
 cases x with
 | told xD =>
  simp only[dZ,Option.some.injEq] at h
  subst h
  exact⟨hc (by rw[← hx.1,hl]),hx⟩
 | stat cs =>
  simp only[dZ,yZ,Nat.zero_add] at h
  split at h
  ·rename_i cZ
   cases h
   have ur:cs.length=len*n:=by rw[← hx.1,hl]
   have hd:cs.length / n=len:=by rw[ur]; exact Nat.mul_div_cancel _ hn
   rw[hd] at cZ ⊢
   exact uM hn Gq len (by rw[List.length_map]; exact ur) (xC hx) cZ
  ·cases h
theorem lY {arr:Array Value} {g:Nat} {ty:TypeId} {fr:Nat × Nat} (hh:w.heap[g]?=some (.cells arr ty fr)) (o k:Nat):∀ (j:Nat) (v:Value),((arr.toList.drop o).take k)[j]?=some v->w.cell? ⟨g,o+j,none⟩=some v:=fun j v hv=>by
 rw[List.getElem?_take] at hv
 split at hv
 ·rw[List.getElem?_drop] at hv
  rw[Ev.dN hh]; simpa using hv
 ·cases hv
theorem G_ (hO:Ev.eM cx) (hh:aD I β st w) {n:Nat} (hn:0 < n) {x:PV} {u:Value} {q:Src->Prop} (h:KF cx st n x q) (hx:x.Is w I β u) :
  ∃ src ad len c news,q src/\u = .slice ad len c/\lX w I β n src news/\news.length=len*n/\(len=0\/∃ g o,ad=some ⟨g,o,none⟩)/\∀ g o,ad=some ⟨g,o,none⟩->∀ j v,news[j]?=some v->w.cell? ⟨g,o+j,none⟩=some v:=by
 unfold KF at h
 split at h<;>try simp only[PV.Is] at hx
 ·exact⟨_,none,0,0,[],h,hx,⟨by simp,fun i e he=>by simp at he⟩,by simp,.inl rfl,fun _ _ _ j v hv=>by simp at hv⟩
 ·rename_i m es
  replace h:=aQ h
  obtain⟨hm,h⟩:=h
  have hm:=Nat.eq_of_beq_eq_true hm
  obtain⟨ad,cap,rfl,_,_,h4,h5⟩:=hx
  by_cases h0:es.length=0
  ·have:es = []:=List.eq_nil_of_length_eq_zero h0
   subst this
   exact⟨_,ad,0,cap,[],h,rfl,⟨by simp,fun i e he=>by simp at he⟩,by simp,.inl rfl,fun _ _ _ j v hv=>by simp at hv⟩
  ·obtain⟨g,o,rfl,hg,_⟩:=h5 h0
   obtain⟨xs,h6,h7⟩:=(h4 g o rfl).row
   rw[hm] at h6
   exact⟨_,_,es.length,cap,xs,h,rfl,h6,h6.1,(.inr ⟨_,_,rfl⟩),fun g' o' e=>by cases e; exact h7⟩
 ·rename_i l off len
  replace h:=aq h
  obtain⟨b,hb,h⟩:=h
  replace h:=aQ h
  obtain⟨hc,h⟩:=h
  simp only[Bool.and_eq_true] at hc
  have hle:=Nat.le_of_ble_eq_true hc.2
  obtain⟨p,g,o,cap,hp,ha,rfl,_⟩:=hx
  obtain⟨arr,ty,fr,fS,oT,_⟩:=iF hh hb hc.1 hp ha
  have eI:0 < len*n->o+off+len*n<=arr.size:=fun h0=>by
   obtain⟨z,hz,_⟩:=oT _ _ (List.getElem?_eq_getElem (show off+len*n - 1 < b.cs.length by omega))
   have:=(Array.getElem?_eq_some_iff.1 hz).1
   omega
  have zd:((arr.toList.drop (o+off)).take (len*n)).length=len*n:=by
   rw[List.length_take,List.length_drop,Array.length_toList]
   rcases Nat.eq_zero_or_pos (len*n) with h0|h0
   ·omega
   ·have:=eI h0; omega
  refine⟨_,_,len,cap,_,bP h,rfl,⟨?_,fun j c hj=>?_⟩,zd,(.inr ⟨_,_,rfl⟩),fun g' o' e=>by cases e; exact lY fS _ _⟩
  ·rw[zd,List.length_take,List.length_drop]; omega
  ·rw[List.getElem?_take] at hj
   split at hj
   ·rename_i uN
    rw[List.getElem?_drop] at hj
    obtain⟨v,hv,h1,h2⟩:=oT _ _ hj
    exact⟨v,by rw[List.getElem?_take,if_pos uN,List.getElem?_drop]; simpa [Nat.add_assoc] using hv,h1,h2⟩
   ·cases hj
 ·rename_i l
  replace h:=aq h
  obtain⟨b,hb,h⟩:=h
  replace h:=aQ h
  obtain⟨hc,h⟩:=h
  simp only[Bool.and_eq_true] at hc
  have pt:=Nat.eq_of_beq_eq_true hc.2
  obtain⟨p,hp,rfl⟩:=hx
  split at h
  ·rename_i hk
   obtain⟨g,arr,fr,ha,hw,fS,oT,_,hlen,hle,_,has,_⟩:=eD hh hb hc.1 hk hp
   rw[pt] at hlen has
   have eI:p.len*n<=arr.size:=by rw[has]; exact Nat.mul_le_mul_right _ hle
   refine⟨_,_,p.len,p.cap,(arr.toList.drop 0).take (p.len*n),h,hw,⟨?_,fun j c hj=>?_⟩,?_,(.inr ⟨_,_,rfl⟩),fun g' o' e=>by cases e; exact lY fS _ _⟩
   ·rw[List.length_take,List.length_drop,Array.length_toList]; omega
   ·obtain⟨v,hv,h1,h2⟩:=oT _ _ hj
    have uN:j < p.len*n:=by rw[← hlen]; exact (List.getElem?_eq_some_iff.1 hj).1
    exact⟨v,by rw[List.getElem?_take,if_pos uN,List.getElem?_drop]; simpa using hv,h1,h2⟩
   ·rw[List.length_take,List.length_drop,Array.length_toList]; omega
  ·rename_i hk
   obtain⟨_,hlen,hle,_,lf⟩:=ct hh hb hc.1 hk hp
   rcases lf with ⟨_,pk,hw⟩|⟨g,arr,fr,ha,hw,fS,kN,_,has⟩
   ·have fO:b.cs = []:=List.eq_nil_of_length_eq_zero (by omega)
    rw[fO] at h
    exact⟨_,none,0,0,[],h,hw,⟨by simp,fun i e he=>by simp at he⟩,by simp,.inl rfl,fun _ _ _ j v hv=>by simp at hv⟩
   ·obtain⟨xs,h6,h7⟩:=kN.row
    rw[pt] at h6
    exact⟨_,_,p.len,p.cap,xs,h,hw,h6,by rw[h6.1,hlen],(.inr ⟨_,_,rfl⟩),fun g' o' e=>by cases e; exact h7⟩
  ·exact h.elim
 ·exact h.elim
theorem uO {l:Nat} {b:ak} {q:List ak->Prop} (hb:st[l]?=some b) (h:CZ st l q):∃ b',b'.live=false/\q (st.set l b'):=by
 replace h:=aq h
 obtain⟨b2,cR,h⟩:=h
 cases b2
 exact⟨_,rfl,(jd h).2⟩
theorem Di (hh:aD I β st w) {n:Nat} (hn:0 < n) {elem:TypeId} {x:PV} {v:Value} {q:Src->List ak->Prop} (h:C0 st elem n x q) (hx:x.Is w I β v) :
  ∃ dst dc xs len,q dst dc/\w.ownsRow 0 elem n v len xs/\lX w I β n dst xs/\xs.length=len*n/\aD I β dc w/\dc.length=st.length/\Ext I β st w I β dc w/\(∀ g,v.ownBlock=some g->Wr β st g/\¬ I g/\¬ iD β dc g)/\(v = .slice none 0 0\/∃ ad m c,v = .slice (some ad) m c):=by
 unfold C0 at h
 split at h<;>try simp only[PV.Is] at hx
 ·subst hx
  exact⟨_,st,[],0,h,World.ownsRow_nil _ _ _ _,⟨by simp,fun j c hj=>by simp at hj⟩,by simp,hh,rfl,Ext.refl,fun g e=>by simp[Value.ownBlock] at e,.inl rfl⟩
 ·rename_i l
  replace h:=aq h
  obtain⟨b,hb,h⟩:=h
  replace h:=aQ h
  obtain⟨hc,h⟩:=h
  simp only[Bool.and_eq_true] at hc
  obtain⟨az,hm⟩:=pq hc.1.1
  have pt:=Nat.eq_of_beq_eq_true hc.1.2
  have Dj:=Nat.eq_of_beq_eq_true hc.2
  obtain⟨p,hp,rfl⟩:=hx
  have dead:∀ {g o:Nat} {b':ak},p.a=some (g,o)->b'.live=false->(Own I β st l g (0,0) b\/∃ fr,Own I β st l g fr b)->Wr β st g/\¬ I g/\¬ iD β (st.set l b') g:=by
   intro g o b' ha cv ho
   have ho:∃ fr,Own I β st l g fr b:=ho.elim (fun h=>⟨_,h⟩) id
   obtain⟨fr,ho⟩:=ho
   refine⟨⟨l,b,p,o,hb,az,hm,hp,ha⟩,(ho.1 (by rw[hm]; decide)).2.1,fun ⟨l2,b2,p2,o2,h1,h2,h3,h4⟩=>?_⟩
   by_cases bZ:l2=l
   ·subst bZ
    rw[List.getElem?_set_self (by simpa using (List.getElem?_eq_some_iff.1 h1).1)] at h1
    cases h1; rw[cv] at h2; cases h2
   ·rw[List.getElem?_set_ne (fun e=>bZ e.symm)] at h1
    exact (ho.1 (by rw[hm]; decide)).2.2 l2 b2 bZ h1 h2 p2 g o2 h3 h4 rfl
  split at h
  ·rename_i hk
   obtain⟨b',cv,h⟩:=uO hb h
   obtain⟨g,arr,fr,ha,hw,fS,oT,dd,hlen,hle,pn,has,_⟩:=eD hh hb az hk hp
   rw[pt] at hlen has
   have xA:fr=(0,0):=(dd.1 (by rw[hm]; decide)).1
   subst xA
   have eI:p.len*n<=arr.size:=by rw[has]; exact Nat.mul_le_mul_right _ hle
   have px:(arr.toList.take (p.len*n)).length=p.len*n:=by rw[List.length_take,Array.length_toList]; omega
   refine⟨_,_,arr.toList.take (p.len*n),p.len,h,⟨px,.inr ⟨g,p.cap,arr,hw,Nat.zero_le _,by rw[← Dj]; exact fS,hle,pn,has,rfl⟩⟩,⟨by rw[px,hlen],fun j c hj=>?_⟩,px,hh.kill l cv,by simp,Ext.kill cv,fun g' e=>?_,.inr ⟨_,_,_,hw⟩⟩
   ·obtain⟨u,hu,h1,h2⟩:=oT _ _ hj
    have uN:j < p.len*n:=by rw[← hlen]; exact (List.getElem?_eq_some_iff.1 hj).1
    exact⟨u,by rw[List.getElem?_take,if_pos uN]; simpa using hu,h1,h2⟩
   ·rw[hw] at e
    simp only[Value.ownBlock,Option.some.injEq] at e
    subst e
    exact dead ha cv (.inl dd)
  ·rename_i hk
   obtain⟨b',cv,h⟩:=uO hb h
   obtain⟨_,hlen,hle,pn,lf⟩:=ct hh hb az hk hp
   rcases lf with ⟨_,pk,hw⟩|⟨g,arr,fr,ha,hw,fS,kN,dd,has⟩
   ·have fO:b.cs = []:=List.eq_nil_of_length_eq_zero (by omega)
    rw[fO] at h
    rw[hw]
    exact⟨_,_,[],0,h,World.ownsRow_nil _ _ _ _,⟨by simp,fun i e he=>by simp at he⟩,by simp,hh.kill l cv,by simp,Ext.kill cv,fun g e=>by simp[Value.ownBlock] at e,.inl rfl⟩
   ·rw[pt] at kN has
    have xA:fr=(0,0):=(dd.1 (by rw[hm]; decide)).1
    subst xA
    obtain⟨xs,h6,h7⟩:=kN.row
    have eI:p.len*n<=arr.size:=by rw[has]; exact Nat.mul_le_mul_right _ hle
    have px:xs.length=p.len*n:=by rw[h6.1,hlen]
    refine⟨_,_,xs,p.len,h,⟨px,.inr ⟨g,p.cap,arr,hw,Nat.zero_le _,by rw[← Dj]; exact fS,hle,pn,has,?_⟩⟩,h6,px,hh.kill l cv,by simp,Ext.kill cv,fun g' e=>?_,.inr ⟨_,_,_,hw⟩⟩
    ·apply List.ext_getElem?
     intro j
     rw[List.getElem?_take]
     split
     ·rename_i hj
      have xe:j < xs.length:=by omega
      have:=h7 j _ (List.getElem?_eq_getElem xe)
      rw[Ev.dN fS,Nat.zero_add] at this
      rw[List.getElem?_eq_getElem xe]; simpa using this
     ·rename_i hj
      rw[List.getElem?_eq_none (by omega)]
    ·rw[hw] at e
     simp only[Value.ownBlock,Option.some.injEq] at e
     subst e
     exact dead ha cv (.inl dd)
  ·exact h.elim
 ·exact h.elim
theorem oB (t ty e:TypeId) (i:TypeInfo) (ht:P.underlying t=some (.slice e)) (hi:P.info? e=some i) (b:Option Addr) (n cap c:Nat) (hle:n<=cap):(Builtin.append_ #[t,t] ty #[.slice b n cap,.slice none 0 c]).run P w = .ok (.slice b n cap) w:=by
 cases b<;>simp[Builtin.append_,run_underlying ht,sizeOf,typeInfo,hi,Builtin.lenOf,Builtin.firstCells,hle,storeCells]
end
section
variable {w w':World} {I I':Nat->Prop} {β aI:ax} {cx:Ev.Cx} {G:Gx} {P:Program} {s:aO} {a:Act} {st dc:List ak}
theorem uP (s:aO) (x y:List ak):(s.store x).store y=s.store y:=by cases s; rfl
theorem Ext.Ws {jJ:List ak} (h:aD I β jJ w) (uQ:∀ g,Wr β jJ g->Wr β st g) (Wg:w'.os=w.os) (C_:w'.tape=w.tape) (gV:w'.output=w.output) (eI:w.heap.size<=w'.heap.size) {b:ak} {p:nN} (hw:∀ g,g < w.heap.size->¬ Wr β st g->w'.heap[g]?=w.heap[g]?)
  (hp:∀ g o,p.a=some (g,o)->g < w.heap.size->Wr β st g):Ext I β st w I (β.set jJ.length p) (jJ++[b]) w' :=
 ⟨Wg,C_,gV,eI,hw,fun g hg ⟨l,b',q,o,h1,h2,h3,h4,h5⟩=>by
  unfold ax.set at h4
  split at h4
  ·cases h4
   exact hp g o h5 hg
  ·have:=h.lt h4
   rw[List.getElem?_append_left this] at h1
   exact uQ g ⟨l,b',q,o,h1,h2,h3,h4,h5⟩,fun _ h=>h,fun _ _ h=>.inl h⟩
theorem py (hR:Rel G I β s a w) {jJ:List ak} (hk:aD I β jJ w) (uQ:∀ g,Wr β jJ g->Wr β s.st g) (hlen:jJ.length=s.st.length) {v:Value} (hv:∀ g,v.ownBlock=some g->Wr β s.st g/\¬ I g/\¬ iD β jJ g)
  (hg:w.grownBy w' v.ownBlock) {b:ak} {p:nN} {q:PV->aO->Prop} (h:nS (s.store jJ) b q) (hp:∀ g o,p.a=some (g,o)->v.ownBlock=some g\/g=w.heap.size) (hm:b.m = .w)
  (hb:(∀ g,p.a=some (g,0)->Own I (β.set jJ.length p) (jJ++[b]) jJ.length g (0,0) b)->(∀ g,I g->w'.heap[g]?=w.heap[g]?)->fD I (β.set jJ.length p) (jJ++[b]) w' jJ.length b):cf G s I β w a q p.whole w':=by
 have Cq:(s.store jJ).st=jJ:=(aO.iG s jJ).2.2.1
 unfold nS at h
 rw[Cq] at h
 replace h:=lU (gW h)
 rw[Nat.zero_add,uP] at h
 have xB:=ax.jP hk p
 have dd:∀ g,iD β jJ g\/I g->w'.heap[g]?=w.heap[g]?:=fun g Dk=>by
  refine hg.block g (Dk.elim hk.cM (hR.aw.aw g)) fun e=>?_
  obtain⟨_,h1,h2⟩:=hv g e.symm
  exact Dk.elim h2 h1
 have eu:∀ g o,p.a=some (g,o)->¬ I g/\¬ iD β jJ g:=fun g o ha=>by
  rcases hp g o ha with e|e
  ·exact (hv g e).2
  ·subst e
   exact⟨fun h=>by have:=hR.aw.aw _ h; omega,fun h=>by have:=hk.cM h; omega⟩
 have hO:∀ g,p.a=some (g,0)->Own I (β.set jJ.length p) (jJ++[b]) jJ.length g (0,0) b:=fun g ha=>by
  refine⟨fun _=>⟨rfl,(eu g 0 ha).1,fun l' b' bZ iz eg p' g' o' dk dJ e=>?_⟩,fun hr=>by rw[hm] at hr; cases hr⟩
  subst e
  unfold ax.set at dk
  rw[if_neg bZ] at dk
  have:=hk.lt dk
  rw[List.getElem?_append_left this] at iz
  exact (eu _ _ ha).2 ⟨l',b',p',o',iz,eg,dk,dJ⟩
 have hH:=hk.add dd eu (hb hO fun g hg=>dd g (.inr hg))
 have hE:Ext I β s.st w I (β.set jJ.length p) (jJ++[b]) w':=Ext.Ws hk uQ hg.os hg.tape hg.output hg.size (fun g bG hn=>hg.block g bG fun e=>hn (hv g e.symm).1) fun g o ha bG=>by
  rcases hp g o ha with e|e
  ·exact (hv g e).1
  ·omega
 refine cf.mk' hR h hH hE xB (by simp; omega) (fun l hl=>if_neg (by omega)) ?_
 simp only[PV.Is]; exact⟨_,ax.eP ..,rfl⟩
theorem xE (hG:oS G) (hR:Rel G I β s a w) {t ty:TypeId} {d x:PV} {u v:Value} {q:PV->aO->Prop} (h:y4 G s t d x q) (hd:d.Is w I β v) (hx:x.Is w I β u) :
  ∃ r w',(Builtin.append_ #[t,t] ty #[v,u]).run G.cx.P w = .ok r w'/\cf G s I β w a q r w':=by
 replace h:=aq h
 obtain⟨td,hu,h⟩:=h
 split at h
 ·rename_i elem
  replace h:=aq h
  obtain⟨n,hn,h⟩:=h
  replace h:=aq h
  obtain⟨ag,Gq,h⟩:=h
  replace h:=aq h
  obtain⟨bm,Rx,h⟩:=h
  replace h:=iC (w:=w) (I:=I) (β:=β) hG.ok h
  obtain⟨z,i,zv,h,hi,Gp,xy⟩:=h
  replace h:=aQ h
  obtain⟨hc,h⟩:=h
  simp only[Bool.and_eq_true,Bool.or_eq_true] at hc
  have jy:0 < n:=Nat.le_of_ble_eq_true hc.1.1
  have hzn:z.length=n:=Nat.eq_of_beq_eq_true hc.1.2
  have RH:ag=true\/n=1:=hc.2.imp id Nat.eq_of_beq_eq_true
  obtain⟨i1,Zi,KX⟩:=Ev.jK hG.ok hn
  rw[hi] at Zi
  cases Zi
  obtain⟨i3,Wt,Zj⟩:=hG.bm _ (Ev.jc Rx)
  simp only at Wt Zj
  rw[hi] at Wt
  cases Wt
  have JM:=xy.length
  simp only[Array.length_toList] at JM
  replace h:=G_ hG.ok hR.heap jy h hx
  obtain⟨src,ad,len,c,news,h,rfl,m9,zd,KN,uR⟩:=h
  replace h:=Di hR.heap jy h hd
  obtain⟨dst,jJ,xs,m_,h,dd,KY,px,hk,RI,Ha,hv,hvf⟩:=h
  have uQ:∀ g,Wr β jJ g->Wr β s.st g:=fun g hw=>by
   have:=Ha.wr g
   rcases Nat.lt_or_ge g w.heap.size with bG|RJ
   ·exact this bG hw
   ·obtain⟨l,b,p,o,h1,h2,h3,h4,h5⟩:=hw
    have:=hk.cM ⟨l,b,p,o,h1,h2,h4,h5⟩
    omega
  have ze:=m9.Dh
  
  have run:(m_+len)<=maxLen->(m_+len)*bm<=140737488355328->∃ r w',(Builtin.append_ #[t,t] ty #[v,.slice ad len c]).run G.cx.P w = .ok r w'/\w'.ownsRow 0 elem n r (m_+len) (xs++news)/\w.grownBy w' v.ownBlock/\(r.ownBlock=v.ownBlock\/r.ownBlock=some w.heap.size):=by
   intro h1 h2
   cases ad with
   | none =>
    have Cr:len=0:=by rcases KN with h|⟨g,o,h⟩<;>first|exact h|cases h
    subst Cr
    have KK:news = []:=List.eq_nil_of_length_eq_zero (by rw[zd,Nat.zero_mul])
    subst KK
    have hvv:∃ b m c',v = .slice b m c'/\m<=c':=by
     rcases dd.2 with ⟨rfl,_⟩|⟨g,cap,cur,rfl,_,_,hle,_⟩
     ·exact⟨_,_,_,rfl,Nat.le_refl _⟩
     ·exact⟨_,_,_,rfl,hle⟩
    obtain⟨b,m,c',rfl,hle⟩:=hvv
    refine⟨_,w,oB t ty elem i (hG.ok.un hu) hi b m c' c hle,?_,⟨rfl,rfl,rfl,Nat.le_refl _,fun _ _ _=>rfl⟩,.inl rfl⟩
    rw[List.append_nil]; exact dd
   | some ad =>
    obtain⟨r,w',hr,h3,h4,_,h5⟩:=run_append_own_at (P:=G.cx.P) w 0 t ty elem i zv n bm (hG.ok.un hu) hi Gp KX Zj (by omega) jy v m_ xs dd ad len c news zd (fun j u hj=>by
     rcases KN with h0|⟨g,o,e⟩
     ·rw[h0,Nat.zero_mul] at zd
      have:=List.eq_nil_of_length_eq_zero zd
      subst this; simp at hj
     ·cases e
      rw[Ev.gk]; exact uR g o rfl j u hj) ze h1 h2 (Nat.zero_le _)
    exact⟨r,w',hr,h3,h4,h5⟩
  
  have iH:∀ {r:Value} {w':World} {b:ak},w'.ownsRow 0 elem n r (m_+len) (xs++news)->w.grownBy w' v.ownBlock->(r.ownBlock=v.ownBlock\/r.ownBlock=some w.heap.size)->nS (s.store jJ) b q->b.m = .w ->
    (∀ (p:nN),((p.a=none/\p.len=0/\p.cap=0/\m_+len=0)\/∃ g cur,p.a=some (g,0)/\p.len=m_+len/\w'.heap[g]?=some (.cells cur elem (0,0))/\p.len<=p.cap/\p.cap<=maxLen/\cur.size=p.cap*n/\(∀ (j:Nat) (v:Value),(xs++news)[j]?=some v->cur[j]?=some v)) ->
     (∀ g,p.a=some (g,0)->Own I (β.set jJ.length p) (jJ++[b]) jJ.length g (0,0) b)->(∀ g,I g->w'.heap[g]?=w.heap[g]?)->fD I (β.set jJ.length p) (jJ++[b]) w' jJ.length b)->cf G s I β w a q r w':=by
   intro r w' b uS hg lV h hm hb
   rcases uS.2 with ⟨rfl,h0⟩|⟨g,cap,cur,rfl,_,Dl,hle,pn,gU,gm⟩
   ·have:=py (p:=⟨none,0,0⟩) hR hk uQ RI hv hg h (fun g o e=>by cases e) hm (hb ⟨none,0,0⟩ (.inl ⟨rfl,rfl,rfl,h0⟩))
    exact this
   ·have:=py (p:=⟨some (g,0),m_+len,cap⟩) hR hk uQ RI hv hg h (fun g' o e=>by
     cases e
     simp only[Value.ownBlock] at lV
     exact lV.imp (fun e=>e.symm) (fun e=>by cases e; rfl)) hm (hb ⟨some (g,0),m_+len,cap⟩ (.inr ⟨g,cur,rfl,rfl,Dl,hle,pn,gU,fun j v hj=>by
      rw[← gm,List.getElem?_take] at hj
      split at hj
      ·simpa using hj
      ·cases hj⟩))
    exact this
  have m6:∀ {w':World},w.grownBy w' v.ownBlock->∀ g,I g->w'.heap[g]?=w.heap[g]?:=fun hg g hI=>hg.block g (hR.aw.aw g hI) fun e=>(hv g e.symm).2.1 hI
  have Zk:(xs++news).length=(m_+len)*n:=by rw[List.length_append,px,zd,Nat.add_mul]
  have told:(aV (dZ ag n dst) fun es=>aV (dZ ag n src) fun fs=>es.length+fs.length<=maxLen/\(es.length+fs.length)*bm<=140737488355328/\nS (s.store jJ) ⟨.dyn,elem,n,.w,true,es++fs⟩ q)->∃ r w',(Builtin.append_ #[t,t] ty #[v,.slice ad len c]).run G.cx.P w = .ok r w'/\cf G s I β w a q r w':=by
   intro h
   replace h:=aq h
   obtain⟨es,kN,h⟩:=h
   replace h:=aq h
   obtain⟨fs,KI,h⟩:=h
   obtain⟨Vs,he2⟩:=ew jy RH kN KY px
   obtain⟨Vt,hf2⟩:=ew jy RH KI m9 zd
   obtain⟨h1,h2,h⟩:=h
   rw[Vs,Vt] at h1 h2
   obtain⟨r,w',hr,uS,hg,lV⟩:=run h1 h2
   refine⟨r,w',hr,iH uS hg lV h rfl fun p hp hO hI=>⟨p,ax.eP ..,?_⟩⟩
   rcases hp with ⟨ha,hl,Wu,h0⟩|⟨g,cur,ha,hl,Dl,hle,pn,gU,gl⟩
   ·exact⟨⟨jy,by simp only[List.length_append]; omega,by omega,by rw[Wu]; exact Nat.zero_le _⟩,.inl ⟨ha,Wu⟩⟩
   ·refine⟨⟨jy,by simp only[List.length_append]; omega,hle,pn⟩,.inr ⟨g,cur,(0,0),ha,Dl,?_,hO g ha,gU⟩⟩
    exact (he2.append hf2).at (fun j v hj=>by rw[Ev.dN Dl]; exact gl j v hj) (fun _ h=>h) hI
  split at h
  ·rename_i cs ds
   rw[ki,ki,Nat.zero_add,Nat.zero_add] at h
   replace h:=aQ h
   obtain⟨kG,h⟩:=h
   simp only[Bool.and_eq_true] at kG
   obtain⟨⟨⟨QR,Zl⟩,uT⟩,Vu⟩:=kG
   have QR:0 < ds.length:=Nat.le_of_ble_eq_true QR
   have uT:=Nat.le_of_ble_eq_true uT
   have Vu:=Nat.le_of_ble_eq_true Vu
   replace h:=bP h
   have ur:cs.length=m_*n:=by rw[← KY.1,px]
   have JN:ds.length=len*n:=by rw[← m9.1,zd]
   have e1:m_<=m_*n:=Nat.le_mul_of_pos_right _ jy
   have e2:len<=len*n:=Nat.le_mul_of_pos_right _ jy
   obtain⟨r,w',hr,uS,hg,lV⟩:=run (by omega) (Nat.le_trans (Nat.mul_le_mul_right _ (by omega)) uT)
   have Zm:0 < len:=by
    rcases Nat.eq_zero_or_pos len with h0|h0
    ·rw[h0,Nat.zero_mul] at JN; omega
    ·exact h0
   refine⟨r,w',hr,iH uS hg lV h rfl fun p hp hO hI=>⟨p,ax.eP ..,?_⟩⟩
   rcases hp with ⟨ha,hl,Wu,h0⟩|⟨g,cur,ha,hl,Dl,hle,pn,gU,gl⟩
   ·omega
   ·refine⟨g,cur,(0,0),ha,Dl,fun j c hj=>?_,hO g ha,by simp only[List.length_append]; rw[hl,Nat.add_mul]; omega,hle,pn,gU,jy⟩
    obtain⟨v',h1,h2,h3⟩:=(cT.append KY m9).2 j c hj
    exact⟨v',by rw[Nat.zero_add]; exact gl j v' h1,PV.Is.mono (fun _ h=>h) hI c β _ v' (fun l p' _ dk=>ax.jP hk p l p' dk) h2,h3⟩
  ·exact told h
 ·exact h.elim
theorem uU (hR:Rel G I β s a w):∀ {os:List Operand} {q:List PV->Prop},y6 s os q->∃ l,q l/\a_ w I l β (os.map a.eval)
 | [],q,h=>⟨[],h,by simp only[List.map_nil,a_]⟩
 | o::os,q,h=>by
  replace h:=aO.bL hR h
  obtain⟨x,h,hx⟩:=h
  obtain⟨l,h,hl⟩:=uU hR h
  exact⟨_,h,by simp only[List.map_cons,a_]; exact⟨hx,hl⟩⟩
theorem TM.na {rl:List Nat}:∀ {t:TM} {n:Nat} {x:PV},(t.clear rl).get n=some x->t.get n=some x/\x.leads rl=false
 | .nil,n,x,h=>by cases h
 | .node v l r,n,x,h=>by
  simp only[TM.clear,TM.get] at h ⊢
  cases h0:Nat.beq n 0<;>rw[h0] at h
  ·cases h1:Nat.beq (n % 2) 1<;>rw[h1] at h
   ·exact TM.na (t:=r) h
   ·exact TM.na (t:=l) h
  ·cases v with
   | none=>cases h
   | some y =>
    simp only[cond_true] at h ⊢
    split at h
    ·cases h
    ·cases h
     rename_i hl
     exact⟨rfl,by simpa using hl⟩
theorem Ay {rl:List Nat} {t:TM} {q:TM->Prop} (h:xr rl t q):∃ t',q t'/\∀ n x,t'.get n=some x->t.get n=some x/\∀ l∈x.cr,l ∉ rl:=by
 unfold xr at h
 split at h
 ·exact⟨t,h,fun n x hx=>⟨hx,fun _ _ hl=>by cases hl⟩⟩
 ·refine⟨_,h,fun n x hx=>?_⟩
  obtain⟨h1,h2⟩:=TM.na hx
  refine⟨h1,fun l hl hr=>?_⟩
  unfold PV.leads at h2
  rw[List.any_eq_false] at h2
  refine h2 l hl (List.any_eq_true.2 ⟨l,hr,?_⟩)
  exact Nat.beq_refl l
theorem Dm (hR:Rel G I β s a w) {f:FuncId} {args:List PV} {aZ:List Value} {q:PV->aO->Prop} (h:C1 G s f args q) (ha:a_ w I args β aZ) :
  Ev.ij G.cx.P f/\Calls G.cx.P f aZ.toArray w fun e w'=>∃ v,e = .returned v/\cf G s I β w a q v w':=by
 obtain⟨n,t,st,b,V6⟩:=s
 obtain⟨rl,JO,hs⟩:=h
 unfold Spec at hs
 obtain⟨he,hs⟩:=hs
 refine⟨he,(hs I β w aZ hR.heap hR.aw ha).mono fun e w' ⟨v,r,S',I',aI,he,hk,hr,hH,hM,hE,hlen,lg⟩=>⟨v,he,?_⟩⟩
 obtain⟨t',hq,y_⟩:=Ay hk
 refine⟨r,_,I',aI,hq,⟨hR.small,hR.defers,hR.size,Nat.le_trans hR.base hlen,fun m x hx=>?_,hH,hM⟩,hr,hE,rfl,rfl,rfl,fun l hl hn=>?_,fun l b' cv hm=>lg l (List.getElem?_eq_some_iff.1 cv).1 fun hr=>(JO l hr).2 b' cv hm⟩
 ·obtain⟨h1,h2⟩:=y_ m x hx
  obtain⟨u,hu,hi⟩:=hR.get m x h1
  refine⟨u,hu,PV.Is.mono hE.aw (hE.keeps hR.heap hR.aw.aw) x β aI u (fun l p hl hp=>?_) hi⟩
  rw[lg l (hR.heap.lt hp) (h2 l hl)]; exact hp
 ·have iz:l < b:=hl
  refine lg l (Nat.lt_of_lt_of_le iz hR.base) fun hr=>?_
  rcases (JO l hr).1 with h|h
  ·omega
  ·exact hn h
set_option maxHeartbeats 1000000 in
theorem xF (hG:oS G) (hR:Rel G I β s a w) {o:Oper} {q:PV->aO->Prop} (h:pop G s o q):Ev.ou G.cx.P (cf G s I β w a q) ((execOp a.eval o).run G.cx.P w):=by
 have uV:∀ {q':PV->Prop},nR G.cx s o.op q'->(∀ v,q' v->q v s)->Ev.ou G.cx.P (cf G s I β w a q) ((execOp a.eval o).run G.cx.P w):=by
  intro q' h hq
  obtain⟨x,r,hx,hi,hr⟩:=uJ hG.ok hR h
  rw[hr w]
  exact cf.same hR (hq x hx) hi
 unfold pop at h
 split at h
 ·
  rename_i t ad tj
  replace h:=aO.bL hR h
  obtain⟨x,h,hx⟩:=h
  obtain⟨z,v,g,h,hz,_,bx⟩:=po hG.ok hR.heap hR.aw h hx
  replace bx:=bx w rfl
  unfold execOp
  rw[tj]
  simp only[Sem.run_bind,bx,Result.andThen_ok,Sem.run_pure]
  exact cf.same hR h hz
 ·
  rename_i t ad y tj
  replace h:=aO.bL hR h
  obtain⟨x,h,hx⟩:=h
  replace h:=aO.bL hR h
  obtain⟨v,h,hv⟩:=h
  obtain⟨w',bx,hp⟩:=Ax hG hR h hx hv
  unfold execOp
  rw[tj]
  simp only[Sem.run_bind,bx,Result.andThen_ok,Sem.run_pure]
  exact hp
 ·
  rename_i t tj
  replace h:=iC (w:=w) (I:=I) (β:=β) hG.ok h
  obtain⟨z,i,v,h,hi,Gp,xy⟩:=h
  replace h:=aQ (bP h)
  obtain⟨cZ,h⟩:=h
  rw[List.all_eq_true] at cZ
  have bx:(execOp a.eval o).run G.cx.P w = .ok (.value (.pointer (some ⟨w.heap.size,0,none⟩))) (w.alloc (.cells v.cells t)):=by
   unfold execOp
   rw[tj]
   simp[Instr.alloc,zeroValue,typeInfo,hi,Gp,newVar,newRow]
  rw[bx]
  exact zc hR h xy cZ
 ·
  rename_i t y tj
  replace h:=aO.bL hR h
  obtain⟨x,h,hx⟩:=h
  have bx:(execOp a.eval o).run G.cx.P w = .ok (.value (.pointer (some ⟨w.heap.size,0,none⟩))) (w.alloc (.cells (a.eval y).cells t)):=by
   unfold execOp
   rw[tj]
   simp[Instr.box,newVar,newRow]
  rw[bx]
  split at h
  ·exact h.elim
  ·rename_i za
   replace h:=aQ h
   obtain⟨cZ,h⟩:=h
   rw[List.all_eq_true] at cZ
   exact zc hR (bP h) (hx.jM fun vs e=>za vs e) cZ
 ·
  rename_i t len ps tj
  replace h:=aq h
  obtain⟨d,hu,h⟩:=h
  split at h
  ·rename_i elem
   replace h:=aq h
   obtain⟨n,hn,h⟩:=h
   replace h:=iC (w:=w) (I:=I) (β:=β) hG.ok h
   obtain⟨z,i,v,h,hi,Gp,xy⟩:=h
   replace h:=m4 hR h
   obtain⟨l,h,hl⟩:=h
   replace h:=aQ h
   obtain⟨hc,h⟩:=h
   simp only[Bool.and_eq_true] at hc
   have JM:z.length=n:=Nat.eq_of_beq_eq_true hc.1.1
   have uW:len*n<=16777216:=Nat.le_of_ble_eq_true hc.1.2
   have jy:0 < n:=Nat.le_of_ble_eq_true hc.2
   replace h:=lS h
   obtain⟨cs,RK,h⟩:=h
   replace h:=aQ (bP h)
   obtain⟨kG,h⟩:=h
   simp only[Bool.and_eq_true,List.all_eq_true] at kG
   have ur:=Nat.eq_of_beq_eq_true kG.1.2
   have pn:=Nat.le_of_ble_eq_true kG.2
   have Wv:=xy.length
   simp only[Array.length_toList] at Wv
   have rep:∀ k,a_ w I ((List.replicate k z).flatten) β ((List.replicate k v.cells.toList).flatten):=fun k=>by
    induction k with
    | zero=>simp only[List.replicate_zero,List.flatten_nil,a_]
    | succ k ih=>simp only[List.replicate_succ,List.flatten_cons]; exact xy.append ih
   have KZ:a_ w I ((List.replicate len z).flatten) β ((Array.range (len*n)).map fun i=>v.cells[i % v.cells.size]!).toList:=by
    rw[show n=v.cells.size by omega,Ev.CQ len (by omega)]; exact rep len
   obtain⟨B,hB,RA⟩:=lT RK KZ hl
   have bx:(execOp a.eval o).run G.cx.P w = .ok (.value (.slice (some ⟨w.heap.size,0,none⟩) len len)) (w.alloc (.cells B elem)):=by
    unfold execOp
    rw[tj]
    have Ww:Instr.fill (fun i=>some (i*n,n)) ((Array.range (len*n)).map fun i=>v.cells[i % v.cells.size]!) (ps.map fun (i,y)=>(i,a.eval y)).toList=some B:=by
     rw[← hB]; simp
    have JP:¬ (len*n > 2 ^ 24):=by omega
    by_cases h0:len*n=0
    ·have hE:∀ g:Nat->Value,(Array.range (len*n)).map g = #[]:=fun g=>by rw[h0]; simp
     rw[hE] at Ww
     simp only[Instr.buildSlice,Sem.run_bind,run_underlying (hG.ok.un hu),Result.andThen_ok,Ev.cV hG.ok hn,if_neg JP,if_pos h0,Sem.run_pure,hE,Ww]
     simp[newRow]
    ·have Wx:(zeroValue elem).run G.cx.P w = .ok v w:=by simp[zeroValue,typeInfo,hi,Gp]
     simp only[Instr.buildSlice,Sem.run_bind,run_underlying (hG.ok.un hu),Result.andThen_ok,Ev.cV hG.ok hn,if_neg JP,if_neg h0,Sem.run_pure,Wx,Ww]
     simp[newRow]
   rw[bx]
   exact Dg hR h RA kG.1.1 ur jy pn
  ·exact h.elim
 ·
  rename_i y QK argTypes tj
  replace h:=aO.bL hR h
  obtain⟨x,h,hx⟩:=h
  split at h
  ·rename_i f kF
   cases Ha:G.ext.any (Nat.beq f) with
   | true=>rw[Ha] at h; replace h:pe G s o q:=h; unfold pe at h; exact h I β a w hR
   | false =>
   rw[Ha] at h
   replace h:y6 s QK fun l=>C1 G s f (l++kF) q:=h
   simp only[PV.Is] at hx
   obtain⟨Wy,hfv,hcv⟩:=hx
   replace h:=uU hR h
   obtain⟨l,h,hl⟩:=h
   obtain⟨Wz,RL⟩:=Dm hR h (hl.append hcv)
   have bx:(execOp a.eval o).run G.cx.P w = .ok (.enter f (QK.map a.eval++Wy.toList).toArray) w:=by
    unfold execOp
    rw[tj]
    have e1:(Array.mk QK).map a.eval++Wy=(QK.map a.eval++Wy.toList).toArray:=by simp
    simp only[resolve,hfv,Deferred.ofValue,Sem.run_bind,Sem.run_pure,Result.andThen_ok,invoke]
    simp only[Array.empty_append]
    rw[e1]
    exact Wz _ w
   rw[bx]
   exact RL
  ·exact h.elim
 ·
  rename_i od ox t t' tj
  replace h:=aQ h
  obtain⟨ht,h⟩:=h
  have:=Nat.eq_of_beq_eq_true ht
  subst this
  replace h:=aO.bL hR h
  obtain⟨d,h,hd⟩:=h
  replace h:=aO.bL hR h
  obtain⟨x,h,hx⟩:=h
  obtain⟨r,w',hr,hp⟩:=xE (ty:=o.type) hG hR h hd hx
  have bx:(execOp a.eval o).run G.cx.P w = .ok (.value r) w':=by
   unfold execOp
   rw[tj]
   simp[resolve,invoke,builtin,hr]
  rw[bx]
  exact hp
 ·unfold pe at h; exact h I β a w hR
 ·unfold pe at h; exact h I β a w hR
 ·unfold pe at h; exact h I β a w hR
 ·unfold pe at h; exact h I β a w hR
 ·unfold pe at h; exact h I β a w hR
 ·unfold pe at h; exact h I β a w hR
 ·rename_i src dst ox tj
  cases hb:Nat.beq dst 9 with
  | true=>rw[hb] at h; replace h:pe G s o q:=h; unfold pe at h; exact h I β a w hR
  | false=>rw[hb] at h; exact uV (by rw[tj]; exact h) fun _ h=>h
 ·exact uV h fun _ h=>h
end
section
variable {w w':World} {I I':Nat->Prop} {β aI:ax} {cx:Ev.Cx} {G:Gx} {P:Program} {s:aO} {a:Act} {st dc:List ak}
theorem TM.oU {v:Option PV}:∀ {f:Nat} {t:TM} {n:Nat} {k:TM->Prop},TM.s6 v f t n k->∃ t',k t'/\∀ m,t'.get m=if m=n then v else t.get m
 | 0,_,_,_,h=>h.elim
 | f+1,t,n,k,h=>by
  have arith:∀ m,Nat.beq n 0=false->(m=n↔Nat.beq m 0=false/\m % 2=n % 2/\(m - 1) / 2=(n - 1) / 2):=fun m h0=>by
   have hn:n≠0:=fun e=>by subst e; cases h0
   constructor
   ·rintro rfl; exact⟨h0,rfl,rfl⟩
   ·rintro⟨h1,h2,h3⟩
    have hm:m≠0:=fun e=>by subst e; cases h1
    omega
  have key:∀ (u:Option PV) (l r:TM),(bif Nat.beq n 0 then k (.node v l r) else bif Nat.beq (n % 2) 1 then TM.s6 v f l ((n - 1) / 2) (fun t=>k (.node u t r)) else TM.s6 v f r ((n - 1) / 2) (fun t=>k (.node u l t))) ->
    ∃ t',k t'/\∀ m,t'.get m=if m=n then v else (TM.node u l r).get m:=by
   intro u l r h
   cases h0:Nat.beq n 0<;>rw[h0] at h
   ·cases h1:Nat.beq (n % 2) 1<;>rw[h1] at h
    ·obtain⟨t',hk,ht⟩:=TM.oU h
     refine⟨_,hk,fun m=>?_⟩
     have hp:n % 2=0:=by
      have:n % 2≠1:=fun e=>by rw[e] at h1; cases h1
      omega
     simp only[TM.get]
     cases oA:Nat.beq m 0
     ·cases oP:Nat.beq (m % 2) 1
      ·have WA:m % 2=0:=by
        have:m % 2≠1:=fun e=>by rw[e] at oP; cases oP
        omega
       simp only[cond_false,ht]
       by_cases e:(m - 1) / 2=(n - 1) / 2
       ·rw[if_pos e,if_pos ((arith m h0).2 ⟨oA,by omega,e⟩)]
       ·rw[if_neg e,if_neg fun e'=>e ((arith m h0).1 e').2.2]
      ·have WA:m % 2=1:=Nat.eq_of_beq_eq_true oP
       simp only[cond_false,cond_true]
       rw[if_neg fun e'=>by rw[e'] at WA; omega]
     ·have:=Nat.eq_of_beq_eq_true oA
      subst this
      simp only[cond_true]
      rw[if_neg fun e=>by rw[← e] at h0; cases h0]
    ·obtain⟨t',hk,ht⟩:=TM.oU h
     refine⟨_,hk,fun m=>?_⟩
     have hp:n % 2=1:=Nat.eq_of_beq_eq_true h1
     simp only[TM.get]
     cases oA:Nat.beq m 0
     ·cases oP:Nat.beq (m % 2) 1
      ·simp only[cond_false]
       rw[if_neg fun e'=>by rw[e'] at oP; rw[oP] at h1; cases h1]
      ·have WA:m % 2=1:=Nat.eq_of_beq_eq_true oP
       simp only[cond_false,cond_true,ht]
       by_cases e:(m - 1) / 2=(n - 1) / 2
       ·rw[if_pos e,if_pos ((arith m h0).2 ⟨oA,by omega,e⟩)]
       ·rw[if_neg e,if_neg fun e'=>e ((arith m h0).1 e').2.2]
     ·have:=Nat.eq_of_beq_eq_true oA
      subst this
      simp only[cond_true]
      rw[if_neg fun e=>by rw[← e] at h0; cases h0]
   ·have:=Nat.eq_of_beq_eq_true h0
    subst this
    refine⟨_,h,fun m=>?_⟩
    simp only[TM.get]
    cases oA:Nat.beq m 0
    ·rw[if_neg fun e=>by subst e; cases oA]; rfl
    ·rw[if_pos (Nat.eq_of_beq_eq_true oA)]; rfl
  cases t with
  | nil =>
   obtain⟨t',hk,ht⟩:=key none .nil .nil h
   refine⟨t',hk,fun m=>?_⟩
   rw[ht]
   split
   ·rfl
   ·simp only[TM.get]; cases Nat.beq m 0<;>cases Nat.beq (m % 2) 1<;>rfl
  | node u l r=>exact key u l r h
structure gX (s s':aO):Prop where
 n:s'.n=s.n
 st:s'.st=s.st
 base:s'.base=s.base
 rl:s'.rl=s.rl
theorem aO.ik {dst:Option Tmp} {x:PV} {k:aO->Prop} (h:s.put dst x k):∃ s',k s'/\gX s s'/\∀ I β a w v,Rel G I β s a w->x.Is w I β v->Rel G I β s' (a.put dst v) w:=by
 obtain⟨n,t,st,b,rl⟩:=s
 unfold aO.put at h
 simp only at h
 split at h
 ·exact⟨_,h,⟨rfl,rfl,rfl,rfl⟩,fun I β a w v hR _=>hR⟩
 ·rename_i d
  replace h:=aQ h
  obtain⟨hd,h⟩:=h
  have hd:d < n:=Nat.le_of_ble_eq_true hd
  replace h:=C2 h
  obtain⟨t',hk,ht⟩:=TM.oU h
  refine⟨_,hk,⟨rfl,rfl,rfl,rfl⟩,fun I β a w v hR hx=>⟨hR.small,hR.defers,by simpa [Act.put] using hR.size,hR.base,fun m y hy=>?_,hR.heap,hR.aw⟩⟩
  have eI:d < a.tmps.size:=by rw[hR.size]; exact hd
  have uv:t'.get m=some y:=hy
  rw[ht] at uv
  by_cases e:m=d
  ·subst e
   rw[if_pos rfl] at uv
   cases uv
   exact⟨v,by simp[Act.put,eI],hx⟩
  ·rw[if_neg e] at uv
   obtain⟨u,hu,hi⟩:=hR.get m y uv
   exact⟨u,by simp only[Act.put,Array.getElem?_setIfInBounds_ne (Ne.symm e)]; exact hu,hi⟩
theorem aO.kj {t:Nat} {x:PV} {v:Value} {k:aO->Prop} (hR:Rel G I β s a w) (hv:a.tmps[t]?=some v) (hx:x.Is w I β v) (h:s.put (some t) x k):∃ s',k s'/\gX s s'/\Rel G I β s' a w:=by
 obtain⟨s',hk,hs,hr⟩:=aO.ik (G:=G) h
 refine⟨s',hk,hs,?_⟩
 have:=hr I β a w v hR hx
 have e:a.put (some t) v=a:=by
  unfold Act.put
  simp only
  have:a.tmps.setIfInBounds t v=a.tmps:=by
   apply Array.ext_getElem?
   intro i
   rw[Array.getElem?_setIfInBounds]
   split
   ·rename_i hi
    subst hi
    have:=(Array.getElem?_eq_some_iff.1 hv).1
    rw[if_pos this,hv]
   ·rfl
  rw[this]
 rw[e] at this
 exact this
theorem Is.undef:(PV.tup []).Is w I β Go.undef:=by simp only[PV.Is]; exact⟨#[],rfl,by simp only[a_]⟩
theorem kl {ops:Array Oper} {o:Oper} {run skip:aO->Prop} (hR:Rel G I β s a w) (h:mY ops.toList s o run skip) :
  (Region.wanted o (yielded ops a.tmps)=true/\∃ s',run s'/\gX s s'/\Rel G I β s' a w)\/(Region.wanted o (yielded ops a.tmps)=false/\∃ s',skip s'/\gX s s'/\Rel G I β s' a w):=by
 have same:gX s s:=⟨rfl,rfl,rfl,rfl⟩
 unfold mY at h
 cases hg:o.guard with
 | none =>
  rw[hg] at h
  exact .inl ⟨by simp[Region.wanted,hg],s,h,same,hR⟩
 | some jw =>
  obtain⟨j,want⟩:=jw
  rw[hg] at h
  simp only at h
  replace h:=aq h
  obtain⟨t,ht,h⟩:=h
  replace h:=aq h
  obtain⟨x,hx,h⟩:=h
  obtain⟨v,hv,hi⟩:=hR.get t x hx
  have y_:(ops[j]?).bind (·.dst)=some t:=by simpa using ht
  have hy:∀ b,v = .bool b->Region.wanted o (yielded ops a.tmps)=(b == want):=fun b hb=>by
   subst hb
   have:yielded ops a.tmps j=some b:=by unfold yielded; rw[Option.bind_eq_some_iff.2 ⟨t,y_,hv⟩]
   simp[Region.wanted,hg,this]
  split at h<;>try simp only[PV.Is] at hi
  ·cases want
   ·exact .inr ⟨by rw[hy _ hi]; rfl,s,h,same,hR⟩
   ·exact .inl ⟨by rw[hy _ hi]; rfl,s,h,same,hR⟩
  ·cases want
   ·exact .inl ⟨by rw[hy _ hi]; rfl,s,h,same,hR⟩
   ·exact .inr ⟨by rw[hy _ hi]; rfl,s,h,same,hR⟩
  ·rename_i p
   by_cases hp:p
   ·obtain⟨s',hk,hs,hr⟩:=aO.kj hR hv (x:=.tt) (by rw[hi,bB hp]; exact Is.tt) (h.1 hp)
    cases want
    ·exact .inr ⟨by rw[hy _ hi,bB hp]; rfl,s',hk,hs,hr⟩
    ·exact .inl ⟨by rw[hy _ hi,bB hp]; rfl,s',hk,hs,hr⟩
   ·obtain⟨s',hk,hs,hr⟩:=aO.kj hR hv (x:=.ff) (by rw[hi,br hp]; exact Is.ff) (h.2 hp)
    cases want
    ·exact .inl ⟨by rw[hy _ hi,br hp]; rfl,s',hk,hs,hr⟩
    ·exact .inr ⟨by rw[hy _ hi,br hp]; rfl,s',hk,hs,hr⟩
  ·obtain⟨vs,rfl,_⟩:=hi
   refine .inr ⟨?_,s,h,same,hR⟩
   have:yielded ops a.tmps j=none:=by unfold yielded; rw[Option.bind_eq_some_iff.2 ⟨t,y_,hv⟩]
   simp[Region.wanted,hg,this]
  ·exact h.elim
structure cu (I:Nat->Prop) (β:ax) (s:aO) (w:World) (I':Nat->Prop) (aI:ax) (s':aO) (w':World):Prop where
 ext:Ext I β s.st w I' aI s'.st w'
 base:s'.base=s.base
 rl:s'.rl=s.rl
 n:s'.n=s.n
 low:∀ l,l < s.base->l ∉ s.rl->aI l=β l
theorem cu.same {s':aO} (h:gX s s'):cu I β s w I β s' w:=⟨by rw[h.st]; exact Ext.refl,h.base,h.rl,h.n,fun _ _ _=>rfl⟩
theorem cu.trans {Rs:Nat->Prop} {CS:ax} {s' Zn:aO} {yX:World} (h:cu I β s w I' aI s' w') (k:cu I' aI s' w' Rs CS Zn yX):cu I β s w Rs CS Zn yX :=
 ⟨h.ext.trans k.ext,k.base.trans h.base,k.rl.trans h.rl,k.n.trans h.n,fun l hl hr=>(k.low l (by rw[h.base]; exact hl) (by rw[h.rl]; exact hr)).trans (h.low l hl hr)⟩
theorem tk (hG:oS G) {ops:Array Oper} {Q:X->aO->Prop} {Q':Exit->Act->World->Prop}:∀ (l:List Oper) {s:aO} {a:Act} {I:Nat->Prop} {β:ax} {w:World},GV G ops.toList Q l s->Rel G I β s a w ->
  (∀ x s' I' aI a' w',Q x s'->Rel G I' aI s' a' w'->cu I β s w I' aI s' w'->Q' (X.e x) a' w')->wpList G.cx.P ops Q' l a w
 | [],s,a,I,β,w,h,hR,hQ=>hQ .nO s I β a w h hR (cu.same ⟨rfl,rfl,rfl,rfl⟩)
 | o::l,s,a,I,β,w,h,hR,hQ=>by
  unfold wpList
  rcases kl hR h with ⟨hw,s1,h1,oz,mS⟩|⟨hw,s1,h1,oz,mS⟩
  ·rw[hw,if_pos rfl]
   refine .inl (Ev.s5 (xF hG mS h1) fun v w' hp=>?_)
   obtain⟨x,s2,I2,gY,h2,jR,hx,hE,e1,e2,e3,fT,_⟩:=hp
   obtain⟨s3,h3,nU,uX⟩:=aO.ik (G:=G) h2
   have g1:cu I β s w I2 gY s2 w':=(cu.same oz).trans ⟨hE,e1,e2,e3,fT⟩
   exact tk hG l h3 (uX _ _ _ _ v jR hx) fun x s' I' aI a' yX hq di hg=>hQ x s' I' aI a' yX hq di ((g1.trans (cu.same nU)).trans hg)
  ·rw[hw,if_neg (by simp)]
   obtain⟨s3,h3,nU,uX⟩:=aO.ik (G:=G) h1
   exact tk hG l h3 (uX _ _ _ _ _ mS Is.undef) fun x s' I' aI a' yX hq di hg=>hQ x s' I' aI a' yX hq di (((cu.same oz).trans (cu.same nU)).trans hg)
end
def lj:Op->Bool
 | .load ..=>true
 | _=>false
def aR (op:Op):Bool:=!(Ev.kZ op || lj op)
structure kH where
 k:Nat
 D:List Nat
 Y:World->Prop
section
variable {P:Program} {ops:Array Oper} {Q:Exit->Act->World->Prop}
def Yields (P:Program) (ops:Array Oper) (S:World->Prop) (o:Oper) (v:Value) (a:Act):Prop :=
 (Region.wanted o (yielded ops a.tmps)=true/\∀ w,S w->(execOp a.eval o).run P w = .ok (.value v) w)\/(Region.wanted o (yielded ops a.tmps)=false/\v=undef)
theorem Yields.mono {S S':World->Prop} {o:Oper} {v:Value} {a:Act} (hS:∀ w,S' w->S w) (h:Yields P ops S o v a):Yields P ops S' o v a:=h.imp (fun ⟨h1,h2⟩=>⟨h1,fun w hw=>h2 w (hS w hw)⟩) id
theorem Yields.of_same {S:World->Prop} {o:Oper} {v:Value} {a a':Act} (hy:Yields P ops S o v a) (he:execOp a'.eval o=execOp a.eval o) (hw:Region.wanted o (yielded ops a'.tmps)=Region.wanted o (yielded ops a.tmps)):Yields P ops S o v a':=by
 unfold Yields at *; rw[he,hw]; exact hy
def b_ (i:Nat) (pins:List kH):List kH:=pins.filter fun p=>!p.D.any (Nat.beq i)
def cO (P:Program) (ops:Array Oper) (Q:Exit->Act->World->Prop):Nat->Array Bool->Act->(World->Prop)->List kH->Prop
 | 0,l,a,S,_=>Region.ready .any ops l = []/\∀ w,S w->Q .normal a w
 | f+1,l,a,S,pins=>(Region.ready .any ops l = []->∀ w,S w->Q .normal a w)/\∀ i∈Region.ready .any ops l,∀ o,ops[i]?=some o ->
   (aR o.op=false->∃ v,Yields P ops S o v a/\cO P ops Q f (l.setIfInBounds i true) (a.put o.dst v) S (b_ i pins)) /\
   (aR o.op=true->∀ w,S w->Ev.ov P ops o a w fun v w'=>∃ S':World->Prop,(∀ p∈b_ i pins,∀ w,S' w->p.Y w)/\S' w'/\cO P ops Q f (l.setIfInBounds i true) (a.put o.dst v) S' (b_ i pins))
theorem cO.sound:∀ (f:Nat) (l:Array Bool) (a:Act) (S:World->Prop) (pins:List kH) (w:World),cO P ops Q f l a S pins->S w->wpAny P .any ops Q f l a w
 | 0,l,a,S,_,w,h,hw=>⟨h.1,h.2 w hw⟩
 | f+1,l,a,S,pins,w,h,hw=>by
  refine⟨fun h0=>h.1 h0 w hw,fun i hi=>?_⟩
  obtain⟨o,ho⟩:=Ev.uE hi
  obtain⟨h0,h1⟩:=h.2 i hi o ho
  unfold wpOp
  rw[ho]
  simp only
  by_cases hl:aR o.op=false
  ·obtain⟨v,hy,hn⟩:=h0 hl
   rcases hy with ⟨gn,hy⟩|⟨gn,rfl⟩
   ·rw[if_pos gn]
    refine .inl (Ev.s5 (K:=fun u w'=>u=v/\w'=w) (by rw[hy w hw]; exact⟨rfl,rfl⟩) fun u w' ⟨hu,hb⟩=>?_)
    subst hu; subst hb
    exact cO.sound f _ _ S _ w' hn hw
   ·rw[if_neg (by rw[gn]; simp)]
    exact cO.sound f _ _ S _ w hn hw
  ·rcases h1 (by simpa using hl) w hw with ⟨gn,hd⟩|⟨gn,S',_,Cs,hn⟩
   ·rw[if_pos gn]
    refine .inl (Ev.s5 hd fun u w' ⟨S',_,Cs,hn⟩=>?_)
    exact cO.sound f _ _ S' _ w' hn Cs
   ·rw[if_neg (by rw[gn]; simp)]
    exact cO.sound f _ _ S' _ w hn Cs
theorem km {o:Oper} {a:Act} {w:World} {K K':Value->World->Prop} (hK:∀ v w,K v w->K' v w) (h:Ev.ov P ops o a w K):Ev.ov P ops o a w K':=Ev.ov.mono hK h
theorem nc {i:Nat} {pins rP:List kH} (h:∀ p∈rP,p∈pins):∀ p∈b_ i rP,p∈b_ i pins:=fun p hp=>by
 unfold b_ at *
 rw[List.mem_filter] at *
 exact⟨h p hp.1,hp.2⟩
theorem cO.sub:∀ (f:Nat) (l:Array Bool) (a:Act) (S:World->Prop) (pins rP:List kH),(∀ p∈rP,p∈pins)->cO P ops Q f l a S pins->cO P ops Q f l a S rP
 | 0,_,_,_,_,_,_,h=>h
 | f+1,l,a,S,pins,rP,hs,h=>by
  refine⟨h.1,fun i hi o ho=>?_⟩
  obtain⟨h0,h1⟩:=h.2 i hi o ho
  refine⟨fun hl=>?_,fun hl w hw=>km (fun v w' ⟨S',h2,h3,h4⟩=>⟨S',fun p hp=>h2 p (nc hs p hp),h3,cO.sub f _ _ _ _ _ (nc hs) h4⟩) (h1 hl w hw)⟩
  obtain⟨v,hy,hn⟩:=h0 hl
  exact⟨v,hy,cO.sub f _ _ _ _ _ (nc hs) hn⟩
theorem cO.first {i:Nat} {oi:Oper} {v:Value} {D:List Nat} {Y:World->Prop} (hi:ops[i]?=some oi) (Zo:aR oi.op=false) (xG:Region.noSelect ops=true) :
  ∀ (f:Nat) (l:Array Bool) (a:Act) (S:World->Prop) (pins:List kH),
   (∀ j oj,ops[j]?=some oj->j≠i->l.getD j true=false->(∀ e∈oj.after,Region.binds .any e=true->e.on≠i)->oi.apart ops oj=true) ->
   (∀ j∈D,l.getD j false=false/\∃ oj,ops[j]?=some oj/\∃ e∈oj.after,Region.binds .any e=true/\(e.on=i\/e.on∈D)) ->
   Yields P ops Y oi v a->(∀ w,S w->Y w)->i∈Region.ready .any ops l->cO P ops Q f (l.setIfInBounds i true) (a.put oi.dst v) S (⟨i,D,Y⟩::pins)->cO P ops Q (f+1) l a S pins:=by
 intro f
 induction f with
 | zero =>
  intro l a S pins _ _ hY Vv hr H
  refine⟨fun h0=>(by rw[h0] at hr; cases hr),fun j hj o ho=>?_⟩
  by_cases Cp:j=i
  ·subst Cp
   rw[hi] at ho; cases ho
   exact⟨fun _=>⟨v,hY.mono Vv,H⟩,fun h=>by rw[Zo] at h; cases h⟩
  ·have:=ready_mono hj Cp
   rw[H.1] at this
   cases this
 | succ f ih =>
  intro l a S pins JQ hD hY Vv hr H
  refine⟨fun h0=>(by rw[h0] at hr; cases hr),fun j hj oj kI=>?_⟩
  by_cases Cp:j=i
  ·subst Cp
   rw[hi] at kI; cases kI
   refine⟨fun _=>⟨v,hY.mono Vv,?_⟩,fun h=>by rw[Zo] at h; cases h⟩
   refine cO.sub _ _ _ _ _ _ (fun p hp=>?_) H
   unfold b_ at hp
   exact List.mem_cons_of_mem _ (List.mem_filter.1 hp).1
  ·obtain⟨RM,WB,pz,cZ⟩:=mem_ready.1 hj
   rw[kI] at pz; cases pz
   have K0:=(mem_ready.1 hr).1
   have RN:l.getD i false=false:=by
    have bG:i < l.size:=by
     rcases Nat.lt_or_ge i l.size with h'|h'
     ·exact h'
     ·simp[Array.getElem?_eq_none h'] at K0
    simp[bG] at K0 ⊢; exact K0
   have RO:∀ e∈oj.after,Region.binds .any e=true->e.on≠i:=fun e he hb heq=>by
    have h1:=cZ e he hb
    rw[heq,RN] at h1; cases h1
   have WC:D.any (Nat.beq j)=false:=by
    rw[List.any_eq_false]
    intro x hx e
    have:=Nat.eq_of_beq_eq_true e
    subst this
    obtain⟨_,oj2,KP,ed,he,hb,h3⟩:=hD j hx
    rw[kI] at KP; cases KP
    rcases h3 with h3|h3
    ·exact RO ed he hb h3
    ·have h4:=cZ ed he hb
     rw[(hD _ h3).1] at h4; cases h4
   have WD:j ∉ D:=fun hm=>by
    rw[List.any_eq_false] at WC
    exact WC j hm (Nat.beq_refl j)
   have QS:b_ j (⟨i,D,Y⟩::pins)=⟨i,D,Y⟩::b_ j pins:=by
    unfold b_
    rw[List.filter_cons,if_pos (by simp only[WC]; rfl)]
   have hap:=JQ j oj kI Cp RM RO
   obtain⟨a1,a2,a3⟩:=Oper.apart_spec hap
   have QT:=fun cs b=>Region.noSelect_spec xG i oi cs b hi
   have hsj:=fun cs b=>Region.noSelect_spec xG j oj cs b kI
   have ej:execOp (a.put oi.dst v).eval oj=execOp a.eval oj:=execOp_put oj hsj a oi.dst v a1
   have wj:Region.wanted oj (yielded ops (a.put oi.dst v).tmps)=Region.wanted oj (yielded ops a.tmps):=wanted_put oj a oi.dst v a1
   have ei:∀ u,execOp (a.put oj.dst u).eval oi=execOp a.eval oi:=fun u=>execOp_put oi QT a oj.dst u a3
   have wi:∀ u,Region.wanted oi (yielded ops (a.put oj.dst u).tmps)=Region.wanted oi (yielded ops a.tmps):=fun u=>wanted_put oi a oj.dst u a3
   have Dn:∀ k ok,ops[k]?=some ok->k≠i->(l.setIfInBounds j true).getD k true=false->(∀ e∈ok.after,Region.binds .any e=true->e.on≠i)->oi.apart ops ok=true:=fun k ok hk hki QS zf=>by
    refine JQ k ok hk hki ?_ zf
    by_cases Zp:j=k
    ·subst Zp; exact RM
    ·rw[getD_set_ne true Zp] at QS; exact QS
   have Zq:∀ k∈D,(l.setIfInBounds j true).getD k false=false/\∃ oj,ops[k]?=some oj/\∃ e∈oj.after,Region.binds .any e=true/\(e.on=i\/e.on∈D):=fun k hk=>by
    refine⟨?_,(hD k hk).2⟩
    rw[getD_set_ne false (fun e=>WD (by rw[e]; exact hk))]
    exact (hD k hk).1
   obtain⟨h0,h1⟩:=H.2 j (ready_mono hj Cp) oj kI
   rw[QS] at h0 h1
   refine⟨fun hl=>?_,fun hl w hw=>?_⟩
   ·obtain⟨u,hu,hn⟩:=h0 hl
    refine⟨u,hu.of_same ej.symm wj.symm,?_⟩
    refine ih (l.setIfInBounds j true) (a.put oj.dst u) S (b_ j pins) Dn Zq (hY.of_same (ei u) (wi u)) Vv (ready_mono hr (Ne.symm Cp)) ?_
    rw[Array.setIfInBounds_comm _ _ Cp,← Act.put_comm a v u a2]
    exact hn
   ·have hd:=h1 hl w hw
    unfold Ev.ov at hd ⊢
    rw[ej,wj] at hd
    have step:∀ u w',(∃ S':World->Prop,(∀ p∈⟨i,D,Y⟩::b_ j pins,∀ w,S' w->p.Y w)/\S' w'/\cO P ops Q f ((l.setIfInBounds i true).setIfInBounds j true) ((a.put oi.dst v).put oj.dst u) S' (⟨i,D,Y⟩::b_ j pins)) ->
      ∃ S':World->Prop,(∀ p∈b_ j pins,∀ w,S' w->p.Y w)/\S' w'/\cO P ops Q (f+1) (l.setIfInBounds j true) (a.put oj.dst u) S' (b_ j pins):=by
     rintro u w' ⟨S',Cs,hw',hn⟩
     refine⟨S',fun p hp=>Cs p (List.mem_cons_of_mem _ hp),hw',ih (l.setIfInBounds j true) (a.put oj.dst u) S' (b_ j pins) Dn Zq (hY.of_same (ei u) (wi u)) (Cs _ List.mem_cons_self) (ready_mono hr (Ne.symm Cp)) ?_⟩
     rw[Array.setIfInBounds_comm _ _ Cp,← Act.put_comm a v u a2]
     exact hn
    rcases hd with ⟨Vw,hd⟩|⟨Vw,hd⟩
    ·exact .inl ⟨Vw,Ev.kh step hd⟩
    ·exact .inr ⟨Vw,step _ _ hd⟩
end
end Go.Proofs.YtnbhdacpogplgaaGreatDoor.Pw

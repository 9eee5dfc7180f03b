/- What this claim is proved with: no condition. -/
import Derived.Test.YtnbhdacpogplgaaGreatDoorPn5
set_option linter.unusedVariables false
set_option linter.unusedSimpArgs false
namespace Go.Proofs.YtnbhdacpogplgaaGreatDoor.Pw
open Go Go.RowKit
section
variable {w w':World} {I I':Nat->Prop} {β aG:au} {cx:Ev.Cx} {G:Gx} {P:Program} {s:aL} {a:Act} {st cA:List aj}
def cC (w:World) (I:Nat->Prop) (es:List PV) (n:Nat) (xs:List Value):Prop :=
 xs.length=es.length*n/\∀ i e,es[i]?=some e->e.cells.length=n/\∀ j c,e.cells[j]?=some c->∃ v,xs[i*n+j]?=some v/\c.Is w I (fun _=>none) v/\v.oneCell'=true
def cl (w:World) (I:Nat->Prop) (β:au) (cs:List PV) (xs:List Value):Prop:=xs.length=cs.length/\∀ (j:Nat) (c:PV),cs[j]?=some c->∃ v:Value,xs[j]?=some v/\c.Is w I β v/\v.oneCell'=true
def jQ (w:World) (I:Nat->Prop) (β:au) (n:Nat):Src->List Value->Prop
 | .stat cs,xs=>cl w I β cs xs
 | .told es,xs=>cC w I es n xs
theorem cC.append {es fs:List PV} {n:Nat} {xs ys:List Value} (h:cC w I es n xs) (k:cC w I fs n ys):cC w I (es++fs) n (xs++ys):=by
 refine⟨by rw[List.length_append,List.length_append,h.1,k.1,Nat.add_mul],fun i e he=>?_⟩
 by_cases hi:i < es.length
 ·rw[List.getElem?_append_left hi] at he
  obtain⟨h1,h2⟩:=h.2 i e he
  refine⟨h1,fun j c hc=>?_⟩
  obtain⟨v,hv,h3⟩:=h2 j c hc
  have:=(List.getElem?_eq_some_iff.1 hv).1
  exact⟨v,by rw[List.getElem?_append_left this]; exact hv,h3⟩
 ·rw[List.getElem?_append_right (by omega)] at he
  obtain⟨h1,h2⟩:=k.2 _ e he
  refine⟨h1,fun j c hc=>?_⟩
  obtain⟨v,hv,h3⟩:=h2 j c hc
  have e1:es.length*n<=i*n:=Nat.mul_le_mul_right _ (by omega)
  refine⟨v,?_,h3⟩
  rw[List.getElem?_append_right (by rw[h.1]; omega),h.1,show i*n+j - es.length*n=(i - es.length)*n+j by rw[Nat.sub_mul]; omega]
  exact hv
theorem cl.append {cs ds:List PV} {xs ys:List Value} (h:cl w I β cs xs) (k:cl w I β ds ys):cl w I β (cs++ds) (xs++ys):=by
 refine⟨by rw[List.length_append,List.length_append,h.1,k.1],fun j c hc=>?_⟩
 by_cases hj:j < cs.length
 ·rw[List.getElem?_append_left hj] at hc
  rw[List.getElem?_append_left (by rw[h.1]; exact hj)]
  exact h.2 j c hc
 ·rw[List.getElem?_append_right (by omega)] at hc
  rw[List.getElem?_append_right (by rw[h.1]; omega),h.1]
  exact k.2 _ c hc
theorem cC.mono {es:List PV} {n:Nat} {xs:List Value} (hI:∀ g,I g->I' g) (hw:∀ g,I g->w'.heap[g]?=w.heap[g]?) (h:cC w I es n xs):cC w' I' es n xs :=
 ⟨h.1,fun i e he=>⟨(h.2 i e he).1,fun j c hc=>let ⟨v,h1,h2,h3⟩:=(h.2 i e he).2 j c hc; ⟨v,h1,PV.Is.mono hI hw c _ _ v (fun _ _ _ h=>h) h2,h3⟩⟩⟩
theorem cl.mono {cs:List PV} {xs:List Value} (hI:∀ g,I g->I' g) (hw:∀ g,I g->w'.heap[g]?=w.heap[g]?) (hb:∀ l p,β l=some p->aG l=some p) (h:cl w I β cs xs):cl w' I' aG cs xs :=
 ⟨h.1,fun j c hc=>let ⟨v,h1,h2,h3⟩:=h.2 j c hc; ⟨v,h1,PV.Is.mono hI hw c _ _ v (fun l p _=>hb l p) h2,h3⟩⟩
theorem bp.row:∀ {es:List PV} {n g o:Nat},bp w I es n g o->∃ xs,cC w I es n xs/\∀ j v,xs[j]?=some v->w.cell? ⟨g,o+j,none⟩=some v
 | [],n,g,o,_=>⟨[],⟨by simp,fun i e he=>by simp at he⟩,fun j v h=>by simp at h⟩
 | e::es,n,g,o,h=>by
  rw[bp.cons] at h
  obtain⟨⟨hl,hc⟩,h⟩:=h
  obtain⟨xs,hx,hy⟩:=bp.row h
  have key:∀ (cs:List PV) (o:Nat),bQ w I cs g o->∃ ys:List Value,ys.length=cs.length/\(∀ (j:Nat) (c:PV),cs[j]?=some c->∃ v:Value,ys[j]?=some v/\c.Is w I (fun _=>none) v/\v.oneCell'=true)/\∀ (j:Nat) (v:Value),ys[j]?=some v->w.cell? ⟨g,o+j,none⟩=some v:=by
   intro cs
   induction cs with
   | nil=>intro o _; exact⟨[],rfl,fun j c h=>by simp at h,fun j v h=>by simp at h⟩
   | cons c cs ih =>
    intro o h
    simp only[bQ] at h
    obtain⟨⟨v,h1,h2⟩,h3⟩:=h
    obtain⟨ys,g1,g2,g3⟩:=ih (o+1) h3
    refine⟨v::ys,by simp[g1],fun j c' qx=>?_,fun j u hu=>?_⟩
    ·cases j with
     | zero=>simp at qx; subst qx; exact⟨v,rfl,h2⟩
     | succ j=>simpa using g2 j c' (by simpa using qx)
    ·cases j with
     | zero=>simp at hu; subst hu; exact h1
     | succ j=>rw[show o+(j+1)=o+1+j by omega]; exact g3 j u (by simpa using hu)
  obtain⟨ys,g1,g2,g3⟩:=key e.cells o hc
  have Li:ys.length=n:=by omega
  refine⟨ys++xs,?_,fun j v hv=>?_⟩
  ·refine⟨by rw[List.length_append,hx.1,List.length_cons,Li,Nat.succ_mul]; omega,fun i e' s8=>?_⟩
   cases i with
   | zero =>
    simp at s8; subst s8
    refine⟨hl,fun j c hj=>?_⟩
    obtain⟨v,hv,h2⟩:=g2 j c hj
    have:=(List.getElem?_eq_some_iff.1 hv).1
    exact⟨v,by rw[Nat.zero_mul,Nat.zero_add,List.getElem?_append_left this]; exact hv,h2⟩
   | succ i =>
    obtain⟨h1,h2⟩:=hx.2 i e' (by simpa using s8)
    refine⟨h1,fun j c hj=>?_⟩
    obtain⟨v,hv,h3⟩:=h2 j c hj
    refine⟨v,?_,h3⟩
    rw[Nat.succ_mul,List.getElem?_append_right (by omega),show i*n+n+j - ys.length=i*n+j by omega]
    exact hv
  ·by_cases hj:j < ys.length
   ·rw[List.getElem?_append_left hj] at hv; exact g3 j v hv
   ·rw[List.getElem?_append_right (by omega)] at hv
    have:=hy _ v hv
    rw[show o+n+(j - ys.length)=o+j by omega] at this
    exact this
theorem cC.at {es:List PV} {n g:Nat} {xs:List Value} (h:cC w I es n xs) (hc:∀ j v,xs[j]?=some v->w'.cell? ⟨g,j,none⟩=some v) (hI:∀ g,I g->I' g) (hw:∀ g,I g->w'.heap[g]?=w.heap[g]?):bp w' I' es n g 0:=bp.of fun i e he=>by
 obtain⟨h1,h2⟩:=h.2 i e he
 refine⟨h1,bQ.of fun j c hj=>?_⟩
 obtain⟨v,hv,h3,h4⟩:=h2 j c hj
 exact⟨v,by rw[Nat.zero_add]; exact hc _ v hv,PV.Is.mono hI hw c _ _ v (fun _ _ _ h=>h) h3,h4⟩
theorem cC.y1 {es:List PV} {n:Nat} {xs:List Value} (h:cC w I es n xs):∀ v∈xs,v.oneCell'=true:=by
 intro v hv
 obtain⟨k,hk,rfl⟩:=List.getElem_of_mem hv
 have fl:k < es.length*n:=by rw[← h.1]; exact hk
 have hn:0 < n:=by
  rcases Nat.eq_zero_or_pos n with h0|h0
  ·rw[h0] at fl; omega
  ·exact h0
 have hi:k / n < es.length:=Nat.div_lt_of_lt_mul (by rw[Nat.mul_comm]; exact fl)
 obtain⟨h1,h2⟩:=h.2 _ _ (List.getElem?_eq_getElem hi)
 have hm:k % n < n:=Nat.mod_lt _ hn
 obtain⟨u,hu,_,h3⟩:=h2 (k % n) _ (List.getElem?_eq_getElem (by omega))
 rw[show k / n*n+k % n=k by rw[Nat.mul_comm]; exact Nat.div_add_mod k n,List.getElem?_eq_getElem hk] at hu
 cases hu; exact h3
theorem cl.y1 {cs:List PV} {xs:List Value} (h:cl w I β cs xs):∀ v∈xs,v.oneCell'=true:=by
 intro v hv
 obtain⟨k,hk,rfl⟩:=List.getElem_of_mem hv
 have fl:k < cs.length:=by rw[← h.1]; exact hk
 obtain⟨u,hu,_,h3⟩:=h.2 _ _ (List.getElem?_eq_getElem fl)
 rw[List.getElem?_eq_getElem hk] at hu
 cases hu; exact h3
theorem jQ.y1 {n:Nat} {x:Src} {xs:List Value} (h:jQ w I β n x xs):∀ v∈xs,v.oneCell'=true:=by
 cases x with
 | stat cs=>exact cl.y1 h
 | told es=>exact cC.y1 h
theorem qR {ag:Bool} {n:Nat} (hn:0 < n) (BH:ag=true\/n=1):∀ (k:Nat) {cs:List PV} {xs:List Value},cs.length=k*n->cl w I β cs xs->(chunk ag n k cs).all PV.elem=true->(chunk ag n k cs).length=k/\cC w I (chunk ag n k cs) n xs
 | 0,cs,xs,hl,h,_=>by
  have:xs = []:=List.eq_nil_of_length_eq_zero (by rw[h.1,hl,Nat.zero_mul])
  subst this
  exact⟨rfl,by simp[chunk],fun i e he=>by simp[chunk] at he⟩
 | k+1,cs,xs,hl,h,cr=>by
  simp only[chunk,List.all_cons,Bool.and_eq_true] at cr
  obtain⟨he,cr⟩:=cr
  have Uw:(cs.drop n).length=k*n:=by rw[List.length_drop,hl,Nat.succ_mul]; omega
  have L':cl w I β (cs.drop n) (xs.drop n):=⟨by rw[List.length_drop,List.length_drop,h.1],fun j c hc=>by
   rw[List.getElem?_drop] at hc ⊢; exact h.2 _ c hc⟩
  obtain⟨BC,BR⟩:=qR hn BH k Uw L' cr
  have Ux:n<=cs.length:=by rw[hl,Nat.succ_mul]; omega
  have nr:∀ {c:PV} {y:Value},c.oz=true->c.Is w I β y->c.Is w I (fun _=>none) y:=fun {c y} hc hi=>by
   refine PV.Is.mono (fun _ h=>h) (fun _ _=>rfl) _ β _ _ (fun l p hl=>?_) hi
   cases c<;>simp_all [PV.bW,PV.oz]
  refine⟨by simp[chunk,BC],by rw[h.1,hl]; simp only[chunk,List.length_cons,BC],fun i e hi=>?_⟩
  cases i with
  | zero =>
   simp only[chunk,List.getElem?_cons_zero,Option.some.injEq] at hi
   subst hi
   cases ag with
   | true =>
    simp only[if_true,PV.elem,List.all_eq_true] at he
    simp only[if_true,PV.cells]
    refine⟨by rw[List.length_take]; omega,fun j c hj=>?_⟩
    rw[List.getElem?_take] at hj
    split at hj
    ·obtain⟨v,hv,h2,h3⟩:=h.2 j c hj
     refine⟨v,by rw[Nat.zero_mul,Nat.zero_add]; exact hv,nr (he c ?_) h2,h3⟩
     refine List.mem_of_getElem? (i:=j) ?_
     rw[List.getElem?_take,if_pos ‹_›]; exact hj
    ·cases hj
   | false =>
    have py:n=1:=by simpa using BH
    subst py
    cases cs with
    | nil=>simp at Ux
    | cons c cs =>
     simp only[Bool.false_eq_true,if_false] at he ⊢
     obtain⟨v,hv,h2,h3⟩:=h.2 0 c rfl
     have Qi:c.cells = [c]:=by
      cases c<;>first|rfl|(simp only[PV.Is] at h2; obtain⟨vs,rfl,_⟩:=h2; simp[Value.oneCell'] at h3)
     rw[Qi]
     refine⟨rfl,fun j c' hj=>?_⟩
     cases j with
     | zero =>
      simp at hj; subst hj
      refine⟨v,by simpa using hv,nr ?_ h2,h3⟩
      cases c<;>first|exact he|(exfalso; simp only[PV.Is] at h2; obtain⟨vs,rfl,_⟩:=h2; simp[Value.oneCell'] at h3)
     | succ j=>simp at hj
  | succ i =>
   simp only[chunk,List.getElem?_cons_succ] at hi
   obtain⟨h1,h2⟩:=BR.2 i e hi
   refine⟨h1,fun j c hj=>?_⟩
   obtain⟨v,hv,h3⟩:=h2 j c hj
   refine⟨v,?_,h3⟩
   rw[List.getElem?_drop] at hv
   rw[Nat.succ_mul,show i*n+n+j=n+(i*n+j) by omega]
   exact hv
theorem Ci {x:PV} {v:Value} (h:x.Is w I β v):x.norm.Is w I β v:=by
 cases x<;>first|exact h|(simp only[PV.norm,PV.Is] at h ⊢; exact h)
theorem tD {cs:List PV} {xs:List Value} (h:cl w I β cs xs):cl w I β (cs.map PV.norm) xs:=by
 refine⟨by rw[List.length_map]; exact h.1,fun j c hj=>?_⟩
 rw[List.getElem?_map,Option.map_eq_some_iff] at hj
 obtain⟨d,hd,rfl⟩:=hj
 obtain⟨v,h1,h2,h3⟩:=h.2 j d hd
 exact⟨v,h1,Ci h2,h3⟩
theorem dj {ag:Bool} {n:Nat} (hn:0 < n) (BH:ag=true\/n=1) {x:Src} {es:List PV} {xs:List Value} {len:Nat} (h:dc ag n x=some es) (hx:jQ w I β n x xs) (hl:xs.length=len*n):es.length=len/\cC w I es n xs:=by
 have hc:∀ {a b:Nat},a*n=b*n->a=b:=fun h=>Nat.eq_of_mul_eq_mul_right hn h
 cases x with
 | told tE =>
  simp only[dc,Option.some.injEq] at h
  subst h
  exact⟨hc (by rw[← hx.1,hl]),hx⟩
 | stat cs =>
  simp only[dc,uZ,Nat.zero_add] at h
  split at h
  ·rename_i cr
   cases h
   have qv:cs.length=len*n:=by rw[← hx.1,hl]
   have hd:cs.length / n=len:=by rw[qv]; exact Nat.mul_div_cancel _ hn
   rw[hd] at cr ⊢
   exact qR hn BH len (by rw[List.length_map]; exact qv) (tD hx) cr
  ·cases h
theorem jR {arr:Array Value} {g:Nat} {ty:TypeId} {fr:Nat × Nat} (hh:w.heap[g]?=some (.cells arr ty fr)) (o k:Nat):∀ (j:Nat) (v:Value),((arr.toList.drop o).take k)[j]?=some v->w.cell? ⟨g,o+j,none⟩=some v:=fun j v hv=>by
 rw[List.getElem?_take] at hv
 split at hv
 ·rw[List.getElem?_drop] at hv
  rw[Ev.c8 hh]; simpa using hv
 ·cases hv
theorem Cj (hO:Ev.dw cx) (hh:aB I β st w) {n:Nat} (hn:0 < n) {x:PV} {u:Value} {q:Src->Prop} (h:Fq cx st n x q) (hx:x.Is w I β u) :
  ∃ src ad len c news,q src/\u = .slice ad len c/\jQ w I β n src news/\news.length=len*n/\(len=0\/∃ g o,ad=some ⟨g,o,none⟩)/\∀ g o,ad=some ⟨g,o,none⟩->∀ j v,news[j]?=some v->w.cell? ⟨g,o+j,none⟩=some v:=by
 unfold Fq at h
 split at h<;>try simp only[PV.Is] at hx
 ·exact⟨_,none,0,0,[],h,hx,⟨by simp,fun i e he=>by simp at he⟩,by simp,.inl rfl,fun _ _ _ j v hv=>by simp at hv⟩
 ·rename_i m es
  replace h:=aK h
  obtain⟨hm,h⟩:=h
  have hm:=Nat.eq_of_beq_eq_true hm
  obtain⟨ad,cap,rfl,_,_,h4,h5⟩:=hx
  by_cases h0:es.length=0
  ·have:es = []:=List.eq_nil_of_length_eq_zero h0
   subst this
   exact⟨_,ad,0,cap,[],h,rfl,⟨by simp,fun i e he=>by simp at he⟩,by simp,.inl rfl,fun _ _ _ j v hv=>by simp at hv⟩
  ·obtain⟨g,o,rfl,hg,_⟩:=h5 h0
   obtain⟨xs,h6,h7⟩:=(h4 g o rfl).row
   rw[hm] at h6
   exact⟨_,_,es.length,cap,xs,h,rfl,h6,h6.1,(.inr ⟨_,_,rfl⟩),fun g' o' e=>by cases e; exact h7⟩
 ·rename_i l off len
  replace h:=an h
  obtain⟨b,hb,h⟩:=h
  replace h:=aK h
  obtain⟨hc,h⟩:=h
  simp only[Bool.and_eq_true] at hc
  have hle:=Nat.le_of_ble_eq_true hc.2
  obtain⟨p,g,o,cap,hp,ha,rfl,_⟩:=hx
  obtain⟨arr,ty,fr,eh,lY,_⟩:=fO hh hb hc.1 hp ha
  have dK:0 < len*n->o+off+len*n<=arr.size:=fun h0=>by
   obtain⟨z,hz,_⟩:=lY _ _ (List.getElem?_eq_getElem (show off+len*n - 1 < b.cs.length by omega))
   have:=(Array.getElem?_eq_some_iff.1 hz).1
   omega
  have u_:((arr.toList.drop (o+off)).take (len*n)).length=len*n:=by
   rw[List.length_take,List.length_drop,Array.length_toList]
   rcases Nat.eq_zero_or_pos (len*n) with h0|h0
   ·omega
   ·have:=dK h0; omega
  refine⟨_,_,len,cap,_,bz h,rfl,⟨?_,fun j c hj=>?_⟩,u_,(.inr ⟨_,_,rfl⟩),fun g' o' e=>by cases e; exact jR eh _ _⟩
  ·rw[u_,List.length_take,List.length_drop]; omega
  ·rw[List.getElem?_take] at hj
   split at hj
   ·rename_i tF
    rw[List.getElem?_drop] at hj
    obtain⟨v,hv,h1,h2⟩:=lY _ _ hj
    exact⟨v,by rw[List.getElem?_take,if_pos tF,List.getElem?_drop]; simpa [Nat.add_assoc] using hv,h1,h2⟩
   ·cases hj
 ·rename_i l
  replace h:=an h
  obtain⟨b,hb,h⟩:=h
  replace h:=aK h
  obtain⟨hc,h⟩:=h
  simp only[Bool.and_eq_true] at hc
  have my:=Nat.eq_of_beq_eq_true hc.2
  obtain⟨p,hp,rfl⟩:=hx
  split at h
  ·rename_i hk
   obtain⟨g,arr,fr,ha,hw,eh,lY,_,hlen,hle,_,has,_⟩:=dk hh hb hc.1 hk hp
   rw[my] at hlen has
   have dK:p.len*n<=arr.size:=by rw[has]; exact Nat.mul_le_mul_right _ hle
   refine⟨_,_,p.len,p.cap,(arr.toList.drop 0).take (p.len*n),h,hw,⟨?_,fun j c hj=>?_⟩,?_,(.inr ⟨_,_,rfl⟩),fun g' o' e=>by cases e; exact jR eh _ _⟩
   ·rw[List.length_take,List.length_drop,Array.length_toList]; omega
   ·obtain⟨v,hv,h1,h2⟩:=lY _ _ hj
    have tF:j < p.len*n:=by rw[← hlen]; exact (List.getElem?_eq_some_iff.1 hj).1
    exact⟨v,by rw[List.getElem?_take,if_pos tF,List.getElem?_drop]; simpa using hv,h1,h2⟩
   ·rw[List.length_take,List.length_drop,Array.length_toList]; omega
  ·rename_i hk
   obtain⟨_,hlen,hle,_,jm⟩:=bT hh hb hc.1 hk hp
   rcases jm with ⟨_,qN,hw⟩|⟨g,arr,fr,ha,hw,eh,jM,_,has⟩
   ·have ee:b.cs = []:=List.eq_nil_of_length_eq_zero (by omega)
    rw[ee] at h
    exact⟨_,none,0,0,[],h,hw,⟨by simp,fun i e he=>by simp at he⟩,by simp,.inl rfl,fun _ _ _ j v hv=>by simp at hv⟩
   ·obtain⟨xs,h6,h7⟩:=jM.row
    rw[my] at h6
    exact⟨_,_,p.len,p.cap,xs,h,hw,h6,by rw[h6.1,hlen],(.inr ⟨_,_,rfl⟩),fun g' o' e=>by cases e; exact h7⟩
  ·exact h.elim
 ·exact h.elim
theorem qS {l:Nat} {b:aj} {q:List aj->Prop} (hb:st[l]?=some b) (h:yI st l q):∃ b',b'.live=false/\q (st.set l b'):=by
 replace h:=an h
 obtain⟨b2,cv,h⟩:=h
 cases b2
 exact⟨_,rfl,(gi h).2⟩
theorem y2 (hh:aB I β st w) {n:Nat} (hn:0 < n) {elem:TypeId} {x:PV} {v:Value} {q:Src->List aj->Prop} (h:yJ st elem n x q) (hx:x.Is w I β v) :
  ∃ dst cA xs len,q dst cA/\w.ownsRow 0 elem n v len xs/\jQ w I β n dst xs/\xs.length=len*n/\aB I β cA w/\cA.length=st.length/\Ext I β st w I β cA w/\(∀ g,v.ownBlock=some g->Wr β st g/\¬ I g/\¬ fL β cA g)/\(v = .slice none 0 0\/∃ ad m c,v = .slice (some ad) m c):=by
 unfold yJ at h
 split at h<;>try simp only[PV.Is] at hx
 ·subst hx
  exact⟨_,st,[],0,h,World.ownsRow_nil _ _ _ _,⟨by simp,fun j c hj=>by simp at hj⟩,by simp,hh,rfl,Ext.refl,fun g e=>by simp[Value.ownBlock] at e,.inl rfl⟩
 ·rename_i l
  replace h:=an h
  obtain⟨b,hb,h⟩:=h
  replace h:=aK h
  obtain⟨hc,h⟩:=h
  simp only[Bool.and_eq_true] at hc
  obtain⟨ax,hm⟩:=mv hc.1.1
  have my:=Nat.eq_of_beq_eq_true hc.1.2
  have y3:=Nat.eq_of_beq_eq_true hc.2
  obtain⟨p,hp,rfl⟩:=hx
  have dead:∀ {g o:Nat} {b':aj},p.a=some (g,o)->b'.live=false->(Own I β st l g (0,0) b\/∃ fr,Own I β st l g fr b)->Wr β st g/\¬ I g/\¬ fL β (st.set l b') g:=by
   intro g o b' ha bV ho
   have ho:∃ fr,Own I β st l g fr b:=ho.elim (fun h=>⟨_,h⟩) id
   obtain⟨fr,ho⟩:=ho
   refine⟨⟨l,b,p,o,hb,ax,hm,hp,ha⟩,(ho.1 (by rw[hm]; decide)).2.1,fun ⟨l2,b2,p2,o2,h1,h2,h3,h4⟩=>?_⟩
   by_cases bR:l2=l
   ·subst bR
    rw[List.getElem?_set_self (by simpa using (List.getElem?_eq_some_iff.1 h1).1)] at h1
    cases h1; rw[bV] at h2; cases h2
   ·rw[List.getElem?_set_ne (fun e=>bR e.symm)] at h1
    exact (ho.1 (by rw[hm]; decide)).2.2 l2 b2 bR h1 h2 p2 g o2 h3 h4 rfl
  split at h
  ·rename_i hk
   obtain⟨b',bV,h⟩:=qS hb h
   obtain⟨g,arr,fr,ha,hw,eh,lY,cB,hlen,hle,mr,has,_⟩:=dk hh hb ax hk hp
   rw[my] at hlen has
   have wx:fr=(0,0):=(cB.1 (by rw[hm]; decide)).1
   subst wx
   have dK:p.len*n<=arr.size:=by rw[has]; exact Nat.mul_le_mul_right _ hle
   have nU:(arr.toList.take (p.len*n)).length=p.len*n:=by rw[List.length_take,Array.length_toList]; omega
   refine⟨_,_,arr.toList.take (p.len*n),p.len,h,⟨nU,.inr ⟨g,p.cap,arr,hw,Nat.zero_le _,by rw[← y3]; exact eh,hle,mr,has,rfl⟩⟩,⟨by rw[nU,hlen],fun j c hj=>?_⟩,nU,hh.kill l bV,by simp,Ext.kill bV,fun g' e=>?_,.inr ⟨_,_,_,hw⟩⟩
   ·obtain⟨u,hu,h1,h2⟩:=lY _ _ hj
    have tF:j < p.len*n:=by rw[← hlen]; exact (List.getElem?_eq_some_iff.1 hj).1
    exact⟨u,by rw[List.getElem?_take,if_pos tF]; simpa using hu,h1,h2⟩
   ·rw[hw] at e
    simp only[Value.ownBlock,Option.some.injEq] at e
    subst e
    exact dead ha bV (.inl cB)
  ·rename_i hk
   obtain⟨b',bV,h⟩:=qS hb h
   obtain⟨_,hlen,hle,mr,jm⟩:=bT hh hb ax hk hp
   rcases jm with ⟨_,qN,hw⟩|⟨g,arr,fr,ha,hw,eh,jM,cB,has⟩
   ·have ee:b.cs = []:=List.eq_nil_of_length_eq_zero (by omega)
    rw[ee] at h
    rw[hw]
    exact⟨_,_,[],0,h,World.ownsRow_nil _ _ _ _,⟨by simp,fun i e he=>by simp at he⟩,by simp,hh.kill l bV,by simp,Ext.kill bV,fun g e=>by simp[Value.ownBlock] at e,.inl rfl⟩
   ·rw[my] at jM has
    have wx:fr=(0,0):=(cB.1 (by rw[hm]; decide)).1
    subst wx
    obtain⟨xs,h6,h7⟩:=jM.row
    have dK:p.len*n<=arr.size:=by rw[has]; exact Nat.mul_le_mul_right _ hle
    have nU:xs.length=p.len*n:=by rw[h6.1,hlen]
    refine⟨_,_,xs,p.len,h,⟨nU,.inr ⟨g,p.cap,arr,hw,Nat.zero_le _,by rw[← y3]; exact eh,hle,mr,has,?_⟩⟩,h6,nU,hh.kill l bV,by simp,Ext.kill bV,fun g' e=>?_,.inr ⟨_,_,_,hw⟩⟩
    ·apply List.ext_getElem?
     intro j
     rw[List.getElem?_take]
     split
     ·rename_i hj
      have Lh:j < xs.length:=by omega
      have:=h7 j _ (List.getElem?_eq_getElem Lh)
      rw[Ev.c8 eh,Nat.zero_add] at this
      rw[List.getElem?_eq_getElem Lh]; simpa using this
     ·rename_i hj
      rw[List.getElem?_eq_none (by omega)]
    ·rw[hw] at e
     simp only[Value.ownBlock,Option.some.injEq] at e
     subst e
     exact dead ha bV (.inl cB)
  ·exact h.elim
 ·exact h.elim
theorem lI (t ty e:TypeId) (i:TypeInfo) (ht:P.underlying t=some (.slice e)) (hi:P.info? e=some i) (b:Option Addr) (n cap c:Nat) (hle:n<=cap):(Builtin.append_ #[t,t] ty #[.slice b n cap,.slice none 0 c]).run P w = .ok (.slice b n cap) w:=by
 cases b<;>simp[Builtin.append_,run_underlying ht,sizeOf,typeInfo,hi,Builtin.lenOf,Builtin.firstCells,hle,storeCells]
end
section
variable {w w':World} {I I':Nat->Prop} {β aG:au} {cx:Ev.Cx} {G:Gx} {P:Program} {s:aL} {a:Act} {st cA:List aj}
theorem qT (s:aL) (x y:List aj):(s.store x).store y=s.store y:=by cases s; rfl
theorem Ext.Qm {gK:List aj} (h:aB I β gK w) (qU:∀ g,Wr β gK g->Wr β st g) (Qc:w'.os=w.os) (yT:w'.tape=w.tape) (fM:w'.output=w.output) (dK:w.heap.size<=w'.heap.size) {b:aj} {p:k_} (hw:∀ g,g < w.heap.size->¬ Wr β st g->w'.heap[g]?=w.heap[g]?)
  (hp:∀ g o,p.a=some (g,o)->g < w.heap.size->Wr β st g):Ext I β st w I (β.set gK.length p) (gK++[b]) w' :=
 ⟨Qc,yT,fM,dK,hw,fun g hg ⟨l,b',q,o,h1,h2,h3,h4,h5⟩=>by
  unfold au.set at h4
  split at h4
  ·cases h4
   exact hp g o h5 hg
  ·have:=h.lt h4
   rw[List.getElem?_append_left this] at h1
   exact qU g ⟨l,b',q,o,h1,h2,h3,h4,h5⟩,fun _ h=>h,fun _ _ h=>.inl h⟩
theorem mA (hR:Rel G I β s a w) {gK:List aj} (hk:aB I β gK w) (qU:∀ g,Wr β gK g->Wr β s.st g) (hlen:gK.length=s.st.length) {v:Value} (hv:∀ g,v.ownBlock=some g->Wr β s.st g/\¬ I g/\¬ fL β gK g)
  (hg:w.grownBy w' v.ownBlock) {b:aj} {p:k_} {q:PV->aL->Prop} (h:lf (s.store gK) b q) (hp:∀ g o,p.a=some (g,o)->v.ownBlock=some g\/g=w.heap.size) (hm:b.m = .w)
  (hb:(∀ g,p.a=some (g,0)->Own I (β.set gK.length p) (gK++[b]) gK.length g (0,0) b)->(∀ g,I g->w'.heap[g]?=w.heap[g]?)->dR I (β.set gK.length p) (gK++[b]) w' gK.length b):bN G s I β w a q p.whole w':=by
 have x9:(s.store gK).st=gK:=(aL.fP s gK).2.2.1
 unfold lf at h
 rw[x9] at h
 replace h:=jN (fk h)
 rw[Nat.zero_add,qT] at h
 have tC:=au.gU hk p
 have cB:∀ g,fL β gK g\/I g->w'.heap[g]?=w.heap[g]?:=fun g y4=>by
  refine hg.block g (y4.elim hk.ch (hR.av.av g)) fun e=>?_
  obtain⟨_,h1,h2⟩:=hv g e.symm
  exact y4.elim h2 h1
 have di:∀ g o,p.a=some (g,o)->¬ I g/\¬ fL β gK g:=fun g o ha=>by
  rcases hp g o ha with e|e
  ·exact (hv g e).2
  ·subst e
   exact⟨fun h=>by have:=hR.av.av _ h; omega,fun h=>by have:=hk.ch h; omega⟩
 have hO:∀ g,p.a=some (g,0)->Own I (β.set gK.length p) (gK++[b]) gK.length g (0,0) b:=fun g ha=>by
  refine⟨fun _=>⟨rfl,(di g 0 ha).1,fun l' b' bR eF dh p' g' o' cE cW e=>?_⟩,fun hr=>by rw[hm] at hr; cases hr⟩
  subst e
  unfold au.set at cE
  rw[if_neg bR] at cE
  have:=hk.lt cE
  rw[List.getElem?_append_left this] at eF
  exact (di _ _ ha).2 ⟨l',b',p',o',eF,dh,cE,cW⟩
 have hH:=hk.add cB di (hb hO fun g hg=>cB g (.inr hg))
 have hE:Ext I β s.st w I (β.set gK.length p) (gK++[b]) w':=Ext.Qm hk qU hg.os hg.tape hg.output hg.size (fun g bA hn=>hg.block g bA fun e=>hn (hv g e.symm).1) fun g o ha bA=>by
  rcases hp g o ha with e|e
  ·exact (hv g e).1
  ·omega
 refine bN.mk' hR h hH hE tC (by simp; omega) (fun l hl=>if_neg (by omega)) ?_
 simp only[PV.Is]; exact⟨_,au.dz ..,rfl⟩
theorem tG (hG:lX G) (hR:Rel G I β s a w) {t ty:TypeId} {d x:PV} {u v:Value} {q:PV->aL->Prop} (h:u1 G s t d x q) (hd:d.Is w I β v) (hx:x.Is w I β u) :
  ∃ r w',(Builtin.append_ #[t,t] ty #[v,u]).run G.cx.P w = .ok r w'/\bN G s I β w a q r w':=by
 replace h:=an h
 obtain⟨td,hu,h⟩:=h
 split at h
 ·rename_i elem
  replace h:=an h
  obtain⟨n,hn,h⟩:=h
  replace h:=an h
  obtain⟨ag,BH,h⟩:=h
  replace h:=an h
  obtain⟨ba,LZ,h⟩:=h
  replace h:=fK (w:=w) (I:=I) (β:=β) hG.ok h
  obtain⟨z,i,zv,h,hi,BG,tz⟩:=h
  replace h:=aK h
  obtain⟨hc,h⟩:=h
  simp only[Bool.and_eq_true,Bool.or_eq_true] at hc
  have gC:0 < n:=Nat.le_of_ble_eq_true hc.1.1
  have WN:z.length=n:=Nat.eq_of_beq_eq_true hc.1.2
  have L_:ag=true\/n=1:=hc.2.imp id Nat.eq_of_beq_eq_true
  obtain⟨i1,SI,FG⟩:=Ev.gO hG.ok hn
  rw[hi] at SI
  cases SI
  obtain⟨i3,Qn,SJ⟩:=hG.ba _ (Ev.gh LZ)
  simp only at Qn SJ
  rw[hi] at Qn
  cases Qn
  have Eu:=tz.length
  simp only[Array.length_toList] at Eu
  replace h:=Cj hG.ok hR.heap gC h hx
  obtain⟨src,ad,len,c,news,h,rfl,kC,u_,Fy,qV⟩:=h
  replace h:=y2 hR.heap gC h hd
  obtain⟨dst,gK,xs,kD,h,cB,FH,nU,hk,Ma,Ck,hv,WO⟩:=h
  have qU:∀ g,Wr β gK g->Wr β s.st g:=fun g hw=>by
   have:=Ck.wr g
   rcases Nat.lt_or_ge g w.heap.size with bA|Mb
   ·exact this bA hw
   ·obtain⟨l,b,p,o,h1,h2,h3,h4,h5⟩:=hw
    have:=hk.ch ⟨l,b,p,o,h1,h2,h4,h5⟩
    omega
  have va:=kC.y1
  
  have run:(kD+len)<=maxLen->(kD+len)*ba<=140737488355328->∃ r w',(Builtin.append_ #[t,t] ty #[v,.slice ad len c]).run G.cx.P w = .ok r w'/\w'.ownsRow 0 elem n r (kD+len) (xs++news)/\w.grownBy w' v.ownBlock/\(r.ownBlock=v.ownBlock\/r.ownBlock=some w.heap.size):=by
   intro h1 h2
   cases ad with
   | none =>
    have x_:len=0:=by rcases Fy with h|⟨g,o,h⟩<;>first|exact h|cases h
    subst x_
    have Fw:news = []:=List.eq_nil_of_length_eq_zero (by rw[u_,Nat.zero_mul])
    subst Fw
    have Uy:∃ b m c',v = .slice b m c'/\m<=c':=by
     rcases cB.2 with ⟨rfl,_⟩|⟨g,cap,cur,rfl,_,_,hle,_⟩
     ·exact⟨_,_,_,rfl,Nat.le_refl _⟩
     ·exact⟨_,_,_,rfl,hle⟩
    obtain⟨b,m,c',rfl,hle⟩:=Uy
    refine⟨_,w,lI t ty elem i (hG.ok.un hu) hi b m c' c hle,?_,⟨rfl,rfl,rfl,Nat.le_refl _,fun _ _ _=>rfl⟩,.inl rfl⟩
    rw[List.append_nil]; exact cB
   | some ad =>
    obtain⟨r,w',hr,h3,h4,_,h5⟩:=run_append_own_at (P:=G.cx.P) w 0 t ty elem i zv n ba (hG.ok.un hu) hi BG FG SJ (by omega) gC v kD xs cB ad len c news u_ (fun j u hj=>by
     rcases Fy with h0|⟨g,o,e⟩
     ·rw[h0,Nat.zero_mul] at u_
      have:=List.eq_nil_of_length_eq_zero u_
      subst this; simp at hj
     ·cases e
      rw[Ev.eM]; exact qV g o rfl j u hj) va h1 h2 (Nat.zero_le _)
    exact⟨r,w',hr,h3,h4,h5⟩
  
  have lJ:∀ {r:Value} {w':World} {b:aj},w'.ownsRow 0 elem n r (kD+len) (xs++news)->w.grownBy w' v.ownBlock->(r.ownBlock=v.ownBlock\/r.ownBlock=some w.heap.size)->lf (s.store gK) b q->b.m = .w ->
    (∀ (p:k_),((p.a=none/\p.len=0/\p.cap=0/\kD+len=0)\/∃ g cur,p.a=some (g,0)/\p.len=kD+len/\w'.heap[g]?=some (.cells cur elem (0,0))/\p.len<=p.cap/\p.cap<=maxLen/\cur.size=p.cap*n/\(∀ (j:Nat) (v:Value),(xs++news)[j]?=some v->cur[j]?=some v)) ->
     (∀ g,p.a=some (g,0)->Own I (β.set gK.length p) (gK++[b]) gK.length g (0,0) b)->(∀ g,I g->w'.heap[g]?=w.heap[g]?)->dR I (β.set gK.length p) (gK++[b]) w' gK.length b)->bN G s I β w a q r w':=by
   intro r w' b qW hg jO h hm hb
   rcases qW.2 with ⟨rfl,h0⟩|⟨g,cap,cur,rfl,_,Ew,hle,mr,fi,eN⟩
   ·have:=mA (p:=⟨none,0,0⟩) hR hk qU Ma hv hg h (fun g o e=>by cases e) hm (hb ⟨none,0,0⟩ (.inl ⟨rfl,rfl,rfl,h0⟩))
    exact this
   ·have:=mA (p:=⟨some (g,0),kD+len,cap⟩) hR hk qU Ma hv hg h (fun g' o e=>by
     cases e
     simp only[Value.ownBlock] at jO
     exact jO.imp (fun e=>e.symm) (fun e=>by cases e; rfl)) hm (hb ⟨some (g,0),kD+len,cap⟩ (.inr ⟨g,cur,rfl,rfl,Ew,hle,mr,fi,fun j v hj=>by
      rw[← eN,List.getElem?_take] at hj
      split at hj
      ·simpa using hj
      ·cases hj⟩))
    exact this
  have kz:∀ {w':World},w.grownBy w' v.ownBlock->∀ g,I g->w'.heap[g]?=w.heap[g]?:=fun hg g hI=>hg.block g (hR.av.av g hI) fun e=>(hv g e.symm).2.1 hI
  have SK:(xs++news).length=(kD+len)*n:=by rw[List.length_append,nU,u_,Nat.add_mul]
  have told:(aP (dc ag n dst) fun es=>aP (dc ag n src) fun fs=>es.length+fs.length<=maxLen/\(es.length+fs.length)*ba<=140737488355328/\lf (s.store gK) ⟨.dyn,elem,n,.w,true,es++fs⟩ q)->∃ r w',(Builtin.append_ #[t,t] ty #[v,.slice ad len c]).run G.cx.P w = .ok r w'/\bN G s I β w a q r w':=by
   intro h
   replace h:=an h
   obtain⟨es,jM,h⟩:=h
   replace h:=an h
   obtain⟨fs,Fu,h⟩:=h
   obtain⟨Uz,UA⟩:=dj gC L_ jM FH nU
   obtain⟨UB,UC⟩:=dj gC L_ Fu kC u_
   obtain⟨h1,h2,h⟩:=h
   rw[Uz,UB] at h1 h2
   obtain⟨r,w',hr,qW,hg,jO⟩:=run h1 h2
   refine⟨r,w',hr,lJ qW hg jO h rfl fun p hp hO hI=>⟨p,au.dz ..,?_⟩⟩
   rcases hp with ⟨ha,hl,Qo,h0⟩|⟨g,cur,ha,hl,Ew,hle,mr,fi,iS⟩
   ·exact⟨⟨gC,by simp only[List.length_append]; omega,by omega,by rw[Qo]; exact Nat.zero_le _⟩,.inl ⟨ha,Qo⟩⟩
   ·refine⟨⟨gC,by simp only[List.length_append]; omega,hle,mr⟩,.inr ⟨g,cur,(0,0),ha,Ew,?_,hO g ha,fi⟩⟩
    exact (UA.append UC).at (fun j v hj=>by rw[Ev.c8 Ew]; exact iS j v hj) (fun _ h=>h) hI
  split at h
  ·rename_i cs ds
   rw[iv,iv,Nat.zero_add,Nat.zero_add] at h
   replace h:=aK h
   obtain⟨iN,h⟩:=h
   simp only[Bool.and_eq_true] at iN
   obtain⟨⟨⟨Lk,WQ⟩,tH⟩,SL⟩:=iN
   have Lk:0 < ds.length:=Nat.le_of_ble_eq_true Lk
   have tH:=Nat.le_of_ble_eq_true tH
   have SL:=Nat.le_of_ble_eq_true SL
   replace h:=bz h
   have qv:cs.length=kD*n:=by rw[← FH.1,nU]
   have Ex:ds.length=len*n:=by rw[← kC.1,u_]
   have e1:kD<=kD*n:=Nat.le_mul_of_pos_right _ gC
   have e2:len<=len*n:=Nat.le_mul_of_pos_right _ gC
   obtain⟨r,w',hr,qW,hg,jO⟩:=run (by omega) (Nat.le_trans (Nat.mul_le_mul_right _ (by omega)) tH)
   have SM:0 < len:=by
    rcases Nat.eq_zero_or_pos len with h0|h0
    ·rw[h0,Nat.zero_mul] at Ex; omega
    ·exact h0
   refine⟨r,w',hr,lJ qW hg jO h rfl fun p hp hO hI=>⟨p,au.dz ..,?_⟩⟩
   rcases hp with ⟨ha,hl,Qo,h0⟩|⟨g,cur,ha,hl,Ew,hle,mr,fi,iS⟩
   ·omega
   ·refine⟨g,cur,(0,0),ha,Ew,fun j c hj=>?_,hO g ha,by simp only[List.length_append]; rw[hl,Nat.add_mul]; omega,hle,mr,fi,gC⟩
    obtain⟨v',h1,h2,h3⟩:=(cl.append FH kC).2 j c hj
    exact⟨v',by rw[Nat.zero_add]; exact iS j v' h1,PV.Is.mono (fun _ h=>h) hI c β _ v' (fun l p' _ cE=>au.gU hk p l p' cE) h2,h3⟩
  ·exact told h
 ·exact h.elim
theorem qX (hR:Rel G I β s a w):∀ {os:List Operand} {q:List PV->Prop},u3 s os q->∃ l,q l/\aU w I l β (os.map a.eval)
 | [],q,h=>⟨[],h,by simp only[List.map_nil,aU]⟩
 | o::os,q,h=>by
  replace h:=aL.bw hR h
  obtain⟨x,h,hx⟩:=h
  obtain⟨l,h,hl⟩:=qX hR h
  exact⟨_,h,by simp only[List.map_cons,aU]; exact⟨hx,hl⟩⟩
theorem TM.kE {rl:List Nat}:∀ {t:TM} {n:Nat} {x:PV},(t.clear rl).get n=some x->t.get n=some x/\x.leads rl=false
 | .nil,n,x,h=>by cases h
 | .node v l r,n,x,h=>by
  simp only[TM.clear,TM.get] at h ⊢
  cases h0:Nat.beq n 0<;>rw[h0] at h
  ·cases h1:Nat.beq (n % 2) 1<;>rw[h1] at h
   ·exact TM.kE (t:=r) h
   ·exact TM.kE (t:=l) h
  ·cases v with
   | none=>cases h
   | some y =>
    simp only[cond_true] at h ⊢
    split at h
    ·cases h
    ·cases h
     rename_i hl
     exact⟨rfl,by simpa using hl⟩
theorem wy {rl:List Nat} {t:TM} {q:TM->Prop} (h:tn rl t q):∃ t',q t'/\∀ n x,t'.get n=some x->t.get n=some x/\∀ l∈x.bW,l ∉ rl:=by
 unfold tn at h
 split at h
 ·exact⟨t,h,fun n x hx=>⟨hx,fun _ _ hl=>by cases hl⟩⟩
 ·refine⟨_,h,fun n x hx=>?_⟩
  obtain⟨h1,h2⟩:=TM.kE hx
  refine⟨h1,fun l hl hr=>?_⟩
  unfold PV.leads at h2
  rw[List.any_eq_false] at h2
  refine h2 l hl (List.any_eq_true.2 ⟨l,hr,?_⟩)
  exact Nat.beq_refl l
theorem y6 (hR:Rel G I β s a w) {f:FuncId} {args:List PV} {aS:List Value} {q:PV->aL->Prop} (h:yK G s f args q) (ha:aU w I args β aS) :
  Ev.fB G.cx.P f/\Calls G.cx.P f aS.toArray w fun e w'=>∃ v,e = .returned v/\bN G s I β w a q v w':=by
 obtain⟨n,t,st,b,PY⟩:=s
 obtain⟨rl,Ey,hs⟩:=h
 unfold Spec at hs
 obtain⟨he,hs⟩:=hs
 refine⟨he,(hs I β w aS hR.heap hR.av ha).mono fun e w' ⟨v,r,S',I',aG,he,hk,hr,hH,hM,hE,hlen,jn⟩=>⟨v,he,?_⟩⟩
 obtain⟨t',hq,s7⟩:=wy hk
 refine⟨r,_,I',aG,hq,⟨hR.small,hR.defers,hR.size,Nat.le_trans hR.base hlen,fun m x hx=>?_,hH,hM⟩,hr,hE,rfl,rfl,rfl,fun l hl hn=>?_,fun l b' bV hm=>jn l (List.getElem?_eq_some_iff.1 bV).1 fun hr=>(Ey l hr).2 b' bV hm⟩
 ·obtain⟨h1,h2⟩:=s7 m x hx
  obtain⟨u,hu,hi⟩:=hR.get m x h1
  refine⟨u,hu,PV.Is.mono hE.av (hE.keeps hR.heap hR.av.av) x β aG u (fun l p hl hp=>?_) hi⟩
  rw[jn l (hR.heap.lt hp) (h2 l hl)]; exact hp
 ·have eF:l < b:=hl
  refine jn l (Nat.lt_of_lt_of_le eF hR.base) fun hr=>?_
  rcases (Ey l hr).1 with h|h
  ·omega
  ·exact hn h
set_option maxHeartbeats 1000000 in
theorem tI (hG:lX G) (hR:Rel G I β s a w) {o:Oper} {q:PV->aL->Prop} (h:pop G s o q):Ev.lD G.cx.P (bN G s I β w a q) ((execOp a.eval o).run G.cx.P w):=by
 have qY:∀ {q':PV->Prop},lb G.cx s o.op q'->(∀ v,q' v->q v s)->Ev.lD G.cx.P (bN G s I β w a q) ((execOp a.eval o).run G.cx.P w):=by
  intro q' h hq
  obtain⟨x,r,hx,hi,hr⟩:=qO hG.ok hR h
  rw[hr w]
  exact bN.same hR (hq x hx) hi
 unfold pop at h
 split at h
 ·
  rename_i t ad pM
  replace h:=aL.bw hR h
  obtain⟨x,h,hx⟩:=h
  obtain⟨z,v,g,h,hz,_,bm⟩:=mu hG.ok hR.heap hR.av h hx
  replace bm:=bm w rfl
  unfold execOp
  rw[pM]
  simp only[Sem.run_bind,bm,Result.andThen_ok,Sem.run_pure]
  exact bN.same hR h hz
 ·
  rename_i t ad y pM
  replace h:=aL.bw hR h
  obtain⟨x,h,hx⟩:=h
  replace h:=aL.bw hR h
  obtain⟨v,h,hv⟩:=h
  obtain⟨w',bm,hp⟩:=wv hG hR h hx hv
  unfold execOp
  rw[pM]
  simp only[Sem.run_bind,bm,Result.andThen_ok,Sem.run_pure]
  exact hp
 ·
  rename_i t pM
  replace h:=fK (w:=w) (I:=I) (β:=β) hG.ok h
  obtain⟨z,i,v,h,hi,BG,tz⟩:=h
  replace h:=aK (bz h)
  obtain⟨cr,h⟩:=h
  rw[List.all_eq_true] at cr
  have bm:(execOp a.eval o).run G.cx.P w = .ok (.value (.pointer (some ⟨w.heap.size,0,none⟩))) (w.alloc (.cells v.cells t)):=by
   unfold execOp
   rw[pM]
   simp[Instr.alloc,zeroValue,typeInfo,hi,BG,newVar,newRow]
  rw[bm]
  exact u9 hR h tz cr
 ·
  rename_i t y pM
  replace h:=aL.bw hR h
  obtain⟨x,h,hx⟩:=h
  have bm:(execOp a.eval o).run G.cx.P w = .ok (.value (.pointer (some ⟨w.heap.size,0,none⟩))) (w.alloc (.cells (a.eval y).cells t)):=by
   unfold execOp
   rw[pM]
   simp[Instr.box,newVar,newRow]
  rw[bm]
  split at h
  ·exact h.elim
  ·rename_i tw
   replace h:=aK h
   obtain⟨cr,h⟩:=h
   rw[List.all_eq_true] at cr
   exact u9 hR (bz h) (hx.gQ fun vs e=>tw vs e) cr
 ·
  rename_i t len ps pM
  replace h:=an h
  obtain⟨d,hu,h⟩:=h
  split at h
  ·rename_i elem
   replace h:=an h
   obtain⟨n,hn,h⟩:=h
   replace h:=fK (w:=w) (I:=I) (β:=β) hG.ok h
   obtain⟨z,i,v,h,hi,BG,tz⟩:=h
   replace h:=ky hR h
   obtain⟨l,h,hl⟩:=h
   replace h:=aK h
   obtain⟨hc,h⟩:=h
   simp only[Bool.and_eq_true] at hc
   have Eu:z.length=n:=Nat.eq_of_beq_eq_true hc.1.1
   have qZ:len*n<=16777216:=Nat.le_of_ble_eq_true hc.1.2
   have gC:0 < n:=Nat.le_of_ble_eq_true hc.2
   replace h:=jK h
   obtain⟨cs,Mc,h⟩:=h
   replace h:=aK (bz h)
   obtain⟨iN,h⟩:=h
   simp only[Bool.and_eq_true,List.all_eq_true] at iN
   have qv:=Nat.eq_of_beq_eq_true iN.1.2
   have mr:=Nat.le_of_ble_eq_true iN.2
   have UD:=tz.length
   simp only[Array.length_toList] at UD
   have rep:∀ k,aU w I ((List.replicate k z).flatten) β ((List.replicate k v.cells.toList).flatten):=fun k=>by
    induction k with
    | zero=>simp only[List.replicate_zero,List.flatten_nil,aU]
    | succ k ih=>simp only[List.replicate_succ,List.flatten_cons]; exact tz.append ih
   have FI:aU w I ((List.replicate len z).flatten) β ((Array.range (len*n)).map fun i=>v.cells[i % v.cells.size]!).toList:=by
    rw[show n=v.cells.size by omega,Ev.yy len (by omega)]; exact rep len
   obtain⟨B,hB,L3⟩:=jL Mc FI hl
   have bm:(execOp a.eval o).run G.cx.P w = .ok (.value (.slice (some ⟨w.heap.size,0,none⟩) len len)) (w.alloc (.cells B elem)):=by
    unfold execOp
    rw[pM]
    have Qp:Instr.fill (fun i=>some (i*n,n)) ((Array.range (len*n)).map fun i=>v.cells[i % v.cells.size]!) (ps.map fun (i,y)=>(i,a.eval y)).toList=some B:=by
     rw[← hB]; simp
    have Ez:¬ (len*n > 2 ^ 24):=by omega
    by_cases h0:len*n=0
    ·have hE:∀ g:Nat->Value,(Array.range (len*n)).map g = #[]:=fun g=>by rw[h0]; simp
     rw[hE] at Qp
     simp only[Instr.buildSlice,Sem.run_bind,run_underlying (hG.ok.un hu),Result.andThen_ok,Ev.cn hG.ok hn,if_neg Ez,if_pos h0,Sem.run_pure,hE,Qp]
     simp[newRow]
    ·have Qq:(zeroValue elem).run G.cx.P w = .ok v w:=by simp[zeroValue,typeInfo,hi,BG]
     simp only[Instr.buildSlice,Sem.run_bind,run_underlying (hG.ok.un hu),Result.andThen_ok,Ev.cn hG.ok hn,if_neg Ez,if_neg h0,Sem.run_pure,Qq,Qp]
     simp[newRow]
   rw[bm]
   exact y0 hR h L3 iN.1.1 qv gC mr
  ·exact h.elim
 ·
  rename_i y Le argTypes pM
  replace h:=aL.bw hR h
  obtain⟨x,h,hx⟩:=h
  split at h
  ·rename_i f iM
   cases Ck:G.ext.any (Nat.beq f) with
   | true=>rw[Ck] at h; replace h:mh G s o q:=h; unfold mh at h; exact h I β a w hR
   | false =>
   rw[Ck] at h
   replace h:u3 s Le fun l=>yK G s f (l++iM) q:=h
   simp only[PV.Is] at hx
   obtain⟨Qr,UE,UF⟩:=hx
   replace h:=qX hR h
   obtain⟨l,h,hl⟩:=h
   obtain⟨Qs,Me⟩:=y6 hR h (hl.append UF)
   have bm:(execOp a.eval o).run G.cx.P w = .ok (.enter f (Le.map a.eval++Qr.toList).toArray) w:=by
    unfold execOp
    rw[pM]
    have e1:(Array.mk Le).map a.eval++Qr=(Le.map a.eval++Qr.toList).toArray:=by simp
    simp only[resolve,UE,Deferred.ofValue,Sem.run_bind,Sem.run_pure,Result.andThen_ok,invoke]
    simp only[Array.empty_append]
    rw[e1]
    exact Qs _ w
   rw[bm]
   exact Me
  ·exact h.elim
 ·
  rename_i od ox t t' pM
  replace h:=aK h
  obtain⟨ht,h⟩:=h
  have:=Nat.eq_of_beq_eq_true ht
  subst this
  replace h:=aL.bw hR h
  obtain⟨d,h,hd⟩:=h
  replace h:=aL.bw hR h
  obtain⟨x,h,hx⟩:=h
  obtain⟨r,w',hr,hp⟩:=tG (ty:=o.type) hG hR h hd hx
  have bm:(execOp a.eval o).run G.cx.P w = .ok (.value r) w':=by
   unfold execOp
   rw[pM]
   simp[resolve,invoke,builtin,hr]
  rw[bm]
  exact hp
 ·unfold mh at h; exact h I β a w hR
 ·unfold mh at h; exact h I β a w hR
 ·unfold mh at h; exact h I β a w hR
 ·unfold mh at h; exact h I β a w hR
 ·unfold mh at h; exact h I β a w hR
 ·unfold mh at h; exact h I β a w hR
 ·rename_i src dst ox pM
  cases hb:Nat.beq dst 9 with
  | true=>rw[hb] at h; replace h:mh G s o q:=h; unfold mh at h; exact h I β a w hR
  | false=>rw[hb] at h; exact qY (by rw[pM]; exact h) fun _ h=>h
 ·exact qY h fun _ h=>h
end
section
variable {w w':World} {I I':Nat->Prop} {β aG:au} {cx:Ev.Cx} {G:Gx} {P:Program} {s:aL} {a:Act} {st cA:List aj}
theorem TM.lZ {v:Option PV}:∀ {f:Nat} {t:TM} {n:Nat} {k:TM->Prop},TM.pC v f t n k->∃ t',k t'/\∀ m,t'.get m=if m=n then v else t.get m
 | 0,_,_,_,h=>h.elim
 | f+1,t,n,k,h=>by
  have arith:∀ m,Nat.beq n 0=false->(m=n↔Nat.beq m 0=false/\m % 2=n % 2/\(m - 1) / 2=(n - 1) / 2):=fun m h0=>by
   have hn:n≠0:=fun e=>by subst e; cases h0
   constructor
   ·rintro rfl; exact⟨h0,rfl,rfl⟩
   ·rintro⟨h1,h2,h3⟩
    have hm:m≠0:=fun e=>by subst e; cases h1
    omega
  have key:∀ (u:Option PV) (l r:TM),(bif Nat.beq n 0 then k (.node v l r) else bif Nat.beq (n % 2) 1 then TM.pC v f l ((n - 1) / 2) (fun t=>k (.node u t r)) else TM.pC v f r ((n - 1) / 2) (fun t=>k (.node u l t))) ->
    ∃ t',k t'/\∀ m,t'.get m=if m=n then v else (TM.node u l r).get m:=by
   intro u l r h
   cases h0:Nat.beq n 0<;>rw[h0] at h
   ·cases h1:Nat.beq (n % 2) 1<;>rw[h1] at h
    ·obtain⟨t',hk,ht⟩:=TM.lZ h
     refine⟨_,hk,fun m=>?_⟩
     have hp:n % 2=0:=by
      have:n % 2≠1:=fun e=>by rw[e] at h1; cases h1
      omega
     simp only[TM.get]
     cases lH:Nat.beq m 0
     ·cases lU:Nat.beq (m % 2) 1
      ·have Qt:m % 2=0:=by
        have:m % 2≠1:=fun e=>by rw[e] at lU; cases lU
        omega
       simp only[cond_false,ht]
       by_cases e:(m - 1) / 2=(n - 1) / 2
       ·rw[if_pos e,if_pos ((arith m h0).2 ⟨lH,by omega,e⟩)]
       ·rw[if_neg e,if_neg fun e'=>e ((arith m h0).1 e').2.2]
      ·have Qt:m % 2=1:=Nat.eq_of_beq_eq_true lU
       simp only[cond_false,cond_true]
       rw[if_neg fun e'=>by rw[e'] at Qt; omega]
     ·have:=Nat.eq_of_beq_eq_true lH
      subst this
      simp only[cond_true]
      rw[if_neg fun e=>by rw[← e] at h0; cases h0]
    ·obtain⟨t',hk,ht⟩:=TM.lZ h
     refine⟨_,hk,fun m=>?_⟩
     have hp:n % 2=1:=Nat.eq_of_beq_eq_true h1
     simp only[TM.get]
     cases lH:Nat.beq m 0
     ·cases lU:Nat.beq (m % 2) 1
      ·simp only[cond_false]
       rw[if_neg fun e'=>by rw[e'] at lU; rw[lU] at h1; cases h1]
      ·have Qt:m % 2=1:=Nat.eq_of_beq_eq_true lU
       simp only[cond_false,cond_true,ht]
       by_cases e:(m - 1) / 2=(n - 1) / 2
       ·rw[if_pos e,if_pos ((arith m h0).2 ⟨lH,by omega,e⟩)]
       ·rw[if_neg e,if_neg fun e'=>e ((arith m h0).1 e').2.2]
     ·have:=Nat.eq_of_beq_eq_true lH
      subst this
      simp only[cond_true]
      rw[if_neg fun e=>by rw[← e] at h0; cases h0]
   ·have:=Nat.eq_of_beq_eq_true h0
    subst this
    refine⟨_,h,fun m=>?_⟩
    simp only[TM.get]
    cases lH:Nat.beq m 0
    ·rw[if_neg fun e=>by subst e; cases lH]; rfl
    ·rw[if_pos (Nat.eq_of_beq_eq_true lH)]; rfl
  cases t with
  | nil =>
   obtain⟨t',hk,ht⟩:=key none .nil .nil h
   refine⟨t',hk,fun m=>?_⟩
   rw[ht]
   split
   ·rfl
   ·simp only[TM.get]; cases Nat.beq m 0<;>cases Nat.beq (m % 2) 1<;>rfl
  | node u l r=>exact key u l r h
structure fm (s s':aL):Prop where
 n:s'.n=s.n
 st:s'.st=s.st
 base:s'.base=s.base
 rl:s'.rl=s.rl
theorem aL.fC {dst:Option Tmp} {x:PV} {k:aL->Prop} (h:s.put dst x k):∃ s',k s'/\fm s s'/\∀ I β a w v,Rel G I β s a w->x.Is w I β v->Rel G I β s' (a.put dst v) w:=by
 obtain⟨n,t,st,b,rl⟩:=s
 unfold aL.put at h
 simp only at h
 split at h
 ·exact⟨_,h,⟨rfl,rfl,rfl,rfl⟩,fun I β a w v hR _=>hR⟩
 ·rename_i d
  replace h:=aK h
  obtain⟨hd,h⟩:=h
  have hd:d < n:=Nat.le_of_ble_eq_true hd
  replace h:=yL h
  obtain⟨t',hk,ht⟩:=TM.lZ h
  refine⟨_,hk,⟨rfl,rfl,rfl,rfl⟩,fun I β a w v hR hx=>⟨hR.small,hR.defers,by simpa [Act.put] using hR.size,hR.base,fun m y hy=>?_,hR.heap,hR.av⟩⟩
  have dK:d < a.tmps.size:=by rw[hR.size]; exact hd
  have qy:t'.get m=some y:=hy
  rw[ht] at qy
  by_cases e:m=d
  ·subst e
   rw[if_pos rfl] at qy
   cases qy
   exact⟨v,by simp[Act.put,dK],hx⟩
  ·rw[if_neg e] at qy
   obtain⟨u,hu,hi⟩:=hR.get m y qy
   exact⟨u,by simp only[Act.put,Array.getElem?_setIfInBounds_ne (Ne.symm e)]; exact hu,hi⟩
theorem aL.iw {t:Nat} {x:PV} {v:Value} {k:aL->Prop} (hR:Rel G I β s a w) (hv:a.tmps[t]?=some v) (hx:x.Is w I β v) (h:s.put (some t) x k):∃ s',k s'/\fm s s'/\Rel G I β s' a w:=by
 obtain⟨s',hk,hs,hr⟩:=aL.fC (G:=G) h
 refine⟨s',hk,hs,?_⟩
 have:=hr I β a w v hR hx
 have e:a.put (some t) v=a:=by
  unfold Act.put
  simp only
  have:a.tmps.setIfInBounds t v=a.tmps:=by
   apply Array.ext_getElem?
   intro i
   rw[Array.getElem?_setIfInBounds]
   split
   ·rename_i hi
    subst hi
    have:=(Array.getElem?_eq_some_iff.1 hv).1
    rw[if_pos this,hv]
   ·rfl
  rw[this]
 rw[e] at this
 exact this
theorem Is.undef:(PV.tup []).Is w I β Go.undef:=by simp only[PV.Is]; exact⟨#[],rfl,by simp only[aU]⟩
theorem ix {ops:Array Oper} {o:Oper} {run skip:aL->Prop} (hR:Rel G I β s a w) (h:kv ops.toList s o run skip) :
  (Region.wanted o (yielded ops a.tmps)=true/\∃ s',run s'/\fm s s'/\Rel G I β s' a w)\/(Region.wanted o (yielded ops a.tmps)=false/\∃ s',skip s'/\fm s s'/\Rel G I β s' a w):=by
 have same:fm s s:=⟨rfl,rfl,rfl,rfl⟩
 unfold kv at h
 cases hg:o.guard with
 | none =>
  rw[hg] at h
  exact .inl ⟨by simp[Region.wanted,hg],s,h,same,hR⟩
 | some jw =>
  obtain⟨j,want⟩:=jw
  rw[hg] at h
  simp only at h
  replace h:=an h
  obtain⟨t,ht,h⟩:=h
  replace h:=an h
  obtain⟨x,hx,h⟩:=h
  obtain⟨v,hv,hi⟩:=hR.get t x hx
  have s7:(ops[j]?).bind (·.dst)=some t:=by simpa using ht
  have hy:∀ b,v = .bool b->Region.wanted o (yielded ops a.tmps)=(b == want):=fun b hb=>by
   subst hb
   have:yielded ops a.tmps j=some b:=by unfold yielded; rw[Option.bind_eq_some_iff.2 ⟨t,s7,hv⟩]
   simp[Region.wanted,hg,this]
  split at h<;>try simp only[PV.Is] at hi
  ·cases want
   ·exact .inr ⟨by rw[hy _ hi]; rfl,s,h,same,hR⟩
   ·exact .inl ⟨by rw[hy _ hi]; rfl,s,h,same,hR⟩
  ·cases want
   ·exact .inl ⟨by rw[hy _ hi]; rfl,s,h,same,hR⟩
   ·exact .inr ⟨by rw[hy _ hi]; rfl,s,h,same,hR⟩
  ·rename_i p
   by_cases hp:p
   ·obtain⟨s',hk,hs,hr⟩:=aL.iw hR hv (x:=.tt) (by rw[hi,bo hp]; exact Is.tt) (h.1 hp)
    cases want
    ·exact .inr ⟨by rw[hy _ hi,bo hp]; rfl,s',hk,hs,hr⟩
    ·exact .inl ⟨by rw[hy _ hi,bo hp]; rfl,s',hk,hs,hr⟩
   ·obtain⟨s',hk,hs,hr⟩:=aL.iw hR hv (x:=.ff) (by rw[hi,bg hp]; exact Is.ff) (h.2 hp)
    cases want
    ·exact .inl ⟨by rw[hy _ hi,bg hp]; rfl,s',hk,hs,hr⟩
    ·exact .inr ⟨by rw[hy _ hi,bg hp]; rfl,s',hk,hs,hr⟩
  ·obtain⟨vs,rfl,_⟩:=hi
   refine .inr ⟨?_,s,h,same,hR⟩
   have:yielded ops a.tmps j=none:=by unfold yielded; rw[Option.bind_eq_some_iff.2 ⟨t,s7,hv⟩]
   simp[Region.wanted,hg,this]
  ·exact h.elim
structure bU (I:Nat->Prop) (β:au) (s:aL) (w:World) (I':Nat->Prop) (aG:au) (s':aL) (w':World):Prop where
 ext:Ext I β s.st w I' aG s'.st w'
 base:s'.base=s.base
 rl:s'.rl=s.rl
 n:s'.n=s.n
 low:∀ l,l < s.base->l ∉ s.rl->aG l=β l
theorem bU.same {s':aL} (h:fm s s'):bU I β s w I β s' w:=⟨by rw[h.st]; exact Ext.refl,h.base,h.rl,h.n,fun _ _ _=>rfl⟩
theorem bU.trans {LU:Nat->Prop} {yB:au} {s' SN:aL} {uX:World} (h:bU I β s w I' aG s' w') (k:bU I' aG s' w' LU yB SN uX):bU I β s w LU yB SN uX :=
 ⟨h.ext.trans k.ext,k.base.trans h.base,k.rl.trans h.rl,k.n.trans h.n,fun l hl hr=>(k.low l (by rw[h.base]; exact hl) (by rw[h.rl]; exact hr)).trans (h.low l hl hr)⟩
theorem pN (hG:lX G) {ops:Array Oper} {Q:X->aL->Prop} {Q':Exit->Act->World->Prop}:∀ (l:List Oper) {s:aL} {a:Act} {I:Nat->Prop} {β:au} {w:World},B3 G ops.toList Q l s->Rel G I β s a w ->
  (∀ x s' I' aG a' w',Q x s'->Rel G I' aG s' a' w'->bU I β s w I' aG s' w'->Q' (X.e x) a' w')->wpList G.cx.P ops Q' l a w
 | [],s,a,I,β,w,h,hR,hQ=>hQ .lF s I β a w h hR (bU.same ⟨rfl,rfl,rfl,rfl⟩)
 | o::l,s,a,I,β,w,h,hR,hQ=>by
  unfold wpList
  rcases ix hR h with ⟨hw,s1,h1,lG,kp⟩|⟨hw,s1,h1,lG,kp⟩
  ·rw[hw,if_pos rfl]
   refine .inl (Ev.pB (tI hG kp h1) fun v w' hp=>?_)
   obtain⟨x,s2,I2,fQ,h2,kF,hx,hE,e1,e2,e3,eu,_⟩:=hp
   obtain⟨s3,h3,lh,q9⟩:=aL.fC (G:=G) h2
   have g1:bU I β s w I2 fQ s2 w':=(bU.same lG).trans ⟨hE,e1,e2,e3,eu⟩
   exact pN hG l h3 (q9 _ _ _ _ v kF hx) fun x s' I' aG a' uX hq cS hg=>hQ x s' I' aG a' uX hq cS ((g1.trans (bU.same lh)).trans hg)
  ·rw[hw,if_neg (by simp)]
   obtain⟨s3,h3,lh,q9⟩:=aL.fC (G:=G) h1
   exact pN hG l h3 (q9 _ _ _ _ _ kp Is.undef) fun x s' I' aG a' uX hq cS hg=>hQ x s' I' aG a' uX hq cS (((bU.same lG).trans (bU.same lh)).trans hg)
end
def jq:Op->Bool
 | .load ..=>true
 | _=>false
def bu (op:Op):Bool:=!(Ev.jf op || jq op)
structure iO where
 k:Nat
 D:List Nat
 Y:World->Prop
section
variable {P:Program} {ops:Array Oper} {Q:Exit->Act->World->Prop}
def Yields (P:Program) (ops:Array Oper) (S:World->Prop) (o:Oper) (v:Value) (a:Act):Prop :=
 (Region.wanted o (yielded ops a.tmps)=true/\∀ w,S w->(execOp a.eval o).run P w = .ok (.value v) w)\/(Region.wanted o (yielded ops a.tmps)=false/\v=undef)
theorem Yields.mono {S S':World->Prop} {o:Oper} {v:Value} {a:Act} (hS:∀ w,S' w->S w) (h:Yields P ops S o v a):Yields P ops S' o v a:=h.imp (fun ⟨h1,h2⟩=>⟨h1,fun w hw=>h2 w (hS w hw)⟩) id
theorem Yields.of_same {S:World->Prop} {o:Oper} {v:Value} {a a':Act} (hy:Yields P ops S o v a) (he:execOp a'.eval o=execOp a.eval o) (hw:Region.wanted o (yielded ops a'.tmps)=Region.wanted o (yielded ops a.tmps)):Yields P ops S o v a':=by
 unfold Yields at *; rw[he,hw]; exact hy
def bK (i:Nat) (pins:List iO):List iO:=pins.filter fun p=>!p.D.any (Nat.beq i)
def cj (P:Program) (ops:Array Oper) (Q:Exit->Act->World->Prop):Nat->Array Bool->Act->(World->Prop)->List iO->Prop
 | 0,l,a,S,_=>Region.ready .any ops l = []/\∀ w,S w->Q .normal a w
 | f+1,l,a,S,pins=>(Region.ready .any ops l = []->∀ w,S w->Q .normal a w)/\∀ i∈Region.ready .any ops l,∀ o,ops[i]?=some o ->
   (bu o.op=false->∃ v,Yields P ops S o v a/\cj P ops Q f (l.setIfInBounds i true) (a.put o.dst v) S (bK i pins)) /\
   (bu o.op=true->∀ w,S w->Ev.lE P ops o a w fun v w'=>∃ S':World->Prop,(∀ p∈bK i pins,∀ w,S' w->p.Y w)/\S' w'/\cj P ops Q f (l.setIfInBounds i true) (a.put o.dst v) S' (bK i pins))
theorem cj.sound:∀ (f:Nat) (l:Array Bool) (a:Act) (S:World->Prop) (pins:List iO) (w:World),cj P ops Q f l a S pins->S w->wpAny P .any ops Q f l a w
 | 0,l,a,S,_,w,h,hw=>⟨h.1,h.2 w hw⟩
 | f+1,l,a,S,pins,w,h,hw=>by
  refine⟨fun h0=>h.1 h0 w hw,fun i hi=>?_⟩
  obtain⟨o,ho⟩:=Ev.qI hi
  obtain⟨h0,h1⟩:=h.2 i hi o ho
  unfold wpOp
  rw[ho]
  simp only
  by_cases hl:bu o.op=false
  ·obtain⟨v,hy,hn⟩:=h0 hl
   rcases hy with ⟨eO,hy⟩|⟨eO,rfl⟩
   ·rw[if_pos eO]
    refine .inl (Ev.pB (K:=fun u w'=>u=v/\w'=w) (by rw[hy w hw]; exact⟨rfl,rfl⟩) fun u w' ⟨hu,hb⟩=>?_)
    subst hu; subst hb
    exact cj.sound f _ _ S _ w' hn hw
   ·rw[if_neg (by rw[eO]; simp)]
    exact cj.sound f _ _ S _ w hn hw
  ·rcases h1 (by simpa using hl) w hw with ⟨eO,hd⟩|⟨eO,S',_,ya,hn⟩
   ·rw[if_pos eO]
    refine .inl (Ev.pB hd fun u w' ⟨S',_,ya,hn⟩=>?_)
    exact cj.sound f _ _ S' _ w' hn ya
   ·rw[if_neg (by rw[eO]; simp)]
    exact cj.sound f _ _ S' _ w hn ya
theorem iy {o:Oper} {a:Act} {w:World} {K K':Value->World->Prop} (hK:∀ v w,K v w->K' v w) (h:Ev.lE P ops o a w K):Ev.lE P ops o a w K':=Ev.lE.mono hK h
theorem kG {i:Nat} {pins oG:List iO} (h:∀ p∈oG,p∈pins):∀ p∈bK i oG,p∈bK i pins:=fun p hp=>by
 unfold bK at *
 rw[List.mem_filter] at *
 exact⟨h p hp.1,hp.2⟩
theorem cj.sub:∀ (f:Nat) (l:Array Bool) (a:Act) (S:World->Prop) (pins oG:List iO),(∀ p∈oG,p∈pins)->cj P ops Q f l a S pins->cj P ops Q f l a S oG
 | 0,_,_,_,_,_,_,h=>h
 | f+1,l,a,S,pins,oG,hs,h=>by
  refine⟨h.1,fun i hi o ho=>?_⟩
  obtain⟨h0,h1⟩:=h.2 i hi o ho
  refine⟨fun hl=>?_,fun hl w hw=>iy (fun v w' ⟨S',h2,h3,h4⟩=>⟨S',fun p hp=>h2 p (kG hs p hp),h3,cj.sub f _ _ _ _ _ (kG hs) h4⟩) (h1 hl w hw)⟩
  obtain⟨v,hy,hn⟩:=h0 hl
  exact⟨v,hy,cj.sub f _ _ _ _ _ (kG hs) hn⟩
theorem cj.first {i:Nat} {oi:Oper} {v:Value} {D:List Nat} {Y:World->Prop} (hi:ops[i]?=some oi) (SO:bu oi.op=false) (tJ:Region.noSelect ops=true) :
  ∀ (f:Nat) (l:Array Bool) (a:Act) (S:World->Prop) (pins:List iO),
   (∀ j oj,ops[j]?=some oj->j≠i->l.getD j true=false->(∀ e∈oj.after,Region.binds .any e=true->e.on≠i)->oi.apart ops oj=true) ->
   (∀ j∈D,l.getD j false=false/\∃ oj,ops[j]?=some oj/\∃ e∈oj.after,Region.binds .any e=true/\(e.on=i\/e.on∈D)) ->
   Yields P ops Y oi v a->(∀ w,S w->Y w)->i∈Region.ready .any ops l->cj P ops Q f (l.setIfInBounds i true) (a.put oi.dst v) S (⟨i,D,Y⟩::pins)->cj P ops Q (f+1) l a S pins:=by
 intro f
 induction f with
 | zero =>
  intro l a S pins _ _ hY Pm hr H
  refine⟨fun h0=>(by rw[h0] at hr; cases hr),fun j hj o ho=>?_⟩
  by_cases x8:j=i
  ·subst x8
   rw[hi] at ho; cases ho
   exact⟨fun _=>⟨v,hY.mono Pm,H⟩,fun h=>by rw[SO] at h; cases h⟩
  ·have:=ready_mono hj x8
   rw[H.1] at this
   cases this
 | succ f ih =>
  intro l a S pins EA hD hY Pm hr H
  refine⟨fun h0=>(by rw[h0] at hr; cases hr),fun j hj oj iP=>?_⟩
  by_cases x8:j=i
  ·subst x8
   rw[hi] at iP; cases iP
   refine⟨fun _=>⟨v,hY.mono Pm,?_⟩,fun h=>by rw[SO] at h; cases h⟩
   refine cj.sub _ _ _ _ _ _ (fun p hp=>?_) H
   unfold bK at hp
   exact List.mem_cons_of_mem _ (List.mem_filter.1 hp).1
  ·obtain⟨Mf,Qu,mB,cr⟩:=mem_ready.1 hj
   rw[iP] at mB; cases mB
   have FJ:=(mem_ready.1 hr).1
   have Mg:l.getD i false=false:=by
    have bA:i < l.size:=by
     rcases Nat.lt_or_ge i l.size with h'|h'
     ·exact h'
     ·simp[Array.getElem?_eq_none h'] at FJ
    simp[bA] at FJ ⊢; exact FJ
   have Mh:∀ e∈oj.after,Region.binds .any e=true->e.on≠i:=fun e he hb heq=>by
    have h1:=cr e he hb
    rw[heq,Mg] at h1; cases h1
   have Qv:D.any (Nat.beq j)=false:=by
    rw[List.any_eq_false]
    intro x hx e
    have:=Nat.eq_of_beq_eq_true e
    subst this
    obtain⟨_,WR,L4,ed,he,hb,h3⟩:=hD j hx
    rw[iP] at L4; cases L4
    rcases h3 with h3|h3
    ·exact Mh ed he hb h3
    ·have h4:=cr ed he hb
     rw[(hD _ h3).1] at h4; cases h4
   have Qw:j ∉ D:=fun hm=>by
    rw[List.any_eq_false] at Qv
    exact Qv j hm (Nat.beq_refl j)
   have Ll:bK j (⟨i,D,Y⟩::pins)=⟨i,D,Y⟩::bK j pins:=by
    unfold bK
    rw[List.filter_cons,if_pos (by simp only[Qv]; rfl)]
   have UG:=EA j oj iP x8 Mf Mh
   obtain⟨a1,a2,a3⟩:=Oper.apart_spec UG
   have UH:=fun cs b=>Region.noSelect_spec tJ i oi cs b hi
   have UI:=fun cs b=>Region.noSelect_spec tJ j oj cs b iP
   have ej:execOp (a.put oi.dst v).eval oj=execOp a.eval oj:=execOp_put oj UI a oi.dst v a1
   have wj:Region.wanted oj (yielded ops (a.put oi.dst v).tmps)=Region.wanted oj (yielded ops a.tmps):=wanted_put oj a oi.dst v a1
   have ei:∀ u,execOp (a.put oj.dst u).eval oi=execOp a.eval oi:=fun u=>execOp_put oi UH a oj.dst u a3
   have wi:∀ u,Region.wanted oi (yielded ops (a.put oj.dst u).tmps)=Region.wanted oi (yielded ops a.tmps):=fun u=>wanted_put oi a oj.dst u a3
   have y7:∀ k ok,ops[k]?=some ok->k≠i->(l.setIfInBounds j true).getD k true=false->(∀ e∈ok.after,Region.binds .any e=true->e.on≠i)->oi.apart ops ok=true:=fun k ok hk UJ Ll vb=>by
    refine EA k ok hk UJ ?_ vb
    by_cases SQ:j=k
    ·subst SQ; exact Mf
    ·rw[getD_set_ne true SQ] at Ll; exact Ll
   have SR:∀ k∈D,(l.setIfInBounds j true).getD k false=false/\∃ oj,ops[k]?=some oj/\∃ e∈oj.after,Region.binds .any e=true/\(e.on=i\/e.on∈D):=fun k hk=>by
    refine⟨?_,(hD k hk).2⟩
    rw[getD_set_ne false (fun e=>Qw (by rw[e]; exact hk))]
    exact (hD k hk).1
   obtain⟨h0,h1⟩:=H.2 j (ready_mono hj x8) oj iP
   rw[Ll] at h0 h1
   refine⟨fun hl=>?_,fun hl w hw=>?_⟩
   ·obtain⟨u,hu,hn⟩:=h0 hl
    refine⟨u,hu.of_same ej.symm wj.symm,?_⟩
    refine ih (l.setIfInBounds j true) (a.put oj.dst u) S (bK j pins) y7 SR (hY.of_same (ei u) (wi u)) Pm (ready_mono hr (Ne.symm x8)) ?_
    rw[Array.setIfInBounds_comm _ _ x8,← Act.put_comm a v u a2]
    exact hn
   ·have hd:=h1 hl w hw
    unfold Ev.lE at hd ⊢
    rw[ej,wj] at hd
    have step:∀ u w',(∃ S':World->Prop,(∀ p∈⟨i,D,Y⟩::bK j pins,∀ w,S' w->p.Y w)/\S' w'/\cj P ops Q f ((l.setIfInBounds i true).setIfInBounds j true) ((a.put oi.dst v).put oj.dst u) S' (⟨i,D,Y⟩::bK j pins)) ->
      ∃ S':World->Prop,(∀ p∈bK j pins,∀ w,S' w->p.Y w)/\S' w'/\cj P ops Q (f+1) (l.setIfInBounds j true) (a.put oj.dst u) S' (bK j pins):=by
     rintro u w' ⟨S',ya,UK,hn⟩
     refine⟨S',fun p hp=>ya p (List.mem_cons_of_mem _ hp),UK,ih (l.setIfInBounds j true) (a.put oj.dst u) S' (bK j pins) y7 SR (hY.of_same (ei u) (wi u)) (ya _ List.mem_cons_self) (ready_mono hr (Ne.symm x8)) ?_⟩
     rw[Array.setIfInBounds_comm _ _ x8,← Act.put_comm a v u a2]
     exact hn
    rcases hd with ⟨Qx,hd⟩|⟨Qx,hd⟩
    ·exact .inl ⟨Qx,Ev.iu step hd⟩
    ·exact .inr ⟨Qx,step _ _ hd⟩
end
end Go.Proofs.YtnbhdacpogplgaaGreatDoor.Pw

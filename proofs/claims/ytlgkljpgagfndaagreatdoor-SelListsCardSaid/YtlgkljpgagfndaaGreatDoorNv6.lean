/- What this claim is proved with: no condition. -/
import Derived.Test.YtlgkljpgagfndaaGreatDoorNv5
set_option linter.unusedVariables false
set_option linter.unusedSimpArgs false
namespace Go.Proofs.YtlgkljpgagfndaaGreatDoor.Pw
open Go Go.RowKit
section
variable {w w':World} {I I':Nat->Prop} {β aU:aB} {cx:Ev.Cx} {G:Gx} {P:Program} {s:bb} {a:Act} {st eA:List ak}
def fm (w:World) (I:Nat->Prop) (es:List PV) (n:Nat) (xs:List Value):Prop :=
 xs.length=es.length*n/\∀ i e,es[i]?=some e->e.cells.length=n/\∀ j c,e.cells[j]?=some c->∃ v,xs[i*n+j]?=some v/\c.Is w I (fun _=>none) v/\v.oneCell'=true
def en (w:World) (I:Nat->Prop) (β:aB) (cs:List PV) (xs:List Value):Prop:=xs.length=cs.length/\∀ (j:Nat) (c:PV),cs[j]?=some c->∃ v:Value,xs[j]?=some v/\c.Is w I β v/\v.oneCell'=true
def pt (w:World) (I:Nat->Prop) (β:aB) (n:Nat):Src->List Value->Prop
 | .stat cs,xs=>en w I β cs xs
 | .told es,xs=>fm w I es n xs
theorem fm.append {es fs:List PV} {n:Nat} {xs ys:List Value} (h:fm w I es n xs) (k:fm w I fs n ys):fm w I (es++fs) n (xs++ys):=by
 refine⟨by rw[List.length_append,List.length_append,h.1,k.1,Nat.add_mul],fun i e he=>?_⟩
 by_cases hi:i < es.length
 ·rw[List.getElem?_append_left hi] at he
  obtain⟨h1,h2⟩:=h.2 i e he
  refine⟨h1,fun j c hc=>?_⟩
  obtain⟨v,hv,h3⟩:=h2 j c hc
  have:=(List.getElem?_eq_some_iff.1 hv).1
  exact⟨v,by rw[List.getElem?_append_left this]; exact hv,h3⟩
 ·rw[List.getElem?_append_right (by omega)] at he
  obtain⟨h1,h2⟩:=k.2 _ e he
  refine⟨h1,fun j c hc=>?_⟩
  obtain⟨v,hv,h3⟩:=h2 j c hc
  have e1:es.length*n<=i*n:=Nat.mul_le_mul_right _ (by omega)
  refine⟨v,?_,h3⟩
  rw[List.getElem?_append_right (by rw[h.1]; omega),h.1,show i*n+j - es.length*n=(i - es.length)*n+j by rw[Nat.sub_mul]; omega]
  exact hv
theorem en.append {cs ds:List PV} {xs ys:List Value} (h:en w I β cs xs) (k:en w I β ds ys):en w I β (cs++ds) (xs++ys):=by
 refine⟨by rw[List.length_append,List.length_append,h.1,k.1],fun j c hc=>?_⟩
 by_cases hj:j < cs.length
 ·rw[List.getElem?_append_left hj] at hc
  rw[List.getElem?_append_left (by rw[h.1]; exact hj)]
  exact h.2 j c hc
 ·rw[List.getElem?_append_right (by omega)] at hc
  rw[List.getElem?_append_right (by rw[h.1]; omega),h.1]
  exact k.2 _ c hc
theorem fm.mono {es:List PV} {n:Nat} {xs:List Value} (hI:∀ g,I g->I' g) (hw:∀ g,I g->w'.heap[g]?=w.heap[g]?) (h:fm w I es n xs):fm w' I' es n xs :=
 ⟨h.1,fun i e he=>⟨(h.2 i e he).1,fun j c hc=>let ⟨v,h1,h2,h3⟩:=(h.2 i e he).2 j c hc; ⟨v,h1,PV.Is.mono hI hw c _ _ v (fun _ _ _ h=>h) h2,h3⟩⟩⟩
theorem en.mono {cs:List PV} {xs:List Value} (hI:∀ g,I g->I' g) (hw:∀ g,I g->w'.heap[g]?=w.heap[g]?) (hb:∀ l p,β l=some p->aU l=some p) (h:en w I β cs xs):en w' I' aU cs xs :=
 ⟨h.1,fun j c hc=>let ⟨v,h1,h2,h3⟩:=h.2 j c hc; ⟨v,h1,PV.Is.mono hI hw c _ _ v (fun l p _=>hb l p) h2,h3⟩⟩
theorem cB.row:∀ {es:List PV} {n g o:Nat},cB w I es n g o->∃ xs,fm w I es n xs/\∀ j v,xs[j]?=some v->w.cell? ⟨g,o+j,none⟩=some v
 | [],n,g,o,_=>⟨[],⟨by simp,fun i e he=>by simp at he⟩,fun j v h=>by simp at h⟩
 | e::es,n,g,o,h=>by
  rw[cB.cons] at h
  obtain⟨⟨hl,hc⟩,h⟩:=h
  obtain⟨xs,hx,hy⟩:=cB.row h
  have key:∀ (cs:List PV) (o:Nat),dj w I cs g o->∃ ys:List Value,ys.length=cs.length/\(∀ (j:Nat) (c:PV),cs[j]?=some c->∃ v:Value,ys[j]?=some v/\c.Is w I (fun _=>none) v/\v.oneCell'=true)/\∀ (j:Nat) (v:Value),ys[j]?=some v->w.cell? ⟨g,o+j,none⟩=some v:=by
   intro cs
   induction cs with
   | nil=>intro o _; exact⟨[],rfl,fun j c h=>by simp at h,fun j v h=>by simp at h⟩
   | cons c cs ih =>
    intro o h
    simp only[dj] at h
    obtain⟨⟨v,h1,h2⟩,h3⟩:=h
    obtain⟨ys,g1,g2,g3⟩:=ih (o+1) h3
    refine⟨v::ys,by simp[g1],fun j c' yL=>?_,fun j u hu=>?_⟩
    ·cases j with
     | zero=>simp at yL; subst yL; exact⟨v,rfl,h2⟩
     | succ j=>simpa using g2 j c' (by simpa using yL)
    ·cases j with
     | zero=>simp at hu; subst hu; exact h1
     | succ j=>rw[show o+(j+1)=o+1+j by omega]; exact g3 j u (by simpa using hu)
  obtain⟨ys,g1,g2,g3⟩:=key e.cells o hc
  have JO:ys.length=n:=by omega
  refine⟨ys++xs,?_,fun j v hv=>?_⟩
  ·refine⟨by rw[List.length_append,hx.1,List.length_cons,JO,Nat.succ_mul]; omega,fun i e' E3=>?_⟩
   cases i with
   | zero =>
    simp at E3; subst E3
    refine⟨hl,fun j c hj=>?_⟩
    obtain⟨v,hv,h2⟩:=g2 j c hj
    have:=(List.getElem?_eq_some_iff.1 hv).1
    exact⟨v,by rw[Nat.zero_mul,Nat.zero_add,List.getElem?_append_left this]; exact hv,h2⟩
   | succ i =>
    obtain⟨h1,h2⟩:=hx.2 i e' (by simpa using E3)
    refine⟨h1,fun j c hj=>?_⟩
    obtain⟨v,hv,h3⟩:=h2 j c hj
    refine⟨v,?_,h3⟩
    rw[Nat.succ_mul,List.getElem?_append_right (by omega),show i*n+n+j - ys.length=i*n+j by omega]
    exact hv
  ·by_cases hj:j < ys.length
   ·rw[List.getElem?_append_left hj] at hv; exact g3 j v hv
   ·rw[List.getElem?_append_right (by omega)] at hv
    have:=hy _ v hv
    rw[show o+n+(j - ys.length)=o+j by omega] at this
    exact this
theorem fm.at {es:List PV} {n g:Nat} {xs:List Value} (h:fm w I es n xs) (hc:∀ j v,xs[j]?=some v->w'.cell? ⟨g,j,none⟩=some v) (hI:∀ g,I g->I' g) (hw:∀ g,I g->w'.heap[g]?=w.heap[g]?):cB w' I' es n g 0:=cB.of fun i e he=>by
 obtain⟨h1,h2⟩:=h.2 i e he
 refine⟨h1,dj.of fun j c hj=>?_⟩
 obtain⟨v,hv,h3,h4⟩:=h2 j c hj
 exact⟨v,by rw[Nat.zero_add]; exact hc _ v hv,PV.Is.mono hI hw c _ _ v (fun _ _ _ h=>h) h3,h4⟩
theorem fm.BS {es:List PV} {n:Nat} {xs:List Value} (h:fm w I es n xs):∀ v∈xs,v.oneCell'=true:=by
 intro v hv
 obtain⟨k,hk,rfl⟩:=List.getElem_of_mem hv
 have iV:k < es.length*n:=by rw[← h.1]; exact hk
 have hn:0 < n:=by
  rcases Nat.eq_zero_or_pos n with h0|h0
  ·rw[h0] at iV; omega
  ·exact h0
 have hi:k / n < es.length:=Nat.div_lt_of_lt_mul (by rw[Nat.mul_comm]; exact iV)
 obtain⟨h1,h2⟩:=h.2 _ _ (List.getElem?_eq_getElem hi)
 have hm:k % n < n:=Nat.mod_lt _ hn
 obtain⟨u,hu,_,h3⟩:=h2 (k % n) _ (List.getElem?_eq_getElem (by omega))
 rw[show k / n*n+k % n=k by rw[Nat.mul_comm]; exact Nat.div_add_mod k n,List.getElem?_eq_getElem hk] at hu
 cases hu; exact h3
theorem en.BS {cs:List PV} {xs:List Value} (h:en w I β cs xs):∀ v∈xs,v.oneCell'=true:=by
 intro v hv
 obtain⟨k,hk,rfl⟩:=List.getElem_of_mem hv
 have iV:k < cs.length:=by rw[← h.1]; exact hk
 obtain⟨u,hu,_,h3⟩:=h.2 _ _ (List.getElem?_eq_getElem iV)
 rw[List.getElem?_eq_getElem hk] at hu
 cases hu; exact h3
theorem pt.BS {n:Nat} {x:Src} {xs:List Value} (h:pt w I β n x xs):∀ v∈xs,v.oneCell'=true:=by
 cases x with
 | stat cs=>exact en.BS h
 | told es=>exact fm.BS h
theorem v9 {ag:Bool} {n:Nat} (hn:0 < n) (JG:ag=true\/n=1):∀ (k:Nat) {cs:List PV} {xs:List Value},cs.length=k*n->en w I β cs xs->(chunk ag n k cs).all PV.elem=true->(chunk ag n k cs).length=k/\fm w I (chunk ag n k cs) n xs
 | 0,cs,xs,hl,h,_=>by
  have:xs = []:=List.eq_nil_of_length_eq_zero (by rw[h.1,hl,Nat.zero_mul])
  subst this
  exact⟨rfl,by simp[chunk],fun i e he=>by simp[chunk] at he⟩
 | k+1,cs,xs,hl,h,dx=>by
  simp only[chunk,List.all_cons,Bool.and_eq_true] at dx
  obtain⟨he,dx⟩:=dx
  have VK:(cs.drop n).length=k*n:=by rw[List.length_drop,hl,Nat.succ_mul]; omega
  have VL:en w I β (cs.drop n) (xs.drop n):=⟨by rw[List.length_drop,List.length_drop,h.1],fun j c hc=>by
   rw[List.getElem?_drop] at hc ⊢; exact h.2 _ c hc⟩
  obtain⟨Jb,Jp⟩:=v9 hn JG k VK VL dx
  have hcn:n<=cs.length:=by rw[hl,Nat.succ_mul]; omega
  have nr:∀ {c:PV} {y:Value},c.pj=true->c.Is w I β y->c.Is w I (fun _=>none) y:=fun {c y} hc hi=>by
   refine PV.Is.mono (fun _ h=>h) (fun _ _=>rfl) _ β _ _ (fun l p hl=>?_) hi
   cases c<;>simp_all [PV.dk,PV.pj]
  refine⟨by simp[chunk,Jb],by rw[h.1,hl]; simp only[chunk,List.length_cons,Jb],fun i e hi=>?_⟩
  cases i with
  | zero =>
   simp only[chunk,List.getElem?_cons_zero,Option.some.injEq] at hi
   subst hi
   cases ag with
   | true =>
    simp only[if_true,PV.elem,List.all_eq_true] at he
    simp only[if_true,PV.cells]
    refine⟨by rw[List.length_take]; omega,fun j c hj=>?_⟩
    rw[List.getElem?_take] at hj
    split at hj
    ·obtain⟨v,hv,h2,h3⟩:=h.2 j c hj
     refine⟨v,by rw[Nat.zero_mul,Nat.zero_add]; exact hv,nr (he c ?_) h2,h3⟩
     refine List.mem_of_getElem? (i:=j) ?_
     rw[List.getElem?_take,if_pos ‹_›]; exact hj
    ·cases hj
   | false =>
    have kp:n=1:=by simpa using JG
    subst kp
    cases cs with
    | nil=>simp at hcn
    | cons c cs =>
     simp only[Bool.false_eq_true,if_false] at he ⊢
     obtain⟨v,hv,h2,h3⟩:=h.2 0 c rfl
     have hc1:c.cells = [c]:=by
      cases c<;>first|rfl|(simp only[PV.Is] at h2; obtain⟨vs,rfl,_⟩:=h2; simp[Value.oneCell'] at h3)
     rw[hc1]
     refine⟨rfl,fun j c' hj=>?_⟩
     cases j with
     | zero =>
      simp at hj; subst hj
      refine⟨v,by simpa using hv,nr ?_ h2,h3⟩
      cases c<;>first|exact he|(exfalso; simp only[PV.Is] at h2; obtain⟨vs,rfl,_⟩:=h2; simp[Value.oneCell'] at h3)
     | succ j=>simp at hj
  | succ i =>
   simp only[chunk,List.getElem?_cons_succ] at hi
   obtain⟨h1,h2⟩:=Jp.2 i e hi
   refine⟨h1,fun j c hj=>?_⟩
   obtain⟨v,hv,h3⟩:=h2 j c hj
   refine⟨v,?_,h3⟩
   rw[List.getElem?_drop] at hv
   rw[Nat.succ_mul,show i*n+n+j=n+(i*n+j) by omega]
   exact hv
theorem An {x:PV} {v:Value} (h:x.Is w I β v):x.norm.Is w I β v:=by
 cases x<;>first|exact h|(simp only[PV.norm,PV.Is] at h ⊢; exact h)
theorem yM {cs:List PV} {xs:List Value} (h:en w I β cs xs):en w I β (cs.map PV.norm) xs:=by
 refine⟨by rw[List.length_map]; exact h.1,fun j c hj=>?_⟩
 rw[List.getElem?_map,Option.map_eq_some_iff] at hj
 obtain⟨d,hd,rfl⟩:=hj
 obtain⟨v,h1,h2,h3⟩:=h.2 j d hd
 exact⟨v,h1,An h2,h3⟩
theorem fQ {ag:Bool} {n:Nat} (hn:0 < n) (JG:ag=true\/n=1) {x:Src} {es:List PV} {xs:List Value} {len:Nat} (h:fL ag n x=some es) (hx:pt w I β n x xs) (hl:xs.length=len*n):es.length=len/\fm w I es n xs:=by
 have hc:∀ {a b:Nat},a*n=b*n->a=b:=fun h=>Nat.eq_of_mul_eq_mul_right hn h
 cases x with
 | told es' =>
  simp only[fL,Option.some.injEq] at h
  subst h
  exact⟨hc (by rw[← hx.1,hl]),hx⟩
 | stat cs =>
  simp only[fL,Ab,Nat.zero_add] at h
  split at h
  ·rename_i dx
   cases h
   have Eb:cs.length=len*n:=by rw[← hx.1,hl]
   have hd:cs.length / n=len:=by rw[Eb]; exact Nat.mul_div_cancel _ hn
   rw[hd] at dx ⊢
   exact v9 hn JG len (by rw[List.length_map]; exact Eb) (yM hx) dx
  ·cases h
theorem ng {arr:Array Value} {g:Nat} {ty:TypeId} {fr:Nat × Nat} (hh:w.heap[g]?=some (.cells arr ty fr)) (o k:Nat):∀ (j:Nat) (v:Value),((arr.toList.drop o).take k)[j]?=some v->w.cell? ⟨g,o+j,none⟩=some v:=fun j v hv=>by
 rw[List.getElem?_take] at hv
 split at hv
 ·rw[List.getElem?_drop] at hv
  rw[Ev.gb hh]; simpa using hv
 ·cases hv
theorem Ao (hO:Ev.f_ cx) (hh:aO I β st w) {n:Nat} (hn:0 < n) {x:PV} {u:Value} {q:Src->Prop} (h:JA cx st n x q) (hx:x.Is w I β u) :
  ∃ src ad len c news,q src/\u = .slice ad len c/\pt w I β n src news/\news.length=len*n/\(len=0\/∃ g o,ad=some ⟨g,o,none⟩)/\∀ g o,ad=some ⟨g,o,none⟩->∀ j v,news[j]?=some v->w.cell? ⟨g,o+j,none⟩=some v:=by
 unfold JA at h
 split at h<;>try simp only[PV.Is] at hx
 ·exact⟨_,none,0,0,[],h,hx,⟨by simp,fun i e he=>by simp at he⟩,by simp,.inl rfl,fun _ _ _ j v hv=>by simp at hv⟩
 ·rename_i m es
  replace h:=bp h
  obtain⟨hm,h⟩:=h
  have hm:=Nat.eq_of_beq_eq_true hm
  obtain⟨ad,cap,rfl,_,_,h4,h5⟩:=hx
  by_cases h0:es.length=0
  ·have:es = []:=List.eq_nil_of_length_eq_zero h0
   subst this
   exact⟨_,ad,0,cap,[],h,rfl,⟨by simp,fun i e he=>by simp at he⟩,by simp,.inl rfl,fun _ _ _ j v hv=>by simp at hv⟩
  ·obtain⟨g,o,rfl,hg,_⟩:=h5 h0
   obtain⟨xs,h6,h7⟩:=(h4 g o rfl).row
   rw[hm] at h6
   exact⟨_,_,es.length,cap,xs,h,rfl,h6,h6.1,(.inr ⟨_,_,rfl⟩),fun g' o' e=>by cases e; exact h7⟩
 ·rename_i l off len
  replace h:=aA h
  obtain⟨b,hb,h⟩:=h
  replace h:=bp h
  obtain⟨hc,h⟩:=h
  simp only[Bool.and_eq_true] at hc
  have hle:=Nat.le_of_ble_eq_true hc.2
  obtain⟨p,g,o,cap,hp,ha,rfl,_⟩:=hx
  obtain⟨arr,ty,fr,h_,oG,_⟩:=iq hh hb hc.1 hp ha
  have fF:0 < len*n->o+off+len*n<=arr.size:=fun h0=>by
   obtain⟨z,hz,_⟩:=oG _ _ (List.getElem?_eq_getElem (show off+len*n - 1 < b.cs.length by omega))
   have:=(Array.getElem?_eq_some_iff.1 hz).1
   omega
  have Ap:((arr.toList.drop (o+off)).take (len*n)).length=len*n:=by
   rw[List.length_take,List.length_drop,Array.length_toList]
   rcases Nat.eq_zero_or_pos (len*n) with h0|h0
   ·omega
   ·have:=fF h0; omega
  refine⟨_,_,len,cap,_,cR h,rfl,⟨?_,fun j c hj=>?_⟩,Ap,(.inr ⟨_,_,rfl⟩),fun g' o' e=>by cases e; exact ng h_ _ _⟩
  ·rw[Ap,List.length_take,List.length_drop]; omega
  ·rw[List.getElem?_take] at hj
   split at hj
   ·rename_i qz
    rw[List.getElem?_drop] at hj
    obtain⟨v,hv,h1,h2⟩:=oG _ _ hj
    exact⟨v,by rw[List.getElem?_take,if_pos qz,List.getElem?_drop]; simpa [Nat.add_assoc] using hv,h1,h2⟩
   ·cases hj
 ·rename_i l
  replace h:=aA h
  obtain⟨b,hb,h⟩:=h
  replace h:=bp h
  obtain⟨hc,h⟩:=h
  simp only[Bool.and_eq_true] at hc
  have v8:=Nat.eq_of_beq_eq_true hc.2
  obtain⟨p,hp,rfl⟩:=hx
  split at h
  ·rename_i hk
   obtain⟨g,arr,fr,ha,hw,h_,oG,_,hlen,hle,_,has,_⟩:=fW hh hb hc.1 hk hp
   rw[v8] at hlen has
   have fF:p.len*n<=arr.size:=by rw[has]; exact Nat.mul_le_mul_right _ hle
   refine⟨_,_,p.len,p.cap,(arr.toList.drop 0).take (p.len*n),h,hw,⟨?_,fun j c hj=>?_⟩,?_,(.inr ⟨_,_,rfl⟩),fun g' o' e=>by cases e; exact ng h_ _ _⟩
   ·rw[List.length_take,List.length_drop,Array.length_toList]; omega
   ·obtain⟨v,hv,h1,h2⟩:=oG _ _ hj
    have qz:j < p.len*n:=by rw[← hlen]; exact (List.getElem?_eq_some_iff.1 hj).1
    exact⟨v,by rw[List.getElem?_take,if_pos qz,List.getElem?_drop]; simpa using hv,h1,h2⟩
   ·rw[List.length_take,List.length_drop,Array.length_toList]; omega
  ·rename_i hk
   obtain⟨_,hlen,hle,_,na⟩:=dN hh hb hc.1 hk hp
   rcases na with ⟨_,qu,hw⟩|⟨g,arr,fr,ha,hw,h_,po,_,has⟩
   ·have gq:b.cs = []:=List.eq_nil_of_length_eq_zero (by omega)
    rw[gq] at h
    exact⟨_,none,0,0,[],h,hw,⟨by simp,fun i e he=>by simp at he⟩,by simp,.inl rfl,fun _ _ _ j v hv=>by simp at hv⟩
   ·obtain⟨xs,h6,h7⟩:=po.row
    rw[v8] at h6
    exact⟨_,_,p.len,p.cap,xs,h,hw,h6,by rw[h6.1,hlen],(.inr ⟨_,_,rfl⟩),fun g' o' e=>by cases e; exact h7⟩
  ·exact h.elim
 ·exact h.elim
theorem v_ {l:Nat} {b:ak} {q:List ak->Prop} (hb:st[l]?=some b) (h:EJ st l q):∃ b',b'.live=false/\q (st.set l b'):=by
 replace h:=aA h
 obtain⟨b2,eI,h⟩:=h
 cases b2
 exact⟨_,rfl,(jU h).2⟩
theorem E4 (hh:aO I β st w) {n:Nat} (hn:0 < n) {elem:TypeId} {x:PV} {v:Value} {q:Src->List ak->Prop} (h:EK st elem n x q) (hx:x.Is w I β v) :
  ∃ dst eA xs len,q dst eA/\w.ownsRow 0 elem n v len xs/\pt w I β n dst xs/\xs.length=len*n/\aO I β eA w/\eA.length=st.length/\Ext I β st w I β eA w/\(∀ g,v.ownBlock=some g->Wr β st g/\¬ I g/\¬ jy β eA g)/\(v = .slice none 0 0\/∃ ad m c,v = .slice (some ad) m c):=by
 unfold EK at h
 split at h<;>try simp only[PV.Is] at hx
 ·subst hx
  exact⟨_,st,[],0,h,World.ownsRow_nil _ _ _ _,⟨by simp,fun j c hj=>by simp at hj⟩,by simp,hh,rfl,Ext.refl,fun g e=>by simp[Value.ownBlock] at e,.inl rfl⟩
 ·rename_i l
  replace h:=aA h
  obtain⟨b,hb,h⟩:=h
  replace h:=bp h
  obtain⟨hc,h⟩:=h
  simp only[Bool.and_eq_true] at hc
  obtain⟨aN,hm⟩:=qx hc.1.1
  have v8:=Nat.eq_of_beq_eq_true hc.1.2
  have E5:=Nat.eq_of_beq_eq_true hc.2
  obtain⟨p,hp,rfl⟩:=hx
  have dead:∀ {g o:Nat} {b':ak},p.a=some (g,o)->b'.live=false->(Own I β st l g (0,0) b\/∃ fr,Own I β st l g fr b)->Wr β st g/\¬ I g/\¬ jy β (st.set l b') g:=by
   intro g o b' ha dq ho
   have ho:∃ fr,Own I β st l g fr b:=ho.elim (fun h=>⟨_,h⟩) id
   obtain⟨fr,ho⟩:=ho
   refine⟨⟨l,b,p,o,hb,aN,hm,hp,ha⟩,(ho.1 (by rw[hm]; decide)).2.1,fun ⟨l2,b2,p2,o2,h1,h2,h3,h4⟩=>?_⟩
   by_cases de:l2=l
   ·subst de
    rw[List.getElem?_set_self (by simpa using (List.getElem?_eq_some_iff.1 h1).1)] at h1
    cases h1; rw[dq] at h2; cases h2
   ·rw[List.getElem?_set_ne (fun e=>de e.symm)] at h1
    exact (ho.1 (by rw[hm]; decide)).2.2 l2 b2 de h1 h2 p2 g o2 h3 h4 rfl
  split at h
  ·rename_i hk
   obtain⟨b',dq,h⟩:=v_ hb h
   obtain⟨g,arr,fr,ha,hw,h_,oG,fu,hlen,hle,sC,has,_⟩:=fW hh hb aN hk hp
   rw[v8] at hlen has
   have yq:fr=(0,0):=(fu.1 (by rw[hm]; decide)).1
   subst yq
   have fF:p.len*n<=arr.size:=by rw[has]; exact Nat.mul_le_mul_right _ hle
   have sq:(arr.toList.take (p.len*n)).length=p.len*n:=by rw[List.length_take,Array.length_toList]; omega
   refine⟨_,_,arr.toList.take (p.len*n),p.len,h,⟨sq,.inr ⟨g,p.cap,arr,hw,Nat.zero_le _,by rw[← E5]; exact h_,hle,sC,has,rfl⟩⟩,⟨by rw[sq,hlen],fun j c hj=>?_⟩,sq,hh.kill l dq,by simp,Ext.kill dq,fun g' e=>?_,.inr ⟨_,_,_,hw⟩⟩
   ·obtain⟨u,hu,h1,h2⟩:=oG _ _ hj
    have qz:j < p.len*n:=by rw[← hlen]; exact (List.getElem?_eq_some_iff.1 hj).1
    exact⟨u,by rw[List.getElem?_take,if_pos qz]; simpa using hu,h1,h2⟩
   ·rw[hw] at e
    simp only[Value.ownBlock,Option.some.injEq] at e
    subst e
    exact dead ha dq (.inl fu)
  ·rename_i hk
   obtain⟨b',dq,h⟩:=v_ hb h
   obtain⟨_,hlen,hle,sC,na⟩:=dN hh hb aN hk hp
   rcases na with ⟨_,qu,hw⟩|⟨g,arr,fr,ha,hw,h_,po,fu,has⟩
   ·have gq:b.cs = []:=List.eq_nil_of_length_eq_zero (by omega)
    rw[gq] at h
    rw[hw]
    exact⟨_,_,[],0,h,World.ownsRow_nil _ _ _ _,⟨by simp,fun i e he=>by simp at he⟩,by simp,hh.kill l dq,by simp,Ext.kill dq,fun g e=>by simp[Value.ownBlock] at e,.inl rfl⟩
   ·rw[v8] at po has
    have yq:fr=(0,0):=(fu.1 (by rw[hm]; decide)).1
    subst yq
    obtain⟨xs,h6,h7⟩:=po.row
    have fF:p.len*n<=arr.size:=by rw[has]; exact Nat.mul_le_mul_right _ hle
    have sq:xs.length=p.len*n:=by rw[h6.1,hlen]
    refine⟨_,_,xs,p.len,h,⟨sq,.inr ⟨g,p.cap,arr,hw,Nat.zero_le _,by rw[← E5]; exact h_,hle,sC,has,?_⟩⟩,h6,sq,hh.kill l dq,by simp,Ext.kill dq,fun g' e=>?_,.inr ⟨_,_,_,hw⟩⟩
    ·apply List.ext_getElem?
     intro j
     rw[List.getElem?_take]
     split
     ·rename_i hj
      have hj2:j < xs.length:=by omega
      have:=h7 j _ (List.getElem?_eq_getElem hj2)
      rw[Ev.gb h_,Nat.zero_add] at this
      rw[List.getElem?_eq_getElem hj2]; simpa using this
     ·rename_i hj
      rw[List.getElem?_eq_none (by omega)]
    ·rw[hw] at e
     simp only[Value.ownBlock,Option.some.injEq] at e
     subst e
     exact dead ha dq (.inl fu)
  ·exact h.elim
 ·exact h.elim
theorem pN (t ty e:TypeId) (i:TypeInfo) (ht:P.underlying t=some (.slice e)) (hi:P.info? e=some i) (b:Option Addr) (n cap c:Nat) (hle:n<=cap):(Builtin.append_ #[t,t] ty #[.slice b n cap,.slice none 0 c]).run P w = .ok (.slice b n cap) w:=by
 cases b<;>simp[Builtin.append_,run_underlying ht,sizeOf,typeInfo,hi,Builtin.lenOf,Builtin.firstCells,hle,storeCells]
end
section
variable {w w':World} {I I':Nat->Prop} {β aU:aB} {cx:Ev.Cx} {G:Gx} {P:Program} {s:bb} {a:Act} {st eA:List ak}
theorem wc (s:bb) (x y:List ak):(s.store x).store y=s.store y:=by cases s; rfl
theorem Ext.add2 {kq:List ak} (h:aO I β kq w) (pO:∀ g,Wr β kq g->Wr β st g) (hos:w'.os=w.os) (EW:w'.tape=w.tape) (oD:w'.output=w.output) (fF:w.heap.size<=w'.heap.size) {b:ak} {p:ow} (hw:∀ g,g < w.heap.size->¬ Wr β st g->w'.heap[g]?=w.heap[g]?)
  (hp:∀ g o,p.a=some (g,o)->g < w.heap.size->Wr β st g):Ext I β st w I (β.set kq.length p) (kq++[b]) w' :=
 ⟨hos,EW,oD,fF,hw,fun g hg ⟨l,b',q,o,h1,h2,h3,h4,h5⟩=>by
  unfold aB.set at h4
  split at h4
  ·cases h4
   exact hp g o h5 hg
  ·have:=h.lt h4
   rw[List.getElem?_append_left this] at h1
   exact pO g ⟨l,b',q,o,h1,h2,h3,h4,h5⟩,fun _ h=>h,fun _ _ h=>.inl h⟩
theorem qA (hR:Rel G I β s a w) {kq:List ak} (hk:aO I β kq w) (pO:∀ g,Wr β kq g->Wr β s.st g) (hlen:kq.length=s.st.length) {v:Value} (hv:∀ g,v.ownBlock=some g->Wr β s.st g/\¬ I g/\¬ jy β kq g)
  (hg:w.grownBy w' v.ownBlock) {b:ak} {p:ow} {q:PV->bb->Prop} (h:m8 (s.store kq) b q) (hp:∀ g o,p.a=some (g,o)->v.ownBlock=some g\/g=w.heap.size) (hm:b.m = .w)
  (hb:(∀ g,p.a=some (g,0)->Own I (β.set kq.length p) (kq++[b]) kq.length g (0,0) b)->(∀ g,I g->w'.heap[g]?=w.heap[g]?)->gd I (β.set kq.length p) (kq++[b]) w' kq.length b):c9 G s I β w a q p.whole w':=by
 have uL:(s.store kq).st=kq:=(bb.eD s kq).2.2.1
 unfold m8 at h
 rw[uL] at h
 replace h:=lx (gG h)
 rw[Nat.zero_add,wc] at h
 have pM:=aB.jz hk p
 have fu:∀ g,jy β kq g\/I g->w'.heap[g]?=w.heap[g]?:=fun g E6=>by
  refine hg.block g (E6.elim hk.dS (hR.az.az g)) fun e=>?_
  obtain⟨_,h1,h2⟩:=hv g e.symm
  exact E6.elim h2 h1
 have fP:∀ g o,p.a=some (g,o)->¬ I g/\¬ jy β kq g:=fun g o ha=>by
  rcases hp g o ha with e|e
  ·exact (hv g e).2
  ·subst e
   exact⟨fun h=>by have:=hR.az.az _ h; omega,fun h=>by have:=hk.dS h; omega⟩
 have hO:∀ g,p.a=some (g,0)->Own I (β.set kq.length p) (kq++[b]) kq.length g (0,0) b:=fun g ha=>by
  refine⟨fun _=>⟨rfl,(fP g 0 ha).1,fun l' b' de jv fO p' g' o' eU dv e=>?_⟩,fun hr=>by rw[hm] at hr; cases hr⟩
  subst e
  unfold aB.set at eU
  rw[if_neg de] at eU
  have:=hk.lt eU
  rw[List.getElem?_append_left this] at jv
  exact (fP _ _ ha).2 ⟨l',b',p',o',jv,fO,eU,dv⟩
 have hH:=hk.add fu fP (hb hO fun g hg=>fu g (.inr hg))
 have hE:Ext I β s.st w I (β.set kq.length p) (kq++[b]) w':=Ext.add2 hk pO hg.os hg.tape hg.output hg.size (fun g cJ hn=>hg.block g cJ fun e=>hn (hv g e.symm).1) fun g o ha cJ=>by
  rcases hp g o ha with e|e
  ·exact (hv g e).1
  ·omega
 refine c9.mk' hR h hH hE pM (by simp; omega) (fun l hl=>if_neg (by omega)) ?_
 simp only[PV.Is]; exact⟨_,aB.dw ..,rfl⟩
theorem yN (hG:ma G) (hR:Rel G I β s a w) {t ty:TypeId} {d x:PV} {u v:Value} {q:PV->bb->Prop} (h:Ac G s t d x q) (hd:d.Is w I β v) (hx:x.Is w I β u) :
  ∃ r w',(Builtin.append_ #[t,t] ty #[v,u]).run G.cx.P w = .ok r w'/\c9 G s I β w a q r w':=by
 replace h:=aA h
 obtain⟨td,hu,h⟩:=h
 split at h
 ·rename_i elem
  replace h:=aA h
  obtain⟨n,hn,h⟩:=h
  replace h:=aA h
  obtain⟨ag,JG,h⟩:=h
  replace h:=aA h
  obtain⟨bG,Nc,h⟩:=h
  replace h:=jx (w:=w) (I:=I) (β:=β) hG.ok h
  obtain⟨z,i,zv,h,hi,Jf,uG⟩:=h
  replace h:=bp h
  obtain⟨hc,h⟩:=h
  simp only[Bool.and_eq_true,Bool.or_eq_true] at hc
  have iQ:0 < n:=Nat.le_of_ble_eq_true hc.1.1
  have hzn:z.length=n:=Nat.eq_of_beq_eq_true hc.1.2
  have VM:ag=true\/n=1:=hc.2.imp id Nat.eq_of_beq_eq_true
  obtain⟨i1,hi1,we⟩:=Ev.js hG.ok hn
  rw[hi] at hi1
  cases hi1
  obtain⟨i3,Ng,U2⟩:=hG.bG _ (Ev.iU Nc)
  simp only at Ng U2
  rw[hi] at Ng
  cases Ng
  have hzl:=uG.length
  simp only[Array.length_toList] at hzl
  replace h:=Ao hG.ok hR.heap iQ h hx
  obtain⟨src,ad,len,c,news,h,rfl,nh,Ap,On,VN⟩:=h
  replace h:=E4 hR.heap iQ h hd
  obtain⟨dst,kq,xs,oH,h,fu,Ox,sq,hk,VP,JR,hv,hvf⟩:=h
  have pO:∀ g,Wr β kq g->Wr β s.st g:=fun g hw=>by
   have:=JR.wr g
   rcases Nat.lt_or_ge g w.heap.size with cJ|Nh
   ·exact this cJ hw
   ·obtain⟨l,b,p,o,h1,h2,h3,h4,h5⟩:=hw
    have:=hk.dS ⟨l,b,p,o,h1,h2,h4,h5⟩
    omega
  have Aq:=nh.BS
  
  have run:(oH+len)<=maxLen->(oH+len)*bG<=140737488355328->∃ r w',(Builtin.append_ #[t,t] ty #[v,.slice ad len c]).run G.cx.P w = .ok r w'/\w'.ownsRow 0 elem n r (oH+len) (xs++news)/\w.grownBy w' v.ownBlock/\(r.ownBlock=v.ownBlock\/r.ownBlock=some w.heap.size):=by
   intro h1 h2
   cases ad with
   | none =>
    have BT:len=0:=by rcases On with h|⟨g,o,h⟩<;>first|exact h|cases h
    subst BT
    have Ol:news = []:=List.eq_nil_of_length_eq_zero (by rw[Ap,Nat.zero_mul])
    subst Ol
    have hvv:∃ b m c',v = .slice b m c'/\m<=c':=by
     rcases fu.2 with ⟨rfl,_⟩|⟨g,cap,cur,rfl,_,_,hle,_⟩
     ·exact⟨_,_,_,rfl,Nat.le_refl _⟩
     ·exact⟨_,_,_,rfl,hle⟩
    obtain⟨b,m,c',rfl,hle⟩:=hvv
    refine⟨_,w,pN t ty elem i (hG.ok.un hu) hi b m c' c hle,?_,⟨rfl,rfl,rfl,Nat.le_refl _,fun _ _ _=>rfl⟩,.inl rfl⟩
    rw[List.append_nil]; exact fu
   | some ad =>
    obtain⟨r,w',hr,h3,h4,_,h5⟩:=run_append_own_at (P:=G.cx.P) w 0 t ty elem i zv n bG (hG.ok.un hu) hi Jf we U2 (by omega) iQ v oH xs fu ad len c news Ap (fun j u hj=>by
     rcases On with h0|⟨g,o,e⟩
     ·rw[h0,Nat.zero_mul] at Ap
      have:=List.eq_nil_of_length_eq_zero Ap
      subst this; simp at hj
     ·cases e
      rw[Ev.iv]; exact VN g o rfl j u hj) Aq h1 h2 (Nat.zero_le _)
    exact⟨r,w',hr,h3,h4,h5⟩
  
  have qB:∀ {r:Value} {w':World} {b:ak},w'.ownsRow 0 elem n r (oH+len) (xs++news)->w.grownBy w' v.ownBlock->(r.ownBlock=v.ownBlock\/r.ownBlock=some w.heap.size)->m8 (s.store kq) b q->b.m = .w ->
    (∀ (p:ow),((p.a=none/\p.len=0/\p.cap=0/\oH+len=0)\/∃ g cur,p.a=some (g,0)/\p.len=oH+len/\w'.heap[g]?=some (.cells cur elem (0,0))/\p.len<=p.cap/\p.cap<=maxLen/\cur.size=p.cap*n/\(∀ (j:Nat) (v:Value),(xs++news)[j]?=some v->cur[j]?=some v)) ->
     (∀ g,p.a=some (g,0)->Own I (β.set kq.length p) (kq++[b]) kq.length g (0,0) b)->(∀ g,I g->w'.heap[g]?=w.heap[g]?)->gd I (β.set kq.length p) (kq++[b]) w' kq.length b)->c9 G s I β w a q r w':=by
   intro r w' b wg hg nc h hm hb
   rcases wg.2 with ⟨rfl,h0⟩|⟨g,cap,cur,rfl,_,pP,hle,sC,gr,ix⟩
   ·have:=qA (p:=⟨none,0,0⟩) hR hk pO VP hv hg h (fun g o e=>by cases e) hm (hb ⟨none,0,0⟩ (.inl ⟨rfl,rfl,rfl,h0⟩))
    exact this
   ·have:=qA (p:=⟨some (g,0),oH+len,cap⟩) hR hk pO VP hv hg h (fun g' o e=>by
     cases e
     simp only[Value.ownBlock] at nc
     exact nc.imp (fun e=>e.symm) (fun e=>by cases e; rfl)) hm (hb ⟨some (g,0),oH+len,cap⟩ (.inr ⟨g,cur,rfl,rfl,pP,hle,sC,gr,fun j v hj=>by
      rw[← ix,List.getElem?_take] at hj
      split at hj
      ·simpa using hj
      ·cases hj⟩))
    exact this
  have uH:∀ {w':World},w.grownBy w' v.ownBlock->∀ g,I g->w'.heap[g]?=w.heap[g]?:=fun hg g hI=>hg.block g (hR.az.az g hI) fun e=>(hv g e.symm).2.1 hI
  have hlenE:(xs++news).length=(oH+len)*n:=by rw[List.length_append,sq,Ap,Nat.add_mul]
  have told:(bu (fL ag n dst) fun es=>bu (fL ag n src) fun fs=>es.length+fs.length<=maxLen/\(es.length+fs.length)*bG<=140737488355328/\m8 (s.store kq) ⟨.dyn,elem,n,.w,true,es++fs⟩ q)->∃ r w',(Builtin.append_ #[t,t] ty #[v,.slice ad len c]).run G.cx.P w = .ok r w'/\c9 G s I β w a q r w':=by
   intro h
   replace h:=aA h
   obtain⟨es,po,h⟩:=h
   replace h:=aA h
   obtain⟨fs,Oi,h⟩:=h
   obtain⟨he1,he2⟩:=fQ iQ VM po Ox sq
   obtain⟨hf1,hf2⟩:=fQ iQ VM Oi nh Ap
   obtain⟨h1,h2,h⟩:=h
   rw[he1,hf1] at h1 h2
   obtain⟨r,w',hr,wg,hg,nc⟩:=run h1 h2
   refine⟨r,w',hr,qB wg hg nc h rfl fun p hp hO hI=>⟨p,aB.dw ..,?_⟩⟩
   rcases hp with ⟨ha,hl,VQ,h0⟩|⟨g,cur,ha,hl,pP,hle,sC,gr,l_⟩
   ·exact⟨⟨iQ,by simp only[List.length_append]; omega,by omega,by rw[VQ]; exact Nat.zero_le _⟩,.inl ⟨ha,VQ⟩⟩
   ·refine⟨⟨iQ,by simp only[List.length_append]; omega,hle,sC⟩,.inr ⟨g,cur,(0,0),ha,pP,?_,hO g ha,gr⟩⟩
    exact (he2.append hf2).at (fun j v hj=>by rw[Ev.gb pP]; exact l_ j v hj) (fun _ h=>h) hI
  split at h
  ·rename_i cs ds
   rw[lv,lv,Nat.zero_add,Nat.zero_add] at h
   replace h:=bp h
   obtain⟨jq,h⟩:=h
   simp only[Bool.and_eq_true] at jq
   obtain⟨⟨⟨hd0,hd1⟩,hd2⟩,hd3⟩:=jq
   have hd0:0 < ds.length:=Nat.le_of_ble_eq_true hd0
   have hd2:=Nat.le_of_ble_eq_true hd2
   have hd3:=Nat.le_of_ble_eq_true hd3
   replace h:=cR h
   have Eb:cs.length=oH*n:=by rw[← Ox.1,sq]
   have hdl:ds.length=len*n:=by rw[← nh.1,Ap]
   have e1:oH<=oH*n:=Nat.le_mul_of_pos_right _ iQ
   have e2:len<=len*n:=Nat.le_mul_of_pos_right _ iQ
   obtain⟨r,w',hr,wg,hg,nc⟩:=run (by omega) (Nat.le_trans (Nat.mul_le_mul_right _ (by omega)) hd2)
   have Ni:0 < len:=by
    rcases Nat.eq_zero_or_pos len with h0|h0
    ·rw[h0,Nat.zero_mul] at hdl; omega
    ·exact h0
   refine⟨r,w',hr,qB wg hg nc h rfl fun p hp hO hI=>⟨p,aB.dw ..,?_⟩⟩
   rcases hp with ⟨ha,hl,VQ,h0⟩|⟨g,cur,ha,hl,pP,hle,sC,gr,l_⟩
   ·omega
   ·refine⟨g,cur,(0,0),ha,pP,fun j c hj=>?_,hO g ha,by simp only[List.length_append]; rw[hl,Nat.add_mul]; omega,hle,sC,gr,iQ⟩
    obtain⟨v',h1,h2,h3⟩:=(en.append Ox nh).2 j c hj
    exact⟨v',by rw[Nat.zero_add]; exact l_ j v' h1,PV.Is.mono (fun _ h=>h) hI c β _ v' (fun l p' _ eU=>aB.jz hk p l p' eU) h2,h3⟩
  ·exact told h
 ·exact h.elim
theorem wh (hR:Rel G I β s a w):∀ {os:List Operand} {q:List PV->Prop},Ad s os q->∃ l,q l/\bH w I l β (os.map a.eval)
 | [],q,h=>⟨[],h,by simp only[List.map_nil,bH]⟩
 | o::os,q,h=>by
  replace h:=bb.cI hR h
  obtain⟨x,h,hx⟩:=h
  obtain⟨l,h,hl⟩:=wh hR h
  exact⟨_,h,by simp only[List.map_cons,bH]; exact⟨hx,hl⟩⟩
theorem TM.oI {rl:List Nat}:∀ {t:TM} {n:Nat} {x:PV},(t.clear rl).get n=some x->t.get n=some x/\x.leads rl=false
 | .nil,n,x,h=>by cases h
 | .node v l r,n,x,h=>by
  simp only[TM.clear,TM.get] at h ⊢
  cases h0:Nat.beq n 0<;>rw[h0] at h
  ·cases h1:Nat.beq (n % 2) 1<;>rw[h1] at h
   ·exact TM.oI (t:=r) h
   ·exact TM.oI (t:=l) h
  ·cases v with
   | none=>cases h
   | some y =>
    simp only[cond_true] at h ⊢
    split at h
    ·cases h
    ·cases h
     rename_i hl
     exact⟨rfl,by simpa using hl⟩
theorem BU {rl:List Nat} {t:TM} {q:TM->Prop} (h:yE rl t q):∃ t',q t'/\∀ n x,t'.get n=some x->t.get n=some x/\∀ l∈x.dk,l ∉ rl:=by
 unfold yE at h
 split at h
 ·exact⟨t,h,fun n x hx=>⟨hx,fun _ _ hl=>by cases hl⟩⟩
 ·refine⟨_,h,fun n x hx=>?_⟩
  obtain⟨h1,h2⟩:=TM.oI hx
  refine⟨h1,fun l hl hr=>?_⟩
  unfold PV.leads at h2
  rw[List.any_eq_false] at h2
  refine h2 l hl (List.any_eq_true.2 ⟨l,hr,?_⟩)
  exact Nat.beq_refl l
theorem E7 (hR:Rel G I β s a w) {f:FuncId} {args:List PV} {bs:List Value} {q:PV->bb->Prop} (h:EL G s f args q) (ha:bH w I args β bs) :
  Ev.gX G.cx.P f/\Calls G.cx.P f bs.toArray w fun e w'=>∃ v,e = .returned v/\c9 G s I β w a q v w':=by
 obtain⟨n,t,st,b,rl0⟩:=s
 obtain⟨rl,Nj,hs⟩:=h
 unfold Spec at hs
 obtain⟨he,hs⟩:=hs
 refine⟨he,(hs I β w bs hR.heap hR.az ha).mono fun e w' ⟨v,r,S',I',aU,he,hk,hr,hH,hM,hE,hlen,mw⟩=>⟨v,he,?_⟩⟩
 obtain⟨t',hq,Ah⟩:=BU hk
 refine⟨r,_,I',aU,hq,⟨hR.small,hR.defers,hR.size,Nat.le_trans hR.base hlen,fun m x hx=>?_,hH,hM⟩,hr,hE,rfl,rfl,rfl,fun l hl hn=>?_,fun l b' dq hm=>mw l (List.getElem?_eq_some_iff.1 dq).1 fun hr=>(Nj l hr).2 b' dq hm⟩
 ·obtain⟨h1,h2⟩:=Ah m x hx
  obtain⟨u,hu,hi⟩:=hR.get m x h1
  refine⟨u,hu,PV.Is.mono hE.az (hE.keeps hR.heap hR.az.az) x β aU u (fun l p hl hp=>?_) hi⟩
  rw[mw l (hR.heap.lt hp) (h2 l hl)]; exact hp
 ·have jv:l < b:=hl
  refine mw l (Nat.lt_of_lt_of_le jv hR.base) fun hr=>?_
  rcases (Nj l hr).1 with h|h
  ·omega
  ·exact hn h
set_option maxHeartbeats 1000000 in
theorem uM (hG:ma G) (hR:Rel G I β s a w) {o:Oper} {q:PV->bb->Prop} (h:pop G s o q):Ev.mZ G.cx.P (c9 G s I β w a q) ((execOp a.eval o).run G.cx.P w):=by
 have wk:∀ {q':PV->Prop},ph G.cx s o.op q'->(∀ v,q' v->q v s)->Ev.mZ G.cx.P (c9 G s I β w a q) ((execOp a.eval o).run G.cx.P w):=by
  intro q' h hq
  obtain⟨x,r,hx,hi,hr⟩:=v5 hG.ok hR h
  rw[hr w]
  exact c9.same hR (hq x hx) hi
 unfold pop at h
 split at h
 ·
  rename_i t ad sF
  replace h:=bb.cI hR h
  obtain⟨x,h,hx⟩:=h
  obtain⟨z,v,g,h,hz,_,cg⟩:=qv hG.ok hR.heap hR.az h hx
  replace cg:=cg w rfl
  unfold execOp
  rw[sF]
  simp only[Sem.run_bind,cg,Result.andThen_ok,Sem.run_pure]
  exact c9.same hR h hz
 ·
  rename_i t ad y sF
  replace h:=bb.cI hR h
  obtain⟨x,h,hx⟩:=h
  replace h:=bb.cI hR h
  obtain⟨v,h,hv⟩:=h
  obtain⟨w',cg,hp⟩:=BR hG hR h hx hv
  unfold execOp
  rw[sF]
  simp only[Sem.run_bind,cg,Result.andThen_ok,Sem.run_pure]
  exact hp
 ·
  rename_i t sF
  replace h:=jx (w:=w) (I:=I) (β:=β) hG.ok h
  obtain⟨z,i,v,h,hi,Jf,uG⟩:=h
  replace h:=bp (cR h)
  obtain⟨dx,h⟩:=h
  rw[List.all_eq_true] at dx
  have cg:(execOp a.eval o).run G.cx.P w = .ok (.value (.pointer (some ⟨w.heap.size,0,none⟩))) (w.alloc (.cells v.cells t)):=by
   unfold execOp
   rw[sF]
   simp[Instr.alloc,zeroValue,typeInfo,hi,Jf,newVar,newRow]
  rw[cg]
  exact Am hR h uG dx
 ·
  rename_i t y sF
  replace h:=bb.cI hR h
  obtain⟨x,h,hx⟩:=h
  have cg:(execOp a.eval o).run G.cx.P w = .ok (.value (.pointer (some ⟨w.heap.size,0,none⟩))) (w.alloc (.cells (a.eval y).cells t)):=by
   unfold execOp
   rw[sF]
   simp[Instr.box,newVar,newRow]
  rw[cg]
  split at h
  ·exact h.elim
  ·rename_i Ai
   replace h:=bp h
   obtain⟨dx,h⟩:=h
   rw[List.all_eq_true] at dx
   exact Am hR (cR h) (hx.kF fun vs e=>Ai vs e) dx
 ·
  rename_i t len ps sF
  replace h:=aA h
  obtain⟨d,hu,h⟩:=h
  split at h
  ·rename_i elem
   replace h:=aA h
   obtain⟨n,hn,h⟩:=h
   replace h:=jx (w:=w) (I:=I) (β:=β) hG.ok h
   obtain⟨z,i,v,h,hi,Jf,uG⟩:=h
   replace h:=oC hR h
   obtain⟨l,h,hl⟩:=h
   replace h:=bp h
   obtain⟨hc,h⟩:=h
   simp only[Bool.and_eq_true] at hc
   have hzl:z.length=n:=Nat.eq_of_beq_eq_true hc.1.1
   have ni:len*n<=16777216:=Nat.le_of_ble_eq_true hc.1.2
   have iQ:0 < n:=Nat.le_of_ble_eq_true hc.2
   replace h:=m9 h
   obtain⟨cs,VR,h⟩:=h
   replace h:=bp (cR h)
   obtain⟨jq,h⟩:=h
   simp only[Bool.and_eq_true,List.all_eq_true] at jq
   have Eb:=Nat.eq_of_beq_eq_true jq.1.2
   have sC:=Nat.le_of_ble_eq_true jq.2
   have hzs:=uG.length
   simp only[Array.length_toList] at hzs
   have rep:∀ k,bH w I ((List.replicate k z).flatten) β ((List.replicate k v.cells.toList).flatten):=fun k=>by
    induction k with
    | zero=>simp only[List.replicate_zero,List.flatten_nil,bH]
    | succ k ih=>simp only[List.replicate_succ,List.flatten_cons]; exact uG.append ih
   have Oy:bH w I ((List.replicate len z).flatten) β ((Array.range (len*n)).map fun i=>v.cells[i % v.cells.size]!).toList:=by
    rw[show n=v.cells.size by omega,Ev.Ez len (by omega)]; exact rep len
   obtain⟨B,hB,VD⟩:=m_ VR Oy hl
   have cg:(execOp a.eval o).run G.cx.P w = .ok (.value (.slice (some ⟨w.heap.size,0,none⟩) len len)) (w.alloc (.cells B elem)):=by
    unfold execOp
    rw[sF]
    have hB':Instr.fill (fun i=>some (i*n,n)) ((Array.range (len*n)).map fun i=>v.cells[i % v.cells.size]!) (ps.map fun (i,y)=>(i,a.eval y)).toList=some B:=by
     rw[← hB]; simp
    have Nk:¬ (len*n > 2 ^ 24):=by omega
    by_cases h0:len*n=0
    ·have hE:∀ g:Nat->Value,(Array.range (len*n)).map g = #[]:=fun g=>by rw[h0]; simp
     rw[hE] at hB'
     simp only[Instr.buildSlice,Sem.run_bind,run_underlying (hG.ok.un hu),Result.andThen_ok,Ev.dQ hG.ok hn,if_neg Nk,if_pos h0,Sem.run_pure,hE,hB']
     simp[newRow]
    ·have hzr:(zeroValue elem).run G.cx.P w = .ok v w:=by simp[zeroValue,typeInfo,hi,Jf]
     simp only[Instr.buildSlice,Sem.run_bind,run_underlying (hG.ok.un hu),Result.andThen_ok,Ev.dQ hG.ok hn,if_neg Nk,if_neg h0,Sem.run_pure,hzr,hB']
     simp[newRow]
   rw[cg]
   exact E2 hR h VD jq.1.1 Eb iQ sC
  ·exact h.elim
 ·
  rename_i y UY argTypes sF
  replace h:=bb.cI hR h
  obtain⟨x,h,hx⟩:=h
  split at h
  ·rename_i f lR
   cases JR:G.ext.any (Nat.beq f) with
   | true=>rw[JR] at h; replace h:pK G s o q:=h; unfold pK at h; exact h I β a w hR
   | false =>
   rw[JR] at h
   replace h:Ad s UY fun l=>EL G s f (l++lR) q:=h
   simp only[PV.Is] at hx
   obtain⟨cvs,hfv,hcv⟩:=hx
   replace h:=wh hR h
   obtain⟨l,h,hl⟩:=h
   obtain⟨hent,VS⟩:=E7 hR h (hl.append hcv)
   have cg:(execOp a.eval o).run G.cx.P w = .ok (.enter f (UY.map a.eval++cvs.toList).toArray) w:=by
    unfold execOp
    rw[sF]
    have e1:(Array.mk UY).map a.eval++cvs=(UY.map a.eval++cvs.toList).toArray:=by simp
    simp only[resolve,hfv,Deferred.ofValue,Sem.run_bind,Sem.run_pure,Result.andThen_ok,invoke]
    simp only[Array.empty_append]
    rw[e1]
    exact hent _ w
   rw[cg]
   exact VS
  ·exact h.elim
 ·
  rename_i od ox t t' sF
  replace h:=bp h
  obtain⟨ht,h⟩:=h
  have:=Nat.eq_of_beq_eq_true ht
  subst this
  replace h:=bb.cI hR h
  obtain⟨d,h,hd⟩:=h
  replace h:=bb.cI hR h
  obtain⟨x,h,hx⟩:=h
  obtain⟨r,w',hr,hp⟩:=yN (ty:=o.type) hG hR h hd hx
  have cg:(execOp a.eval o).run G.cx.P w = .ok (.value r) w':=by
   unfold execOp
   rw[sF]
   simp[resolve,invoke,builtin,hr]
  rw[cg]
  exact hp
 ·unfold pK at h; exact h I β a w hR
 ·unfold pK at h; exact h I β a w hR
 ·unfold pK at h; exact h I β a w hR
 ·unfold pK at h; exact h I β a w hR
 ·unfold pK at h; exact h I β a w hR
 ·unfold pK at h; exact h I β a w hR
 ·rename_i src dst ox sF
  cases hb:Nat.beq dst 9 with
  | true=>rw[hb] at h; replace h:pK G s o q:=h; unfold pK at h; exact h I β a w hR
  | false=>rw[hb] at h; exact wk (by rw[sF]; exact h) fun _ h=>h
 ·exact wk h fun _ h=>h
end
section
variable {w w':World} {I I':Nat->Prop} {β aU:aB} {cx:Ev.Cx} {G:Gx} {P:Program} {s:bb} {a:Act} {st eA:List ak}
theorem TM.p7 {v:Option PV}:∀ {f:Nat} {t:TM} {n:Nat} {k:TM->Prop},TM.uz v f t n k->∃ t',k t'/\∀ m,t'.get m=if m=n then v else t.get m
 | 0,_,_,_,h=>h.elim
 | f+1,t,n,k,h=>by
  have arith:∀ m,Nat.beq n 0=false->(m=n↔Nat.beq m 0=false/\m % 2=n % 2/\(m - 1) / 2=(n - 1) / 2):=fun m h0=>by
   have hn:n≠0:=fun e=>by subst e; cases h0
   constructor
   ·rintro rfl; exact⟨h0,rfl,rfl⟩
   ·rintro⟨h1,h2,h3⟩
    have hm:m≠0:=fun e=>by subst e; cases h1
    omega
  have key:∀ (u:Option PV) (l r:TM),(bif Nat.beq n 0 then k (.node v l r) else bif Nat.beq (n % 2) 1 then TM.uz v f l ((n - 1) / 2) (fun t=>k (.node u t r)) else TM.uz v f r ((n - 1) / 2) (fun t=>k (.node u l t))) ->
    ∃ t',k t'/\∀ m,t'.get m=if m=n then v else (TM.node u l r).get m:=by
   intro u l r h
   cases h0:Nat.beq n 0<;>rw[h0] at h
   ·cases h1:Nat.beq (n % 2) 1<;>rw[h1] at h
    ·obtain⟨t',hk,ht⟩:=TM.p7 h
     refine⟨_,hk,fun m=>?_⟩
     have hp:n % 2=0:=by
      have:n % 2≠1:=fun e=>by rw[e] at h1; cases h1
      omega
     simp only[TM.get]
     cases pL:Nat.beq m 0
     ·cases pZ:Nat.beq (m % 2) 1
      ·have qC:m % 2=0:=by
        have:m % 2≠1:=fun e=>by rw[e] at pZ; cases pZ
        omega
       simp only[cond_false,ht]
       by_cases e:(m - 1) / 2=(n - 1) / 2
       ·rw[if_pos e,if_pos ((arith m h0).2 ⟨pL,by omega,e⟩)]
       ·rw[if_neg e,if_neg fun e'=>e ((arith m h0).1 e').2.2]
      ·have qC:m % 2=1:=Nat.eq_of_beq_eq_true pZ
       simp only[cond_false,cond_true]
       rw[if_neg fun e'=>by rw[e'] at qC; omega]
     ·have:=Nat.eq_of_beq_eq_true pL
      subst this
      simp only[cond_true]
      rw[if_neg fun e=>by rw[← e] at h0; cases h0]
    ·obtain⟨t',hk,ht⟩:=TM.p7 h
     refine⟨_,hk,fun m=>?_⟩
     have hp:n % 2=1:=Nat.eq_of_beq_eq_true h1
     simp only[TM.get]
     cases pL:Nat.beq m 0
     ·cases pZ:Nat.beq (m % 2) 1
      ·simp only[cond_false]
       rw[if_neg fun e'=>by rw[e'] at pZ; rw[pZ] at h1; cases h1]
      ·have qC:m % 2=1:=Nat.eq_of_beq_eq_true pZ
       simp only[cond_false,cond_true,ht]
       by_cases e:(m - 1) / 2=(n - 1) / 2
       ·rw[if_pos e,if_pos ((arith m h0).2 ⟨pL,by omega,e⟩)]
       ·rw[if_neg e,if_neg fun e'=>e ((arith m h0).1 e').2.2]
     ·have:=Nat.eq_of_beq_eq_true pL
      subst this
      simp only[cond_true]
      rw[if_neg fun e=>by rw[← e] at h0; cases h0]
   ·have:=Nat.eq_of_beq_eq_true h0
    subst this
    refine⟨_,h,fun m=>?_⟩
    simp only[TM.get]
    cases pL:Nat.beq m 0
    ·rw[if_neg fun e=>by subst e; cases pL]; rfl
    ·rw[if_pos (Nat.eq_of_beq_eq_true pL)]; rfl
  cases t with
  | nil =>
   obtain⟨t',hk,ht⟩:=key none .nil .nil h
   refine⟨t',hk,fun m=>?_⟩
   rw[ht]
   split
   ·rfl
   ·simp only[TM.get]; cases Nat.beq m 0<;>cases Nat.beq (m % 2) 1<;>rfl
  | node u l r=>exact key u l r h
structure iX (s s':bb):Prop where
 n:s'.n=s.n
 st:s'.st=s.st
 base:s'.base=s.base
 rl:s'.rl=s.rl
theorem bb.bU {dst:Option Tmp} {x:PV} {k:bb->Prop} (h:s.put dst x k):∃ s',k s'/\iX s s'/\∀ I β a w v,Rel G I β s a w->x.Is w I β v->Rel G I β s' (a.put dst v) w:=by
 obtain⟨n,t,st,b,rl⟩:=s
 unfold bb.put at h
 simp only at h
 split at h
 ·exact⟨_,h,⟨rfl,rfl,rfl,rfl⟩,fun I β a w v hR _=>hR⟩
 ·rename_i d
  replace h:=bp h
  obtain⟨hd,h⟩:=h
  have hd:d < n:=Nat.le_of_ble_eq_true hd
  replace h:=EM h
  obtain⟨t',hk,ht⟩:=TM.p7 h
  refine⟨_,hk,⟨rfl,rfl,rfl,rfl⟩,fun I β a w v hR hx=>⟨hR.small,hR.defers,by simpa [Act.put] using hR.size,hR.base,fun m y hy=>?_,hR.heap,hR.az⟩⟩
  have fF:d < a.tmps.size:=by rw[hR.size]; exact hd
  have BV:t'.get m=some y:=hy
  rw[ht] at BV
  by_cases e:m=d
  ·subst e
   rw[if_pos rfl] at BV
   cases BV
   exact⟨v,by simp[Act.put,fF],hx⟩
  ·rw[if_neg e] at BV
   obtain⟨u,hu,hi⟩:=hR.get m y BV
   exact⟨u,by simp only[Act.put,Array.getElem?_setIfInBounds_ne (Ne.symm e)]; exact hu,hi⟩
theorem bb.lz {t:Nat} {x:PV} {v:Value} {k:bb->Prop} (hR:Rel G I β s a w) (hv:a.tmps[t]?=some v) (hx:x.Is w I β v) (h:s.put (some t) x k):∃ s',k s'/\iX s s'/\Rel G I β s' a w:=by
 obtain⟨s',hk,hs,hr⟩:=bb.bU (G:=G) h
 refine⟨s',hk,hs,?_⟩
 have:=hr I β a w v hR hx
 have e:a.put (some t) v=a:=by
  unfold Act.put
  simp only
  have:a.tmps.setIfInBounds t v=a.tmps:=by
   apply Array.ext_getElem?
   intro i
   rw[Array.getElem?_setIfInBounds]
   split
   ·rename_i hi
    subst hi
    have:=(Array.getElem?_eq_some_iff.1 hv).1
    rw[if_pos this,hv]
   ·rfl
  rw[this]
 rw[e] at this
 exact this
theorem Is.undef:(PV.tup []).Is w I β Go.undef:=by simp only[PV.Is]; exact⟨#[],rfl,by simp only[bH]⟩
theorem jB {ops:Array Oper} {o:Oper} {run skip:bb->Prop} (hR:Rel G I β s a w) (h:oA ops.toList s o run skip) :
  (Region.wanted o (yielded ops a.tmps)=true/\∃ s',run s'/\iX s s'/\Rel G I β s' a w)\/(Region.wanted o (yielded ops a.tmps)=false/\∃ s',skip s'/\iX s s'/\Rel G I β s' a w):=by
 have same:iX s s:=⟨rfl,rfl,rfl,rfl⟩
 unfold oA at h
 cases hg:o.guard with
 | none =>
  rw[hg] at h
  exact .inl ⟨by simp[Region.wanted,hg],s,h,same,hR⟩
 | some jw =>
  obtain⟨j,want⟩:=jw
  rw[hg] at h
  simp only at h
  replace h:=aA h
  obtain⟨t,ht,h⟩:=h
  replace h:=aA h
  obtain⟨x,hx,h⟩:=h
  obtain⟨v,hv,hi⟩:=hR.get t x hx
  have Ah:(ops[j]?).bind (·.dst)=some t:=by simpa using ht
  have hy:∀ b,v = .bool b->Region.wanted o (yielded ops a.tmps)=(b == want):=fun b hb=>by
   subst hb
   have:yielded ops a.tmps j=some b:=by unfold yielded; rw[Option.bind_eq_some_iff.2 ⟨t,Ah,hv⟩]
   simp[Region.wanted,hg,this]
  split at h<;>try simp only[PV.Is] at hi
  ·cases want
   ·exact .inr ⟨by rw[hy _ hi]; rfl,s,h,same,hR⟩
   ·exact .inl ⟨by rw[hy _ hi]; rfl,s,h,same,hR⟩
  ·cases want
   ·exact .inl ⟨by rw[hy _ hi]; rfl,s,h,same,hR⟩
   ·exact .inr ⟨by rw[hy _ hi]; rfl,s,h,same,hR⟩
  ·rename_i p
   by_cases hp:p
   ·obtain⟨s',hk,hs,hr⟩:=bb.lz hR hv (x:=.tt) (by rw[hi,cv hp]; exact Is.tt) (h.1 hp)
    cases want
    ·exact .inr ⟨by rw[hy _ hi,cv hp]; rfl,s',hk,hs,hr⟩
    ·exact .inl ⟨by rw[hy _ hi,cv hp]; rfl,s',hk,hs,hr⟩
   ·obtain⟨s',hk,hs,hr⟩:=bb.lz hR hv (x:=.ff) (by rw[hi,b_ hp]; exact Is.ff) (h.2 hp)
    cases want
    ·exact .inl ⟨by rw[hy _ hi,b_ hp]; rfl,s',hk,hs,hr⟩
    ·exact .inr ⟨by rw[hy _ hi,b_ hp]; rfl,s',hk,hs,hr⟩
  ·obtain⟨vs,rfl,_⟩:=hi
   refine .inr ⟨?_,s,h,same,hR⟩
   have:yielded ops a.tmps j=none:=by unfold yielded; rw[Option.bind_eq_some_iff.2 ⟨t,Ah,hv⟩]
   simp[Region.wanted,hg,this]
  ·exact h.elim
structure bW (I:Nat->Prop) (β:aB) (s:bb) (w:World) (I':Nat->Prop) (aU:aB) (s':bb) (w':World):Prop where
 ext:Ext I β s.st w I' aU s'.st w'
 base:s'.base=s.base
 rl:s'.rl=s.rl
 n:s'.n=s.n
 low:∀ l,l < s.base->l ∉ s.rl->aU l=β l
theorem bW.same {s':bb} (h:iX s s'):bW I β s w I β s' w:=⟨by rw[h.st]; exact Ext.refl,h.base,h.rl,h.n,fun _ _ _=>rfl⟩
theorem bW.trans {Vv:Nat->Prop} {ED:aB} {s' s'':bb} {vN:World} (h:bW I β s w I' aU s' w') (k:bW I' aU s' w' Vv ED s'' vN):bW I β s w Vv ED s'' vN :=
 ⟨h.ext.trans k.ext,k.base.trans h.base,k.rl.trans h.rl,k.n.trans h.n,fun l hl hr=>(k.low l (by rw[h.base]; exact hl) (by rw[h.rl]; exact hr)).trans (h.low l hl hr)⟩
theorem uN (hG:ma G) {ops:Array Oper} {Q:X->bb->Prop} {Q':Exit->Act->World->Prop}:∀ (l:List Oper) {s:bb} {a:Act} {I:Nat->Prop} {β:aB} {w:World},BM G ops.toList Q l s->Rel G I β s a w ->
  (∀ x s' I' aU a' w',Q x s'->Rel G I' aU s' a' w'->bW I β s w I' aU s' w'->Q' (X.e x) a' w')->wpList G.cx.P ops Q' l a w
 | [],s,a,I,β,w,h,hR,hQ=>hQ .iw s I β a w h hR (bW.same ⟨rfl,rfl,rfl,rfl⟩)
 | o::l,s,a,I,β,w,h,hR,hQ=>by
  unfold wpList
  rcases jB hR h with ⟨hw,s1,h1,mv,iy⟩|⟨hw,s1,h1,mv,iy⟩
  ·rw[hw,if_pos rfl]
   refine .inl (Ev.uy (uM hG iy h1) fun v w' hp=>?_)
   obtain⟨x,s2,I2,gx,h2,nj,hx,hE,e1,e2,e3,gu,_⟩:=hp
   obtain⟨s3,h3,mV,sG⟩:=bb.bU (G:=G) h2
   have g1:bW I β s w I2 gx s2 w':=(bW.same mv).trans ⟨hE,e1,e2,e3,gu⟩
   exact uN hG l h3 (sG _ _ _ _ v nj hx) fun x s' I' aU a' vN hq dt hg=>hQ x s' I' aU a' vN hq dt ((g1.trans (bW.same mV)).trans hg)
  ·rw[hw,if_neg (by simp)]
   obtain⟨s3,h3,mV,sG⟩:=bb.bU (G:=G) h1
   exact uN hG l h3 (sG _ _ _ _ _ iy Is.undef) fun x s' I' aU a' vN hq dt hg=>hQ x s' I' aU a' vN hq dt (((bW.same mv).trans (bW.same mV)).trans hg)
end
def mz:Op->Bool
 | .load ..=>true
 | _=>false
def bq (op:Op):Bool:=!(Ev.mo op || mz op)
structure lU where
 k:Nat
 D:List Nat
 Y:World->Prop
section
variable {P:Program} {ops:Array Oper} {Q:Exit->Act->World->Prop}
def Yields (P:Program) (ops:Array Oper) (S:World->Prop) (o:Oper) (v:Value) (a:Act):Prop :=
 (Region.wanted o (yielded ops a.tmps)=true/\∀ w,S w->(execOp a.eval o).run P w = .ok (.value v) w)\/(Region.wanted o (yielded ops a.tmps)=false/\v=undef)
theorem Yields.mono {S S':World->Prop} {o:Oper} {v:Value} {a:Act} (hS:∀ w,S' w->S w) (h:Yields P ops S o v a):Yields P ops S' o v a:=h.imp (fun ⟨h1,h2⟩=>⟨h1,fun w hw=>h2 w (hS w hw)⟩) id
theorem Yields.of_same {S:World->Prop} {o:Oper} {v:Value} {a a':Act} (hy:Yields P ops S o v a) (he:execOp a'.eval o=execOp a.eval o) (hw:Region.wanted o (yielded ops a'.tmps)=Region.wanted o (yielded ops a.tmps)):Yields P ops S o v a':=by
 unfold Yields at *; rw[he,hw]; exact hy
def dc (i:Nat) (pins:List lU):List lU:=pins.filter fun p=>!p.D.any (Nat.beq i)
def dU (P:Program) (ops:Array Oper) (Q:Exit->Act->World->Prop):Nat->Array Bool->Act->(World->Prop)->List lU->Prop
 | 0,l,a,S,_=>Region.ready .any ops l = []/\∀ w,S w->Q .normal a w
 | f+1,l,a,S,pins=>(Region.ready .any ops l = []->∀ w,S w->Q .normal a w)/\∀ i∈Region.ready .any ops l,∀ o,ops[i]?=some o ->
   (bq o.op=false->∃ v,Yields P ops S o v a/\dU P ops Q f (l.setIfInBounds i true) (a.put o.dst v) S (dc i pins)) /\
   (bq o.op=true->∀ w,S w->Ev.pJ P ops o a w fun v w'=>∃ S':World->Prop,(∀ p∈dc i pins,∀ w,S' w->p.Y w)/\S' w'/\dU P ops Q f (l.setIfInBounds i true) (a.put o.dst v) S' (dc i pins))
theorem dU.sound:∀ (f:Nat) (l:Array Bool) (a:Act) (S:World->Prop) (pins:List lU) (w:World),dU P ops Q f l a S pins->S w->wpAny P .any ops Q f l a w
 | 0,l,a,S,_,w,h,hw=>⟨h.1,h.2 w hw⟩
 | f+1,l,a,S,pins,w,h,hw=>by
  refine⟨fun h0=>h.1 h0 w hw,fun i hi=>?_⟩
  obtain⟨o,ho⟩:=Ev.vU hi
  obtain⟨h0,h1⟩:=h.2 i hi o ho
  unfold wpOp
  rw[ho]
  simp only
  by_cases hl:bq o.op=false
  ·obtain⟨v,hy,hn⟩:=h0 hl
   rcases hy with ⟨iz,hy⟩|⟨iz,rfl⟩
   ·rw[if_pos iz]
    refine .inl (Ev.uy (K:=fun u w'=>u=v/\w'=w) (by rw[hy w hw]; exact⟨rfl,rfl⟩) fun u w' ⟨hu,hb⟩=>?_)
    subst hu; subst hb
    exact dU.sound f _ _ S _ w' hn hw
   ·rw[if_neg (by rw[iz]; simp)]
    exact dU.sound f _ _ S _ w hn hw
  ·rcases h1 (by simpa using hl) w hw with ⟨iz,hd⟩|⟨iz,S',_,Jj,hn⟩
   ·rw[if_pos iz]
    refine .inl (Ev.uy hd fun u w' ⟨S',_,Jj,hn⟩=>?_)
    exact dU.sound f _ _ S' _ w' hn Jj
   ·rw[if_neg (by rw[iz]; simp)]
    exact dU.sound f _ _ S' _ w hn Jj
theorem lA {o:Oper} {a:Act} {w:World} {K K':Value->World->Prop} (hK:∀ v w,K v w->K' v w) (h:Ev.pJ P ops o a w K):Ev.pJ P ops o a w K':=Ev.pJ.mono hK h
theorem oJ {i:Nat} {pins tB:List lU} (h:∀ p∈tB,p∈pins):∀ p∈dc i tB,p∈dc i pins:=fun p hp=>by
 unfold dc at *
 rw[List.mem_filter] at *
 exact⟨h p hp.1,hp.2⟩
theorem dU.sub:∀ (f:Nat) (l:Array Bool) (a:Act) (S:World->Prop) (pins tB:List lU),(∀ p∈tB,p∈pins)->dU P ops Q f l a S pins->dU P ops Q f l a S tB
 | 0,_,_,_,_,_,_,h=>h
 | f+1,l,a,S,pins,tB,hs,h=>by
  refine⟨h.1,fun i hi o ho=>?_⟩
  obtain⟨h0,h1⟩:=h.2 i hi o ho
  refine⟨fun hl=>?_,fun hl w hw=>lA (fun v w' ⟨S',h2,h3,h4⟩=>⟨S',fun p hp=>h2 p (oJ hs p hp),h3,dU.sub f _ _ _ _ _ (oJ hs) h4⟩) (h1 hl w hw)⟩
  obtain⟨v,hy,hn⟩:=h0 hl
  exact⟨v,hy,dU.sub f _ _ _ _ _ (oJ hs) hn⟩
theorem dU.first {i:Nat} {oi:Oper} {v:Value} {D:List Nat} {Y:World->Prop} (hi:ops[i]?=some oi) (hli:bq oi.op=false) (yO:Region.noSelect ops=true) :
  ∀ (f:Nat) (l:Array Bool) (a:Act) (S:World->Prop) (pins:List lU),
   (∀ j oj,ops[j]?=some oj->j≠i->l.getD j true=false->(∀ e∈oj.after,Region.binds .any e=true->e.on≠i)->oi.apart ops oj=true) ->
   (∀ j∈D,l.getD j false=false/\∃ oj,ops[j]?=some oj/\∃ e∈oj.after,Region.binds .any e=true/\(e.on=i\/e.on∈D)) ->
   Yields P ops Y oi v a->(∀ w,S w->Y w)->i∈Region.ready .any ops l->dU P ops Q f (l.setIfInBounds i true) (a.put oi.dst v) S (⟨i,D,Y⟩::pins)->dU P ops Q (f+1) l a S pins:=by
 intro f
 induction f with
 | zero =>
  intro l a S pins _ _ hY hSY hr H
  refine⟨fun h0=>(by rw[h0] at hr; cases hr),fun j hj o ho=>?_⟩
  by_cases Ec:j=i
  ·subst Ec
   rw[hi] at ho; cases ho
   exact⟨fun _=>⟨v,hY.mono hSY,H⟩,fun h=>by rw[hli] at h; cases h⟩
  ·have:=ready_mono hj Ec
   rw[H.1] at this
   cases this
 | succ f ih =>
  intro l a S pins Nl hD hY hSY hr H
  refine⟨fun h0=>(by rw[h0] at hr; cases hr),fun j hj oj lV=>?_⟩
  by_cases Ec:j=i
  ·subst Ec
   rw[hi] at lV; cases lV
   refine⟨fun _=>⟨v,hY.mono hSY,?_⟩,fun h=>by rw[hli] at h; cases h⟩
   refine dU.sub _ _ _ _ _ _ (fun p hp=>?_) H
   unfold dc at hp
   exact List.mem_cons_of_mem _ (List.mem_filter.1 hp).1
  ·obtain⟨VT,oj',qD,dx⟩:=mem_ready.1 hj
   rw[lV] at qD; cases qD
   have Oz:=(mem_ready.1 hr).1
   have VU:l.getD i false=false:=by
    have cJ:i < l.size:=by
     rcases Nat.lt_or_ge i l.size with h'|h'
     ·exact h'
     ·simp[Array.getElem?_eq_none h'] at Oz
    simp[cJ] at Oz ⊢; exact Oz
   have VV:∀ e∈oj.after,Region.binds .any e=true->e.on≠i:=fun e he hb heq=>by
    have h1:=dx e he hb
    rw[heq,VU] at h1; cases h1
   have hjD:D.any (Nat.beq j)=false:=by
    rw[List.any_eq_false]
    intro x hx e
    have:=Nat.eq_of_beq_eq_true e
    subst this
    obtain⟨_,oj2,VE,ed,he,hb,h3⟩:=hD j hx
    rw[lV] at VE; cases VE
    rcases h3 with h3|h3
    ·exact VV ed he hb h3
    ·have h4:=dx ed he hb
     rw[(hD _ h3).1] at h4; cases h4
   have hjD':j ∉ D:=fun hm=>by
    rw[List.any_eq_false] at hjD
    exact hjD j hm (Nat.beq_refl j)
   have U3:dc j (⟨i,D,Y⟩::pins)=⟨i,D,Y⟩::dc j pins:=by
    unfold dc
    rw[List.filter_cons,if_pos (by simp only[hjD]; rfl)]
   have hap:=Nl j oj lV Ec VT VV
   obtain⟨a1,a2,a3⟩:=Oper.apart_spec hap
   have hsi:=fun cs b=>Region.noSelect_spec yO i oi cs b hi
   have hsj:=fun cs b=>Region.noSelect_spec yO j oj cs b lV
   have ej:execOp (a.put oi.dst v).eval oj=execOp a.eval oj:=execOp_put oj hsj a oi.dst v a1
   have wj:Region.wanted oj (yielded ops (a.put oi.dst v).tmps)=Region.wanted oj (yielded ops a.tmps):=wanted_put oj a oi.dst v a1
   have ei:∀ u,execOp (a.put oj.dst u).eval oi=execOp a.eval oi:=fun u=>execOp_put oi hsi a oj.dst u a3
   have wi:∀ u,Region.wanted oi (yielded ops (a.put oj.dst u).tmps)=Region.wanted oi (yielded ops a.tmps):=fun u=>wanted_put oi a oj.dst u a3
   have E8:∀ k ok,ops[k]?=some ok->k≠i->(l.setIfInBounds j true).getD k true=false->(∀ e∈ok.after,Region.binds .any e=true->e.on≠i)->oi.apart ops ok=true:=fun k ok hk hki U3 Ar=>by
    refine Nl k ok hk hki ?_ Ar
    by_cases hjk:j=k
    ·subst hjk; exact VT
    ·rw[getD_set_ne true hjk] at U3; exact U3
   have hD':∀ k∈D,(l.setIfInBounds j true).getD k false=false/\∃ oj,ops[k]?=some oj/\∃ e∈oj.after,Region.binds .any e=true/\(e.on=i\/e.on∈D):=fun k hk=>by
    refine⟨?_,(hD k hk).2⟩
    rw[getD_set_ne false (fun e=>hjD' (by rw[e]; exact hk))]
    exact (hD k hk).1
   obtain⟨h0,h1⟩:=H.2 j (ready_mono hj Ec) oj lV
   rw[U3] at h0 h1
   refine⟨fun hl=>?_,fun hl w hw=>?_⟩
   ·obtain⟨u,hu,hn⟩:=h0 hl
    refine⟨u,hu.of_same ej.symm wj.symm,?_⟩
    refine ih (l.setIfInBounds j true) (a.put oj.dst u) S (dc j pins) E8 hD' (hY.of_same (ei u) (wi u)) hSY (ready_mono hr (Ne.symm Ec)) ?_
    rw[Array.setIfInBounds_comm _ _ Ec,← Act.put_comm a v u a2]
    exact hn
   ·have hd:=h1 hl w hw
    unfold Ev.pJ at hd ⊢
    rw[ej,wj] at hd
    have step:∀ u w',(∃ S':World->Prop,(∀ p∈⟨i,D,Y⟩::dc j pins,∀ w,S' w->p.Y w)/\S' w'/\dU P ops Q f ((l.setIfInBounds i true).setIfInBounds j true) ((a.put oi.dst v).put oj.dst u) S' (⟨i,D,Y⟩::dc j pins)) ->
      ∃ S':World->Prop,(∀ p∈dc j pins,∀ w,S' w->p.Y w)/\S' w'/\dU P ops Q (f+1) (l.setIfInBounds j true) (a.put oj.dst u) S' (dc j pins):=by
     rintro u w' ⟨S',Jj,hw',hn⟩
     refine⟨S',fun p hp=>Jj p (List.mem_cons_of_mem _ hp),hw',ih (l.setIfInBounds j true) (a.put oj.dst u) S' (dc j pins) E8 hD' (hY.of_same (ei u) (wi u)) (Jj _ List.mem_cons_self) (ready_mono hr (Ne.symm Ec)) ?_⟩
     rw[Array.setIfInBounds_comm _ _ Ec,← Act.put_comm a v u a2]
     exact hn
    rcases hd with ⟨hw1,hd⟩|⟨hw1,hd⟩
    ·exact .inl ⟨hw1,Ev.lr step hd⟩
    ·exact .inr ⟨hw1,step _ _ hd⟩
end
end Go.Proofs.YtlgkljpgagfndaaGreatDoor.Pw

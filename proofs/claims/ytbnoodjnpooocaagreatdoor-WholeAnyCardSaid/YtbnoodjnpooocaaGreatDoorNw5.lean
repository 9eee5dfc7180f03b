/- What this claim is proved with: no condition. -/
import Derived.Test.YtbnoodjnpooocaaGreatDoorNw4
import Derived.Maps.AppendAt
set_option linter.unusedVariables false
set_option linter.unusedSimpArgs false
namespace Go.Proofs.YtbnoodjnpooocaaGreatDoor.Pw
open Go Go.RowKit
structure fD (G:Gx):Prop where
 ok:Ev.fR G.cx
 bE:∀ p∈G.bt,∃ i,G.cx.P.info? p.1=some i/\i.bytes=p.2
section
variable {w w':World} {I I':Nat->Prop} {β ay:an} {cx:Ev.Cx} {G:Gx} {P:Program} {s:aD} {a:Act} {st dY:List aj}
theorem aD.dT (s:aD) (st:List aj):(s.store st).n=s.n/\(s.store st).t=s.t/\(s.store st).st=st/\(s.store st).base=s.base/\(s.store st).rl=s.rl:=by
 cases s; exact⟨rfl,rfl,rfl,rfl,rfl⟩
theorem Rel.grow (hR:Rel G I β s a w) (hh:aC I' ay dY w') (he:Ext I β s.st w I' ay dY w') (ny:∀ l p,β l=some p->ay l=some p) (hl:s.st.length<=dY.length) (hI:∀ g,I' g->g < w'.heap.size):Rel G I' ay (s.store dY) a w':=by
 obtain⟨e1,e2,e3,e4,e5⟩:=aD.dT s dY
 exact⟨by rw[e1]; exact hR.small,hR.defers,by rw[e1]; exact hR.size,by rw[e4,e3]; exact Nat.le_trans hR.base hl,fun t x ht=>by
  rw[e2] at ht
  obtain⟨v,hv,hi⟩:=hR.get t x ht
  exact⟨v,hv,PV.Is.mono he.au (he.keeps hR.heap hR.au.au) x β ay v (fun l p _=>ny l p) hi⟩,by rw[e3]; exact hh,hR.au.ext hR.heap he hI⟩
theorem bF.mk' (hR:Rel G I β s a w) {q:PV->aD->Prop} {x:PV} {v:Value} (h:q x (s.store dY)) (hh:aC I ay dY w') (he:Ext I β s.st w I ay dY w') (ny:∀ l p,β l=some p->ay l=some p) (hl:s.st.length<=dY.length) (dU:∀ l,l < s.st.length->ay l=β l)
  (hx:x.Is w' I ay v):bF G s I β w a q v w':=by
 obtain⟨e1,e2,e3,e4,e5⟩:=aD.dT s dY
 exact⟨x,_,I,ay,h,hR.grow hh he ny hl (fun g hg=>Nat.lt_of_lt_of_le (hR.au.au g hg) he.size),hx,by rw[e3]; exact he,e4,e5,e1,fun l iu _=>dU l (Nat.lt_of_lt_of_le iu hR.base),fun l b hb _=>dU l (List.getElem?_eq_some_iff.1 hb).1⟩
theorem bF.same (hR:Rel G I β s a w) {q:PV->aD->Prop} {x:PV} {v:Value} (h:q x s) (hx:x.Is w I β v):bF G s I β w a q v w :=
 ⟨x,s,I,β,h,hR,hx,Ext.refl,rfl,rfl,rfl,fun _ _ _=>rfl,fun _ _ _ _=>rfl⟩
theorem qg {i:Int} {v:PV} {off m k:Nat}:∀ {cs r:List PV} {p:Nat},nw i v off m k p cs=some r->∀ (j:Nat) (c:PV),r[j]?=some c->∃ c0,cs[j]?=some c0 /\
  ((¬ (off<=p+j/\p+j < off+k*m/\(p+j - off) % m=0)/\c=c0)\/((off<=p+j/\p+j < off+k*m/\(p+j - off) % m=0)/\mix (i=(((p+j - off) / m:Nat):Int)) v c0=some c))
 | [],r,p,h,j,c,hj=>by simp only[nw,Option.some.injEq] at h; subst h; simp at hj
 | x::cs,r,p,h,j,c,hj=>by
  unfold nw at h
  cases hc:(Nat.ble off p && Nat.blt p (off+k*m) && Nat.beq ((p - off) % m) 0) with
  | true =>
   rw[hc,cond_true] at h
   split at h
   ·rename_i y l hy hl
    cases h
    simp only[Bool.and_eq_true] at hc
    have c1:=Nat.le_of_ble_eq_true hc.1.1
    have c2:p < off+k*m:=Nat.le_of_ble_eq_true hc.1.2
    have c3:=Nat.eq_of_beq_eq_true hc.2
    cases j with
    | zero=>simp only[List.getElem?_cons_zero,Option.some.injEq] at hj; subst hj; exact⟨x,rfl,.inr ⟨⟨c1,c2,c3⟩,hy⟩⟩
    | succ j =>
     obtain⟨c0,h0,h1⟩:=qg hl j c hj
     rw[show p+1+j=p+(j+1) by omega] at h1
     exact⟨c0,h0,h1⟩
   ·cases h
  | false =>
   rw[hc,cond_false] at h
   split at h
   ·rename_i l hl
    cases h
    cases j with
    | zero =>
     simp only[List.getElem?_cons_zero,Option.some.injEq] at hj; subst hj
     refine⟨x,rfl,.inl ⟨fun ⟨a1,a2,a3⟩=>?_,rfl⟩⟩
     have:(Nat.ble off p && Nat.blt p (off+k*m) && Nat.beq ((p - off) % m) 0)=true:=by
      simp only[Bool.and_eq_true]
      exact⟨⟨Nat.ble_eq_true_of_le a1,Nat.ble_eq_true_of_le a2⟩,by rw[show (p - off) % m=0 from a3]; rfl⟩
     rw[hc] at this; cases this
    | succ j =>
     obtain⟨c0,h0,h1⟩:=qg hl j c hj
     rw[show p+1+j=p+(j+1) by omega] at h1
     exact⟨c0,h0,h1⟩
   ·cases h
theorem qh {i:Int} {v:PV} {off m k:Nat}:∀ {cs r:List PV} {p:Nat},nw i v off m k p cs=some r->r.length=cs.length
 | [],r,p,h=>by simp only[nw,Option.some.injEq] at h; subst h; rfl
 | x::cs,r,p,h=>by
  unfold nw at h
  cases hc:(Nat.ble off p && Nat.blt p (off+k*m) && Nat.beq ((p - off) % m) 0) with
  | true =>
   rw[hc,cond_true] at h
   split at h
   ·rename_i y l hy hl
    cases h; rw[List.length_cons,List.length_cons,qh hl]
   ·cases h
  | false =>
   rw[hc,cond_false] at h
   split at h
   ·rename_i l hl
    cases h; rw[List.length_cons,List.length_cons,qh hl]
   ·cases h
theorem HW {p:Prop} [Decidable p] {x c z:PV} (h:mix p x c=some z):∃ k a b,z = .int k (if p then a else b)/\(x = .int k a\/x = .lit k a)/\(c = .int k b\/c = .lit k b):=by
 have key:∀ (k l:IntKind) (a b:Int),(if decide (k=l)=true then some (PV.int k (if p then a else b)) else none)=some z->k=l/\z = .int k (if p then a else b):=fun k l a b h=>by
  by_cases hk:k=l
  ·rw[if_pos (decide_eq_true hk)] at h; exact⟨hk,(Option.some.inj h).symm⟩
  ·rw[if_neg (by simp[hk])] at h; cases h
 cases x<;>first
  | (cases h; done)
  | (cases c<;>first
    | (cases h; done)
    | (obtain⟨rfl,rfl⟩:=key _ _ _ _ h
       exact⟨_,_,_,rfl,by simp,by simp⟩))
theorem Na {p:Prop} [Decidable p] {x c z:PV} {u:Value} (h:mix p x c=some z) (hp:p) (hx:bg w I x.cells β [u]):z.Is w I β u:=by
 obtain⟨k,a,b,rfl,h1,_⟩:=HW h
 rcases h1 with rfl|rfl
 ·simp only[PV.cells,bg,PV.Is,and_true] at hx ⊢
  rw[if_pos hp]; exact hx
 ·simp only[PV.cells,bg,PV.Is,and_true] at hx ⊢
  rw[if_pos hp]; exact hx
theorem Nb {p:Prop} [Decidable p] {x c z:PV} {u:Value} (h:mix p x c=some z) (hp:¬ p) (hc:c.Is w I β u):z.Is w I β u:=by
 obtain⟨k,a,b,rfl,_,h1⟩:=HW h
 rcases h1 with rfl|rfl
 ·simp only[PV.Is] at hc ⊢
  rw[if_neg hp]; exact hc
 ·simp only[PV.Is] at hc ⊢
  rw[if_neg hp]; exact hc
theorem EW (hG:fD G) (hR:Rel G I β s a w) {t:TypeId} {x v:PV} {u y:Value} {q:PV->aD->Prop} (h:xa G s.st t x v fun st=>q (.tup []) (s.store st)) (hx:x.Is w I β u) (hv:v.Is w I β y) :
  ∃ w',(Instr.storeAt t u y).run G.cx.P w = .ok () w'/\bF G s I β w a q undef w':=by
 have hh:=hR.heap
 replace h:=ao h
 obtain⟨n,hn,h⟩:=h
 replace h:=ba h
 obtain⟨hc,h⟩:=h
 simp only[Bool.and_eq_true,List.all_eq_true] at hc
 obtain⟨⟨G6,iW⟩,Yu⟩:=hc
 have hvn:v.cells.length=n:=Nat.eq_of_beq_eq_true G6
 have fS:0 < n:=Nat.le_of_ble_eq_true iW
 have Dc:∀ ts,v≠.tup ts:=fun ts e=>by subst e; exact h.elim
 have hyc:=hv.lX Dc
 have Nc:=hyc.length
 simp only[Array.length_toList] at Nc
 have xp:=M' Dc hv Yu
 have bp:∀ {g o:Nat} {arr:Array Value} {ty:TypeId},w.heap[g]?=some (.cells arr ty (0,0))->o+y.cells.toList.length<=arr.size ->
   (Instr.storeAt t (.pointer (some ⟨g,o,none⟩)) y).run G.cx.P w = .ok () (w.setRow g (arr.toList.take o++y.cells.toList++arr.toList.drop (o+y.cells.toList.length)).toArray):=fun {g o arr ty} gU eL=>by
  have:=run_storeCells_at (P:=G.cx.P) g o ty y.cells.toList 0 arr w gU (by simpa using eL) xp
  simp only[Instr.storeAt,Instr.sureAddr,storeVar,Sem.run_bind,Sem.run_pure,Result.andThen_ok,Ev.di hG.ok hn]
  rw[if_neg (by omega)]
  simpa using this
 split at h
 ·exact h.elim
 ·split at h<;>try simp only[PV.Is] at hx
  ·rename_i l off
   replace h:=ao h
   obtain⟨b,hb,h⟩:=h
   replace h:=ba h
   obtain⟨HX,h⟩:=h
   simp only[Bool.and_eq_true] at HX
   obtain⟨cU,rG⟩:=HX
   obtain⟨az,hm⟩:=nQ rG
   replace h:=ao h
   obtain⟨cs,fj,h⟩:=h
   replace h:=jP (cW h)
   obtain⟨bZ,h⟩:=h
   obtain⟨p,g,o,hp,ha,rfl⟩:=hx
   obtain⟨arr,ty,fr,gU,lQ,dh⟩:=hZ hh hb cU hp ha
   have BC:fr=(0,0):=(dh.1 (by rw[hm]; decide)).1
   subst BC
   have hle:off+v.cells.length<=b.cs.length:=by
    unfold rE at fj
    split at fj
    ·rename_i hle; exact Nat.le_of_ble_eq_true hle
    ·cases fj
   have eL:o+off+y.cells.toList.length<=arr.size:=by
    obtain⟨z,hz,_⟩:=lQ _ _ (List.getElem?_eq_getElem (show off+n - 1 < b.cs.length by omega))
    have:=(Array.getElem?_eq_some_iff.1 hz).1
    simp only[Array.length_toList]
    omega
   obtain⟨k1,k2,k3,k4,k5,k6⟩:=ki b cs
   have HY:cs.length=b.cs.length:=by
    unfold rE at fj
    split at fj
    ·cases fj; simp only[List.length_append,List.length_take,List.length_drop]; omega
    ·cases fj
   have Nd:((arr.toList.take (o+off)++y.cells.toList++arr.toList.drop (o+off+y.cells.toList.length)).toArray).size=arr.size:=by
    simp only[List.size_toArray,List.length_append,List.length_take,List.length_drop,Array.length_toList]
    simp only[Array.length_toList] at eL
    omega
   have rH:=xo fj lQ hyc xp eL
   obtain⟨hH,hE⟩:=hh.write (b':=b.c8 cs) hb az hm hp ha gU (by rw[k5]; exact az) (by rw[k4]; exact hm) (arr':=(arr.toList.take (o+off)++y.cells.toList++arr.toList.drop (o+off+y.cells.toList.length)).toArray) (fun hI hO=>by
    have l6:=setRow_heap w g arr (arr.toList.take (o+off)++y.cells.toList++arr.toList.drop (o+off+y.cells.toList.length)).toArray ty (0,0) gU
    obtain⟨q',kL,hk⟩:=hh.dX l b hb az
    rw[hp] at kL
    cases kL
    refine⟨p,hp,?_⟩
    rw[k1]
    unfold aj.mem at cU
    split at hk
    ·rename_i cm
     refine⟨g,o,_,ty,(0,0),ha,l6,?_,hO⟩
     rw[k6]; exact rH.mono (fun _ h=>h) hI (fun _ _ h=>h)
    ·rename_i cm
     obtain⟨g',arr',fr',cJ,HZ,_,_,h1,h2,h3,h4,h5⟩:=hk
     rw[ha] at cJ; cases cJ
     rw[gU] at HZ; cases HZ
     refine⟨g,_,(0,0),ha,by rw[k2]; exact l6,?_,hO,by rw[k6,k3,HY]; exact h1,h2,h3,by rw[k3,Nd]; exact h4,by rw[k3]; exact h5⟩
     rw[k6]; exact rH.mono (fun _ h=>h) hI (fun _ _ h=>h)
    ·rename_i cm
     rw[cm] at cU; simp at cU
    ·rename_i cm
     rw[cm] at cU; simp at cU
    ·rename_i cm
     rw[cm] at cU; simp at cU)
   refine⟨_,bp gU eL,bF.mk' hR h hH hE (fun _ _ h=>h) (by simp) (fun _ _=>rfl) ?_⟩
   simp only[PV.Is]; exact⟨#[],rfl,by simp only[bg]⟩
  ·rename_i l i m off
   replace h:=ao h
   obtain⟨b,hb,h⟩:=h
   split at h
   ·rename_i hk
    replace h:=ba h
    obtain⟨HX,hi,h⟩:=h
    simp only[Bool.and_eq_true] at HX
    obtain⟨⟨⟨⟨rG,r5⟩,G7⟩,uS⟩,HR⟩:=HX
    obtain⟨az,hm⟩:=nQ rG
    obtain⟨u,hu⟩:∃ u,v.norm=u:=⟨_,rfl⟩
    rw[hu] at h
    have hv2:u.Is w I β y:=by rw[← hu]; cases v<;>first|exact hv|(simp only[PV.norm,PV.Is] at hv ⊢; exact hv)
    have RK:u.elem=true:=by rw[← hu]; cases v<;>first|exact HR|rfl
    have hvn2:u.cells.length=n:=by rw[← hu,← hvn]; cases v<;>rfl
    have r5:=Nat.eq_of_beq_eq_true r5
    have G7:=Nat.eq_of_beq_eq_true G7
    have uS:=Nat.eq_of_beq_eq_true uS
    replace h:=jP h
    obtain⟨bZ,h⟩:=h
    obtain⟨p,g,o,hp,ha,rfl⟩:=hx
    obtain⟨Qw,hlen,hle,oF,oE⟩:=dO hh hb az hk hp
    rcases oE with ⟨cJ,_⟩|⟨g',arr,fr,cJ,_,gU,oh,dh,has⟩
    ·rw[ha] at cJ; cases cJ
    ·rw[ha] at cJ
     cases cJ
     have BC:fr=(0,0):=(dh.1 (by rw[hm]; decide)).1
     subst BC
     have Df:i*n+n<=p.cap*n:=by rw[← Nat.succ_mul]; exact Nat.mul_le_mul_right _ (by omega)
     have eL:0+(i*m+off)+y.cells.toList.length<=arr.size:=by simp only[Array.length_toList]; rw[has,r5,G7,uS]; omega
     obtain⟨k1,k2,k3,k4,k5,k6⟩:=ki b (b.cs.set i u)
     obtain⟨_,iP⟩:=M9 RK hv2
     have Nd:((arr.toList.take (0+(i*m+off))++y.cells.toList++arr.toList.drop (0+(i*m+off)+y.cells.toList.length)).toArray).size=arr.size:=by
      simp only[List.size_toArray,List.length_append,List.length_take,List.length_drop,Array.length_toList]
      simp only[Array.length_toList] at eL
      omega
     obtain⟨hH,hE⟩:=hh.write (b':=b.c8 (b.cs.set i u)) hb az hm hp ha gU (by rw[k5]; exact az) (by rw[k4]; exact hm) (arr':=(arr.toList.take (0+(i*m+off))++y.cells.toList++arr.toList.drop (0+(i*m+off)+y.cells.toList.length)).toArray) (fun hI hO=>by
      have l6:=setRow_heap w g arr (arr.toList.take (0+(i*m+off))++y.cells.toList++arr.toList.drop (0+(i*m+off)+y.cells.toList.length)).toArray b.ty (0,0) gU
      refine⟨p,hp,?_⟩
      rw[k1,hk]
      refine⟨⟨by rw[k3]; exact Qw,by rw[k6,List.length_set]; exact hlen,hle,oF⟩,.inr ⟨g,_,(0,0),ha,by rw[k2]; exact l6,?_,hO,by rw[Nd,k3]; exact has⟩⟩
      rw[k6,k3]
      have nP:(arr.toList.take (0+(i*m+off))).length=0+(i*m+off):=by rw[List.length_take]; simp only[Array.length_toList] at eL ⊢; omega
      refine ca.of fun j e he=>?_
      by_cases hj:j=i
      ·subst hj
       rw[List.getElem?_set_self hi] at he
       cases he
       refine⟨by rw[hvn2,r5],cL.of fun j2 c iW=>?_⟩
       obtain⟨z,hz,RJ,Ze⟩:=iP j2 c iW
       have xq:=(List.getElem?_eq_some_iff.1 hz).1
       refine⟨z,?_,PV.Is.mono (fun _ h=>h) hI c _ _ z (fun _ _ _ h=>h) RJ,Ze⟩
       rw[Ev.fh l6]
       simp only[List.getElem?_toArray]
       rw[List.getElem?_append_left (by rw[List.length_append,nP]; rw[r5,G7,uS]; omega),List.getElem?_append_right (by rw[nP,r5,G7,uS]; omega),nP,show 0+j*b.size+j2 - (0+(j*m+off))=j2 by rw[r5,G7,uS]; omega]
       exact hz
      ·rw[List.getElem?_set_ne (fun e=>hj e.symm)] at he
       obtain⟨hel1,RK⟩:=oh.get he
       refine⟨hel1,cL.of fun j2 c iW=>?_⟩
       obtain⟨z,hz,RJ,Ze⟩:=RK.get iW
       refine⟨z,?_,PV.Is.mono (fun _ h=>h) hI c _ _ z (fun _ _ _ h=>h) RJ,Ze⟩
       rw[Ev.fh l6]
       rw[Ev.fh gU] at hz
       simp only[List.getElem?_toArray]
       have hj2:j2 < n:=by have:=(List.getElem?_eq_some_iff.1 iW).1; omega
       rcases Nat.lt_or_ge j i with G8|G8
       ·have:j*n+n<=i*n:=by rw[← Nat.succ_mul]; exact Nat.mul_le_mul_right _ (by omega)
        rw[List.append_assoc,List.getElem?_append_left (by rw[nP,r5,G7,uS]; omega),List.getElem?_take,if_pos (by rw[r5,G7,uS]; omega)]
        simpa using hz
       ·have:i*n+n<=j*n:=by rw[← Nat.succ_mul]; exact Nat.mul_le_mul_right _ (by omega)
        have h2:(arr.toList.take (0+(i*m+off))++y.cells.toList).length=0+(i*m+off)+y.cells.toList.length:=by rw[List.length_append,nP]
        have Zf:y.cells.toList.length=n:=by simp only[Array.length_toList]; omega
        rw[List.getElem?_append_right (by rw[h2,Zf,r5,G7,uS]; omega),h2,List.getElem?_drop,show 0+(i*m+off)+y.cells.toList.length+(0+j*b.size+j2 - (0+(i*m+off)+y.cells.toList.length))=0+j*b.size+j2 by rw[Zf,r5,G7,uS]; omega]
        simpa using hz)
     refine⟨_,bp gU eL,bF.mk' hR h hH hE (fun _ _ h=>h) (by simp) (fun _ _=>rfl) ?_⟩
     simp only[PV.Is]; exact⟨#[],rfl,by simp only[bg]⟩
   ·exact h.elim
  ·rename_i l off i m
   replace h:=ao h
   obtain⟨b,hb,h⟩:=h
   replace h:=ba h
   obtain⟨HX,k,hi0,hik,h⟩:=h
   simp only[Bool.and_eq_true] at HX
   obtain⟨⟨⟨cU,rG⟩,lT⟩,l5⟩:=HX
   have lT:=Nat.eq_of_beq_eq_true lT
   have l5:0 < m:=Nat.le_of_ble_eq_true l5
   obtain⟨az,hm⟩:=nQ rG
   replace h:=ao h
   obtain⟨cs,fj,h⟩:=h
   replace h:=cW h
   obtain⟨hbd,h⟩:=h
   replace h:=jP h
   obtain⟨bZ,h⟩:=h
   obtain⟨p,g,o,hp,ha,rfl⟩:=hx
   obtain⟨arr,ty,fr,gU,lQ,dh⟩:=hZ hh hb cU hp ha
   have BC:fr=(0,0):=(dh.1 (by rw[hm]; decide)).1
   subst BC
   have EX:y.cells.toList.length=1:=by simp only[Array.length_toList]; omega
   obtain⟨z0,Yv⟩:∃ z0,y.cells.toList = [z0]:=List.length_eq_one_iff.1 EX
   have Ze:z0.oneCell'=true:=xp z0 (by rw[Yv]; simp)
   have eL:o+(off+i.toNat*m)+y.cells.toList.length<=arr.size:=by
    obtain⟨z,hz,_⟩:=lQ _ _ (List.getElem?_eq_getElem hbd)
    have:=(Array.getElem?_eq_some_iff.1 hz).1
    omega
   obtain⟨k1,k2,k3,k4,k5,k6⟩:=ki b cs
   have HY:cs.length=b.cs.length:=qh fj
   have Nd:((arr.toList.take (o+(off+i.toNat*m))++y.cells.toList++arr.toList.drop (o+(off+i.toNat*m)+y.cells.toList.length)).toArray).size=arr.size:=by
    simp only[List.size_toArray,List.length_append,List.length_take,List.length_drop,Array.length_toList]
    simp only[Array.length_toList] at eL
    omega
   have rH:bj w I β cs (arr.toList.take (o+(off+i.toNat*m))++y.cells.toList++arr.toList.drop (o+(off+i.toNat*m)+y.cells.toList.length)).toArray o:=by
    intro j c hj
    have nP:(arr.toList.take (o+(off+i.toNat*m))).length=o+(off+i.toNat*m):=by rw[List.length_take,Array.length_toList]; omega
    obtain⟨c0,rZ,oE⟩:=qg fj j c hj
    rw[Nat.zero_add] at oE
    obtain⟨v0,hv0,Zg,Zh⟩:=lQ j c0 rZ
    simp only[List.getElem?_toArray]
    rw[Yv] at eL ⊢
    by_cases hje:j=off+i.toNat*m
    ·subst hje
     rcases oE with ⟨hn,_⟩|⟨_,Nf⟩
     ·exfalso
      apply hn
      refine⟨by omega,?_,by rw[show off+i.toNat*m - off=i.toNat*m by omega]; exact Nat.mul_mod_left _ _⟩
      have:i.toNat < k:=by omega
      have:i.toNat*m < k*m:=Nat.mul_lt_mul_of_pos_right this l5
      omega
     ·rw[show off+i.toNat*m - off=i.toNat*m by omega,Nat.mul_div_cancel _ l5] at Nf
      refine⟨z0,?_,Na Nf (by omega) ?_,Ze⟩
      ·rw[List.getElem?_append_left (by rw[List.length_append,nP]; simp),List.getElem?_append_right (by rw[nP]; omega),nP,Nat.sub_self]; rfl
      ·have hvc:=hv.lX Dc
       rw[Yv] at hvc
       exact hvc
    ·have sK:(arr.toList.take (o+(off+i.toNat*m))++[z0]++arr.toList.drop (o+(off+i.toNat*m) + [z0].length))[o+j]?=arr[o+j]?:=by
      rcases Nat.lt_or_ge j (off+i.toNat*m) with hjl|hjl
      ·rw[List.append_assoc,List.getElem?_append_left (by rw[nP]; omega),List.getElem?_take,if_pos (by omega)]; simp
      ·rw[List.getElem?_append_right (by rw[List.length_append,nP]; simp; omega),List.length_append,nP,List.getElem?_drop]
       simp only[List.length_cons,List.length_nil]
       rw[show o+(off+i.toNat*m)+(0+1)+(o+j - (o+(off+i.toNat*m)+(0+1)))=o+j by omega]; simp
     refine⟨v0,sK.trans hv0,?_,Zh⟩
     rcases oE with ⟨_,rfl⟩|⟨⟨q1,q2,q3⟩,Nf⟩
     ·exact Zg
     ·refine Nb Nf (fun e=>hje ?_) Zg
      have e2:i.toNat=(j - off) / m:=by omega
      have e3:=Nat.div_add_mod (j - off) m
      rw[q3,← e2,Nat.mul_comm] at e3
      omega
   obtain⟨hH,hE⟩:=hh.write (b':=b.c8 cs) hb az hm hp ha gU (by rw[k5]; exact az) (by rw[k4]; exact hm) (arr':=(arr.toList.take (o+(off+i.toNat*m))++y.cells.toList++arr.toList.drop (o+(off+i.toNat*m)+y.cells.toList.length)).toArray) (fun hI hO=>by
    have l6:=setRow_heap w g arr (arr.toList.take (o+(off+i.toNat*m))++y.cells.toList++arr.toList.drop (o+(off+i.toNat*m)+y.cells.toList.length)).toArray ty (0,0) gU
    obtain⟨q',kL,hk⟩:=hh.dX l b hb az
    rw[hp] at kL
    cases kL
    refine⟨p,hp,?_⟩
    rw[k1]
    unfold aj.mem at cU
    split at hk
    ·rename_i cm
     refine⟨g,o,_,ty,(0,0),ha,l6,?_,hO⟩
     rw[k6]; exact rH.mono (fun _ h=>h) hI (fun _ _ h=>h)
    ·rename_i cm
     obtain⟨g',arr',fr',cJ,HZ,_,_,h1,h2,h3,h4,h5⟩:=hk
     rw[ha] at cJ; cases cJ
     rw[gU] at HZ; cases HZ
     refine⟨g,_,(0,0),ha,by rw[k2]; exact l6,?_,hO,by rw[k6,k3,HY]; exact h1,h2,h3,by rw[k3,Nd]; exact h4,by rw[k3]; exact h5⟩
     rw[k6]; exact rH.mono (fun _ h=>h) hI (fun _ _ h=>h)
    ·rename_i cm
     rw[cm] at cU; simp at cU
    ·rename_i cm
     rw[cm] at cU; simp at cU
    ·rename_i cm
     rw[cm] at cU; simp at cU)
   refine⟨_,bp gU eL,bF.mk' hR h hH hE (fun _ _ h=>h) (by simp) (fun _ _=>rfl) ?_⟩
   simp only[PV.Is]; exact⟨#[],rfl,by simp only[bg]⟩
  ·exact h.elim
theorem bj.new {cs:List PV} {vs:Array Value} (h:bg w I cs β vs.toList) (h1:∀ c∈cs,c.iC=true):bj w I β cs vs 0:=fun i c hc=>by
 obtain⟨v,hv,hi⟩:=h.get hc
 exact⟨v,by simpa using hv,hi,lW (hi.flat (h1 c (List.mem_of_getElem? hc)))⟩
theorem iF (hh:aC I β st w) (hI:∀ g,I g->g < w.heap.size) (o:Obj):∀ g,gD β st g\/I g->(w.alloc o).heap[g]?=w.heap[g]?:=fun g hg=>Ev.ot w o g (hg.elim hh.cH (hI g))
theorem mH (hh:aC I β st w) (hI:∀ g,I g->g < w.heap.size) {vs:Array Value} {t:TypeId} {b:aj} {p:na} (hp:p.a=some (w.heap.size,0))
  (hb:Own I (β.set st.length p) (st++[b]) st.length w.heap.size (0,0) b->fF I (β.set st.length p) (st++[b]) (w.alloc (.cells vs t)) st.length b) (hm:b.m = .w) :
  aC I (β.set st.length p) (st++[b]) (w.alloc (.cells vs t))/\Ext I β st w I (β.set st.length p) (st++[b]) (w.alloc (.cells vs t)):=by
 have eH:∀ g o,p.a=some (g,o)->¬ I g/\¬ gD β st g:=fun g o ha=>by
  rw[hp] at ha; cases ha
  exact⟨fun h=>by have:=hI _ h; omega,fun h=>by have:=hh.cH h; omega⟩
 refine⟨hh.add (iF hh hI _) eH (hb ⟨fun _=>⟨rfl,(eH _ _ hp).1,fun l' b' cN iu fi p' g' o' dM cJ e=>?_⟩,fun hr=>by rw[hm] at hr; cases hr⟩),Ext.add (w':=w.alloc (.cells vs t)) hh rfl rfl rfl (by simp) (fun g hg _=>Ev.ot w _ g hg) fun g o ha bZ=>by rw[hp] at ha; cases ha; omega⟩
 subst e
 unfold an.set at dM
 rw[if_neg cN] at dM
 have:=hh.lt dM
 rw[List.getElem?_append_left this] at iu
 exact (eH _ _ hp).2 ⟨l',b',p',o',iu,fi,dM,cJ⟩
theorem Dg (hR:Rel G I β s a w) {t t':TypeId} {cs:List PV} {vs:Array Value} {q:PV->aD->Prop} (h:y4 s ⟨.loc,t,1,.w,true,cs⟩ q) (hc:bg w I cs β vs.toList) (h1:∀ c∈cs,c.iC=true):bF G s I β w a q (.pointer (some ⟨w.heap.size,0,none⟩)) (w.alloc (.cells vs t')):=by
 replace h:=mG (gC h)
 rw[Nat.zero_add] at h
 have kj:=an.iD hR.heap ⟨some (w.heap.size,0),0,0⟩
 obtain⟨hH,hE⟩:=mH (vs:=vs) (t:=t') hR.heap hR.au.au (b:=⟨.loc,t,1,.w,true,cs⟩) (p:=⟨some (w.heap.size,0),0,0⟩) rfl (fun ho =>
  ⟨_,an.dy ..,w.heap.size,0,vs,t',(0,0),rfl,Ev.kb w _,(bj.new hc h1).mono (fun _ h=>h) (fun g hg=>iF hR.heap hR.au.au _ g (.inr hg)) kj,ho⟩) rfl
 refine bF.mk' hR h hH hE kj (by simp) (fun l hl=>if_neg (by omega)) ?_
 simp only[PV.Is]; exact⟨_,w.heap.size,0,an.dy ..,rfl,rfl⟩
theorem y_ (hR:Rel G I β s a w) {t:TypeId} {len n:Nat} {cs:List PV} {vs:Array Value} {q:PV->aD->Prop} (h:kf s ⟨.arr,t,n,.w,true,cs⟩ q) (hc:bg w I cs β vs.toList) (h1:∀ c∈cs,c.iC=true) (hl:cs.length=len*n) (hn:0 < n) (hm:len<=maxLen):bF G s I β w a q (.slice (some ⟨w.heap.size,0,none⟩) len len) (w.alloc (.cells vs t)):=by
 replace h:=mG (gC h)
 rw[Nat.zero_add] at h
 have kj:=an.iD hR.heap ⟨some (w.heap.size,0),len,len⟩
 have Zi:=hc.length
 simp only[Array.length_toList] at Zi
 obtain⟨hH,hE⟩:=mH (vs:=vs) (t:=t) hR.heap hR.au.au (b:=⟨.arr,t,n,.w,true,cs⟩) (p:=⟨some (w.heap.size,0),len,len⟩) rfl (fun ho =>
  ⟨_,an.dy ..,w.heap.size,vs,(0,0),rfl,Ev.kb w _,(bj.new hc h1).mono (fun _ h=>h) (fun g hg=>iF hR.heap hR.au.au _ g (.inr hg)) kj,ho,hl,Nat.le_refl _,hm,by rw[← Zi]; exact hl,hn⟩) rfl
 refine bF.mk' hR h hH hE kj (by simp) (fun l hl=>if_neg (by omega)) ?_
 simp only[PV.Is]; exact⟨_,an.dy ..,rfl⟩
end
section
variable {w w':World} {I I':Nat->Prop} {β ay:an} {cx:Ev.Cx} {G:Gx} {P:Program} {s:aD} {a:Act} {st dY:List aj}
def eE (w:World) (I:Nat->Prop) (es:List PV) (n:Nat) (xs:List Value):Prop :=
 xs.length=es.length*n/\∀ i e,es[i]?=some e->e.cells.length=n/\∀ j c,e.cells[j]?=some c->∃ v,xs[i*n+j]?=some v/\c.Is w I (fun _=>none) v/\v.oneCell'=true
def aS (w:World) (I:Nat->Prop) (β:an) (cs:List PV) (xs:List Value):Prop:=xs.length=cs.length/\∀ (j:Nat) (c:PV),cs[j]?=some c->∃ v:Value,xs[j]?=some v/\c.Is w I β v/\v.oneCell'=true
def oJ (w:World) (I:Nat->Prop) (β:an) (n:Nat):Src->List Value->Prop
 | .stat cs,xs=>aS w I β cs xs
 | .told es,xs=>eE w I es n xs
theorem eE.append {es fs:List PV} {n:Nat} {xs ys:List Value} (h:eE w I es n xs) (k:eE w I fs n ys):eE w I (es++fs) n (xs++ys):=by
 refine⟨by rw[List.length_append,List.length_append,h.1,k.1,Nat.add_mul],fun i e he=>?_⟩
 by_cases hi:i < es.length
 ·rw[List.getElem?_append_left hi] at he
  obtain⟨h1,h2⟩:=h.2 i e he
  refine⟨h1,fun j c hc=>?_⟩
  obtain⟨v,hv,h3⟩:=h2 j c hc
  have:=(List.getElem?_eq_some_iff.1 hv).1
  exact⟨v,by rw[List.getElem?_append_left this]; exact hv,h3⟩
 ·rw[List.getElem?_append_right (by omega)] at he
  obtain⟨h1,h2⟩:=k.2 _ e he
  refine⟨h1,fun j c hc=>?_⟩
  obtain⟨v,hv,h3⟩:=h2 j c hc
  have e1:es.length*n<=i*n:=Nat.mul_le_mul_right _ (by omega)
  refine⟨v,?_,h3⟩
  rw[List.getElem?_append_right (by rw[h.1]; omega),h.1,show i*n+j - es.length*n=(i - es.length)*n+j by rw[Nat.sub_mul]; omega]
  exact hv
theorem aS.append {cs ds:List PV} {xs ys:List Value} (h:aS w I β cs xs) (k:aS w I β ds ys):aS w I β (cs++ds) (xs++ys):=by
 refine⟨by rw[List.length_append,List.length_append,h.1,k.1],fun j c hc=>?_⟩
 by_cases hj:j < cs.length
 ·rw[List.getElem?_append_left hj] at hc
  rw[List.getElem?_append_left (by rw[h.1]; exact hj)]
  exact h.2 j c hc
 ·rw[List.getElem?_append_right (by omega)] at hc
  rw[List.getElem?_append_right (by rw[h.1]; omega),h.1]
  exact k.2 _ c hc
theorem eE.mono {es:List PV} {n:Nat} {xs:List Value} (hI:∀ g,I g->I' g) (hw:∀ g,I g->w'.heap[g]?=w.heap[g]?) (h:eE w I es n xs):eE w' I' es n xs :=
 ⟨h.1,fun i e he=>⟨(h.2 i e he).1,fun j c hc=>let ⟨v,h1,h2,h3⟩:=(h.2 i e he).2 j c hc; ⟨v,h1,PV.Is.mono hI hw c _ _ v (fun _ _ _ h=>h) h2,h3⟩⟩⟩
theorem aS.mono {cs:List PV} {xs:List Value} (hI:∀ g,I g->I' g) (hw:∀ g,I g->w'.heap[g]?=w.heap[g]?) (hb:∀ l p,β l=some p->ay l=some p) (h:aS w I β cs xs):aS w' I' ay cs xs :=
 ⟨h.1,fun j c hc=>let ⟨v,h1,h2,h3⟩:=h.2 j c hc; ⟨v,h1,PV.Is.mono hI hw c _ _ v (fun l p _=>hb l p) h2,h3⟩⟩
theorem ca.row:∀ {es:List PV} {n g o:Nat},ca w I es n g o->∃ xs,eE w I es n xs/\∀ j v,xs[j]?=some v->w.cell? ⟨g,o+j,none⟩=some v
 | [],n,g,o,_=>⟨[],⟨by simp,fun i e he=>by simp at he⟩,fun j v h=>by simp at h⟩
 | e::es,n,g,o,h=>by
  rw[ca.cons] at h
  obtain⟨⟨hl,hc⟩,h⟩:=h
  obtain⟨xs,hx,hy⟩:=ca.row h
  have key:∀ (cs:List PV) (o:Nat),cL w I cs g o->∃ ys:List Value,ys.length=cs.length/\(∀ (j:Nat) (c:PV),cs[j]?=some c->∃ v:Value,ys[j]?=some v/\c.Is w I (fun _=>none) v/\v.oneCell'=true)/\∀ (j:Nat) (v:Value),ys[j]?=some v->w.cell? ⟨g,o+j,none⟩=some v:=by
   intro cs
   induction cs with
   | nil=>intro o _; exact⟨[],rfl,fun j c h=>by simp at h,fun j v h=>by simp at h⟩
   | cons c cs ih =>
    intro o h
    simp only[cL] at h
    obtain⟨⟨v,h1,h2⟩,h3⟩:=h
    obtain⟨ys,g1,g2,g3⟩:=ih (o+1) h3
    refine⟨v::ys,by simp[g1],fun j c' uT=>?_,fun j u hu=>?_⟩
    ·cases j with
     | zero=>simp at uT; subst uT; exact⟨v,rfl,h2⟩
     | succ j=>simpa using g2 j c' (by simpa using uT)
    ·cases j with
     | zero=>simp at hu; subst hu; exact h1
     | succ j=>rw[show o+(j+1)=o+1+j by omega]; exact g3 j u (by simpa using hu)
  obtain⟨ys,g1,g2,g3⟩:=key e.cells o hc
  have Nc:ys.length=n:=by omega
  refine⟨ys++xs,?_,fun j v hv=>?_⟩
  ·refine⟨by rw[List.length_append,hx.1,List.length_cons,Nc,Nat.succ_mul]; omega,fun i e' RL=>?_⟩
   cases i with
   | zero =>
    simp at RL; subst RL
    refine⟨hl,fun j c hj=>?_⟩
    obtain⟨v,hv,h2⟩:=g2 j c hj
    have:=(List.getElem?_eq_some_iff.1 hv).1
    exact⟨v,by rw[Nat.zero_mul,Nat.zero_add,List.getElem?_append_left this]; exact hv,h2⟩
   | succ i =>
    obtain⟨h1,h2⟩:=hx.2 i e' (by simpa using RL)
    refine⟨h1,fun j c hj=>?_⟩
    obtain⟨v,hv,h3⟩:=h2 j c hj
    refine⟨v,?_,h3⟩
    rw[Nat.succ_mul,List.getElem?_append_right (by omega),show i*n+n+j - ys.length=i*n+j by omega]
    exact hv
  ·by_cases hj:j < ys.length
   ·rw[List.getElem?_append_left hj] at hv; exact g3 j v hv
   ·rw[List.getElem?_append_right (by omega)] at hv
    have:=hy _ v hv
    rw[show o+n+(j - ys.length)=o+j by omega] at this
    exact this
theorem eE.at {es:List PV} {n g:Nat} {xs:List Value} (h:eE w I es n xs) (hc:∀ j v,xs[j]?=some v->w'.cell? ⟨g,j,none⟩=some v) (hI:∀ g,I g->I' g) (hw:∀ g,I g->w'.heap[g]?=w.heap[g]?):ca w' I' es n g 0:=ca.of fun i e he=>by
 obtain⟨h1,h2⟩:=h.2 i e he
 refine⟨h1,cL.of fun j c hj=>?_⟩
 obtain⟨v,hv,h3,h4⟩:=h2 j c hj
 exact⟨v,by rw[Nat.zero_add]; exact hc _ v hv,PV.Is.mono hI hw c _ _ v (fun _ _ _ h=>h) h3,h4⟩
theorem eE.BD {es:List PV} {n:Nat} {xs:List Value} (h:eE w I es n xs):∀ v∈xs,v.oneCell'=true:=by
 intro v hv
 obtain⟨k,hk,rfl⟩:=List.getElem_of_mem hv
 have ji:k < es.length*n:=by rw[← h.1]; exact hk
 have hn:0 < n:=by
  rcases Nat.eq_zero_or_pos n with h0|h0
  ·rw[h0] at ji; omega
  ·exact h0
 have hi:k / n < es.length:=Nat.div_lt_of_lt_mul (by rw[Nat.mul_comm]; exact ji)
 obtain⟨h1,h2⟩:=h.2 _ _ (List.getElem?_eq_getElem hi)
 have hm:k % n < n:=Nat.mod_lt _ hn
 obtain⟨u,hu,_,h3⟩:=h2 (k % n) _ (List.getElem?_eq_getElem (by omega))
 rw[show k / n*n+k % n=k by rw[Nat.mul_comm]; exact Nat.div_add_mod k n,List.getElem?_eq_getElem hk] at hu
 cases hu; exact h3
theorem aS.BD {cs:List PV} {xs:List Value} (h:aS w I β cs xs):∀ v∈xs,v.oneCell'=true:=by
 intro v hv
 obtain⟨k,hk,rfl⟩:=List.getElem_of_mem hv
 have ji:k < cs.length:=by rw[← h.1]; exact hk
 obtain⟨u,hu,_,h3⟩:=h.2 _ _ (List.getElem?_eq_getElem ji)
 rw[List.getElem?_eq_getElem hk] at hu
 cases hu; exact h3
theorem oJ.BD {n:Nat} {x:Src} {xs:List Value} (h:oJ w I β n x xs):∀ v∈xs,v.oneCell'=true:=by
 cases x with
 | stat cs=>exact aS.BD h
 | told es=>exact eE.BD h
theorem za {ag:Bool} {n:Nat} (hn:0 < n) (Dd:ag=true\/n=1):∀ (k:Nat) {cs:List PV} {xs:List Value},cs.length=k*n->aS w I β cs xs->(chunk ag n k cs).all PV.elem=true->(chunk ag n k cs).length=k/\eE w I (chunk ag n k cs) n xs
 | 0,cs,xs,hl,h,_=>by
  have:xs = []:=List.eq_nil_of_length_eq_zero (by rw[h.1,hl,Nat.zero_mul])
  subst this
  exact⟨rfl,by simp[chunk],fun i e he=>by simp[chunk] at he⟩
 | k+1,cs,xs,hl,h,eC=>by
  simp only[chunk,List.all_cons,Bool.and_eq_true] at eC
  obtain⟨he,eC⟩:=eC
  have hlk:(cs.drop n).length=k*n:=by rw[List.length_drop,hl,Nat.succ_mul]; omega
  have Zj:aS w I β (cs.drop n) (xs.drop n):=⟨by rw[List.length_drop,List.length_drop,h.1],fun j c hc=>by
   rw[List.getElem?_drop] at hc ⊢; exact h.2 _ c hc⟩
  obtain⟨My,MQ⟩:=za hn Dd k hlk Zj eC
  have hcn:n<=cs.length:=by rw[hl,Nat.succ_mul]; omega
  have nr:∀ {c:PV} {y:Value},c.qV=true->c.Is w I β y->c.Is w I (fun _=>none) y:=fun {c y} hc hi=>by
   refine PV.Is.mono (fun _ h=>h) (fun _ _=>rfl) _ β _ _ (fun l p hl=>?_) hi
   cases c<;>simp_all [PV.df,PV.qV]
  refine⟨by simp[chunk,My],by rw[h.1,hl]; simp only[chunk,List.length_cons,My],fun i e hi=>?_⟩
  cases i with
  | zero =>
   simp only[chunk,List.getElem?_cons_zero,Option.some.injEq] at hi
   subst hi
   cases ag with
   | true =>
    simp only[if_true,PV.elem,List.all_eq_true] at he
    simp only[if_true,PV.cells]
    refine⟨by rw[List.length_take]; omega,fun j c hj=>?_⟩
    rw[List.getElem?_take] at hj
    split at hj
    ·obtain⟨v,hv,h2,h3⟩:=h.2 j c hj
     refine⟨v,by rw[Nat.zero_mul,Nat.zero_add]; exact hv,nr (he c ?_) h2,h3⟩
     refine List.mem_of_getElem? (i:=j) ?_
     rw[List.getElem?_take,if_pos ‹_›]; exact hj
    ·cases hj
   | false =>
    have lT:n=1:=by simpa using Dd
    subst lT
    cases cs with
    | nil=>simp at hcn
    | cons c cs =>
     simp only[Bool.false_eq_true,if_false] at he ⊢
     obtain⟨v,hv,h2,h3⟩:=h.2 0 c rfl
     have G6:c.cells = [c]:=by
      cases c<;>first|rfl|(simp only[PV.Is] at h2; obtain⟨vs,rfl,_⟩:=h2; simp[Value.oneCell'] at h3)
     rw[G6]
     refine⟨rfl,fun j c' hj=>?_⟩
     cases j with
     | zero =>
      simp at hj; subst hj
      refine⟨v,by simpa using hv,nr ?_ h2,h3⟩
      cases c<;>first|exact he|(exfalso; simp only[PV.Is] at h2; obtain⟨vs,rfl,_⟩:=h2; simp[Value.oneCell'] at h3)
     | succ j=>simp at hj
  | succ i =>
   simp only[chunk,List.getElem?_cons_succ] at hi
   obtain⟨h1,h2⟩:=MQ.2 i e hi
   refine⟨h1,fun j c hj=>?_⟩
   obtain⟨v,hv,h3⟩:=h2 j c hj
   refine⟨v,?_,h3⟩
   rw[List.getElem?_drop] at hv
   rw[Nat.succ_mul,show i*n+n+j=n+(i*n+j) by omega]
   exact hv
theorem xr {x:PV} {v:Value} (h:x.Is w I β v):x.norm.Is w I β v:=by
 cases x<;>first|exact h|(simp only[PV.norm,PV.Is] at h ⊢; exact h)
theorem BE {cs:List PV} {xs:List Value} (h:aS w I β cs xs):aS w I β (cs.map PV.norm) xs:=by
 refine⟨by rw[List.length_map]; exact h.1,fun j c hj=>?_⟩
 rw[List.getElem?_map,Option.map_eq_some_iff] at hj
 obtain⟨d,hd,rfl⟩:=hj
 obtain⟨v,h1,h2,h3⟩:=h.2 j d hd
 exact⟨v,h1,xr h2,h3⟩
theorem fZ {ag:Bool} {n:Nat} (hn:0 < n) (Dd:ag=true\/n=1) {x:Src} {es:List PV} {xs:List Value} {len:Nat} (h:fW ag n x=some es) (hx:oJ w I β n x xs) (hl:xs.length=len*n):es.length=len/\eE w I es n xs:=by
 have hc:∀ {a b:Nat},a*n=b*n->a=b:=fun h=>Nat.eq_of_mul_eq_mul_right hn h
 cases x with
 | told es' =>
  simp only[fW,Option.some.injEq] at h
  subst h
  exact⟨hc (by rw[← hx.1,hl]),hx⟩
 | stat cs =>
  simp only[fW,C6,Nat.zero_add] at h
  split at h
  ·rename_i eC
   cases h
   have xj:cs.length=len*n:=by rw[← hx.1,hl]
   have hd:cs.length / n=len:=by rw[xj]; exact Nat.mul_div_cancel _ hn
   rw[hd] at eC ⊢
   exact za hn Dd len (by rw[List.length_map]; exact xj) (BE hx) eC
  ·cases h
theorem oK {arr:Array Value} {g:Nat} {ty:TypeId} {fr:Nat × Nat} (hh:w.heap[g]?=some (.cells arr ty fr)) (o k:Nat):∀ (j:Nat) (v:Value),((arr.toList.drop o).take k)[j]?=some v->w.cell? ⟨g,o+j,none⟩=some v:=fun j v hv=>by
 rw[List.getElem?_take] at hv
 split at hv
 ·rw[List.getElem?_drop] at hv
  rw[Ev.fh hh]; simpa using hv
 ·cases hv
theorem oL (hO:Ev.fR cx) (hh:aC I β st w) {n:Nat} (hn:0 < n) {x:PV} {u:Value} {q:Src->Prop} (h:ES cx st n x q) (hx:x.Is w I β u) :
  ∃ src ad len c news,q src/\u = .slice ad len c/\oJ w I β n src news/\news.length=len*n/\(len=0\/∃ g o,ad=some ⟨g,o,none⟩)/\∀ g o,ad=some ⟨g,o,none⟩->∀ j v,news[j]?=some v->w.cell? ⟨g,o+j,none⟩=some v:=by
 unfold ES at h
 split at h<;>try simp only[PV.Is] at hx
 ·exact⟨_,none,0,0,[],h,hx,⟨by simp,fun i e he=>by simp at he⟩,by simp,.inl rfl,fun _ _ _ j v hv=>by simp at hv⟩
 ·rename_i m es
  replace h:=ba h
  obtain⟨hm,h⟩:=h
  have hm:=Nat.eq_of_beq_eq_true hm
  obtain⟨ad,cap,rfl,_,_,h4,h5⟩:=hx
  by_cases h0:es.length=0
  ·have:es = []:=List.eq_nil_of_length_eq_zero h0
   subst this
   exact⟨_,ad,0,cap,[],h,rfl,⟨by simp,fun i e he=>by simp at he⟩,by simp,.inl rfl,fun _ _ _ j v hv=>by simp at hv⟩
  ·obtain⟨g,o,rfl,hg,_⟩:=h5 h0
   obtain⟨xs,h6,h7⟩:=(h4 g o rfl).row
   rw[hm] at h6
   exact⟨_,_,es.length,cap,xs,h,rfl,h6,h6.1,(.inr ⟨_,_,rfl⟩),fun g' o' e=>by cases e; exact h7⟩
 ·rename_i l off len
  replace h:=ao h
  obtain⟨b,hb,h⟩:=h
  replace h:=ba h
  obtain⟨hc,h⟩:=h
  simp only[Bool.and_eq_true] at hc
  have hle:=Nat.le_of_ble_eq_true hc.2
  obtain⟨p,g,o,cap,hp,ha,rfl,_⟩:=hx
  obtain⟨arr,ty,fr,gU,lQ,_⟩:=hZ hh hb hc.1 hp ha
  have eL:0 < len*n->o+off+len*n<=arr.size:=fun h0=>by
   obtain⟨z,hz,_⟩:=lQ _ _ (List.getElem?_eq_getElem (show off+len*n - 1 < b.cs.length by omega))
   have:=(Array.getElem?_eq_some_iff.1 hz).1
   omega
  have rI:((arr.toList.drop (o+off)).take (len*n)).length=len*n:=by
   rw[List.length_take,List.length_drop,Array.length_toList]
   rcases Nat.eq_zero_or_pos (len*n) with h0|h0
   ·omega
   ·have:=eL h0; omega
  refine⟨_,_,len,cap,_,cW h,rfl,⟨?_,fun j c hj=>?_⟩,rI,(.inr ⟨_,_,rfl⟩),fun g' o' e=>by cases e; exact oK gU _ _⟩
  ·rw[rI,List.length_take,List.length_drop]; omega
  ·rw[List.getElem?_take] at hj
   split at hj
   ·rename_i sL
    rw[List.getElem?_drop] at hj
    obtain⟨v,hv,h1,h2⟩:=lQ _ _ hj
    exact⟨v,by rw[List.getElem?_take,if_pos sL,List.getElem?_drop]; simpa [Nat.add_assoc] using hv,h1,h2⟩
   ·cases hj
 ·rename_i l
  replace h:=ao h
  obtain⟨b,hb,h⟩:=h
  replace h:=ba h
  obtain⟨hc,h⟩:=h
  simp only[Bool.and_eq_true] at hc
  have r5:=Nat.eq_of_beq_eq_true hc.2
  obtain⟨p,hp,rfl⟩:=hx
  split at h
  ·rename_i hk
   obtain⟨g,arr,fr,ha,hw,gU,lQ,_,hlen,hle,_,has,_⟩:=eP hh hb hc.1 hk hp
   rw[r5] at hlen has
   have eL:p.len*n<=arr.size:=by rw[has]; exact Nat.mul_le_mul_right _ hle
   refine⟨_,_,p.len,p.cap,(arr.toList.drop 0).take (p.len*n),h,hw,⟨?_,fun j c hj=>?_⟩,?_,(.inr ⟨_,_,rfl⟩),fun g' o' e=>by cases e; exact oK gU _ _⟩
   ·rw[List.length_take,List.length_drop,Array.length_toList]; omega
   ·obtain⟨v,hv,h1,h2⟩:=lQ _ _ hj
    have sL:j < p.len*n:=by rw[← hlen]; exact (List.getElem?_eq_some_iff.1 hj).1
    exact⟨v,by rw[List.getElem?_take,if_pos sL,List.getElem?_drop]; simpa using hv,h1,h2⟩
   ·rw[List.length_take,List.length_drop,Array.length_toList]; omega
  ·rename_i hk
   obtain⟨_,hlen,hle,_,oE⟩:=dO hh hb hc.1 hk hp
   rcases oE with ⟨_,rZ,hw⟩|⟨g,arr,fr,ha,hw,gU,oh,_,has⟩
   ·have gE:b.cs = []:=List.eq_nil_of_length_eq_zero (by omega)
    rw[gE] at h
    exact⟨_,none,0,0,[],h,hw,⟨by simp,fun i e he=>by simp at he⟩,by simp,.inl rfl,fun _ _ _ j v hv=>by simp at hv⟩
   ·obtain⟨xs,h6,h7⟩:=oh.row
    rw[r5] at h6
    exact⟨_,_,p.len,p.cap,xs,h,hw,h6,by rw[h6.1,hlen],(.inr ⟨_,_,rfl⟩),fun g' o' e=>by cases e; exact h7⟩
  ·exact h.elim
 ·exact h.elim
theorem zb {l:Nat} {b:aj} {q:List aj->Prop} (hb:st[l]?=some b) (h:HI st l q):∃ b',b'.live=false/\q (st.set l b'):=by
 replace h:=ao h
 obtain⟨b2,dS,h⟩:=h
 cases b2
 exact⟨_,rfl,(jP h).2⟩
theorem sM (hh:aC I β st w) {n:Nat} (hn:0 < n) {elem:TypeId} {x:PV} {v:Value} {q:Src->List aj->Prop} (h:y6 st elem n x q) (hx:x.Is w I β v) :
  ∃ dst dY xs len,q dst dY/\w.ownsRow 0 elem n v len xs/\oJ w I β n dst xs/\xs.length=len*n/\aC I β dY w/\dY.length=st.length/\Ext I β st w I β dY w/\(∀ g,v.ownBlock=some g->Wr β st g/\¬ I g/\¬ gD β dY g)/\(v = .slice none 0 0\/∃ ad m c,v = .slice (some ad) m c):=by
 unfold y6 at h
 split at h<;>try simp only[PV.Is] at hx
 ·subst hx
  exact⟨_,st,[],0,h,World.ownsRow_nil _ _ _ _,⟨by simp,fun j c hj=>by simp at hj⟩,by simp,hh,rfl,Ext.refl,fun g e=>by simp[Value.ownBlock] at e,.inl rfl⟩
 ·rename_i l
  replace h:=ao h
  obtain⟨b,hb,h⟩:=h
  replace h:=ba h
  obtain⟨hc,h⟩:=h
  simp only[Bool.and_eq_true] at hc
  obtain⟨az,hm⟩:=nQ hc.1.1
  have r5:=Nat.eq_of_beq_eq_true hc.1.2
  have H':=Nat.eq_of_beq_eq_true hc.2
  obtain⟨p,hp,rfl⟩:=hx
  have dead:∀ {g o:Nat} {b':aj},p.a=some (g,o)->b'.live=false->(Own I β st l g (0,0) b\/∃ fr,Own I β st l g fr b)->Wr β st g/\¬ I g/\¬ gD β (st.set l b') g:=by
   intro g o b' ha cO ho
   have ho:∃ fr,Own I β st l g fr b:=ho.elim (fun h=>⟨_,h⟩) id
   obtain⟨fr,ho⟩:=ho
   refine⟨⟨l,b,p,o,hb,az,hm,hp,ha⟩,(ho.1 (by rw[hm]; decide)).2.1,fun ⟨l2,b2,p2,o2,h1,h2,h3,h4⟩=>?_⟩
   by_cases cN:l2=l
   ·subst cN
    rw[List.getElem?_set_self (by simpa using (List.getElem?_eq_some_iff.1 h1).1)] at h1
    cases h1; rw[cO] at h2; cases h2
   ·rw[List.getElem?_set_ne (fun e=>cN e.symm)] at h1
    exact (ho.1 (by rw[hm]; decide)).2.2 l2 b2 cN h1 h2 p2 g o2 h3 h4 rfl
  split at h
  ·rename_i hk
   obtain⟨b',cO,h⟩:=zb hb h
   obtain⟨g,arr,fr,ha,hw,gU,lQ,dh,hlen,hle,oF,has,_⟩:=eP hh hb az hk hp
   rw[r5] at hlen has
   have BC:fr=(0,0):=(dh.1 (by rw[hm]; decide)).1
   subst BC
   have eL:p.len*n<=arr.size:=by rw[has]; exact Nat.mul_le_mul_right _ hle
   have mI:(arr.toList.take (p.len*n)).length=p.len*n:=by rw[List.length_take,Array.length_toList]; omega
   refine⟨_,_,arr.toList.take (p.len*n),p.len,h,⟨mI,.inr ⟨g,p.cap,arr,hw,Nat.zero_le _,by rw[← H']; exact gU,hle,oF,has,rfl⟩⟩,⟨by rw[mI,hlen],fun j c hj=>?_⟩,mI,hh.kill l cO,by simp,Ext.kill cO,fun g' e=>?_,.inr ⟨_,_,_,hw⟩⟩
   ·obtain⟨u,hu,h1,h2⟩:=lQ _ _ hj
    have sL:j < p.len*n:=by rw[← hlen]; exact (List.getElem?_eq_some_iff.1 hj).1
    exact⟨u,by rw[List.getElem?_take,if_pos sL]; simpa using hu,h1,h2⟩
   ·rw[hw] at e
    simp only[Value.ownBlock,Option.some.injEq] at e
    subst e
    exact dead ha cO (.inl dh)
  ·rename_i hk
   obtain⟨b',cO,h⟩:=zb hb h
   obtain⟨_,hlen,hle,oF,oE⟩:=dO hh hb az hk hp
   rcases oE with ⟨_,rZ,hw⟩|⟨g,arr,fr,ha,hw,gU,oh,dh,has⟩
   ·have gE:b.cs = []:=List.eq_nil_of_length_eq_zero (by omega)
    rw[gE] at h
    rw[hw]
    exact⟨_,_,[],0,h,World.ownsRow_nil _ _ _ _,⟨by simp,fun i e he=>by simp at he⟩,by simp,hh.kill l cO,by simp,Ext.kill cO,fun g e=>by simp[Value.ownBlock] at e,.inl rfl⟩
   ·rw[r5] at oh has
    have BC:fr=(0,0):=(dh.1 (by rw[hm]; decide)).1
    subst BC
    obtain⟨xs,h6,h7⟩:=oh.row
    have eL:p.len*n<=arr.size:=by rw[has]; exact Nat.mul_le_mul_right _ hle
    have mI:xs.length=p.len*n:=by rw[h6.1,hlen]
    refine⟨_,_,xs,p.len,h,⟨mI,.inr ⟨g,p.cap,arr,hw,Nat.zero_le _,by rw[← H']; exact gU,hle,oF,has,?_⟩⟩,h6,mI,hh.kill l cO,by simp,Ext.kill cO,fun g' e=>?_,.inr ⟨_,_,_,hw⟩⟩
    ·apply List.ext_getElem?
     intro j
     rw[List.getElem?_take]
     split
     ·rename_i hj
      have hj2:j < xs.length:=by omega
      have:=h7 j _ (List.getElem?_eq_getElem hj2)
      rw[Ev.fh gU,Nat.zero_add] at this
      rw[List.getElem?_eq_getElem hj2]; simpa using this
     ·rename_i hj
      rw[List.getElem?_eq_none (by omega)]
    ·rw[hw] at e
     simp only[Value.ownBlock,Option.some.injEq] at e
     subst e
     exact dead ha cO (.inl dh)
  ·exact h.elim
 ·exact h.elim
theorem lD (t ty e:TypeId) (i:TypeInfo) (ht:P.underlying t=some (.slice e)) (hi:P.info? e=some i) (b:Option Addr) (n cap c:Nat) (hle:n<=cap):(Builtin.append_ #[t,t] ty #[.slice b n cap,.slice none 0 c]).run P w = .ok (.slice b n cap) w:=by
 cases b<;>simp[Builtin.append_,run_underlying ht,sizeOf,typeInfo,hi,Builtin.lenOf,Builtin.firstCells,hle,storeCells]
end
section
variable {w w':World} {I I':Nat->Prop} {β ay:an} {cx:Ev.Cx} {G:Gx} {P:Program} {s:aD} {a:Act} {st dY:List aj}
theorem zc (s:aD) (x y:List aj):(s.store x).store y=s.store y:=by cases s; rfl
theorem Ext.add2 {jn:List aj} (h:aC I β jn w) (oM:∀ g,Wr β jn g->Wr β st g) (RE:w'.os=w.os) (HT:w'.tape=w.tape) (oI:w'.output=w.output) (eL:w.heap.size<=w'.heap.size) {b:aj} {p:na} (hw:∀ g,g < w.heap.size->¬ Wr β st g->w'.heap[g]?=w.heap[g]?)
  (hp:∀ g o,p.a=some (g,o)->g < w.heap.size->Wr β st g):Ext I β st w I (β.set jn.length p) (jn++[b]) w' :=
 ⟨RE,HT,oI,eL,hw,fun g hg ⟨l,b',q,o,h1,h2,h3,h4,h5⟩=>by
  unfold an.set at h4
  split at h4
  ·cases h4
   exact hp g o h5 hg
  ·have:=h.lt h4
   rw[List.getElem?_append_left this] at h1
   exact oM g ⟨l,b',q,o,h1,h2,h3,h4,h5⟩,fun _ h=>h,fun _ _ h=>.inl h⟩
theorem nR (hR:Rel G I β s a w) {jn:List aj} (hk:aC I β jn w) (oM:∀ g,Wr β jn g->Wr β s.st g) (hlen:jn.length=s.st.length) {v:Value} (hv:∀ g,v.ownBlock=some g->Wr β s.st g/\¬ I g/\¬ gD β jn g)
  (hg:w.grownBy w' v.ownBlock) {b:aj} {p:na} {q:PV->aD->Prop} (h:kf (s.store jn) b q) (hp:∀ g o,p.a=some (g,o)->v.ownBlock=some g\/g=w.heap.size) (hm:b.m = .w)
  (hb:(∀ g,p.a=some (g,0)->Own I (β.set jn.length p) (jn++[b]) jn.length g (0,0) b)->(∀ g,I g->w'.heap[g]?=w.heap[g]?)->fF I (β.set jn.length p) (jn++[b]) w' jn.length b):bF G s I β w a q p.whole w':=by
 have qi:(s.store jn).st=jn:=(aD.dT s jn).2.2.1
 unfold kf at h
 rw[qi] at h
 replace h:=mG (gC h)
 rw[Nat.zero_add,zc] at h
 have kj:=an.iD hk p
 have dh:∀ g,gD β jn g\/I g->w'.heap[g]?=w.heap[g]?:=fun g uU=>by
  refine hg.block g (uU.elim hk.cH (hR.au.au g)) fun e=>?_
  obtain⟨_,h1,h2⟩:=hv g e.symm
  exact uU.elim h2 h1
 have eH:∀ g o,p.a=some (g,o)->¬ I g/\¬ gD β jn g:=fun g o ha=>by
  rcases hp g o ha with e|e
  ·exact (hv g e).2
  ·subst e
   exact⟨fun h=>by have:=hR.au.au _ h; omega,fun h=>by have:=hk.cH h; omega⟩
 have hO:∀ g,p.a=some (g,0)->Own I (β.set jn.length p) (jn++[b]) jn.length g (0,0) b:=fun g ha=>by
  refine⟨fun _=>⟨rfl,(eH g 0 ha).1,fun l' b' cN iu fi p' g' o' dM cJ e=>?_⟩,fun hr=>by rw[hm] at hr; cases hr⟩
  subst e
  unfold an.set at dM
  rw[if_neg cN] at dM
  have:=hk.lt dM
  rw[List.getElem?_append_left this] at iu
  exact (eH _ _ ha).2 ⟨l',b',p',o',iu,fi,dM,cJ⟩
 have hH:=hk.add dh eH (hb hO fun g hg=>dh g (.inr hg))
 have hE:Ext I β s.st w I (β.set jn.length p) (jn++[b]) w':=Ext.add2 hk oM hg.os hg.tape hg.output hg.size (fun g bZ hn=>hg.block g bZ fun e=>hn (hv g e.symm).1) fun g o ha bZ=>by
  rcases hp g o ha with e|e
  ·exact (hv g e).1
  ·omega
 refine bF.mk' hR h hH hE kj (by simp; omega) (fun l hl=>if_neg (by omega)) ?_
 simp only[PV.Is]; exact⟨_,an.dy ..,rfl⟩
theorem BF (hG:fD G) (hR:Rel G I β s a w) {t ty:TypeId} {d x:PV} {u v:Value} {q:PV->aD->Prop} (h:C8 G s t d x q) (hd:d.Is w I β v) (hx:x.Is w I β u) :
  ∃ r w',(Builtin.append_ #[t,t] ty #[v,u]).run G.cx.P w = .ok r w'/\bF G s I β w a q r w':=by
 replace h:=ao h
 obtain⟨td,hu,h⟩:=h
 split at h
 ·rename_i elem
  replace h:=ao h
  obtain⟨n,hn,h⟩:=h
  replace h:=ao h
  obtain⟨ag,Dd,h⟩:=h
  replace h:=ao h
  obtain⟨bE,yP,h⟩:=h
  replace h:=gj (w:=w) (I:=I) (β:=β) hG.ok h
  obtain⟨z,i,zv,h,hi,Bx,rF⟩:=h
  replace h:=ba h
  obtain⟨hc,h⟩:=h
  simp only[Bool.and_eq_true,Bool.or_eq_true] at hc
  have fS:0 < n:=Nat.le_of_ble_eq_true hc.1.1
  have Zk:z.length=n:=Nat.eq_of_beq_eq_true hc.1.2
  have Zl:ag=true\/n=1:=hc.2.imp id Nat.eq_of_beq_eq_true
  obtain⟨i1,Qx,r9⟩:=Ev.gw hG.ok hn
  rw[hi] at Qx
  cases Qx
  obtain⟨i3,xu,EY⟩:=hG.bE _ (Ev.dJ yP)
  simp only at xu EY
  rw[hi] at xu
  cases xu
  have Qy:=rF.length
  simp only[Array.length_toList] at Qy
  replace h:=oL hG.ok hR.heap fS h hx
  obtain⟨src,ad,len,c,news,h,rfl,ja,rI,G5,zd⟩:=h
  replace h:=sM hR.heap fS h hd
  obtain⟨dst,jn,xs,gF,h,dh,rJ,mI,hk,qj,uV,hv,hvf⟩:=h
  have oM:∀ g,Wr β jn g->Wr β s.st g:=fun g hw=>by
   have:=uV.wr g
   rcases Nat.lt_or_ge g w.heap.size with bZ|Yw
   ·exact this bZ hw
   ·obtain⟨l,b,p,o,h1,h2,h3,h4,h5⟩:=hw
    have:=hk.cH ⟨l,b,p,o,h1,h2,h4,h5⟩
    omega
  have sN:=ja.BD
  
  have run:(gF+len)<=maxLen->(gF+len)*bE<=140737488355328->∃ r w',(Builtin.append_ #[t,t] ty #[v,.slice ad len c]).run G.cx.P w = .ok r w'/\w'.ownsRow 0 elem n r (gF+len) (xs++news)/\w.grownBy w' v.ownBlock/\(r.ownBlock=v.ownBlock\/r.ownBlock=some w.heap.size):=by
   intro h1 h2
   cases ad with
   | none =>
    have ze:len=0:=by rcases G5 with h|⟨g,o,h⟩<;>first|exact h|cases h
    subst ze
    have RC:news = []:=List.eq_nil_of_length_eq_zero (by rw[rI,Nat.zero_mul])
    subst RC
    have hvv:∃ b m c',v = .slice b m c'/\m<=c':=by
     rcases dh.2 with ⟨rfl,_⟩|⟨g,cap,cur,rfl,_,_,hle,_⟩
     ·exact⟨_,_,_,rfl,Nat.le_refl _⟩
     ·exact⟨_,_,_,rfl,hle⟩
    obtain⟨b,m,c',rfl,hle⟩:=hvv
    refine⟨_,w,lD t ty elem i (hG.ok.un hu) hi b m c' c hle,?_,⟨rfl,rfl,rfl,Nat.le_refl _,fun _ _ _=>rfl⟩,.inl rfl⟩
    rw[List.append_nil]; exact dh
   | some ad =>
    obtain⟨r,w',hr,h3,h4,_,h5⟩:=run_append_own_at (P:=G.cx.P) w 0 t ty elem i zv n bE (hG.ok.un hu) hi Bx r9 EY (by omega) fS v gF xs dh ad len c news rI (fun j u hj=>by
     rcases G5 with h0|⟨g,o,e⟩
     ·rw[h0,Nat.zero_mul] at rI
      have:=List.eq_nil_of_length_eq_zero rI
      subst this; simp at hj
     ·cases e
      rw[Ev.gx]; exact zd g o rfl j u hj) sN h1 h2 (Nat.zero_le _)
    exact⟨r,w',hr,h3,h4,h5⟩
  
  have kT:∀ {r:Value} {w':World} {b:aj},w'.ownsRow 0 elem n r (gF+len) (xs++news)->w.grownBy w' v.ownBlock->(r.ownBlock=v.ownBlock\/r.ownBlock=some w.heap.size)->kf (s.store jn) b q->b.m = .w ->
    (∀ (p:na),((p.a=none/\p.len=0/\p.cap=0/\gF+len=0)\/∃ g cur,p.a=some (g,0)/\p.len=gF+len/\w'.heap[g]?=some (.cells cur elem (0,0))/\p.len<=p.cap/\p.cap<=maxLen/\cur.size=p.cap*n/\(∀ (j:Nat) (v:Value),(xs++news)[j]?=some v->cur[j]?=some v)) ->
     (∀ g,p.a=some (g,0)->Own I (β.set jn.length p) (jn++[b]) jn.length g (0,0) b)->(∀ g,I g->w'.heap[g]?=w.heap[g]?)->fF I (β.set jn.length p) (jn++[b]) w' jn.length b)->bF G s I β w a q r w':=by
   intro r w' b sO hg iE h hm hb
   rcases sO.2 with ⟨rfl,h0⟩|⟨g,cap,cur,rfl,_,gV,hle,oF,fj,cz⟩
   ·have:=nR (p:=⟨none,0,0⟩) hR hk oM qj hv hg h (fun g o e=>by cases e) hm (hb ⟨none,0,0⟩ (.inl ⟨rfl,rfl,rfl,h0⟩))
    exact this
   ·have:=nR (p:=⟨some (g,0),gF+len,cap⟩) hR hk oM qj hv hg h (fun g' o e=>by
     cases e
     simp only[Value.ownBlock] at iE
     exact iE.imp (fun e=>e.symm) (fun e=>by cases e; rfl)) hm (hb ⟨some (g,0),gF+len,cap⟩ (.inr ⟨g,cur,rfl,rfl,gV,hle,oF,fj,fun j v hj=>by
      rw[← cz,List.getElem?_take] at hj
      split at hj
      ·simpa using hj
      ·cases hj⟩))
    exact this
  have oH:∀ {w':World},w.grownBy w' v.ownBlock->∀ g,I g->w'.heap[g]?=w.heap[g]?:=fun hg g hI=>hg.block g (hR.au.au g hI) fun e=>(hv g e.symm).2.1 hI
  have hlenE:(xs++news).length=(gF+len)*n:=by rw[List.length_append,mI,rI,Nat.add_mul]
  have told:(aU (fW ag n dst) fun es=>aU (fW ag n src) fun fs=>es.length+fs.length<=maxLen/\(es.length+fs.length)*bE<=140737488355328/\kf (s.store jn) ⟨.dyn,elem,n,.w,true,es++fs⟩ q)->∃ r w',(Builtin.append_ #[t,t] ty #[v,.slice ad len c]).run G.cx.P w = .ok r w'/\bF G s I β w a q r w':=by
   intro h
   replace h:=ao h
   obtain⟨es,oh,h⟩:=h
   replace h:=ao h
   obtain⟨fs,RA,h⟩:=h
   obtain⟨he1,he2⟩:=fZ fS Zl oh rJ mI
   obtain⟨hf1,hf2⟩:=fZ fS Zl RA ja rI
   obtain⟨h1,h2,h⟩:=h
   rw[he1,hf1] at h1 h2
   obtain⟨r,w',hr,sO,hg,iE⟩:=run h1 h2
   refine⟨r,w',hr,kT sO hg iE h rfl fun p hp hO hI=>⟨p,an.dy ..,?_⟩⟩
   rcases hp with ⟨ha,hl,Zm,h0⟩|⟨g,cur,ha,hl,gV,hle,oF,fj,nx⟩
   ·exact⟨⟨fS,by simp only[List.length_append]; omega,by omega,by rw[Zm]; exact Nat.zero_le _⟩,.inl ⟨ha,Zm⟩⟩
   ·refine⟨⟨fS,by simp only[List.length_append]; omega,hle,oF⟩,.inr ⟨g,cur,(0,0),ha,gV,?_,hO g ha,fj⟩⟩
    exact (he2.append hf2).at (fun j v hj=>by rw[Ev.fh gV]; exact nx j v hj) (fun _ h=>h) hI
  split at h
  ·rename_i cs ds
   rw[gA,gA,Nat.zero_add,Nat.zero_add] at h
   replace h:=ba h
   obtain⟨iW,h⟩:=h
   simp only[Bool.and_eq_true] at iW
   obtain⟨⟨⟨hd0,hd1⟩,Dh⟩,RM⟩:=iW
   have hd0:0 < ds.length:=Nat.le_of_ble_eq_true hd0
   have Dh:=Nat.le_of_ble_eq_true Dh
   have RM:=Nat.le_of_ble_eq_true RM
   replace h:=cW h
   have xj:cs.length=gF*n:=by rw[← rJ.1,mI]
   have G9:ds.length=len*n:=by rw[← ja.1,rI]
   have e1:gF<=gF*n:=Nat.le_mul_of_pos_right _ fS
   have e2:len<=len*n:=Nat.le_mul_of_pos_right _ fS
   obtain⟨r,w',hr,sO,hg,iE⟩:=run (by omega) (Nat.le_trans (Nat.mul_le_mul_right _ (by omega)) Dh)
   have sP:0 < len:=by
    rcases Nat.eq_zero_or_pos len with h0|h0
    ·rw[h0,Nat.zero_mul] at G9; omega
    ·exact h0
   refine⟨r,w',hr,kT sO hg iE h rfl fun p hp hO hI=>⟨p,an.dy ..,?_⟩⟩
   rcases hp with ⟨ha,hl,Zm,h0⟩|⟨g,cur,ha,hl,gV,hle,oF,fj,nx⟩
   ·omega
   ·refine⟨g,cur,(0,0),ha,gV,fun j c hj=>?_,hO g ha,by simp only[List.length_append]; rw[hl,Nat.add_mul]; omega,hle,oF,fj,fS⟩
    obtain⟨v',h1,h2,h3⟩:=(aS.append rJ ja).2 j c hj
    exact⟨v',by rw[Nat.zero_add]; exact nx j v' h1,PV.Is.mono (fun _ h=>h) hI c β _ v' (fun l p' _ dM=>an.iD hk p l p' dM) h2,h3⟩
  ·exact told h
 ·exact h.elim
theorem sQ (hR:Rel G I β s a w):∀ {os:List Operand} {q:List PV->Prop},y7 s os q->∃ l,q l/\bg w I l β (os.map a.eval)
 | [],q,h=>⟨[],h,by simp only[List.map_nil,bg]⟩
 | o::os,q,h=>by
  replace h:=aD.cd hR h
  obtain⟨x,h,hx⟩:=h
  obtain⟨l,h,hl⟩:=sQ hR h
  exact⟨_,h,by simp only[List.map_cons,bg]; exact⟨hx,hl⟩⟩
theorem TM.qk {rl:List Nat}:∀ {t:TM} {n:Nat} {x:PV},(t.clear rl).get n=some x->t.get n=some x/\x.leads rl=false
 | .nil,n,x,h=>by cases h
 | .node v l r,n,x,h=>by
  simp only[TM.clear,TM.get] at h ⊢
  cases h0:Nat.beq n 0<;>rw[h0] at h
  ·cases h1:Nat.beq (n % 2) 1<;>rw[h1] at h
   ·exact TM.qk (t:=r) h
   ·exact TM.qk (t:=l) h
  ·cases v with
   | none=>cases h
   | some y =>
    simp only[cond_true] at h ⊢
    split at h
    ·cases h
    ·cases h
     rename_i hl
     exact⟨rfl,by simpa using hl⟩
theorem EZ {rl:List Nat} {t:TM} {q:TM->Prop} (h:Bs rl t q):∃ t',q t'/\∀ n x,t'.get n=some x->t.get n=some x/\∀ l∈x.df,l ∉ rl:=by
 unfold Bs at h
 split at h
 ·exact⟨t,h,fun n x hx=>⟨hx,fun _ _ hl=>by cases hl⟩⟩
 ·refine⟨_,h,fun n x hx=>?_⟩
  obtain⟨h1,h2⟩:=TM.qk hx
  refine⟨h1,fun l hl hr=>?_⟩
  unfold PV.leads at h2
  rw[List.any_eq_false] at h2
  refine h2 l hl (List.any_eq_true.2 ⟨l,hr,?_⟩)
  exact Nat.beq_refl l
theorem zg (hR:Rel G I β s a w) {f:FuncId} {args:List PV} {vals:List Value} {q:PV->aD->Prop} (h:C9 G s f args q) (ha:bg w I args β vals) :
  Ev.gz G.cx.P f/\Calls G.cx.P f vals.toArray w fun e w'=>∃ v,e = .returned v/\bF G s I β w a q v w':=by
 obtain⟨n,t,st,b,rl0⟩:=s
 obtain⟨rl,Qz,hs⟩:=h
 unfold Spec at hs
 obtain⟨he,hs⟩:=hs
 refine⟨he,(hs I β w vals hR.heap hR.au ha).mono fun e w' ⟨v,r,S',I',ay,he,hk,hr,hH,hM,hE,hlen,ny⟩=>⟨v,he,?_⟩⟩
 obtain⟨t',hq,Bc⟩:=EZ hk
 refine⟨r,_,I',ay,hq,⟨hR.small,hR.defers,hR.size,Nat.le_trans hR.base hlen,fun m x hx=>?_,hH,hM⟩,hr,hE,rfl,rfl,rfl,fun l hl hn=>?_,fun l b' cO hm=>ny l (List.getElem?_eq_some_iff.1 cO).1 fun hr=>(Qz l hr).2 b' cO hm⟩
 ·obtain⟨h1,h2⟩:=Bc m x hx
  obtain⟨u,hu,hi⟩:=hR.get m x h1
  refine⟨u,hu,PV.Is.mono hE.au (hE.keeps hR.heap hR.au.au) x β ay u (fun l p hl hp=>?_) hi⟩
  rw[ny l (hR.heap.lt hp) (h2 l hl)]; exact hp
 ·have iu:l < b:=hl
  refine ny l (Nat.lt_of_lt_of_le iu hR.base) fun hr=>?_
  rcases (Qz l hr).1 with h|h
  ·omega
  ·exact hn h
set_option maxHeartbeats 1000000 in
theorem sR (hG:fD G) (hR:Rel G I β s a w) {o:Oper} {q:PV->aD->Prop} (h:pop G s o q):Ev.lU G.cx.P (bF G s I β w a q) ((execOp a.eval o).run G.cx.P w):=by
 have jo:∀ {q':PV->Prop},nu G.cx s o.op q'->(∀ v,q' v->q v s)->Ev.lU G.cx.P (bF G s I β w a q) ((execOp a.eval o).run G.cx.P w):=by
  intro q' h hq
  obtain⟨x,r,hx,hi,hr⟩:=oG hG.ok hR h
  rw[hr w]
  exact bF.same hR (hq x hx) hi
 unfold pop at h
 split at h
 ·
  rename_i t ad h_
  replace h:=aD.cd hR h
  obtain⟨x,h,hx⟩:=h
  obtain⟨z,v,g,h,hz,_,bp⟩:=jm hG.ok hR.heap hR.au h hx
  replace bp:=bp w rfl
  unfold execOp
  rw[h_]
  simp only[Sem.run_bind,bp,Result.andThen_ok,Sem.run_pure]
  exact bF.same hR h hz
 ·
  rename_i t ad y h_
  replace h:=aD.cd hR h
  obtain⟨x,h,hx⟩:=h
  replace h:=aD.cd hR h
  obtain⟨v,h,hv⟩:=h
  obtain⟨w',bp,hp⟩:=EW hG hR h hx hv
  unfold execOp
  rw[h_]
  simp only[Sem.run_bind,bp,Result.andThen_ok,Sem.run_pure]
  exact hp
 ·
  rename_i t h_
  replace h:=gj (w:=w) (I:=I) (β:=β) hG.ok h
  obtain⟨z,i,v,h,hi,Bx,rF⟩:=h
  replace h:=ba (cW h)
  obtain⟨eC,h⟩:=h
  rw[List.all_eq_true] at eC
  have bp:(execOp a.eval o).run G.cx.P w = .ok (.value (.pointer (some ⟨w.heap.size,0,none⟩))) (w.alloc (.cells v.cells t)):=by
   unfold execOp
   rw[h_]
   simp[Instr.alloc,zeroValue,typeInfo,hi,Bx,newVar,newRow]
  rw[bp]
  exact Dg hR h rF eC
 ·
  rename_i t y h_
  replace h:=aD.cd hR h
  obtain⟨x,h,hx⟩:=h
  have bp:(execOp a.eval o).run G.cx.P w = .ok (.value (.pointer (some ⟨w.heap.size,0,none⟩))) (w.alloc (.cells (a.eval y).cells t)):=by
   unfold execOp
   rw[h_]
   simp[Instr.box,newVar,newRow]
  rw[bp]
  split at h
  ·exact h.elim
  ·rename_i Dc
   replace h:=ba h
   obtain⟨eC,h⟩:=h
   rw[List.all_eq_true] at eC
   exact Dg hR (cW h) (hx.lX fun vs e=>Dc vs e) eC
 ·
  rename_i t len ps h_
  replace h:=ao h
  obtain⟨d,hu,h⟩:=h
  split at h
  ·rename_i elem
   replace h:=ao h
   obtain⟨n,hn,h⟩:=h
   replace h:=gj (w:=w) (I:=I) (β:=β) hG.ok h
   obtain⟨z,i,v,h,hi,Bx,rF⟩:=h
   replace h:=qd hR h
   obtain⟨l,h,hl⟩:=h
   replace h:=ba h
   obtain⟨hc,h⟩:=h
   simp only[Bool.and_eq_true] at hc
   have Qy:z.length=n:=Nat.eq_of_beq_eq_true hc.1.1
   have jK:len*n<=16777216:=Nat.le_of_ble_eq_true hc.1.2
   have fS:0 < n:=Nat.le_of_ble_eq_true hc.2
   replace h:=oC h
   obtain⟨cs,Zn,h⟩:=h
   replace h:=ba (cW h)
   obtain⟨iW,h⟩:=h
   simp only[Bool.and_eq_true,List.all_eq_true] at iW
   have xj:=Nat.eq_of_beq_eq_true iW.1.2
   have oF:=Nat.le_of_ble_eq_true iW.2
   have hzs:=rF.length
   simp only[Array.length_toList] at hzs
   have rep:∀ k,bg w I ((List.replicate k z).flatten) β ((List.replicate k v.cells.toList).flatten):=fun k=>by
    induction k with
    | zero=>simp only[List.replicate_zero,List.flatten_nil,bg]
    | succ k ih=>simp only[List.replicate_succ,List.flatten_cons]; exact rF.append ih
   have RN:bg w I ((List.replicate len z).flatten) β ((Array.range (len*n)).map fun i=>v.cells[i % v.cells.size]!).toList:=by
    rw[show n=v.cells.size by omega,Ev.yZ len (by omega)]; exact rep len
   obtain⟨B,hB,Zc⟩:=oD Zn RN hl
   have bp:(execOp a.eval o).run G.cx.P w = .ok (.value (.slice (some ⟨w.heap.size,0,none⟩) len len)) (w.alloc (.cells B elem)):=by
    unfold execOp
    rw[h_]
    have hB':Instr.fill (fun i=>some (i*n,n)) ((Array.range (len*n)).map fun i=>v.cells[i % v.cells.size]!) (ps.map fun (i,y)=>(i,a.eval y)).toList=some B:=by
     rw[← hB]; simp
    have QA:¬ (len*n > 2 ^ 24):=by omega
    by_cases h0:len*n=0
    ·have hE:∀ g:Nat->Value,(Array.range (len*n)).map g = #[]:=fun g=>by rw[h0]; simp
     rw[hE] at hB'
     simp only[Instr.buildSlice,Sem.run_bind,run_underlying (hG.ok.un hu),Result.andThen_ok,Ev.di hG.ok hn,if_neg QA,if_pos h0,Sem.run_pure,hE,hB']
     simp[newRow]
    ·have hzr:(zeroValue elem).run G.cx.P w = .ok v w:=by simp[zeroValue,typeInfo,hi,Bx]
     simp only[Instr.buildSlice,Sem.run_bind,run_underlying (hG.ok.un hu),Result.andThen_ok,Ev.di hG.ok hn,if_neg QA,if_neg h0,Sem.run_pure,hzr,hB']
     simp[newRow]
   rw[bp]
   exact y_ hR h Zc iW.1.1 xj fS oF
  ·exact h.elim
 ·
  rename_i y sG argTypes h_
  replace h:=aD.cd hR h
  obtain⟨x,h,hx⟩:=h
  split at h
  ·rename_i f eB
   cases uV:G.ext.any (Nat.beq f) with
   | true=>rw[uV] at h; replace h:fO G s o q:=h; unfold fO at h; exact h I β a w hR
   | false =>
   rw[uV] at h
   replace h:y7 s sG fun l=>C9 G s f (l++eB) q:=h
   simp only[PV.Is] at hx
   obtain⟨H_,Zo,Zp⟩:=hx
   replace h:=sQ hR h
   obtain⟨l,h,hl⟩:=h
   obtain⟨RO,sS⟩:=zg hR h (hl.append Zp)
   have bp:(execOp a.eval o).run G.cx.P w = .ok (.enter f (sG.map a.eval++H_.toList).toArray) w:=by
    unfold execOp
    rw[h_]
    have e1:(Array.mk sG).map a.eval++H_=(sG.map a.eval++H_.toList).toArray:=by simp
    simp only[resolve,Zo,Deferred.ofValue,Sem.run_bind,Sem.run_pure,Result.andThen_ok,invoke]
    simp only[Array.empty_append]
    rw[e1]
    exact RO _ w
   rw[bp]
   exact sS
  ·exact h.elim
 ·
  rename_i od ox t t' h_
  replace h:=ba h
  obtain⟨ht,h⟩:=h
  have:=Nat.eq_of_beq_eq_true ht
  subst this
  replace h:=aD.cd hR h
  obtain⟨d,h,hd⟩:=h
  replace h:=aD.cd hR h
  obtain⟨x,h,hx⟩:=h
  obtain⟨r,w',hr,hp⟩:=BF (ty:=o.type) hG hR h hd hx
  have bp:(execOp a.eval o).run G.cx.P w = .ok (.value r) w':=by
   unfold execOp
   rw[h_]
   simp[resolve,invoke,builtin,hr]
  rw[bp]
  exact hp
 ·unfold fO at h; exact h I β a w hR
 ·unfold fO at h; exact h I β a w hR
 ·unfold fO at h; exact h I β a w hR
 ·unfold fO at h; exact h I β a w hR
 ·unfold fO at h; exact h I β a w hR
 ·unfold fO at h; exact h I β a w hR
 ·rename_i src dst ox h_
  cases hb:Nat.beq dst 9 with
  | true=>rw[hb] at h; replace h:fO G s o q:=h; unfold fO at h; exact h I β a w hR
  | false=>rw[hb] at h; exact jo (by rw[h_]; exact h) fun _ h=>h
 ·exact jo h fun _ h=>h
end
section
variable {w w':World} {I I':Nat->Prop} {β ay:an} {cx:Ev.Cx} {G:Gx} {P:Program} {s:aD} {a:Act} {st dY:List aj}
theorem TM.oN {v:Option PV}:∀ {f:Nat} {t:TM} {n:Nat} {k:TM->Prop},TM.nc v f t n k->∃ t',k t'/\∀ m,t'.get m=if m=n then v else t.get m
 | 0,_,_,_,h=>h.elim
 | f+1,t,n,k,h=>by
  have arith:∀ m,Nat.beq n 0=false->(m=n↔Nat.beq m 0=false/\m % 2=n % 2/\(m - 1) / 2=(n - 1) / 2):=fun m h0=>by
   have hn:n≠0:=fun e=>by subst e; cases h0
   constructor
   ·rintro rfl; exact⟨h0,rfl,rfl⟩
   ·rintro⟨h1,h2,h3⟩
    have hm:m≠0:=fun e=>by subst e; cases h1
    omega
  have key:∀ (u:Option PV) (l r:TM),(bif Nat.beq n 0 then k (.node v l r) else bif Nat.beq (n % 2) 1 then TM.nc v f l ((n - 1) / 2) (fun t=>k (.node u t r)) else TM.nc v f r ((n - 1) / 2) (fun t=>k (.node u l t))) ->
    ∃ t',k t'/\∀ m,t'.get m=if m=n then v else (TM.node u l r).get m:=by
   intro u l r h
   cases h0:Nat.beq n 0<;>rw[h0] at h
   ·cases h1:Nat.beq (n % 2) 1<;>rw[h1] at h
    ·obtain⟨t',hk,ht⟩:=TM.oN h
     refine⟨_,hk,fun m=>?_⟩
     have hp:n % 2=0:=by
      have:n % 2≠1:=fun e=>by rw[e] at h1; cases h1
      omega
     simp only[TM.get]
     cases l5:Nat.beq m 0
     ·cases p7:Nat.beq (m % 2) 1
      ·have sT:m % 2=0:=by
        have:m % 2≠1:=fun e=>by rw[e] at p7; cases p7
        omega
       simp only[cond_false,ht]
       by_cases e:(m - 1) / 2=(n - 1) / 2
       ·rw[if_pos e,if_pos ((arith m h0).2 ⟨l5,by omega,e⟩)]
       ·rw[if_neg e,if_neg fun e'=>e ((arith m h0).1 e').2.2]
      ·have sT:m % 2=1:=Nat.eq_of_beq_eq_true p7
       simp only[cond_false,cond_true]
       rw[if_neg fun e'=>by rw[e'] at sT; omega]
     ·have:=Nat.eq_of_beq_eq_true l5
      subst this
      simp only[cond_true]
      rw[if_neg fun e=>by rw[← e] at h0; cases h0]
    ·obtain⟨t',hk,ht⟩:=TM.oN h
     refine⟨_,hk,fun m=>?_⟩
     have hp:n % 2=1:=Nat.eq_of_beq_eq_true h1
     simp only[TM.get]
     cases l5:Nat.beq m 0
     ·cases p7:Nat.beq (m % 2) 1
      ·simp only[cond_false]
       rw[if_neg fun e'=>by rw[e'] at p7; rw[p7] at h1; cases h1]
      ·have sT:m % 2=1:=Nat.eq_of_beq_eq_true p7
       simp only[cond_false,cond_true,ht]
       by_cases e:(m - 1) / 2=(n - 1) / 2
       ·rw[if_pos e,if_pos ((arith m h0).2 ⟨l5,by omega,e⟩)]
       ·rw[if_neg e,if_neg fun e'=>e ((arith m h0).1 e').2.2]
     ·have:=Nat.eq_of_beq_eq_true l5
      subst this
      simp only[cond_true]
      rw[if_neg fun e=>by rw[← e] at h0; cases h0]
   ·have:=Nat.eq_of_beq_eq_true h0
    subst this
    refine⟨_,h,fun m=>?_⟩
    simp only[TM.get]
    cases l5:Nat.beq m 0
    ·rw[if_neg fun e=>by subst e; cases l5]; rfl
    ·rw[if_pos (Nat.eq_of_beq_eq_true l5)]; rfl
  cases t with
  | nil =>
   obtain⟨t',hk,ht⟩:=key none .nil .nil h
   refine⟨t',hk,fun m=>?_⟩
   rw[ht]
   split
   ·rfl
   ·simp only[TM.get]; cases Nat.beq m 0<;>cases Nat.beq (m % 2) 1<;>rfl
  | node u l r=>exact key u l r h
structure jb (s s':aD):Prop where
 n:s'.n=s.n
 st:s'.st=s.st
 base:s'.base=s.base
 rl:s'.rl=s.rl
theorem aD.aT {dst:Option Tmp} {x:PV} {k:aD->Prop} (h:s.put dst x k):∃ s',k s'/\jb s s'/\∀ I β a w v,Rel G I β s a w->x.Is w I β v->Rel G I β s' (a.put dst v) w:=by
 obtain⟨n,t,st,b,rl⟩:=s
 unfold aD.put at h
 simp only at h
 split at h
 ·exact⟨_,h,⟨rfl,rfl,rfl,rfl⟩,fun I β a w v hR _=>hR⟩
 ·rename_i d
  replace h:=ba h
  obtain⟨hd,h⟩:=h
  have hd:d < n:=Nat.le_of_ble_eq_true hd
  replace h:=HJ h
  obtain⟨t',hk,ht⟩:=TM.oN h
  refine⟨_,hk,⟨rfl,rfl,rfl,rfl⟩,fun I β a w v hR hx=>⟨hR.small,hR.defers,by simpa [Act.put] using hR.size,hR.base,fun m y hy=>?_,hR.heap,hR.au⟩⟩
  have eL:d < a.tmps.size:=by rw[hR.size]; exact hd
  have MB:t'.get m=some y:=hy
  rw[ht] at MB
  by_cases e:m=d
  ·subst e
   rw[if_pos rfl] at MB
   cases MB
   exact⟨v,by simp[Act.put,eL],hx⟩
  ·rw[if_neg e] at MB
   obtain⟨u,hu,hi⟩:=hR.get m y MB
   exact⟨u,by simp only[Act.put,Array.getElem?_setIfInBounds_ne (Ne.symm e)]; exact hu,hi⟩
theorem aD.gk {t:Nat} {x:PV} {v:Value} {k:aD->Prop} (hR:Rel G I β s a w) (hv:a.tmps[t]?=some v) (hx:x.Is w I β v) (h:s.put (some t) x k):∃ s',k s'/\jb s s'/\Rel G I β s' a w:=by
 obtain⟨s',hk,hs,hr⟩:=aD.aT (G:=G) h
 refine⟨s',hk,hs,?_⟩
 have:=hr I β a w v hR hx
 have e:a.put (some t) v=a:=by
  unfold Act.put
  simp only
  have:a.tmps.setIfInBounds t v=a.tmps:=by
   apply Array.ext_getElem?
   intro i
   rw[Array.getElem?_setIfInBounds]
   split
   ·rename_i hi
    subst hi
    have:=(Array.getElem?_eq_some_iff.1 hv).1
    rw[if_pos this,hv]
   ·rfl
  rw[this]
 rw[e] at this
 exact this
theorem Is.undef:(PV.tup []).Is w I β Go.undef:=by simp only[PV.Is]; exact⟨#[],rfl,by simp only[bg]⟩
theorem c9 {ops:Array Oper} {o:Oper} {run skip:aD->Prop} (hR:Rel G I β s a w) (h:gB ops.toList s o run skip) :
  (Region.wanted o (yielded ops a.tmps)=true/\∃ s',run s'/\jb s s'/\Rel G I β s' a w)\/(Region.wanted o (yielded ops a.tmps)=false/\∃ s',skip s'/\jb s s'/\Rel G I β s' a w):=by
 have same:jb s s:=⟨rfl,rfl,rfl,rfl⟩
 unfold gB at h
 cases hg:o.guard with
 | none =>
  rw[hg] at h
  exact .inl ⟨by simp[Region.wanted,hg],s,h,same,hR⟩
 | some jw =>
  obtain⟨j,want⟩:=jw
  rw[hg] at h
  simp only at h
  replace h:=ao h
  obtain⟨t,ht,h⟩:=h
  replace h:=ao h
  obtain⟨x,hx,h⟩:=h
  obtain⟨v,hv,hi⟩:=hR.get t x hx
  have Bc:(ops[j]?).bind (·.dst)=some t:=by simpa using ht
  have hy:∀ b,v = .bool b->Region.wanted o (yielded ops a.tmps)=(b == want):=fun b hb=>by
   subst hb
   have:yielded ops a.tmps j=some b:=by unfold yielded; rw[Option.bind_eq_some_iff.2 ⟨t,Bc,hv⟩]
   simp[Region.wanted,hg,this]
  split at h<;>try simp only[PV.Is] at hi
  ·cases want
   ·exact .inr ⟨by rw[hy _ hi]; rfl,s,h,same,hR⟩
   ·exact .inl ⟨by rw[hy _ hi]; rfl,s,h,same,hR⟩
  ·cases want
   ·exact .inl ⟨by rw[hy _ hi]; rfl,s,h,same,hR⟩
   ·exact .inr ⟨by rw[hy _ hi]; rfl,s,h,same,hR⟩
  ·rename_i p
   by_cases hp:p
   ·obtain⟨s',hk,hs,hr⟩:=aD.gk hR hv (x:=.tt) (by rw[hi,cv hp]; exact Is.tt) (h.1 hp)
    cases want
    ·exact .inr ⟨by rw[hy _ hi,cv hp]; rfl,s',hk,hs,hr⟩
    ·exact .inl ⟨by rw[hy _ hi,cv hp]; rfl,s',hk,hs,hr⟩
   ·obtain⟨s',hk,hs,hr⟩:=aD.gk hR hv (x:=.ff) (by rw[hi,bT hp]; exact Is.ff) (h.2 hp)
    cases want
    ·exact .inl ⟨by rw[hy _ hi,bT hp]; rfl,s',hk,hs,hr⟩
    ·exact .inr ⟨by rw[hy _ hi,bT hp]; rfl,s',hk,hs,hr⟩
  ·obtain⟨vs,rfl,_⟩:=hi
   refine .inr ⟨?_,s,h,same,hR⟩
   have:yielded ops a.tmps j=none:=by unfold yielded; rw[Option.bind_eq_some_iff.2 ⟨t,Bc,hv⟩]
   simp[Region.wanted,hg,this]
  ·exact h.elim
structure aG (I:Nat->Prop) (β:an) (s:aD) (w:World) (I':Nat->Prop) (ay:an) (s':aD) (w':World):Prop where
 ext:Ext I β s.st w I' ay s'.st w'
 base:s'.base=s.base
 rl:s'.rl=s.rl
 n:s'.n=s.n
 low:∀ l,l < s.base->l ∉ s.rl->ay l=β l
theorem aG.same {s':aD} (h:jb s s'):aG I β s w I β s' w:=⟨by rw[h.st]; exact Ext.refl,h.base,h.rl,h.n,fun _ _ _=>rfl⟩
theorem aG.trans {Y7:Nat->Prop} {HD:an} {s' s'':aD} {m_:World} (h:aG I β s w I' ay s' w') (k:aG I' ay s' w' Y7 HD s'' m_):aG I β s w Y7 HD s'' m_ :=
 ⟨h.ext.trans k.ext,k.base.trans h.base,k.rl.trans h.rl,k.n.trans h.n,fun l hl hr=>(k.low l (by rw[h.base]; exact hl) (by rw[h.rl]; exact hr)).trans (h.low l hl hr)⟩
theorem xw (hG:fD G) {ops:Array Oper} {Q:X->aD->Prop} {Q':Exit->Act->World->Prop}:∀ (l:List Oper) {s:aD} {a:Act} {I:Nat->Prop} {β:an} {w:World},xb G ops.toList Q l s->Rel G I β s a w ->
  (∀ x s' I' ay a' w',Q x s'->Rel G I' ay s' a' w'->aG I β s w I' ay s' w'->Q' (X.e x) a' w')->wpList G.cx.P ops Q' l a w
 | [],s,a,I,β,w,h,hR,hQ=>hQ .cA s I β a w h hR (aG.same ⟨rfl,rfl,rfl,rfl⟩)
 | o::l,s,a,I,β,w,h,hR,hQ=>by
  unfold wpList
  rcases c9 hR h with ⟨hw,s1,h1,d_,cI⟩|⟨hw,s1,h1,d_,cI⟩
  ·rw[hw,if_pos rfl]
   refine .inl (Ev.ou (sR hG cI h1) fun v w' hp=>?_)
   obtain⟨x,s2,I2,ee,h2,eM,hx,hE,e1,e2,e3,dU,_⟩:=hp
   obtain⟨s3,h3,eA,gW⟩:=aD.aT (G:=G) h2
   have g1:aG I β s w I2 ee s2 w':=(aG.same d_).trans ⟨hE,e1,e2,e3,dU⟩
   exact xw hG l h3 (gW _ _ _ _ v eM hx) fun x s' I' ay a' m_ hq br hg=>hQ x s' I' ay a' m_ hq br ((g1.trans (aG.same eA)).trans hg)
  ·rw[hw,if_neg (by simp)]
   obtain⟨s3,h3,eA,gW⟩:=aD.aT (G:=G) h1
   exact xw hG l h3 (gW _ _ _ _ _ cI Is.undef) fun x s' I' ay a' m_ hq br hg=>hQ x s' I' ay a' m_ hq br (((aG.same d_).trans (aG.same eA)).trans hg)
end
def kX:Op->Bool
 | .load ..=>true
 | _=>false
def ai (op:Op):Bool:=!(Ev.g_ op || kX op)
structure jL where
 k:Nat
 D:List Nat
 Y:World->Prop
section
variable {P:Program} {ops:Array Oper} {Q:Exit->Act->World->Prop}
def Yields (P:Program) (ops:Array Oper) (S:World->Prop) (o:Oper) (v:Value) (a:Act):Prop :=
 (Region.wanted o (yielded ops a.tmps)=true/\∀ w,S w->(execOp a.eval o).run P w = .ok (.value v) w)\/(Region.wanted o (yielded ops a.tmps)=false/\v=undef)
theorem Yields.mono {S S':World->Prop} {o:Oper} {v:Value} {a:Act} (hS:∀ w,S' w->S w) (h:Yields P ops S o v a):Yields P ops S' o v a:=h.imp (fun ⟨h1,h2⟩=>⟨h1,fun w hw=>h2 w (hS w hw)⟩) id
theorem Yields.of_same {S:World->Prop} {o:Oper} {v:Value} {a a':Act} (hy:Yields P ops S o v a) (he:execOp a'.eval o=execOp a.eval o) (hw:Region.wanted o (yielded ops a'.tmps)=Region.wanted o (yielded ops a.tmps)):Yields P ops S o v a':=by
 unfold Yields at *; rw[he,hw]; exact hy
def cF (i:Nat) (pins:List jL):List jL:=pins.filter fun p=>!p.D.any (Nat.beq i)
def cB (P:Program) (ops:Array Oper) (Q:Exit->Act->World->Prop):Nat->Array Bool->Act->(World->Prop)->List jL->Prop
 | 0,l,a,S,_=>Region.ready .any ops l = []/\∀ w,S w->Q .normal a w
 | f+1,l,a,S,pins=>(Region.ready .any ops l = []->∀ w,S w->Q .normal a w)/\∀ i∈Region.ready .any ops l,∀ o,ops[i]?=some o ->
   (ai o.op=false->∃ v,Yields P ops S o v a/\cB P ops Q f (l.setIfInBounds i true) (a.put o.dst v) S (cF i pins)) /\
   (ai o.op=true->∀ w,S w->Ev.nK P ops o a w fun v w'=>∃ S':World->Prop,(∀ p∈cF i pins,∀ w,S' w->p.Y w)/\S' w'/\cB P ops Q f (l.setIfInBounds i true) (a.put o.dst v) S' (cF i pins))
theorem cB.sound:∀ (f:Nat) (l:Array Bool) (a:Act) (S:World->Prop) (pins:List jL) (w:World),cB P ops Q f l a S pins->S w->wpAny P .any ops Q f l a w
 | 0,l,a,S,_,w,h,hw=>⟨h.1,h.2 w hw⟩
 | f+1,l,a,S,pins,w,h,hw=>by
  refine⟨fun h0=>h.1 h0 w hw,fun i hi=>?_⟩
  obtain⟨o,ho⟩:=Ev.y0 hi
  obtain⟨h0,h1⟩:=h.2 i hi o ho
  unfold wpOp
  rw[ho]
  simp only
  by_cases hl:ai o.op=false
  ·obtain⟨v,hy,hn⟩:=h0 hl
   rcases hy with ⟨cP,hy⟩|⟨cP,rfl⟩
   ·rw[if_pos cP]
    refine .inl (Ev.ou (K:=fun u w'=>u=v/\w'=w) (by rw[hy w hw]; exact⟨rfl,rfl⟩) fun u w' ⟨hu,hb⟩=>?_)
    subst hu; subst hb
    exact cB.sound f _ _ S _ w' hn hw
   ·rw[if_neg (by rw[cP]; simp)]
    exact cB.sound f _ _ S _ w hn hw
  ·rcases h1 (by simpa using hl) w hw with ⟨cP,hd⟩|⟨cP,S',_,qZ,hn⟩
   ·rw[if_pos cP]
    refine .inl (Ev.ou hd fun u w' ⟨S',_,qZ,hn⟩=>?_)
    exact cB.sound f _ _ S' _ w' hn qZ
   ·rw[if_neg (by rw[cP]; simp)]
    exact cB.sound f _ _ S' _ w hn qZ
theorem gl {o:Oper} {a:Act} {w:World} {K K':Value->World->Prop} (hK:∀ v w,K v w->K' v w) (h:Ev.nK P ops o a w K):Ev.nK P ops o a w K':=Ev.nK.mono hK h
theorem ql {i:Nat} {pins vx:List jL} (h:∀ p∈vx,p∈pins):∀ p∈cF i vx,p∈cF i pins:=fun p hp=>by
 unfold cF at *
 rw[List.mem_filter] at *
 exact⟨h p hp.1,hp.2⟩
theorem cB.sub:∀ (f:Nat) (l:Array Bool) (a:Act) (S:World->Prop) (pins vx:List jL),(∀ p∈vx,p∈pins)->cB P ops Q f l a S pins->cB P ops Q f l a S vx
 | 0,_,_,_,_,_,_,h=>h
 | f+1,l,a,S,pins,vx,hs,h=>by
  refine⟨h.1,fun i hi o ho=>?_⟩
  obtain⟨h0,h1⟩:=h.2 i hi o ho
  refine⟨fun hl=>?_,fun hl w hw=>gl (fun v w' ⟨S',h2,h3,h4⟩=>⟨S',fun p hp=>h2 p (ql hs p hp),h3,cB.sub f _ _ _ _ _ (ql hs) h4⟩) (h1 hl w hw)⟩
  obtain⟨v,hy,hn⟩:=h0 hl
  exact⟨v,hy,cB.sub f _ _ _ _ _ (ql hs) hn⟩
theorem cB.first {i:Nat} {oi:Oper} {v:Value} {D:List Nat} {Y:World->Prop} (hi:ops[i]?=some oi) (Yx:ai oi.op=false) (kY:Region.noSelect ops=true) :
  ∀ (f:Nat) (l:Array Bool) (a:Act) (S:World->Prop) (pins:List jL),
   (∀ j oj,ops[j]?=some oj->j≠i->l.getD j true=false->(∀ e∈oj.after,Region.binds .any e=true->e.on≠i)->oi.apart ops oj=true) ->
   (∀ j∈D,l.getD j false=false/\∃ oj,ops[j]?=some oj/\∃ e∈oj.after,Region.binds .any e=true/\(e.on=i\/e.on∈D)) ->
   Yields P ops Y oi v a->(∀ w,S w->Y w)->i∈Region.ready .any ops l->cB P ops Q f (l.setIfInBounds i true) (a.put oi.dst v) S (⟨i,D,Y⟩::pins)->cB P ops Q (f+1) l a S pins:=by
 intro f
 induction f with
 | zero =>
  intro l a S pins _ _ hY hSY hr H
  refine⟨fun h0=>(by rw[h0] at hr; cases hr),fun j hj o ho=>?_⟩
  by_cases G8:j=i
  ·subst G8
   rw[hi] at ho; cases ho
   exact⟨fun _=>⟨v,hY.mono hSY,H⟩,fun h=>by rw[Yx] at h; cases h⟩
  ·have:=ready_mono hj G8
   rw[H.1] at this
   cases this
 | succ f ih =>
  intro l a S pins QB hD hY hSY hr H
  refine⟨fun h0=>(by rw[h0] at hr; cases hr),fun j hj oj iG=>?_⟩
  by_cases G8:j=i
  ·subst G8
   rw[hi] at iG; cases iG
   refine⟨fun _=>⟨v,hY.mono hSY,?_⟩,fun h=>by rw[Yx] at h; cases h⟩
   refine cB.sub _ _ _ _ _ _ (fun p hp=>?_) H
   unfold cF at hp
   exact List.mem_cons_of_mem _ (List.mem_filter.1 hp).1
  ·obtain⟨Zq,oj',oO,eC⟩:=mem_ready.1 hj
   rw[iG] at oO; cases oO
   have RP:=(mem_ready.1 hr).1
   have Zr:l.getD i false=false:=by
    have bZ:i < l.size:=by
     rcases Nat.lt_or_ge i l.size with h'|h'
     ·exact h'
     ·simp[Array.getElem?_eq_none h'] at RP
    simp[bZ] at RP ⊢; exact RP
   have Zs:∀ e∈oj.after,Region.binds .any e=true->e.on≠i:=fun e he hb heq=>by
    have h1:=eC e he hb
    rw[heq,Zr] at h1; cases h1
   have hjD:D.any (Nat.beq j)=false:=by
    rw[List.any_eq_false]
    intro x hx e
    have:=Nat.eq_of_beq_eq_true e
    subst this
    obtain⟨_,oj2,HU,ed,he,hb,h3⟩:=hD j hx
    rw[iG] at HU; cases HU
    rcases h3 with h3|h3
    ·exact Zs ed he hb h3
    ·have h4:=eC ed he hb
     rw[(hD _ h3).1] at h4; cases h4
   have hjD':j ∉ D:=fun hm=>by
    rw[List.any_eq_false] at hjD
    exact hjD j hm (Nat.beq_refl j)
   have Yy:cF j (⟨i,D,Y⟩::pins)=⟨i,D,Y⟩::cF j pins:=by
    unfold cF
    rw[List.filter_cons,if_pos (by simp only[hjD]; rfl)]
   have hap:=QB j oj iG G8 Zq Zs
   obtain⟨a1,a2,a3⟩:=Oper.apart_spec hap
   have hsi:=fun cs b=>Region.noSelect_spec kY i oi cs b hi
   have hsj:=fun cs b=>Region.noSelect_spec kY j oj cs b iG
   have ej:execOp (a.put oi.dst v).eval oj=execOp a.eval oj:=execOp_put oj hsj a oi.dst v a1
   have wj:Region.wanted oj (yielded ops (a.put oi.dst v).tmps)=Region.wanted oj (yielded ops a.tmps):=wanted_put oj a oi.dst v a1
   have ei:∀ u,execOp (a.put oj.dst u).eval oi=execOp a.eval oi:=fun u=>execOp_put oi hsi a oj.dst u a3
   have wi:∀ u,Region.wanted oi (yielded ops (a.put oj.dst u).tmps)=Region.wanted oi (yielded ops a.tmps):=fun u=>wanted_put oi a oj.dst u a3
   have Ia:∀ k ok,ops[k]?=some ok->k≠i->(l.setIfInBounds j true).getD k true=false->(∀ e∈ok.after,Region.binds .any e=true->e.on≠i)->oi.apart ops ok=true:=fun k ok hk hki Yy Di=>by
    refine QB k ok hk hki ?_ Di
    by_cases hjk:j=k
    ·subst hjk; exact Zq
    ·rw[getD_set_ne true hjk] at Yy; exact Yy
   have hD':∀ k∈D,(l.setIfInBounds j true).getD k false=false/\∃ oj,ops[k]?=some oj/\∃ e∈oj.after,Region.binds .any e=true/\(e.on=i\/e.on∈D):=fun k hk=>by
    refine⟨?_,(hD k hk).2⟩
    rw[getD_set_ne false (fun e=>hjD' (by rw[e]; exact hk))]
    exact (hD k hk).1
   obtain⟨h0,h1⟩:=H.2 j (ready_mono hj G8) oj iG
   rw[Yy] at h0 h1
   refine⟨fun hl=>?_,fun hl w hw=>?_⟩
   ·obtain⟨u,hu,hn⟩:=h0 hl
    refine⟨u,hu.of_same ej.symm wj.symm,?_⟩
    refine ih (l.setIfInBounds j true) (a.put oj.dst u) S (cF j pins) Ia hD' (hY.of_same (ei u) (wi u)) hSY (ready_mono hr (Ne.symm G8)) ?_
    rw[Array.setIfInBounds_comm _ _ G8,← Act.put_comm a v u a2]
    exact hn
   ·have hd:=h1 hl w hw
    unfold Ev.nK at hd ⊢
    rw[ej,wj] at hd
    have step:∀ u w',(∃ S':World->Prop,(∀ p∈⟨i,D,Y⟩::cF j pins,∀ w,S' w->p.Y w)/\S' w'/\cB P ops Q f ((l.setIfInBounds i true).setIfInBounds j true) ((a.put oi.dst v).put oj.dst u) S' (⟨i,D,Y⟩::cF j pins)) ->
      ∃ S':World->Prop,(∀ p∈cF j pins,∀ w,S' w->p.Y w)/\S' w'/\cB P ops Q (f+1) (l.setIfInBounds j true) (a.put oj.dst u) S' (cF j pins):=by
     rintro u w' ⟨S',qZ,Yz,hn⟩
     refine⟨S',fun p hp=>qZ p (List.mem_cons_of_mem _ hp),Yz,ih (l.setIfInBounds j true) (a.put oj.dst u) S' (cF j pins) Ia hD' (hY.of_same (ei u) (wi u)) (qZ _ List.mem_cons_self) (ready_mono hr (Ne.symm G8)) ?_⟩
     rw[Array.setIfInBounds_comm _ _ G8,← Act.put_comm a v u a2]
     exact hn
    rcases hd with ⟨hw1,hd⟩|⟨hw1,hd⟩
    ·exact .inl ⟨hw1,Ev.ke step hd⟩
    ·exact .inr ⟨hw1,step _ _ hd⟩
end
end Go.Proofs.YtbnoodjnpooocaaGreatDoor.Pw

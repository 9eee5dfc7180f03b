/- What this claim is proved with: no condition. -/
import Derived.Test.YtnbhdacpogplgaaGreatDoorPv3
import Derived.Maps.AppendAt
set_option linter.unusedVariables false
set_option linter.unusedSimpArgs false
namespace Go.Proofs.YtnbhdacpogplgaaGreatDoor.Pw
open Go Go.RowKit
structure nC (G:Gx):Prop where
 ok:Ev.hC G.cx
 bD:∀ p∈G.bt,∃ i,G.cx.P.info? p.1=some i/\i.bytes=p.2
section
variable {w w':World} {I I':Nat->Prop} {β aM:ax} {cx:Ev.Cx} {G:Gx} {P:Program} {s:aN} {a:Act} {st eP:List an}
theorem aN.lI (s:aN) (st:List an):(s.store st).n=s.n/\(s.store st).t=s.t/\(s.store st).st=st/\(s.store st).base=s.base/\(s.store st).rl=s.rl:=by
 cases s; exact⟨rfl,rfl,rfl,rfl,rfl⟩
theorem Rel.grow (hR:Rel G I β s a w) (hh:aL I' aM eP w') (he:Ext I β s.st w I' aM eP w') (p7:∀ l p,β l=some p->aM l=some p) (hl:s.st.length<=eP.length) (hI:∀ g,I' g->g < w'.heap.size):Rel G I' aM (s.store eP) a w':=by
 obtain⟨e1,e2,e3,e4,e5⟩:=aN.lI s eP
 exact⟨by rw[e1]; exact hR.small,hR.defers,by rw[e1]; exact hR.size,by rw[e4,e3]; exact Nat.le_trans hR.base hl,fun t x ht=>by
  rw[e2] at ht
  obtain⟨v,hv,hi⟩:=hR.get t x ht
  exact⟨v,hv,PV.Is.mono he.aC (he.keeps hR.heap hR.aC.aC) x β aM v (fun l p _=>p7 l p) hi⟩,by rw[e3]; exact hh,hR.aC.ext hR.heap he hI⟩
theorem cC.mk' (hR:Rel G I β s a w) {q:PV->aN->Prop} {x:PV} {v:Value} (h:q x (s.store eP)) (hh:aL I aM eP w') (he:Ext I β s.st w I aM eP w') (p7:∀ l p,β l=some p->aM l=some p) (hl:s.st.length<=eP.length) (gh:∀ l,l < s.st.length->aM l=β l)
  (hx:x.Is w' I aM v):cC G s I β w a q v w':=by
 obtain⟨e1,e2,e3,e4,e5⟩:=aN.lI s eP
 exact⟨x,_,I,aM,h,hR.grow hh he p7 hl (fun g hg=>Nat.lt_of_lt_of_le (hR.aC.aC g hg) he.size),hx,by rw[e3]; exact he,e4,e5,e1,fun l kf _=>gh l (Nat.lt_of_lt_of_le kf hR.base),fun l b hb _=>gh l (List.getElem?_eq_some_iff.1 hb).1⟩
theorem cC.same (hR:Rel G I β s a w) {q:PV->aN->Prop} {x:PV} {v:Value} (h:q x s) (hx:x.Is w I β v):cC G s I β w a q v w :=
 ⟨x,s,I,β,h,hR,hx,Ext.refl,rfl,rfl,rfl,fun _ _ _=>rfl,fun _ _ _ _=>rfl⟩
theorem sG {i:Int} {v:PV} {off m k:Nat}:∀ {cs r:List PV} {p:Nat},qI i v off m k p cs=some r->∀ (j:Nat) (c:PV),r[j]?=some c->∃ c0,cs[j]?=some c0 /\
  ((¬ (off<=p+j/\p+j < off+k*m/\(p+j - off) % m=0)/\c=c0)\/((off<=p+j/\p+j < off+k*m/\(p+j - off) % m=0)/\mix (i=(((p+j - off) / m:Nat):Int)) v c0=some c))
 | [],r,p,h,j,c,hj=>by simp only[qI,Option.some.injEq] at h; subst h; simp at hj
 | x::cs,r,p,h,j,c,hj=>by
  unfold qI at h
  cases hc:(Nat.ble off p && Nat.blt p (off+k*m) && Nat.beq ((p - off) % m) 0) with
  | true =>
   rw[hc,cond_true] at h
   split at h
   ·rename_i y l hy hl
    cases h
    simp only[Bool.and_eq_true] at hc
    have c1:=Nat.le_of_ble_eq_true hc.1.1
    have c2:p < off+k*m:=Nat.le_of_ble_eq_true hc.1.2
    have c3:=Nat.eq_of_beq_eq_true hc.2
    cases j with
    | zero=>simp only[List.getElem?_cons_zero,Option.some.injEq] at hj; subst hj; exact⟨x,rfl,.inr ⟨⟨c1,c2,c3⟩,hy⟩⟩
    | succ j =>
     obtain⟨c0,h0,h1⟩:=sG hl j c hj
     rw[show p+1+j=p+(j+1) by omega] at h1
     exact⟨c0,h0,h1⟩
   ·cases h
  | false =>
   rw[hc,cond_false] at h
   split at h
   ·rename_i l hl
    cases h
    cases j with
    | zero =>
     simp only[List.getElem?_cons_zero,Option.some.injEq] at hj; subst hj
     refine⟨x,rfl,.inl ⟨fun ⟨a1,a2,a3⟩=>?_,rfl⟩⟩
     have:(Nat.ble off p && Nat.blt p (off+k*m) && Nat.beq ((p - off) % m) 0)=true:=by
      simp only[Bool.and_eq_true]
      exact⟨⟨Nat.ble_eq_true_of_le a1,Nat.ble_eq_true_of_le a2⟩,by rw[show (p - off) % m=0 from a3]; rfl⟩
     rw[hc] at this; cases this
    | succ j =>
     obtain⟨c0,h0,h1⟩:=sG hl j c hj
     rw[show p+1+j=p+(j+1) by omega] at h1
     exact⟨c0,h0,h1⟩
   ·cases h
theorem sI {i:Int} {v:PV} {off m k:Nat}:∀ {cs r:List PV} {p:Nat},qI i v off m k p cs=some r->r.length=cs.length
 | [],r,p,h=>by simp only[qI,Option.some.injEq] at h; subst h; rfl
 | x::cs,r,p,h=>by
  unfold qI at h
  cases hc:(Nat.ble off p && Nat.blt p (off+k*m) && Nat.beq ((p - off) % m) 0) with
  | true =>
   rw[hc,cond_true] at h
   split at h
   ·rename_i y l hy hl
    cases h; rw[List.length_cons,List.length_cons,sI hl]
   ·cases h
  | false =>
   rw[hc,cond_false] at h
   split at h
   ·rename_i l hl
    cases h; rw[List.length_cons,List.length_cons,sI hl]
   ·cases h
theorem K6 {p:Prop} [Decidable p] {x c z:PV} (h:mix p x c=some z):∃ k a b,z = .int k (if p then a else b)/\(x = .int k a\/x = .lit k a)/\(c = .int k b\/c = .lit k b):=by
 have key:∀ (k l:IntKind) (a b:Int),(if decide (k=l)=true then some (PV.int k (if p then a else b)) else none)=some z->k=l/\z = .int k (if p then a else b):=fun k l a b h=>by
  by_cases hk:k=l
  ·rw[if_pos (decide_eq_true hk)] at h; exact⟨hk,(Option.some.inj h).symm⟩
  ·rw[if_neg (by simp[hk])] at h; cases h
 cases x<;>first
  | (cases h; done)
  | (cases c<;>first
    | (cases h; done)
    | (obtain⟨rfl,rfl⟩:=key _ _ _ _ h
       exact⟨_,_,_,rfl,by simp,by simp⟩))
theorem PJ {p:Prop} [Decidable p] {x c z:PV} {u:Value} (h:mix p x c=some z) (hp:p) (hx:bp w I x.cells β [u]):z.Is w I β u:=by
 obtain⟨k,a,b,rfl,h1,_⟩:=K6 h
 rcases h1 with rfl|rfl
 ·simp only[PV.cells,bp,PV.Is,and_true] at hx ⊢
  rw[if_pos hp]; exact hx
 ·simp only[PV.cells,bp,PV.Is,and_true] at hx ⊢
  rw[if_pos hp]; exact hx
theorem PK {p:Prop} [Decidable p] {x c z:PV} {u:Value} (h:mix p x c=some z) (hp:¬ p) (hc:c.Is w I β u):z.Is w I β u:=by
 obtain⟨k,a,b,rfl,_,h1⟩:=K6 h
 rcases h1 with rfl|rfl
 ·simp only[PV.Is] at hc ⊢
  rw[if_neg hp]; exact hc
 ·simp only[PV.Is] at hc ⊢
  rw[if_neg hp]; exact hc
theorem HZ (hG:nC G) (hR:Rel G I β s a w) {t:TypeId} {x v:PV} {u y:Value} {q:PV->aN->Prop} (h:KI G s.st t x v fun st=>q (.tup []) (s.store st)) (hx:x.Is w I β u) (hv:v.Is w I β y) :
  ∃ w',(Instr.storeAt t u y).run G.cx.P w = .ok () w'/\cC G s I β w a q undef w':=by
 have hh:=hR.heap
 replace h:=au h
 obtain⟨n,hn,h⟩:=h
 replace h:=aZ h
 obtain⟨hc,h⟩:=h
 simp only[Bool.and_eq_true,List.all_eq_true] at hc
 obtain⟨⟨hc1,ph⟩,hc3⟩:=hc
 have hvn:v.cells.length=n:=Nat.eq_of_beq_eq_true hc1
 have lh:0 < n:=Nat.le_of_ble_eq_true ph
 have FZ:∀ ts,v≠.tup ts:=fun ts e=>by subst e; exact h.elim
 have hyc:=hv.nt FZ
 have Sj:=hyc.length
 simp only[Array.length_toList] at Sj
 have lJ:=PI FZ hv hc3
 have bI:∀ {g o:Nat} {arr:Array Value} {ty:TypeId},w.heap[g]?=some (.cells arr ty (0,0))->o+y.cells.toList.length<=arr.size ->
   (Instr.storeAt t (.pointer (some ⟨g,o,none⟩)) y).run G.cx.P w = .ok () (w.setRow g (arr.toList.take o++y.cells.toList++arr.toList.drop (o+y.cells.toList.length)).toArray):=fun {g o arr ty} iX fY=>by
  have:=run_storeCells_at (P:=G.cx.P) g o ty y.cells.toList 0 arr w iX (by simpa using fY) lJ
  simp only[Instr.storeAt,Instr.sureAddr,storeVar,Sem.run_bind,Sem.run_pure,Result.andThen_ok,Ev.dY hG.ok hn]
  rw[if_neg (by omega)]
  simpa using this
 split at h
 ·exact h.elim
 ·split at h<;>try simp only[PV.Is] at hx
  ·rename_i l off
   replace h:=au h
   obtain⟨b,hb,h⟩:=h
   replace h:=aZ h
   obtain⟨Sk,h⟩:=h
   simp only[Bool.and_eq_true] at Sk
   obtain⟨gG,ui⟩:=Sk
   obtain⟨aF,hm⟩:=sF ui
   replace h:=au h
   obtain⟨cs,jA,h⟩:=h
   replace h:=kP (cI h)
   obtain⟨ch,h⟩:=h
   obtain⟨p,g,o,hp,ha,rfl⟩:=hx
   obtain⟨arr,ty,fr,iX,uL,dj⟩:=lH hh hb gG hp ha
   have pD:fr=(0,0):=(dj.1 (by rw[hm]; decide)).1
   subst pD
   have hle:off+v.cells.length<=b.cs.length:=by
    unfold KH at jA
    split at jA
    ·rename_i hle; exact Nat.le_of_ble_eq_true hle
    ·cases jA
   have fY:o+off+y.cells.toList.length<=arr.size:=by
    obtain⟨z,hz,_⟩:=uL _ _ (List.getElem?_eq_getElem (show off+n - 1 < b.cs.length by omega))
    have:=(Array.getElem?_eq_some_iff.1 hz).1
    simp only[Array.length_toList]
    omega
   obtain⟨k1,k2,k3,k4,k5,k6⟩:=nz b cs
   have Sl:cs.length=b.cs.length:=by
    unfold KH at jA
    split at jA
    ·cases jA; simp only[List.length_append,List.length_take,List.length_drop]; omega
    ·cases jA
   have PL:((arr.toList.take (o+off)++y.cells.toList++arr.toList.drop (o+off+y.cells.toList.length)).toArray).size=arr.size:=by
    simp only[List.size_toArray,List.length_append,List.length_take,List.length_drop,Array.length_toList]
    simp only[Array.length_toList] at fY
    omega
   have K7:=PG jA uL hyc lJ fY
   obtain⟨hH,hE⟩:=hh.write (b':=b.fX cs) hb aF hm hp ha iX (by rw[k5]; exact aF) (by rw[k4]; exact hm) (arr':=(arr.toList.take (o+off)++y.cells.toList++arr.toList.drop (o+off+y.cells.toList.length)).toArray) (fun hI hO=>by
    have sJ:=setRow_heap w g arr (arr.toList.take (o+off)++y.cells.toList++arr.toList.drop (o+off+y.cells.toList.length)).toArray ty (0,0) iX
    obtain⟨q',xy,hk⟩:=hh.iI l b hb aF
    rw[hp] at xy
    cases xy
    refine⟨p,hp,?_⟩
    rw[k1]
    unfold an.mem at gG
    split at hk
    ·rename_i cQ
     refine⟨g,o,_,ty,(0,0),ha,sJ,?_,hO⟩
     rw[k6]; exact K7.mono (fun _ h=>h) hI (fun _ _ h=>h)
    ·rename_i cQ
     obtain⟨g',arr',fr',fW,hh',_,_,h1,h2,h3,h4,h5⟩:=hk
     rw[ha] at fW; cases fW
     rw[iX] at hh'; cases hh'
     refine⟨g,_,(0,0),ha,by rw[k2]; exact sJ,?_,hO,by rw[k6,k3,Sl]; exact h1,h2,h3,by rw[k3,PL]; exact h4,by rw[k3]; exact h5⟩
     rw[k6]; exact K7.mono (fun _ h=>h) hI (fun _ _ h=>h)
    ·rename_i cQ
     rw[cQ] at gG; simp at gG
    ·rename_i cQ
     rw[cQ] at gG; simp at gG)
   refine⟨_,bI iX fY,cC.mk' hR h hH hE (fun _ _ h=>h) (by simp) (fun _ _=>rfl) ?_⟩
   simp only[PV.Is]; exact⟨#[],rfl,by simp only[bp]⟩
  ·rename_i l i m off
   replace h:=au h
   obtain⟨b,hb,h⟩:=h
   split at h
   ·rename_i hk
    replace h:=aZ h
    obtain⟨Sk,hi,h⟩:=h
    simp only[Bool.and_eq_true] at Sk
    obtain⟨⟨⟨⟨ui,qM⟩,K8⟩,xJ⟩,KZ⟩:=Sk
    obtain⟨aF,hm⟩:=sF ui
    obtain⟨u,hu⟩:∃ u,v.norm=u:=⟨_,rfl⟩
    rw[hu] at h
    have hv2:u.Is w I β y:=by rw[← hu]; cases v<;>first|exact hv|(simp only[PV.norm,PV.Is] at hv ⊢; exact hv)
    have TY:u.elem=true:=by rw[← hu]; cases v<;>first|exact KZ|rfl
    have hvn2:u.cells.length=n:=by rw[← hu,← hvn]; cases v<;>rfl
    have qM:=Nat.eq_of_beq_eq_true qM
    have K8:=Nat.eq_of_beq_eq_true K8
    have xJ:=Nat.eq_of_beq_eq_true xJ
    replace h:=kP h
    obtain⟨ch,h⟩:=h
    obtain⟨p,g,o,hp,ha,rfl⟩:=hx
    obtain⟨Kb,hlen,hle,sD,pg⟩:=da hh hb aF hk hp
    rcases pg with ⟨fW,_⟩|⟨g',arr,fr,fW,_,iX,mq,dj,has⟩
    ·rw[ha] at fW; cases fW
    ·rw[ha] at fW
     cases fW
     have pD:fr=(0,0):=(dj.1 (by rw[hm]; decide)).1
     subst pD
     have K9:i*n+n<=p.cap*n:=by rw[← Nat.succ_mul]; exact Nat.mul_le_mul_right _ (by omega)
     have fY:0+(i*m+off)+y.cells.toList.length<=arr.size:=by simp only[Array.length_toList]; rw[has,qM,K8,xJ]; omega
     obtain⟨k1,k2,k3,k4,k5,k6⟩:=nz b (b.cs.set i u)
     obtain⟨_,p8⟩:=PH TY hv2
     have PL:((arr.toList.take (0+(i*m+off))++y.cells.toList++arr.toList.drop (0+(i*m+off)+y.cells.toList.length)).toArray).size=arr.size:=by
      simp only[List.size_toArray,List.length_append,List.length_take,List.length_drop,Array.length_toList]
      simp only[Array.length_toList] at fY
      omega
     obtain⟨hH,hE⟩:=hh.write (b':=b.fX (b.cs.set i u)) hb aF hm hp ha iX (by rw[k5]; exact aF) (by rw[k4]; exact hm) (arr':=(arr.toList.take (0+(i*m+off))++y.cells.toList++arr.toList.drop (0+(i*m+off)+y.cells.toList.length)).toArray) (fun hI hO=>by
      have sJ:=setRow_heap w g arr (arr.toList.take (0+(i*m+off))++y.cells.toList++arr.toList.drop (0+(i*m+off)+y.cells.toList.length)).toArray b.ty (0,0) iX
      refine⟨p,hp,?_⟩
      rw[k1,hk]
      refine⟨⟨by rw[k3]; exact Kb,by rw[k6,List.length_set]; exact hlen,hle,sD⟩,.inr ⟨g,_,(0,0),ha,by rw[k2]; exact sJ,?_,hO,by rw[PL,k3]; exact has⟩⟩
      rw[k6,k3]
      have eU:(arr.toList.take (0+(i*m+off))).length=0+(i*m+off):=by rw[List.length_take]; simp only[Array.length_toList] at fY ⊢; omega
      refine cg.of fun j e he=>?_
      by_cases hj:j=i
      ·subst hj
       rw[List.getElem?_set_self hi] at he
       cases he
       refine⟨by rw[hvn2,qM],c8.of fun j2 c ph=>?_⟩
       obtain⟨z,hz,TX,Kc⟩:=p8 j2 c ph
       have zM:=(List.getElem?_eq_some_iff.1 hz).1
       refine⟨z,?_,PV.Is.mono (fun _ h=>h) hI c _ _ z (fun _ _ _ h=>h) TX,Kc⟩
       rw[Ev.dZ sJ]
       simp only[List.getElem?_toArray]
       rw[List.getElem?_append_left (by rw[List.length_append,eU]; rw[qM,K8,xJ]; omega),List.getElem?_append_right (by rw[eU,qM,K8,xJ]; omega),eU,show 0+j*b.size+j2 - (0+(j*m+off))=j2 by rw[qM,K8,xJ]; omega]
       exact hz
      ·rw[List.getElem?_set_ne (fun e=>hj e.symm)] at he
       obtain⟨hel1,TY⟩:=mq.get he
       refine⟨hel1,c8.of fun j2 c ph=>?_⟩
       obtain⟨z,hz,TX,Kc⟩:=TY.get ph
       refine⟨z,?_,PV.Is.mono (fun _ h=>h) hI c _ _ z (fun _ _ _ h=>h) TX,Kc⟩
       rw[Ev.dZ sJ]
       rw[Ev.dZ iX] at hz
       simp only[List.getElem?_toArray]
       have D0:j2 < n:=by have:=(List.getElem?_eq_some_iff.1 ph).1; omega
       rcases Nat.lt_or_ge j i with Kd|Kd
       ·have:j*n+n<=i*n:=by rw[← Nat.succ_mul]; exact Nat.mul_le_mul_right _ (by omega)
        rw[List.append_assoc,List.getElem?_append_left (by rw[eU,qM,K8,xJ]; omega),List.getElem?_take,if_pos (by rw[qM,K8,xJ]; omega)]
        simpa using hz
       ·have:i*n+n<=j*n:=by rw[← Nat.succ_mul]; exact Nat.mul_le_mul_right _ (by omega)
        have h2:(arr.toList.take (0+(i*m+off))++y.cells.toList).length=0+(i*m+off)+y.cells.toList.length:=by rw[List.length_append,eU]
        have hyl':y.cells.toList.length=n:=by simp only[Array.length_toList]; omega
        rw[List.getElem?_append_right (by rw[h2,hyl',qM,K8,xJ]; omega),h2,List.getElem?_drop,show 0+(i*m+off)+y.cells.toList.length+(0+j*b.size+j2 - (0+(i*m+off)+y.cells.toList.length))=0+j*b.size+j2 by rw[hyl',qM,K8,xJ]; omega]
        simpa using hz)
     refine⟨_,bI iX fY,cC.mk' hR h hH hE (fun _ _ h=>h) (by simp) (fun _ _=>rfl) ?_⟩
     simp only[PV.Is]; exact⟨#[],rfl,by simp only[bp]⟩
   ·exact h.elim
  ·rename_i l off i m
   replace h:=au h
   obtain⟨b,hb,h⟩:=h
   replace h:=aZ h
   obtain⟨Sk,k,hi0,hik,h⟩:=h
   simp only[Bool.and_eq_true] at Sk
   obtain⟨⟨⟨gG,ui⟩,yj⟩,sq⟩:=Sk
   have yj:=Nat.eq_of_beq_eq_true yj
   have sq:0 < m:=Nat.le_of_ble_eq_true sq
   obtain⟨aF,hm⟩:=sF ui
   replace h:=au h
   obtain⟨cs,jA,h⟩:=h
   replace h:=cI h
   obtain⟨xK,h⟩:=h
   replace h:=kP h
   obtain⟨ch,h⟩:=h
   obtain⟨p,g,o,hp,ha,rfl⟩:=hx
   obtain⟨arr,ty,fr,iX,uL,dj⟩:=lH hh hb gG hp ha
   have pD:fr=(0,0):=(dj.1 (by rw[hm]; decide)).1
   subst pD
   have Z5:y.cells.toList.length=1:=by simp only[Array.length_toList]; omega
   obtain⟨z0,Z6⟩:∃ z0,y.cells.toList = [z0]:=List.length_eq_one_iff.1 Z5
   have Kc:z0.oneCell'=true:=lJ z0 (by rw[Z6]; simp)
   have fY:o+(off+i.toNat*m)+y.cells.toList.length<=arr.size:=by
    obtain⟨z,hz,_⟩:=uL _ _ (List.getElem?_eq_getElem xK)
    have:=(Array.getElem?_eq_some_iff.1 hz).1
    omega
   obtain⟨k1,k2,k3,k4,k5,k6⟩:=nz b cs
   have Sl:cs.length=b.cs.length:=sI jA
   have PL:((arr.toList.take (o+(off+i.toNat*m))++y.cells.toList++arr.toList.drop (o+(off+i.toNat*m)+y.cells.toList.length)).toArray).size=arr.size:=by
    simp only[List.size_toArray,List.length_append,List.length_take,List.length_drop,Array.length_toList]
    simp only[Array.length_toList] at fY
    omega
   have K7:bg w I β cs (arr.toList.take (o+(off+i.toNat*m))++y.cells.toList++arr.toList.drop (o+(off+i.toNat*m)+y.cells.toList.length)).toArray o:=by
    intro j c hj
    have eU:(arr.toList.take (o+(off+i.toNat*m))).length=o+(off+i.toNat*m):=by rw[List.length_take,Array.length_toList]; omega
    obtain⟨c0,tL,pg⟩:=sG jA j c hj
    rw[Nat.zero_add] at pg
    obtain⟨v0,hv0,hi0',hone0⟩:=uL j c0 tL
    simp only[List.getElem?_toArray]
    rw[Z6] at fY ⊢
    by_cases hje:j=off+i.toNat*m
    ·subst hje
     rcases pg with ⟨hn,_⟩|⟨_,PM⟩
     ·exfalso
      apply hn
      refine⟨by omega,?_,by rw[show off+i.toNat*m - off=i.toNat*m by omega]; exact Nat.mul_mod_left _ _⟩
      have:i.toNat < k:=by omega
      have:i.toNat*m < k*m:=Nat.mul_lt_mul_of_pos_right this sq
      omega
     ·rw[show off+i.toNat*m - off=i.toNat*m by omega,Nat.mul_div_cancel _ sq] at PM
      refine⟨z0,?_,PJ PM (by omega) ?_,Kc⟩
      ·rw[List.getElem?_append_left (by rw[List.length_append,eU]; simp),List.getElem?_append_right (by rw[eU]; omega),eU,Nat.sub_self]; rfl
      ·have Z7:=hv.nt FZ
       rw[Z6] at Z7
       exact Z7
    ·have vu:(arr.toList.take (o+(off+i.toNat*m))++[z0]++arr.toList.drop (o+(off+i.toNat*m) + [z0].length))[o+j]?=arr[o+j]?:=by
      rcases Nat.lt_or_ge j (off+i.toNat*m) with Z4|Z4
      ·rw[List.append_assoc,List.getElem?_append_left (by rw[eU]; omega),List.getElem?_take,if_pos (by omega)]; simp
      ·rw[List.getElem?_append_right (by rw[List.length_append,eU]; simp; omega),List.length_append,eU,List.getElem?_drop]
       simp only[List.length_cons,List.length_nil]
       rw[show o+(off+i.toNat*m)+(0+1)+(o+j - (o+(off+i.toNat*m)+(0+1)))=o+j by omega]; simp
     refine⟨v0,vu.trans hv0,?_,hone0⟩
     rcases pg with ⟨_,rfl⟩|⟨⟨q1,q2,q3⟩,PM⟩
     ·exact hi0'
     ·refine PK PM (fun e=>hje ?_) hi0'
      have e2:i.toNat=(j - off) / m:=by omega
      have e3:=Nat.div_add_mod (j - off) m
      rw[q3,← e2,Nat.mul_comm] at e3
      omega
   obtain⟨hH,hE⟩:=hh.write (b':=b.fX cs) hb aF hm hp ha iX (by rw[k5]; exact aF) (by rw[k4]; exact hm) (arr':=(arr.toList.take (o+(off+i.toNat*m))++y.cells.toList++arr.toList.drop (o+(off+i.toNat*m)+y.cells.toList.length)).toArray) (fun hI hO=>by
    have sJ:=setRow_heap w g arr (arr.toList.take (o+(off+i.toNat*m))++y.cells.toList++arr.toList.drop (o+(off+i.toNat*m)+y.cells.toList.length)).toArray ty (0,0) iX
    obtain⟨q',xy,hk⟩:=hh.iI l b hb aF
    rw[hp] at xy
    cases xy
    refine⟨p,hp,?_⟩
    rw[k1]
    unfold an.mem at gG
    split at hk
    ·rename_i cQ
     refine⟨g,o,_,ty,(0,0),ha,sJ,?_,hO⟩
     rw[k6]; exact K7.mono (fun _ h=>h) hI (fun _ _ h=>h)
    ·rename_i cQ
     obtain⟨g',arr',fr',fW,hh',_,_,h1,h2,h3,h4,h5⟩:=hk
     rw[ha] at fW; cases fW
     rw[iX] at hh'; cases hh'
     refine⟨g,_,(0,0),ha,by rw[k2]; exact sJ,?_,hO,by rw[k6,k3,Sl]; exact h1,h2,h3,by rw[k3,PL]; exact h4,by rw[k3]; exact h5⟩
     rw[k6]; exact K7.mono (fun _ h=>h) hI (fun _ _ h=>h)
    ·rename_i cQ
     rw[cQ] at gG; simp at gG
    ·rename_i cQ
     rw[cQ] at gG; simp at gG)
   refine⟨_,bI iX fY,cC.mk' hR h hH hE (fun _ _ h=>h) (by simp) (fun _ _=>rfl) ?_⟩
   simp only[PV.Is]; exact⟨#[],rfl,by simp only[bp]⟩
  ·exact h.elim
theorem bg.new {cs:List PV} {vs:Array Value} (h:bp w I cs β vs.toList) (h1:∀ c∈cs,c.lC=true):bg w I β cs vs 0:=fun i c hc=>by
 obtain⟨v,hv,hi⟩:=h.get hc
 exact⟨v,by simpa using hv,hi,jj (hi.flat (h1 c (List.mem_of_getElem? hc)))⟩
theorem kQ (hh:aL I β st w) (hI:∀ g,I g->g < w.heap.size) (o:Obj):∀ g,lE β st g\/I g->(w.alloc o).heap[g]?=w.heap[g]?:=fun g hg=>Ev.Ba w o g (hg.elim hh.dk (hI g))
theorem sK (hh:aL I β st w) (hI:∀ g,I g->g < w.heap.size) {vs:Array Value} {t:TypeId} {b:an} {p:tI} (hp:p.a=some (w.heap.size,0))
  (hb:Own I (β.set st.length p) (st++[b]) st.length w.heap.size (0,0) b->ji I (β.set st.length p) (st++[b]) (w.alloc (.cells vs t)) st.length b) (hm:b.m = .w) :
  aL I (β.set st.length p) (st++[b]) (w.alloc (.cells vs t))/\Ext I β st w I (β.set st.length p) (st++[b]) (w.alloc (.cells vs t)):=by
 have gI:∀ g o,p.a=some (g,o)->¬ I g/\¬ lE β st g:=fun g o ha=>by
  rw[hp] at ha; cases ha
  exact⟨fun h=>by have:=hI _ h; omega,fun h=>by have:=hh.dk h; omega⟩
 refine⟨hh.add (kQ hh hI _) gI (hb ⟨fun _=>⟨rfl,(gI _ _ hp).1,fun l' b' cH kf gF p' g' o' e_ fW e=>?_⟩,fun hr=>by rw[hm] at hr; cases hr⟩),Ext.add (w':=w.alloc (.cells vs t)) hh rfl rfl rfl (by simp) (fun g hg _=>Ev.Ba w _ g hg) fun g o ha ch=>by rw[hp] at ha; cases ha; omega⟩
 subst e
 unfold ax.set at e_
 rw[if_neg cH] at e_
 have:=hh.lt e_
 rw[List.getElem?_append_left this] at kf
 exact (gI _ _ hp).2 ⟨l',b',p',o',kf,gF,e_,fW⟩
theorem F7 (hR:Rel G I β s a w) {t t':TypeId} {cs:List PV} {vs:Array Value} {q:PV->aN->Prop} (h:TL s ⟨.loc,t,1,.w,true,cs⟩ q) (hc:bp w I cs β vs.toList) (h1:∀ c∈cs,c.lC=true):cC G s I β w a q (.pointer (some ⟨w.heap.size,0,none⟩)) (w.alloc (.cells vs t')):=by
 replace h:=oD (iY h)
 rw[Nat.zero_add] at h
 have zN:=ax.lF hR.heap ⟨some (w.heap.size,0),0,0⟩
 obtain⟨hH,hE⟩:=sK (vs:=vs) (t:=t') hR.heap hR.aC.aC (b:=⟨.loc,t,1,.w,true,cs⟩) (p:=⟨some (w.heap.size,0),0,0⟩) rfl (fun ho =>
  ⟨_,ax.eI ..,w.heap.size,0,vs,t',(0,0),rfl,Ev.qE w _,(bg.new hc h1).mono (fun _ h=>h) (fun g hg=>kQ hR.heap hR.aC.aC _ g (.inr hg)) zN,ho⟩) rfl
 refine cC.mk' hR h hH hE zN (by simp) (fun l hl=>if_neg (by omega)) ?_
 simp only[PV.Is]; exact⟨_,w.heap.size,0,ax.eI ..,rfl,rfl⟩
theorem K_ (hR:Rel G I β s a w) {t:TypeId} {len n:Nat} {cs:List PV} {vs:Array Value} {q:PV->aN->Prop} (h:pC s ⟨.arr,t,n,.w,true,cs⟩ q) (hc:bp w I cs β vs.toList) (h1:∀ c∈cs,c.lC=true) (hl:cs.length=len*n) (hn:0 < n) (hm:len<=maxLen):cC G s I β w a q (.slice (some ⟨w.heap.size,0,none⟩) len len) (w.alloc (.cells vs t)):=by
 replace h:=oD (iY h)
 rw[Nat.zero_add] at h
 have zN:=ax.lF hR.heap ⟨some (w.heap.size,0),len,len⟩
 have hvl:=hc.length
 simp only[Array.length_toList] at hvl
 obtain⟨hH,hE⟩:=sK (vs:=vs) (t:=t) hR.heap hR.aC.aC (b:=⟨.arr,t,n,.w,true,cs⟩) (p:=⟨some (w.heap.size,0),len,len⟩) rfl (fun ho =>
  ⟨_,ax.eI ..,w.heap.size,vs,(0,0),rfl,Ev.qE w _,(bg.new hc h1).mono (fun _ h=>h) (fun g hg=>kQ hR.heap hR.aC.aC _ g (.inr hg)) zN,ho,hl,Nat.le_refl _,hm,by rw[← hvl]; exact hl,hn⟩) rfl
 refine cC.mk' hR h hH hE zN (by simp) (fun l hl=>if_neg (by omega)) ?_
 simp only[PV.Is]; exact⟨_,ax.eI ..,rfl⟩
end
section
variable {w w':World} {I I':Nat->Prop} {β aM:ax} {cx:Ev.Cx} {G:Gx} {P:Program} {s:aN} {a:Act} {st eP:List an}
def eJ (w:World) (I:Nat->Prop) (es:List PV) (n:Nat) (xs:List Value):Prop :=
 xs.length=es.length*n/\∀ i e,es[i]?=some e->e.cells.length=n/\∀ j c,e.cells[j]?=some c->∃ v,xs[i*n+j]?=some v/\c.Is w I (fun _=>none) v/\v.oneCell'=true
def eH (w:World) (I:Nat->Prop) (β:ax) (cs:List PV) (xs:List Value):Prop:=xs.length=cs.length/\∀ (j:Nat) (c:PV),cs[j]?=some c->∃ v:Value,xs[j]?=some v/\c.Is w I β v/\v.oneCell'=true
def qN (w:World) (I:Nat->Prop) (β:ax) (n:Nat):Src->List Value->Prop
 | .stat cs,xs=>eH w I β cs xs
 | .told es,xs=>eJ w I es n xs
theorem eJ.append {es fs:List PV} {n:Nat} {xs ys:List Value} (h:eJ w I es n xs) (k:eJ w I fs n ys):eJ w I (es++fs) n (xs++ys):=by
 refine⟨by rw[List.length_append,List.length_append,h.1,k.1,Nat.add_mul],fun i e he=>?_⟩
 by_cases hi:i < es.length
 ·rw[List.getElem?_append_left hi] at he
  obtain⟨h1,h2⟩:=h.2 i e he
  refine⟨h1,fun j c hc=>?_⟩
  obtain⟨v,hv,h3⟩:=h2 j c hc
  have:=(List.getElem?_eq_some_iff.1 hv).1
  exact⟨v,by rw[List.getElem?_append_left this]; exact hv,h3⟩
 ·rw[List.getElem?_append_right (by omega)] at he
  obtain⟨h1,h2⟩:=k.2 _ e he
  refine⟨h1,fun j c hc=>?_⟩
  obtain⟨v,hv,h3⟩:=h2 j c hc
  have e1:es.length*n<=i*n:=Nat.mul_le_mul_right _ (by omega)
  refine⟨v,?_,h3⟩
  rw[List.getElem?_append_right (by rw[h.1]; omega),h.1,show i*n+j - es.length*n=(i - es.length)*n+j by rw[Nat.sub_mul]; omega]
  exact hv
theorem eH.append {cs ds:List PV} {xs ys:List Value} (h:eH w I β cs xs) (k:eH w I β ds ys):eH w I β (cs++ds) (xs++ys):=by
 refine⟨by rw[List.length_append,List.length_append,h.1,k.1],fun j c hc=>?_⟩
 by_cases hj:j < cs.length
 ·rw[List.getElem?_append_left hj] at hc
  rw[List.getElem?_append_left (by rw[h.1]; exact hj)]
  exact h.2 j c hc
 ·rw[List.getElem?_append_right (by omega)] at hc
  rw[List.getElem?_append_right (by rw[h.1]; omega),h.1]
  exact k.2 _ c hc
theorem eJ.mono {es:List PV} {n:Nat} {xs:List Value} (hI:∀ g,I g->I' g) (hw:∀ g,I g->w'.heap[g]?=w.heap[g]?) (h:eJ w I es n xs):eJ w' I' es n xs :=
 ⟨h.1,fun i e he=>⟨(h.2 i e he).1,fun j c hc=>let ⟨v,h1,h2,h3⟩:=(h.2 i e he).2 j c hc; ⟨v,h1,PV.Is.mono hI hw c _ _ v (fun _ _ _ h=>h) h2,h3⟩⟩⟩
theorem eH.mono {cs:List PV} {xs:List Value} (hI:∀ g,I g->I' g) (hw:∀ g,I g->w'.heap[g]?=w.heap[g]?) (hb:∀ l p,β l=some p->aM l=some p) (h:eH w I β cs xs):eH w' I' aM cs xs :=
 ⟨h.1,fun j c hc=>let ⟨v,h1,h2,h3⟩:=h.2 j c hc; ⟨v,h1,PV.Is.mono hI hw c _ _ v (fun l p _=>hb l p) h2,h3⟩⟩
theorem cg.row:∀ {es:List PV} {n g o:Nat},cg w I es n g o->∃ xs,eJ w I es n xs/\∀ j v,xs[j]?=some v->w.cell? ⟨g,o+j,none⟩=some v
 | [],n,g,o,_=>⟨[],⟨by simp,fun i e he=>by simp at he⟩,fun j v h=>by simp at h⟩
 | e::es,n,g,o,h=>by
  rw[cg.cons] at h
  obtain⟨⟨hl,hc⟩,h⟩:=h
  obtain⟨xs,hx,hy⟩:=cg.row h
  have key:∀ (cs:List PV) (o:Nat),c8 w I cs g o->∃ ys:List Value,ys.length=cs.length/\(∀ (j:Nat) (c:PV),cs[j]?=some c->∃ v:Value,ys[j]?=some v/\c.Is w I (fun _=>none) v/\v.oneCell'=true)/\∀ (j:Nat) (v:Value),ys[j]?=some v->w.cell? ⟨g,o+j,none⟩=some v:=by
   intro cs
   induction cs with
   | nil=>intro o _; exact⟨[],rfl,fun j c h=>by simp at h,fun j v h=>by simp at h⟩
   | cons c cs ih =>
    intro o h
    simp only[c8] at h
    obtain⟨⟨v,h1,h2⟩,h3⟩:=h
    obtain⟨ys,g1,g2,g3⟩:=ih (o+1) h3
    refine⟨v::ys,by simp[g1],fun j c' A0=>?_,fun j u hu=>?_⟩
    ·cases j with
     | zero=>simp at A0; subst A0; exact⟨v,rfl,h2⟩
     | succ j=>simpa using g2 j c' (by simpa using A0)
    ·cases j with
     | zero=>simp at hu; subst hu; exact h1
     | succ j=>rw[show o+(j+1)=o+1+j by omega]; exact g3 j u (by simpa using hu)
  obtain⟨ys,g1,g2,g3⟩:=key e.cells o hc
  have Sj:ys.length=n:=by omega
  refine⟨ys++xs,?_,fun j v hv=>?_⟩
  ·refine⟨by rw[List.length_append,hx.1,List.length_cons,Sj,Nat.succ_mul]; omega,fun i e' oE=>?_⟩
   cases i with
   | zero =>
    simp at oE; subst oE
    refine⟨hl,fun j c hj=>?_⟩
    obtain⟨v,hv,h2⟩:=g2 j c hj
    have:=(List.getElem?_eq_some_iff.1 hv).1
    exact⟨v,by rw[Nat.zero_mul,Nat.zero_add,List.getElem?_append_left this]; exact hv,h2⟩
   | succ i =>
    obtain⟨h1,h2⟩:=hx.2 i e' (by simpa using oE)
    refine⟨h1,fun j c hj=>?_⟩
    obtain⟨v,hv,h3⟩:=h2 j c hj
    refine⟨v,?_,h3⟩
    rw[Nat.succ_mul,List.getElem?_append_right (by omega),show i*n+n+j - ys.length=i*n+j by omega]
    exact hv
  ·by_cases hj:j < ys.length
   ·rw[List.getElem?_append_left hj] at hv; exact g3 j v hv
   ·rw[List.getElem?_append_right (by omega)] at hv
    have:=hy _ v hv
    rw[show o+n+(j - ys.length)=o+j by omega] at this
    exact this
theorem eJ.at {es:List PV} {n g:Nat} {xs:List Value} (h:eJ w I es n xs) (hc:∀ j v,xs[j]?=some v->w'.cell? ⟨g,j,none⟩=some v) (hI:∀ g,I g->I' g) (hw:∀ g,I g->w'.heap[g]?=w.heap[g]?):cg w' I' es n g 0:=cg.of fun i e he=>by
 obtain⟨h1,h2⟩:=h.2 i e he
 refine⟨h1,c8.of fun j c hj=>?_⟩
 obtain⟨v,hv,h3,h4⟩:=h2 j c hj
 exact⟨v,by rw[Nat.zero_add]; exact hc _ v hv,PV.Is.mono hI hw c _ _ v (fun _ _ _ h=>h) h3,h4⟩
theorem eJ.H' {es:List PV} {n:Nat} {xs:List Value} (h:eJ w I es n xs):∀ v∈xs,v.oneCell'=true:=by
 intro v hv
 obtain⟨k,hk,rfl⟩:=List.getElem_of_mem hv
 have jC:k < es.length*n:=by rw[← h.1]; exact hk
 have hn:0 < n:=by
  rcases Nat.eq_zero_or_pos n with h0|h0
  ·rw[h0] at jC; omega
  ·exact h0
 have hi:k / n < es.length:=Nat.div_lt_of_lt_mul (by rw[Nat.mul_comm]; exact jC)
 obtain⟨h1,h2⟩:=h.2 _ _ (List.getElem?_eq_getElem hi)
 have hm:k % n < n:=Nat.mod_lt _ hn
 obtain⟨u,hu,_,h3⟩:=h2 (k % n) _ (List.getElem?_eq_getElem (by omega))
 rw[show k / n*n+k % n=k by rw[Nat.mul_comm]; exact Nat.div_add_mod k n,List.getElem?_eq_getElem hk] at hu
 cases hu; exact h3
theorem eH.H' {cs:List PV} {xs:List Value} (h:eH w I β cs xs):∀ v∈xs,v.oneCell'=true:=by
 intro v hv
 obtain⟨k,hk,rfl⟩:=List.getElem_of_mem hv
 have jC:k < cs.length:=by rw[← h.1]; exact hk
 obtain⟨u,hu,_,h3⟩:=h.2 _ _ (List.getElem?_eq_getElem jC)
 rw[List.getElem?_eq_getElem hk] at hu
 cases hu; exact h3
theorem qN.H' {n:Nat} {x:Src} {xs:List Value} (h:qN w I β n x xs):∀ v∈xs,v.oneCell'=true:=by
 cases x with
 | stat cs=>exact eH.H' h
 | told es=>exact eJ.H' h
theorem Bm {ag:Bool} {n:Nat} (hn:0 < n) (K1:ag=true\/n=1):∀ (k:Nat) {cs:List PV} {xs:List Value},cs.length=k*n->eH w I β cs xs->(chunk ag n k cs).all PV.elem=true->(chunk ag n k cs).length=k/\eJ w I (chunk ag n k cs) n xs
 | 0,cs,xs,hl,h,_=>by
  have:xs = []:=List.eq_nil_of_length_eq_zero (by rw[h.1,hl,Nat.zero_mul])
  subst this
  exact⟨rfl,by simp[chunk],fun i e he=>by simp[chunk] at he⟩
 | k+1,cs,xs,hl,h,cA=>by
  simp only[chunk,List.all_cons,Bool.and_eq_true] at cA
  obtain⟨he,cA⟩:=cA
  have hlk:(cs.drop n).length=k*n:=by rw[List.length_drop,hl,Nat.succ_mul]; omega
  have F8:eH w I β (cs.drop n) (xs.drop n):=⟨by rw[List.length_drop,List.length_drop,h.1],fun j c hc=>by
   rw[List.getElem?_drop] at hc ⊢; exact h.2 _ c hc⟩
  obtain⟨uG,tG⟩:=Bm hn K1 k hlk F8 cA
  have hcn:n<=cs.length:=by rw[hl,Nat.succ_mul]; omega
  have nr:∀ {c:PV} {y:Value},c.pz=true->c.Is w I β y->c.Is w I (fun _=>none) y:=fun {c y} hc hi=>by
   refine PV.Is.mono (fun _ h=>h) (fun _ _=>rfl) _ β _ _ (fun l p hl=>?_) hi
   cases c<;>simp_all [PV.c9,PV.pz]
  refine⟨by simp[chunk,uG],by rw[h.1,hl]; simp only[chunk,List.length_cons,uG],fun i e hi=>?_⟩
  cases i with
  | zero =>
   simp only[chunk,List.getElem?_cons_zero,Option.some.injEq] at hi
   subst hi
   cases ag with
   | true =>
    simp only[if_true,PV.elem,List.all_eq_true] at he
    simp only[if_true,PV.cells]
    refine⟨by rw[List.length_take]; omega,fun j c hj=>?_⟩
    rw[List.getElem?_take] at hj
    split at hj
    ·obtain⟨v,hv,h2,h3⟩:=h.2 j c hj
     refine⟨v,by rw[Nat.zero_mul,Nat.zero_add]; exact hv,nr (he c ?_) h2,h3⟩
     refine List.mem_of_getElem? (i:=j) ?_
     rw[List.getElem?_take,if_pos ‹_›]; exact hj
    ·cases hj
   | false =>
    have yj:n=1:=by simpa using K1
    subst yj
    cases cs with
    | nil=>simp at hcn
    | cons c cs =>
     simp only[Bool.false_eq_true,if_false] at he ⊢
     obtain⟨v,hv,h2,h3⟩:=h.2 0 c rfl
     have hc1:c.cells = [c]:=by
      cases c<;>first|rfl|(simp only[PV.Is] at h2; obtain⟨vs,rfl,_⟩:=h2; simp[Value.oneCell'] at h3)
     rw[hc1]
     refine⟨rfl,fun j c' hj=>?_⟩
     cases j with
     | zero =>
      simp at hj; subst hj
      refine⟨v,by simpa using hv,nr ?_ h2,h3⟩
      cases c<;>first|exact he|(exfalso; simp only[PV.Is] at h2; obtain⟨vs,rfl,_⟩:=h2; simp[Value.oneCell'] at h3)
     | succ j=>simp at hj
  | succ i =>
   simp only[chunk,List.getElem?_cons_succ] at hi
   obtain⟨h1,h2⟩:=tG.2 i e hi
   refine⟨h1,fun j c hj=>?_⟩
   obtain⟨v,hv,h3⟩:=h2 j c hj
   refine⟨v,?_,h3⟩
   rw[List.getElem?_drop] at hv
   rw[Nat.succ_mul,show i*n+n+j=n+(i*n+j) by omega]
   exact hv
theorem zO {x:PV} {v:Value} (h:x.Is w I β v):x.norm.Is w I β v:=by
 cases x<;>first|exact h|(simp only[PV.norm,PV.Is] at h ⊢; exact h)
theorem Ei {cs:List PV} {xs:List Value} (h:eH w I β cs xs):eH w I β (cs.map PV.norm) xs:=by
 refine⟨by rw[List.length_map]; exact h.1,fun j c hj=>?_⟩
 rw[List.getElem?_map,Option.map_eq_some_iff] at hj
 obtain⟨d,hd,rfl⟩:=hj
 obtain⟨v,h1,h2,h3⟩:=h.2 j d hd
 exact⟨v,h1,zO h2,h3⟩
theorem fe {ag:Bool} {n:Nat} (hn:0 < n) (K1:ag=true\/n=1) {x:Src} {es:List PV} {xs:List Value} {len:Nat} (h:fw ag n x=some es) (hx:qN w I β n x xs) (hl:xs.length=len*n):es.length=len/\eJ w I es n xs:=by
 have hc:∀ {a b:Nat},a*n=b*n->a=b:=fun h=>Nat.eq_of_mul_eq_mul_right hn h
 cases x with
 | told Ej =>
  simp only[fw,Option.some.injEq] at h
  subst h
  exact⟨hc (by rw[← hx.1,hl]),hx⟩
 | stat cs =>
  simp only[fw,FR,Nat.zero_add] at h
  split at h
  ·rename_i cA
   cases h
   have AZ:cs.length=len*n:=by rw[← hx.1,hl]
   have hd:cs.length / n=len:=by rw[AZ]; exact Nat.mul_div_cancel _ hn
   rw[hd] at cA ⊢
   exact Bm hn K1 len (by rw[List.length_map]; exact AZ) (Ei hx) cA
  ·cases h
theorem qO {arr:Array Value} {g:Nat} {ty:TypeId} {fr:Nat × Nat} (hh:w.heap[g]?=some (.cells arr ty fr)) (o k:Nat):∀ (j:Nat) (v:Value),((arr.toList.drop o).take k)[j]?=some v->w.cell? ⟨g,o+j,none⟩=some v:=fun j v hv=>by
 rw[List.getElem?_take] at hv
 split at hv
 ·rw[List.getElem?_drop] at hv
  rw[Ev.dZ hh]; simpa using hv
 ·cases hv
theorem F9 (hO:Ev.hC cx) (hh:aL I β st w) {n:Nat} (hn:0 < n) {x:PV} {u:Value} {q:Src->Prop} (h:Pu cx st n x q) (hx:x.Is w I β u) :
  ∃ src ad len c news,q src/\u = .slice ad len c/\qN w I β n src news/\news.length=len*n/\(len=0\/∃ g o,ad=some ⟨g,o,none⟩)/\∀ g o,ad=some ⟨g,o,none⟩->∀ j v,news[j]?=some v->w.cell? ⟨g,o+j,none⟩=some v:=by
 unfold Pu at h
 split at h<;>try simp only[PV.Is] at hx
 ·exact⟨_,none,0,0,[],h,hx,⟨by simp,fun i e he=>by simp at he⟩,by simp,.inl rfl,fun _ _ _ j v hv=>by simp at hv⟩
 ·rename_i m es
  replace h:=aZ h
  obtain⟨hm,h⟩:=h
  have hm:=Nat.eq_of_beq_eq_true hm
  obtain⟨ad,cap,rfl,_,_,h4,h5⟩:=hx
  by_cases h0:es.length=0
  ·have:es = []:=List.eq_nil_of_length_eq_zero h0
   subst this
   exact⟨_,ad,0,cap,[],h,rfl,⟨by simp,fun i e he=>by simp at he⟩,by simp,.inl rfl,fun _ _ _ j v hv=>by simp at hv⟩
  ·obtain⟨g,o,rfl,hg,_⟩:=h5 h0
   obtain⟨xs,h6,h7⟩:=(h4 g o rfl).row
   rw[hm] at h6
   exact⟨_,_,es.length,cap,xs,h,rfl,h6,h6.1,(.inr ⟨_,_,rfl⟩),fun g' o' e=>by cases e; exact h7⟩
 ·rename_i l off len
  replace h:=au h
  obtain⟨b,hb,h⟩:=h
  replace h:=aZ h
  obtain⟨hc,h⟩:=h
  simp only[Bool.and_eq_true] at hc
  have hle:=Nat.le_of_ble_eq_true hc.2
  obtain⟨p,g,o,cap,hp,ha,rfl,_⟩:=hx
  obtain⟨arr,ty,fr,iX,uL,_⟩:=lH hh hb hc.1 hp ha
  have fY:0 < len*n->o+off+len*n<=arr.size:=fun h0=>by
   obtain⟨z,hz,_⟩:=uL _ _ (List.getElem?_eq_getElem (show off+len*n - 1 < b.cs.length by omega))
   have:=(Array.getElem?_eq_some_iff.1 hz).1
   omega
  have D1:((arr.toList.drop (o+off)).take (len*n)).length=len*n:=by
   rw[List.length_take,List.length_drop,Array.length_toList]
   rcases Nat.eq_zero_or_pos (len*n) with h0|h0
   ·omega
   ·have:=fY h0; omega
  refine⟨_,_,len,cap,_,cI h,rfl,⟨?_,fun j c hj=>?_⟩,D1,(.inr ⟨_,_,rfl⟩),fun g' o' e=>by cases e; exact qO iX _ _⟩
  ·rw[D1,List.length_take,List.length_drop]; omega
  ·rw[List.getElem?_take] at hj
   split at hj
   ·rename_i Bn
    rw[List.getElem?_drop] at hj
    obtain⟨v,hv,h1,h2⟩:=uL _ _ hj
    exact⟨v,by rw[List.getElem?_take,if_pos Bn,List.getElem?_drop]; simpa [Nat.add_assoc] using hv,h1,h2⟩
   ·cases hj
 ·rename_i l
  replace h:=au h
  obtain⟨b,hb,h⟩:=h
  replace h:=aZ h
  obtain⟨hc,h⟩:=h
  simp only[Bool.and_eq_true] at hc
  have qM:=Nat.eq_of_beq_eq_true hc.2
  obtain⟨p,hp,rfl⟩:=hx
  split at h
  ·rename_i hk
   obtain⟨g,arr,fr,ha,hw,iX,uL,_,hlen,hle,_,has,_⟩:=gQ hh hb hc.1 hk hp
   rw[qM] at hlen has
   have fY:p.len*n<=arr.size:=by rw[has]; exact Nat.mul_le_mul_right _ hle
   refine⟨_,_,p.len,p.cap,(arr.toList.drop 0).take (p.len*n),h,hw,⟨?_,fun j c hj=>?_⟩,?_,(.inr ⟨_,_,rfl⟩),fun g' o' e=>by cases e; exact qO iX _ _⟩
   ·rw[List.length_take,List.length_drop,Array.length_toList]; omega
   ·obtain⟨v,hv,h1,h2⟩:=uL _ _ hj
    have Bn:j < p.len*n:=by rw[← hlen]; exact (List.getElem?_eq_some_iff.1 hj).1
    exact⟨v,by rw[List.getElem?_take,if_pos Bn,List.getElem?_drop]; simpa using hv,h1,h2⟩
   ·rw[List.length_take,List.length_drop,Array.length_toList]; omega
  ·rename_i hk
   obtain⟨_,hlen,hle,_,pg⟩:=da hh hb hc.1 hk hp
   rcases pg with ⟨_,tL,hw⟩|⟨g,arr,fr,ha,hw,iX,mq,_,has⟩
   ·have jL:b.cs = []:=List.eq_nil_of_length_eq_zero (by omega)
    rw[jL] at h
    exact⟨_,none,0,0,[],h,hw,⟨by simp,fun i e he=>by simp at he⟩,by simp,.inl rfl,fun _ _ _ j v hv=>by simp at hv⟩
   ·obtain⟨xs,h6,h7⟩:=mq.row
    rw[qM] at h6
    exact⟨_,_,p.len,p.cap,xs,h,hw,h6,by rw[h6.1,hlen],(.inr ⟨_,_,rfl⟩),fun g' o' e=>by cases e; exact h7⟩
  ·exact h.elim
 ·exact h.elim
theorem Bo {l:Nat} {b:an} {q:List an->Prop} (hb:st[l]?=some b) (h:KJ st l q):∃ b',b'.live=false/\q (st.set l b'):=by
 replace h:=au h
 obtain⟨b2,eG,h⟩:=h
 cases b2
 exact⟨_,rfl,(kP h).2⟩
theorem Bp (hh:aL I β st w) {n:Nat} (hn:0 < n) {elem:TypeId} {x:PV} {v:Value} {q:Src->List an->Prop} (h:FT st elem n x q) (hx:x.Is w I β v) :
  ∃ dst eP xs len,q dst eP/\w.ownsRow 0 elem n v len xs/\qN w I β n dst xs/\xs.length=len*n/\aL I β eP w/\eP.length=st.length/\Ext I β st w I β eP w/\(∀ g,v.ownBlock=some g->Wr β st g/\¬ I g/\¬ lE β eP g)/\(v = .slice none 0 0\/∃ ad m c,v = .slice (some ad) m c):=by
 unfold FT at h
 split at h<;>try simp only[PV.Is] at hx
 ·subst hx
  exact⟨_,st,[],0,h,World.ownsRow_nil _ _ _ _,⟨by simp,fun j c hj=>by simp at hj⟩,by simp,hh,rfl,Ext.refl,fun g e=>by simp[Value.ownBlock] at e,.inl rfl⟩
 ·rename_i l
  replace h:=au h
  obtain⟨b,hb,h⟩:=h
  replace h:=aZ h
  obtain⟨hc,h⟩:=h
  simp only[Bool.and_eq_true] at hc
  obtain⟨aF,hm⟩:=sF hc.1.1
  have qM:=Nat.eq_of_beq_eq_true hc.1.2
  have La:=Nat.eq_of_beq_eq_true hc.2
  obtain⟨p,hp,rfl⟩:=hx
  have dead:∀ {g o:Nat} {b':an},p.a=some (g,o)->b'.live=false->(Own I β st l g (0,0) b\/∃ fr,Own I β st l g fr b)->Wr β st g/\¬ I g/\¬ lE β (st.set l b') g:=by
   intro g o b' ha dw ho
   have ho:∃ fr,Own I β st l g fr b:=ho.elim (fun h=>⟨_,h⟩) id
   obtain⟨fr,ho⟩:=ho
   refine⟨⟨l,b,p,o,hb,aF,hm,hp,ha⟩,(ho.1 (by rw[hm]; decide)).2.1,fun ⟨l2,b2,p2,o2,h1,h2,h3,h4⟩=>?_⟩
   by_cases cH:l2=l
   ·subst cH
    rw[List.getElem?_set_self (by simpa using (List.getElem?_eq_some_iff.1 h1).1)] at h1
    cases h1; rw[dw] at h2; cases h2
   ·rw[List.getElem?_set_ne (fun e=>cH e.symm)] at h1
    exact (ho.1 (by rw[hm]; decide)).2.2 l2 b2 cH h1 h2 p2 g o2 h3 h4 rfl
  split at h
  ·rename_i hk
   obtain⟨b',dw,h⟩:=Bo hb h
   obtain⟨g,arr,fr,ha,hw,iX,uL,dj,hlen,hle,sD,has,_⟩:=gQ hh hb aF hk hp
   rw[qM] at hlen has
   have pD:fr=(0,0):=(dj.1 (by rw[hm]; decide)).1
   subst pD
   have fY:p.len*n<=arr.size:=by rw[has]; exact Nat.mul_le_mul_right _ hle
   have uj:(arr.toList.take (p.len*n)).length=p.len*n:=by rw[List.length_take,Array.length_toList]; omega
   refine⟨_,_,arr.toList.take (p.len*n),p.len,h,⟨uj,.inr ⟨g,p.cap,arr,hw,Nat.zero_le _,by rw[← La]; exact iX,hle,sD,has,rfl⟩⟩,⟨by rw[uj,hlen],fun j c hj=>?_⟩,uj,hh.kill l dw,by simp,Ext.kill dw,fun g' e=>?_,.inr ⟨_,_,_,hw⟩⟩
   ·obtain⟨u,hu,h1,h2⟩:=uL _ _ hj
    have Bn:j < p.len*n:=by rw[← hlen]; exact (List.getElem?_eq_some_iff.1 hj).1
    exact⟨u,by rw[List.getElem?_take,if_pos Bn]; simpa using hu,h1,h2⟩
   ·rw[hw] at e
    simp only[Value.ownBlock,Option.some.injEq] at e
    subst e
    exact dead ha dw (.inl dj)
  ·rename_i hk
   obtain⟨b',dw,h⟩:=Bo hb h
   obtain⟨_,hlen,hle,sD,pg⟩:=da hh hb aF hk hp
   rcases pg with ⟨_,tL,hw⟩|⟨g,arr,fr,ha,hw,iX,mq,dj,has⟩
   ·have jL:b.cs = []:=List.eq_nil_of_length_eq_zero (by omega)
    rw[jL] at h
    rw[hw]
    exact⟨_,_,[],0,h,World.ownsRow_nil _ _ _ _,⟨by simp,fun i e he=>by simp at he⟩,by simp,hh.kill l dw,by simp,Ext.kill dw,fun g e=>by simp[Value.ownBlock] at e,.inl rfl⟩
   ·rw[qM] at mq has
    have pD:fr=(0,0):=(dj.1 (by rw[hm]; decide)).1
    subst pD
    obtain⟨xs,h6,h7⟩:=mq.row
    have fY:p.len*n<=arr.size:=by rw[has]; exact Nat.mul_le_mul_right _ hle
    have uj:xs.length=p.len*n:=by rw[h6.1,hlen]
    refine⟨_,_,xs,p.len,h,⟨uj,.inr ⟨g,p.cap,arr,hw,Nat.zero_le _,by rw[← La]; exact iX,hle,sD,has,?_⟩⟩,h6,uj,hh.kill l dw,by simp,Ext.kill dw,fun g' e=>?_,.inr ⟨_,_,_,hw⟩⟩
    ·apply List.ext_getElem?
     intro j
     rw[List.getElem?_take]
     split
     ·rename_i hj
      have D0:j < xs.length:=by omega
      have:=h7 j _ (List.getElem?_eq_getElem D0)
      rw[Ev.dZ iX,Nat.zero_add] at this
      rw[List.getElem?_eq_getElem D0]; simpa using this
     ·rename_i hj
      rw[List.getElem?_eq_none (by omega)]
    ·rw[hw] at e
     simp only[Value.ownBlock,Option.some.injEq] at e
     subst e
     exact dead ha dw (.inl dj)
  ·exact h.elim
 ·exact h.elim
theorem uk (t ty e:TypeId) (i:TypeInfo) (ht:P.underlying t=some (.slice e)) (hi:P.info? e=some i) (b:Option Addr) (n cap c:Nat) (hle:n<=cap):(Builtin.append_ #[t,t] ty #[.slice b n cap,.slice none 0 c]).run P w = .ok (.slice b n cap) w:=by
 cases b<;>simp[Builtin.append_,run_underlying ht,sizeOf,typeInfo,hi,Builtin.lenOf,Builtin.firstCells,hle,storeCells]
end
section
variable {w w':World} {I I':Nat->Prop} {β aM:ax} {cx:Ev.Cx} {G:Gx} {P:Program} {s:aN} {a:Act} {st eP:List an}
theorem Bq (s:aN) (x y:List an):(s.store x).store y=s.store y:=by cases s; rfl
theorem Ext.add2 {m_:List an} (h:aL I β m_ w) (vv:∀ g,Wr β m_ g->Wr β st g) (hos:w'.os=w.os) (K2:w'.tape=w.tape) (jk:w'.output=w.output) (fY:w.heap.size<=w'.heap.size) {b:an} {p:tI} (hw:∀ g,g < w.heap.size->¬ Wr β st g->w'.heap[g]?=w.heap[g]?)
  (hp:∀ g o,p.a=some (g,o)->g < w.heap.size->Wr β st g):Ext I β st w I (β.set m_.length p) (m_++[b]) w' :=
 ⟨hos,K2,jk,fY,hw,fun g hg ⟨l,b',q,o,h1,h2,h3,h4,h5⟩=>by
  unfold ax.set at h4
  split at h4
  ·cases h4
   exact hp g o h5 hg
  ·have:=h.lt h4
   rw[List.getElem?_append_left this] at h1
   exact vv g ⟨l,b',q,o,h1,h2,h3,h4,h5⟩,fun _ h=>h,fun _ _ h=>.inl h⟩
theorem mv (hR:Rel G I β s a w) {m_:List an} (hk:aL I β m_ w) (vv:∀ g,Wr β m_ g->Wr β s.st g) (hlen:m_.length=s.st.length) {v:Value} (hv:∀ g,v.ownBlock=some g->Wr β s.st g/\¬ I g/\¬ lE β m_ g)
  (hg:w.grownBy w' v.ownBlock) {b:an} {p:tI} {q:PV->aN->Prop} (h:pC (s.store m_) b q) (hp:∀ g o,p.a=some (g,o)->v.ownBlock=some g\/g=w.heap.size) (hm:b.m = .w)
  (hb:(∀ g,p.a=some (g,0)->Own I (β.set m_.length p) (m_++[b]) m_.length g (0,0) b)->(∀ g,I g->w'.heap[g]?=w.heap[g]?)->ji I (β.set m_.length p) (m_++[b]) w' m_.length b):cC G s I β w a q p.whole w':=by
 have um:(s.store m_).st=m_:=(aN.lI s m_).2.2.1
 unfold pC at h
 rw[um] at h
 replace h:=oD (iY h)
 rw[Nat.zero_add,Bq] at h
 have zN:=ax.lF hk p
 have dj:∀ g,lE β m_ g\/I g->w'.heap[g]?=w.heap[g]?:=fun g Ek=>by
  refine hg.block g (Ek.elim hk.dk (hR.aC.aC g)) fun e=>?_
  obtain⟨_,h1,h2⟩:=hv g e.symm
  exact Ek.elim h2 h1
 have gI:∀ g o,p.a=some (g,o)->¬ I g/\¬ lE β m_ g:=fun g o ha=>by
  rcases hp g o ha with e|e
  ·exact (hv g e).2
  ·subst e
   exact⟨fun h=>by have:=hR.aC.aC _ h; omega,fun h=>by have:=hk.dk h; omega⟩
 have hO:∀ g,p.a=some (g,0)->Own I (β.set m_.length p) (m_++[b]) m_.length g (0,0) b:=fun g ha=>by
  refine⟨fun _=>⟨rfl,(gI g 0 ha).1,fun l' b' cH kf gF p' g' o' e_ fW e=>?_⟩,fun hr=>by rw[hm] at hr; cases hr⟩
  subst e
  unfold ax.set at e_
  rw[if_neg cH] at e_
  have:=hk.lt e_
  rw[List.getElem?_append_left this] at kf
  exact (gI _ _ ha).2 ⟨l',b',p',o',kf,gF,e_,fW⟩
 have hH:=hk.add dj gI (hb hO fun g hg=>dj g (.inr hg))
 have hE:Ext I β s.st w I (β.set m_.length p) (m_++[b]) w':=Ext.add2 hk vv hg.os hg.tape hg.output hg.size (fun g ch hn=>hg.block g ch fun e=>hn (hv g e.symm).1) fun g o ha ch=>by
  rcases hp g o ha with e|e
  ·exact (hv g e).1
  ·omega
 refine cC.mk' hR h hH hE zN (by simp; omega) (fun l hl=>if_neg (by omega)) ?_
 simp only[PV.Is]; exact⟨_,ax.eI ..,rfl⟩
theorem Em (hG:nC G) (hR:Rel G I β s a w) {t ty:TypeId} {d x:PV} {u v:Value} {q:PV->aN->Prop} (h:FU G s t d x q) (hd:d.Is w I β v) (hx:x.Is w I β u) :
  ∃ r w',(Builtin.append_ #[t,t] ty #[v,u]).run G.cx.P w = .ok r w'/\cC G s I β w a q r w':=by
 replace h:=au h
 obtain⟨td,hu,h⟩:=h
 split at h
 ·rename_i elem
  replace h:=au h
  obtain⟨n,hn,h⟩:=h
  replace h:=au h
  obtain⟨ag,K1,h⟩:=h
  replace h:=au h
  obtain⟨bD,KT,h⟩:=h
  replace h:=iJ (w:=w) (I:=I) (β:=β) hG.ok h
  obtain⟨z,i,zv,h,hi,F0,nw⟩:=h
  replace h:=aZ h
  obtain⟨hc,h⟩:=h
  simp only[Bool.and_eq_true,Bool.or_eq_true] at hc
  have lh:0 < n:=Nat.le_of_ble_eq_true hc.1.1
  have hzn:z.length=n:=Nat.eq_of_beq_eq_true hc.1.2
  have hagn:ag=true\/n=1:=hc.2.imp id Nat.eq_of_beq_eq_true
  obtain⟨i1,hi1,D2⟩:=Ev.kb hG.ok hn
  rw[hi] at hi1
  cases hi1
  obtain⟨i3,PN,hi4⟩:=hG.bD _ (Ev.jT KT)
  simp only at PN hi4
  rw[hi] at PN
  cases PN
  have Sn:=nw.length
  simp only[Array.length_toList] at Sn
  replace h:=F9 hG.ok hR.heap lh h hx
  obtain⟨src,ad,len,c,news,h,rfl,pk,D1,TT,Br⟩:=h
  replace h:=Bp hR.heap lh h hd
  obtain⟨dst,m_,xs,nD,h,dj,Lb,uj,hk,Lc,H_,hv,hvf⟩:=h
  have vv:∀ g,Wr β m_ g->Wr β s.st g:=fun g hw=>by
   have:=H_.wr g
   rcases Nat.lt_or_ge g w.heap.size with ch|En
   ·exact this ch hw
   ·obtain⟨l,b,p,o,h1,h2,h3,h4,h5⟩:=hw
    have:=hk.dk ⟨l,b,p,o,h1,h2,h4,h5⟩
    omega
  have yw:=pk.H'
  
  have run:(nD+len)<=maxLen->(nD+len)*bD<=140737488355328->∃ r w',(Builtin.append_ #[t,t] ty #[v,.slice ad len c]).run G.cx.P w = .ok r w'/\w'.ownsRow 0 elem n r (nD+len) (xs++news)/\w.grownBy w' v.ownBlock/\(r.ownBlock=v.ownBlock\/r.ownBlock=some w.heap.size):=by
   intro h1 h2
   cases ad with
   | none =>
    have Ke:len=0:=by rcases TT with h|⟨g,o,h⟩<;>first|exact h|cases h
    subst Ke
    have TR:news = []:=List.eq_nil_of_length_eq_zero (by rw[D1,Nat.zero_mul])
    subst TR
    have hvv:∃ b m c',v = .slice b m c'/\m<=c':=by
     rcases dj.2 with ⟨rfl,_⟩|⟨g,cap,cur,rfl,_,_,hle,_⟩
     ·exact⟨_,_,_,rfl,Nat.le_refl _⟩
     ·exact⟨_,_,_,rfl,hle⟩
    obtain⟨b,m,c',rfl,hle⟩:=hvv
    refine⟨_,w,uk t ty elem i (hG.ok.un hu) hi b m c' c hle,?_,⟨rfl,rfl,rfl,Nat.le_refl _,fun _ _ _=>rfl⟩,.inl rfl⟩
    rw[List.append_nil]; exact dj
   | some ad =>
    obtain⟨r,w',hr,h3,h4,_,h5⟩:=run_append_own_at (P:=G.cx.P) w 0 t ty elem i zv n bD (hG.ok.un hu) hi F0 D2 hi4 (by omega) lh v nD xs dj ad len c news D1 (fun j u hj=>by
     rcases TT with h0|⟨g,o,e⟩
     ·rw[h0,Nat.zero_mul] at D1
      have:=List.eq_nil_of_length_eq_zero D1
      subst this; simp at hj
     ·cases e
      rw[Ev.kc]; exact Br g o rfl j u hj) yw h1 h2 (Nat.zero_le _)
    exact⟨r,w',hr,h3,h4,h5⟩
  
  have jl:∀ {r:Value} {w':World} {b:an},w'.ownsRow 0 elem n r (nD+len) (xs++news)->w.grownBy w' v.ownBlock->(r.ownBlock=v.ownBlock\/r.ownBlock=some w.heap.size)->pC (s.store m_) b q->b.m = .w ->
    (∀ (p:tI),((p.a=none/\p.len=0/\p.cap=0/\nD+len=0)\/∃ g cur,p.a=some (g,0)/\p.len=nD+len/\w'.heap[g]?=some (.cells cur elem (0,0))/\p.len<=p.cap/\p.cap<=maxLen/\cur.size=p.cap*n/\(∀ (j:Nat) (v:Value),(xs++news)[j]?=some v->cur[j]?=some v)) ->
     (∀ g,p.a=some (g,0)->Own I (β.set m_.length p) (m_++[b]) m_.length g (0,0) b)->(∀ g,I g->w'.heap[g]?=w.heap[g]?)->ji I (β.set m_.length p) (m_++[b]) w' m_.length b)->cC G s I β w a q r w':=by
   intro r w' b tN hg mr h hm hb
   rcases tN.2 with ⟨rfl,h0⟩|⟨g,cap,cur,rfl,_,D3,hle,sD,jA,dm⟩
   ·have:=mv (p:=⟨none,0,0⟩) hR hk vv Lc hv hg h (fun g o e=>by cases e) hm (hb ⟨none,0,0⟩ (.inl ⟨rfl,rfl,rfl,h0⟩))
    exact this
   ·have:=mv (p:=⟨some (g,0),nD+len,cap⟩) hR hk vv Lc hv hg h (fun g' o e=>by
     cases e
     simp only[Value.ownBlock] at mr
     exact mr.imp (fun e=>e.symm) (fun e=>by cases e; rfl)) hm (hb ⟨some (g,0),nD+len,cap⟩ (.inr ⟨g,cur,rfl,rfl,D3,hle,sD,jA,fun j v hj=>by
      rw[← dm,List.getElem?_take] at hj
      split at hj
      ·simpa using hj
      ·cases hj⟩))
    exact this
  have pj:∀ {w':World},w.grownBy w' v.ownBlock->∀ g,I g->w'.heap[g]?=w.heap[g]?:=fun hg g hI=>hg.block g (hR.aC.aC g hI) fun e=>(hv g e.symm).2.1 hI
  have hlenE:(xs++news).length=(nD+len)*n:=by rw[List.length_append,uj,D1,Nat.add_mul]
  have told:(aP (fw ag n dst) fun es=>aP (fw ag n src) fun fs=>es.length+fs.length<=maxLen/\(es.length+fs.length)*bD<=140737488355328/\pC (s.store m_) ⟨.dyn,elem,n,.w,true,es++fs⟩ q)->∃ r w',(Builtin.append_ #[t,t] ty #[v,.slice ad len c]).run G.cx.P w = .ok r w'/\cC G s I β w a q r w':=by
   intro h
   replace h:=au h
   obtain⟨es,mq,h⟩:=h
   replace h:=au h
   obtain⟨fs,KU,h⟩:=h
   obtain⟨PO,Bs⟩:=fe lh hagn mq Lb uj
   obtain⟨O1,Kf⟩:=fe lh hagn KU pk D1
   obtain⟨h1,h2,h⟩:=h
   rw[PO,O1] at h1 h2
   obtain⟨r,w',hr,tN,hg,mr⟩:=run h1 h2
   refine⟨r,w',hr,jl tN hg mr h rfl fun p hp hO hI=>⟨p,ax.eI ..,?_⟩⟩
   rcases hp with ⟨ha,hl,hcp,h0⟩|⟨g,cur,ha,hl,D3,hle,sD,jA,kg⟩
   ·exact⟨⟨lh,by simp only[List.length_append]; omega,by omega,by rw[hcp]; exact Nat.zero_le _⟩,.inl ⟨ha,hcp⟩⟩
   ·refine⟨⟨lh,by simp only[List.length_append]; omega,hle,sD⟩,.inr ⟨g,cur,(0,0),ha,D3,?_,hO g ha,jA⟩⟩
    exact (Bs.append Kf).at (fun j v hj=>by rw[Ev.dZ D3]; exact kg j v hj) (fun _ h=>h) hI
  split at h
  ·rename_i cs ds
   rw[oC,oC,Nat.zero_add,Nat.zero_add] at h
   replace h:=aZ h
   obtain⟨ph,h⟩:=h
   simp only[Bool.and_eq_true] at ph
   obtain⟨⟨⟨F',hd1⟩,Bt⟩,hd3⟩:=ph
   have F':0 < ds.length:=Nat.le_of_ble_eq_true F'
   have Bt:=Nat.le_of_ble_eq_true Bt
   have hd3:=Nat.le_of_ble_eq_true hd3
   replace h:=cI h
   have AZ:cs.length=nD*n:=by rw[← Lb.1,uj]
   have uo:ds.length=len*n:=by rw[← pk.1,D1]
   have e1:nD<=nD*n:=Nat.le_mul_of_pos_right _ lh
   have e2:len<=len*n:=Nat.le_mul_of_pos_right _ lh
   obtain⟨r,w',hr,tN,hg,mr⟩:=run (by omega) (Nat.le_trans (Nat.mul_le_mul_right _ (by omega)) Bt)
   have So:0 < len:=by
    rcases Nat.eq_zero_or_pos len with h0|h0
    ·rw[h0,Nat.zero_mul] at uo; omega
    ·exact h0
   refine⟨r,w',hr,jl tN hg mr h rfl fun p hp hO hI=>⟨p,ax.eI ..,?_⟩⟩
   rcases hp with ⟨ha,hl,hcp,h0⟩|⟨g,cur,ha,hl,D3,hle,sD,jA,kg⟩
   ·omega
   ·refine⟨g,cur,(0,0),ha,D3,fun j c hj=>?_,hO g ha,by simp only[List.length_append]; rw[hl,Nat.add_mul]; omega,hle,sD,jA,lh⟩
    obtain⟨v',h1,h2,h3⟩:=(eH.append Lb pk).2 j c hj
    exact⟨v',by rw[Nat.zero_add]; exact kg j v' h1,PV.Is.mono (fun _ h=>h) hI c β _ v' (fun l p' _ e_=>ax.lF hk p l p' e_) h2,h3⟩
  ·exact told h
 ·exact h.elim
theorem vw (hR:Rel G I β s a w):∀ {os:List Operand} {q:List PV->Prop},Bd s os q->∃ l,q l/\bp w I l β (os.map a.eval)
 | [],q,h=>⟨[],h,by simp only[List.map_nil,bp]⟩
 | o::os,q,h=>by
  replace h:=aN.cc hR h
  obtain⟨x,h,hx⟩:=h
  obtain⟨l,h,hl⟩:=vw hR h
  exact⟨_,h,by simp only[List.map_cons,bp]; exact⟨hx,hl⟩⟩
theorem TM.sL {rl:List Nat}:∀ {t:TM} {n:Nat} {x:PV},(t.clear rl).get n=some x->t.get n=some x/\x.leads rl=false
 | .nil,n,x,h=>by cases h
 | .node v l r,n,x,h=>by
  simp only[TM.clear,TM.get] at h ⊢
  cases h0:Nat.beq n 0<;>rw[h0] at h
  ·cases h1:Nat.beq (n % 2) 1<;>rw[h1] at h
   ·exact TM.sL (t:=r) h
   ·exact TM.sL (t:=l) h
  ·cases v with
   | none=>cases h
   | some y =>
    simp only[cond_true] at h ⊢
    split at h
    ·cases h
    ·cases h
     rename_i hl
     exact⟨rfl,by simpa using hl⟩
theorem Ia {rl:List Nat} {t:TM} {q:TM->Prop} (h:Ed rl t q):∃ t',q t'/\∀ n x,t'.get n=some x->t.get n=some x/\∀ l∈x.c9,l ∉ rl:=by
 unfold Ed at h
 split at h
 ·exact⟨t,h,fun n x hx=>⟨hx,fun _ _ hl=>by cases hl⟩⟩
 ·refine⟨_,h,fun n x hx=>?_⟩
  obtain⟨h1,h2⟩:=TM.sL hx
  refine⟨h1,fun l hl hr=>?_⟩
  unfold PV.leads at h2
  rw[List.any_eq_false] at h2
  refine h2 l hl (List.any_eq_true.2 ⟨l,hr,?_⟩)
  exact Nat.beq_refl l
theorem Ld (hR:Rel G I β s a w) {f:FuncId} {args:List PV} {a_:List Value} {q:PV->aN->Prop} (h:KK G s f args q) (ha:bp w I args β a_) :
  Ev.ke G.cx.P f/\Calls G.cx.P f a_.toArray w fun e w'=>∃ v,e = .returned v/\cC G s I β w a q v w':=by
 obtain⟨n,t,st,b,TN⟩:=s
 obtain⟨rl,Sq,hs⟩:=h
 unfold Spec at hs
 obtain⟨he,hs⟩:=hs
 refine⟨he,(hs I β w a_ hR.heap hR.aC ha).mono fun e w' ⟨v,r,S',I',aM,he,hk,hr,hH,hM,hE,hlen,p7⟩=>⟨v,he,?_⟩⟩
 obtain⟨t',hq,FY⟩:=Ia hk
 refine⟨r,_,I',aM,hq,⟨hR.small,hR.defers,hR.size,Nat.le_trans hR.base hlen,fun m x hx=>?_,hH,hM⟩,hr,hE,rfl,rfl,rfl,fun l hl hn=>?_,fun l b' dw hm=>p7 l (List.getElem?_eq_some_iff.1 dw).1 fun hr=>(Sq l hr).2 b' dw hm⟩
 ·obtain⟨h1,h2⟩:=FY m x hx
  obtain⟨u,hu,hi⟩:=hR.get m x h1
  refine⟨u,hu,PV.Is.mono hE.aC (hE.keeps hR.heap hR.aC.aC) x β aM u (fun l p hl hp=>?_) hi⟩
  rw[p7 l (hR.heap.lt hp) (h2 l hl)]; exact hp
 ·have kf:l < b:=hl
  refine p7 l (Nat.lt_of_lt_of_le kf hR.base) fun hr=>?_
  rcases (Sq l hr).1 with h|h
  ·omega
  ·exact hn h
set_option maxHeartbeats 1000000 in
theorem zP (hG:nC G) (hR:Rel G I β s a w) {o:Oper} {q:PV->aN->Prop} (h:pop G s o q):Ev.sv G.cx.P (cC G s I β w a q) ((execOp a.eval o).run G.cx.P w):=by
 have Bu:∀ {q':PV->Prop},qG G.cx s o.op q'->(∀ v,q' v->q v s)->Ev.sv G.cx.P (cC G s I β w a q) ((execOp a.eval o).run G.cx.P w):=by
  intro q' h hq
  obtain⟨x,r,hx,hi,hr⟩:=vt hG.ok hR h
  rw[hr w]
  exact cC.same hR (hq x hx) hi
 unfold pop at h
 split at h
 ·
  rename_i t ad p9
  replace h:=aN.cc hR h
  obtain⟨x,h,hx⟩:=h
  obtain⟨z,v,g,h,hz,_,bI⟩:=ny hG.ok hR.heap hR.aC h hx
  replace bI:=bI w rfl
  unfold execOp
  rw[p9]
  simp only[Sem.run_bind,bI,Result.andThen_ok,Sem.run_pure]
  exact cC.same hR h hz
 ·
  rename_i t ad y p9
  replace h:=aN.cc hR h
  obtain⟨x,h,hx⟩:=h
  replace h:=aN.cc hR h
  obtain⟨v,h,hv⟩:=h
  obtain⟨w',bI,hp⟩:=HZ hG hR h hx hv
  unfold execOp
  rw[p9]
  simp only[Sem.run_bind,bI,Result.andThen_ok,Sem.run_pure]
  exact hp
 ·
  rename_i t p9
  replace h:=iJ (w:=w) (I:=I) (β:=β) hG.ok h
  obtain⟨z,i,v,h,hi,F0,nw⟩:=h
  replace h:=aZ (cI h)
  obtain⟨cA,h⟩:=h
  rw[List.all_eq_true] at cA
  have bI:(execOp a.eval o).run G.cx.P w = .ok (.value (.pointer (some ⟨w.heap.size,0,none⟩))) (w.alloc (.cells v.cells t)):=by
   unfold execOp
   rw[p9]
   simp[Instr.alloc,zeroValue,typeInfo,hi,F0,newVar,newRow]
  rw[bI]
  exact F7 hR h nw cA
 ·
  rename_i t y p9
  replace h:=aN.cc hR h
  obtain⟨x,h,hx⟩:=h
  have bI:(execOp a.eval o).run G.cx.P w = .ok (.value (.pointer (some ⟨w.heap.size,0,none⟩))) (w.alloc (.cells (a.eval y).cells t)):=by
   unfold execOp
   rw[p9]
   simp[Instr.box,newVar,newRow]
  rw[bI]
  split at h
  ·exact h.elim
  ·rename_i FZ
   replace h:=aZ h
   obtain⟨cA,h⟩:=h
   rw[List.all_eq_true] at cA
   exact F7 hR (cI h) (hx.nt fun vs e=>FZ vs e) cA
 ·
  rename_i t len ps p9
  replace h:=au h
  obtain⟨d,hu,h⟩:=h
  split at h
  ·rename_i elem
   replace h:=au h
   obtain⟨n,hn,h⟩:=h
   replace h:=iJ (w:=w) (I:=I) (β:=β) hG.ok h
   obtain⟨z,i,v,h,hi,F0,nw⟩:=h
   replace h:=sw hR h
   obtain⟨l,h,hl⟩:=h
   replace h:=aZ h
   obtain⟨hc,h⟩:=h
   simp only[Bool.and_eq_true] at hc
   have Sn:z.length=n:=Nat.eq_of_beq_eq_true hc.1.1
   have uq:len*n<=16777216:=Nat.le_of_ble_eq_true hc.1.2
   have lh:0 < n:=Nat.le_of_ble_eq_true hc.2
   replace h:=qK h
   obtain⟨cs,Le,h⟩:=h
   replace h:=aZ (cI h)
   obtain⟨ph,h⟩:=h
   simp only[Bool.and_eq_true,List.all_eq_true] at ph
   have AZ:=Nat.eq_of_beq_eq_true ph.1.2
   have sD:=Nat.le_of_ble_eq_true ph.2
   have Z8:=nw.length
   simp only[Array.length_toList] at Z8
   have rep:∀ k,bp w I ((List.replicate k z).flatten) β ((List.replicate k v.cells.toList).flatten):=fun k=>by
    induction k with
    | zero=>simp only[List.replicate_zero,List.flatten_nil,bp]
    | succ k ih=>simp only[List.replicate_succ,List.flatten_cons]; exact nw.append ih
   have TZ:bp w I ((List.replicate len z).flatten) β ((Array.range (len*n)).map fun i=>v.cells[i % v.cells.size]!).toList:=by
    rw[show n=v.cells.size by omega,Ev.KB len (by omega)]; exact rep len
   obtain⟨B,hB,hBB⟩:=qL Le TZ hl
   have bI:(execOp a.eval o).run G.cx.P w = .ok (.value (.slice (some ⟨w.heap.size,0,none⟩) len len)) (w.alloc (.cells B elem)):=by
    unfold execOp
    rw[p9]
    have hB':Instr.fill (fun i=>some (i*n,n)) ((Array.range (len*n)).map fun i=>v.cells[i % v.cells.size]!) (ps.map fun (i,y)=>(i,a.eval y)).toList=some B:=by
     rw[← hB]; simp
    have Sr:¬ (len*n > 2 ^ 24):=by omega
    by_cases h0:len*n=0
    ·have hE:∀ g:Nat->Value,(Array.range (len*n)).map g = #[]:=fun g=>by rw[h0]; simp
     rw[hE] at hB'
     simp only[Instr.buildSlice,Sem.run_bind,run_underlying (hG.ok.un hu),Result.andThen_ok,Ev.dY hG.ok hn,if_neg Sr,if_pos h0,Sem.run_pure,hE,hB']
     simp[newRow]
    ·have hzr:(zeroValue elem).run G.cx.P w = .ok v w:=by simp[zeroValue,typeInfo,hi,F0]
     simp only[Instr.buildSlice,Sem.run_bind,run_underlying (hG.ok.un hu),Result.andThen_ok,Ev.dY hG.ok hn,if_neg Sr,if_neg h0,Sem.run_pure,hzr,hB']
     simp[newRow]
   rw[bI]
   exact K_ hR h hBB ph.1.1 AZ lh sD
  ·exact h.elim
 ·
  rename_i y KM argTypes p9
  replace h:=aN.cc hR h
  obtain⟨x,h,hx⟩:=h
  split at h
  ·rename_i f pe
   cases H_:G.ext.any (Nat.beq f) with
   | true=>rw[H_] at h; replace h:oB G s o q:=h; unfold oB at h; exact h I β a w hR
   | false =>
   rw[H_] at h
   replace h:Bd s KM fun l=>KK G s f (l++pe) q:=h
   simp only[PV.Is] at hx
   obtain⟨cvs,hfv,hcv⟩:=hx
   replace h:=vw hR h
   obtain⟨l,h,hl⟩:=h
   obtain⟨hent,hcall⟩:=Ld hR h (hl.append hcv)
   have bI:(execOp a.eval o).run G.cx.P w = .ok (.enter f (KM.map a.eval++cvs.toList).toArray) w:=by
    unfold execOp
    rw[p9]
    have e1:(Array.mk KM).map a.eval++cvs=(KM.map a.eval++cvs.toList).toArray:=by simp
    simp only[resolve,hfv,Deferred.ofValue,Sem.run_bind,Sem.run_pure,Result.andThen_ok,invoke]
    simp only[Array.empty_append]
    rw[e1]
    exact hent _ w
   rw[bI]
   exact hcall
  ·exact h.elim
 ·
  rename_i od ox t t' p9
  replace h:=aZ h
  obtain⟨ht,h⟩:=h
  have:=Nat.eq_of_beq_eq_true ht
  subst this
  replace h:=aN.cc hR h
  obtain⟨d,h,hd⟩:=h
  replace h:=aN.cc hR h
  obtain⟨x,h,hx⟩:=h
  obtain⟨r,w',hr,hp⟩:=Em (ty:=o.type) hG hR h hd hx
  have bI:(execOp a.eval o).run G.cx.P w = .ok (.value r) w':=by
   unfold execOp
   rw[p9]
   simp[resolve,invoke,builtin,hr]
  rw[bI]
  exact hp
 ·unfold oB at h; exact h I β a w hR
 ·unfold oB at h; exact h I β a w hR
 ·unfold oB at h; exact h I β a w hR
 ·unfold oB at h; exact h I β a w hR
 ·unfold oB at h; exact h I β a w hR
 ·unfold oB at h; exact h I β a w hR
 ·rename_i src dst ox p9
  cases hb:Nat.beq dst 9 with
  | true=>rw[hb] at h; replace h:oB G s o q:=h; unfold oB at h; exact h I β a w hR
  | false=>rw[hb] at h; exact Bu (by rw[p9]; exact h) fun _ h=>h
 ·exact Bu h fun _ h=>h
end
section
variable {w w':World} {I I':Nat->Prop} {β aM:ax} {cx:Ev.Cx} {G:Gx} {P:Program} {s:aN} {a:Act} {st eP:List an}
theorem TM.uM {v:Option PV}:∀ {f:Nat} {t:TM} {n:Nat} {k:TM->Prop},TM.zF v f t n k->∃ t',k t'/\∀ m,t'.get m=if m=n then v else t.get m
 | 0,_,_,_,h=>h.elim
 | f+1,t,n,k,h=>by
  have arith:∀ m,Nat.beq n 0=false->(m=n↔Nat.beq m 0=false/\m % 2=n % 2/\(m - 1) / 2=(n - 1) / 2):=fun m h0=>by
   have hn:n≠0:=fun e=>by subst e; cases h0
   constructor
   ·rintro rfl; exact⟨h0,rfl,rfl⟩
   ·rintro⟨h1,h2,h3⟩
    have hm:m≠0:=fun e=>by subst e; cases h1
    omega
  have key:∀ (u:Option PV) (l r:TM),(bif Nat.beq n 0 then k (.node v l r) else bif Nat.beq (n % 2) 1 then TM.zF v f l ((n - 1) / 2) (fun t=>k (.node u t r)) else TM.zF v f r ((n - 1) / 2) (fun t=>k (.node u l t))) ->
    ∃ t',k t'/\∀ m,t'.get m=if m=n then v else (TM.node u l r).get m:=by
   intro u l r h
   cases h0:Nat.beq n 0<;>rw[h0] at h
   ·cases h1:Nat.beq (n % 2) 1<;>rw[h1] at h
    ·obtain⟨t',hk,ht⟩:=TM.uM h
     refine⟨_,hk,fun m=>?_⟩
     have hp:n % 2=0:=by
      have:n % 2≠1:=fun e=>by rw[e] at h1; cases h1
      omega
     simp only[TM.get]
     cases sq:Nat.beq m 0
     ·cases ss:Nat.beq (m % 2) 1
      ·have hmp:m % 2=0:=by
        have:m % 2≠1:=fun e=>by rw[e] at ss; cases ss
        omega
       simp only[cond_false,ht]
       by_cases e:(m - 1) / 2=(n - 1) / 2
       ·rw[if_pos e,if_pos ((arith m h0).2 ⟨sq,by omega,e⟩)]
       ·rw[if_neg e,if_neg fun e'=>e ((arith m h0).1 e').2.2]
      ·have hmp:m % 2=1:=Nat.eq_of_beq_eq_true ss
       simp only[cond_false,cond_true]
       rw[if_neg fun e'=>by rw[e'] at hmp; omega]
     ·have:=Nat.eq_of_beq_eq_true sq
      subst this
      simp only[cond_true]
      rw[if_neg fun e=>by rw[← e] at h0; cases h0]
    ·obtain⟨t',hk,ht⟩:=TM.uM h
     refine⟨_,hk,fun m=>?_⟩
     have hp:n % 2=1:=Nat.eq_of_beq_eq_true h1
     simp only[TM.get]
     cases sq:Nat.beq m 0
     ·cases ss:Nat.beq (m % 2) 1
      ·simp only[cond_false]
       rw[if_neg fun e'=>by rw[e'] at ss; rw[ss] at h1; cases h1]
      ·have hmp:m % 2=1:=Nat.eq_of_beq_eq_true ss
       simp only[cond_false,cond_true,ht]
       by_cases e:(m - 1) / 2=(n - 1) / 2
       ·rw[if_pos e,if_pos ((arith m h0).2 ⟨sq,by omega,e⟩)]
       ·rw[if_neg e,if_neg fun e'=>e ((arith m h0).1 e').2.2]
     ·have:=Nat.eq_of_beq_eq_true sq
      subst this
      simp only[cond_true]
      rw[if_neg fun e=>by rw[← e] at h0; cases h0]
   ·have:=Nat.eq_of_beq_eq_true h0
    subst this
    refine⟨_,h,fun m=>?_⟩
    simp only[TM.get]
    cases sq:Nat.beq m 0
    ·rw[if_neg fun e=>by subst e; cases sq]; rfl
    ·rw[if_pos (Nat.eq_of_beq_eq_true sq)]; rfl
  cases t with
  | nil =>
   obtain⟨t',hk,ht⟩:=key none .nil .nil h
   refine⟨t',hk,fun m=>?_⟩
   rw[ht]
   split
   ·rfl
   ·simp only[TM.get]; cases Nat.beq m 0<;>cases Nat.beq (m % 2) 1<;>rfl
  | node u l r=>exact key u l r h
structure kR (s s':aN):Prop where
 n:s'.n=s.n
 st:s'.st=s.st
 base:s'.base=s.base
 rl:s'.rl=s.rl
theorem aN.fq {dst:Option Tmp} {x:PV} {k:aN->Prop} (h:s.put dst x k):∃ s',k s'/\kR s s'/\∀ I β a w v,Rel G I β s a w->x.Is w I β v->Rel G I β s' (a.put dst v) w:=by
 obtain⟨n,t,st,b,rl⟩:=s
 unfold aN.put at h
 simp only at h
 split at h
 ·exact⟨_,h,⟨rfl,rfl,rfl,rfl⟩,fun I β a w v hR _=>hR⟩
 ·rename_i d
  replace h:=aZ h
  obtain⟨hd,h⟩:=h
  have hd:d < n:=Nat.le_of_ble_eq_true hd
  replace h:=KO h
  obtain⟨t',hk,ht⟩:=TM.uM h
  refine⟨_,hk,⟨rfl,rfl,rfl,rfl⟩,fun I β a w v hR hx=>⟨hR.small,hR.defers,by simpa [Act.put] using hR.size,hR.base,fun m y hy=>?_,hR.heap,hR.aC⟩⟩
  have fY:d < a.tmps.size:=by rw[hR.size]; exact hd
  have A2:t'.get m=some y:=hy
  rw[ht] at A2
  by_cases e:m=d
  ·subst e
   rw[if_pos rfl] at A2
   cases A2
   exact⟨v,by simp[Act.put,fY],hx⟩
  ·rw[if_neg e] at A2
   obtain⟨u,hu,hi⟩:=hR.get m y A2
   exact⟨u,by simp only[Act.put,Array.getElem?_setIfInBounds_ne (Ne.symm e)]; exact hu,hi⟩
theorem aN.oF {t:Nat} {x:PV} {v:Value} {k:aN->Prop} (hR:Rel G I β s a w) (hv:a.tmps[t]?=some v) (hx:x.Is w I β v) (h:s.put (some t) x k):∃ s',k s'/\kR s s'/\Rel G I β s' a w:=by
 obtain⟨s',hk,hs,hr⟩:=aN.fq (G:=G) h
 refine⟨s',hk,hs,?_⟩
 have:=hr I β a w v hR hx
 have e:a.put (some t) v=a:=by
  unfold Act.put
  simp only
  have:a.tmps.setIfInBounds t v=a.tmps:=by
   apply Array.ext_getElem?
   intro i
   rw[Array.getElem?_setIfInBounds]
   split
   ·rename_i hi
    subst hi
    have:=(Array.getElem?_eq_some_iff.1 hv).1
    rw[if_pos this,hv]
   ·rfl
  rw[this]
 rw[e] at this
 exact this
theorem Is.undef:(PV.tup []).Is w I β Go.undef:=by simp only[PV.Is]; exact⟨#[],rfl,by simp only[bp]⟩
theorem gR {ops:Array Oper} {o:Oper} {run skip:aN->Prop} (hR:Rel G I β s a w) (h:lg ops.toList s o run skip) :
  (Region.wanted o (yielded ops a.tmps)=true/\∃ s',run s'/\kR s s'/\Rel G I β s' a w)\/(Region.wanted o (yielded ops a.tmps)=false/\∃ s',skip s'/\kR s s'/\Rel G I β s' a w):=by
 have same:kR s s:=⟨rfl,rfl,rfl,rfl⟩
 unfold lg at h
 cases hg:o.guard with
 | none =>
  rw[hg] at h
  exact .inl ⟨by simp[Region.wanted,hg],s,h,same,hR⟩
 | some jw =>
  obtain⟨j,want⟩:=jw
  rw[hg] at h
  simp only at h
  replace h:=au h
  obtain⟨t,ht,h⟩:=h
  replace h:=au h
  obtain⟨x,hx,h⟩:=h
  obtain⟨v,hv,hi⟩:=hR.get t x hx
  have FY:(ops[j]?).bind (·.dst)=some t:=by simpa using ht
  have hy:∀ b,v = .bool b->Region.wanted o (yielded ops a.tmps)=(b == want):=fun b hb=>by
   subst hb
   have:yielded ops a.tmps j=some b:=by unfold yielded; rw[Option.bind_eq_some_iff.2 ⟨t,FY,hv⟩]
   simp[Region.wanted,hg,this]
  split at h<;>try simp only[PV.Is] at hi
  ·cases want
   ·exact .inr ⟨by rw[hy _ hi]; rfl,s,h,same,hR⟩
   ·exact .inl ⟨by rw[hy _ hi]; rfl,s,h,same,hR⟩
  ·cases want
   ·exact .inl ⟨by rw[hy _ hi]; rfl,s,h,same,hR⟩
   ·exact .inr ⟨by rw[hy _ hi]; rfl,s,h,same,hR⟩
  ·rename_i p
   by_cases hp:p
   ·obtain⟨s',hk,hs,hr⟩:=aN.oF hR hv (x:=.tt) (by rw[hi,cj hp]; exact Is.tt) (h.1 hp)
    cases want
    ·exact .inr ⟨by rw[hy _ hi,cj hp]; rfl,s',hk,hs,hr⟩
    ·exact .inl ⟨by rw[hy _ hi,cj hp]; rfl,s',hk,hs,hr⟩
   ·obtain⟨s',hk,hs,hr⟩:=aN.oF hR hv (x:=.ff) (by rw[hi,bM hp]; exact Is.ff) (h.2 hp)
    cases want
    ·exact .inl ⟨by rw[hy _ hi,bM hp]; rfl,s',hk,hs,hr⟩
    ·exact .inr ⟨by rw[hy _ hi,bM hp]; rfl,s',hk,hs,hr⟩
  ·obtain⟨vs,rfl,_⟩:=hi
   refine .inr ⟨?_,s,h,same,hR⟩
   have:yielded ops a.tmps j=none:=by unfold yielded; rw[Option.bind_eq_some_iff.2 ⟨t,FY,hv⟩]
   simp[Region.wanted,hg,this]
  ·exact h.elim
structure bJ (I:Nat->Prop) (β:ax) (s:aN) (w:World) (I':Nat->Prop) (aM:ax) (s':aN) (w':World):Prop where
 ext:Ext I β s.st w I' aM s'.st w'
 base:s'.base=s.base
 rl:s'.rl=s.rl
 n:s'.n=s.n
 low:∀ l,l < s.base->l ∉ s.rl->aM l=β l
theorem bJ.same {s':aN} (h:kR s s'):bJ I β s w I β s' w:=⟨by rw[h.st]; exact Ext.refl,h.base,h.rl,h.n,fun _ _ _=>rfl⟩
theorem bJ.trans {I'':Nat->Prop} {KC:ax} {s' s'':aN} {xD:World} (h:bJ I β s w I' aM s' w') (k:bJ I' aM s' w' I'' KC s'' xD):bJ I β s w I'' KC s'' xD :=
 ⟨h.ext.trans k.ext,k.base.trans h.base,k.rl.trans h.rl,k.n.trans h.n,fun l hl hr=>(k.low l (by rw[h.base]; exact hl) (by rw[h.rl]; exact hr)).trans (h.low l hl hr)⟩
theorem zQ (hG:nC G) {ops:Array Oper} {Q:X->aN->Prop} {Q':Exit->Act->World->Prop}:∀ (l:List Oper) {s:aN} {a:Act} {I:Nat->Prop} {β:ax} {w:World},KN G ops.toList Q l s->Rel G I β s a w ->
  (∀ x s' I' aM a' w',Q x s'->Rel G I' aM s' a' w'->bJ I β s w I' aM s' w'->Q' (X.e x) a' w')->wpList G.cx.P ops Q' l a w
 | [],s,a,I,β,w,h,hR,hQ=>hQ .hU s I β a w h hR (bJ.same ⟨rfl,rfl,rfl,rfl⟩)
 | o::l,s,a,I,β,w,h,hR,hQ=>by
  unfold wpList
  rcases gR hR h with ⟨hw,s1,h1,j5,iL⟩|⟨hw,s1,h1,j5,iL⟩
  ·rw[hw,if_pos rfl]
   refine .inl (Ev.uI (zP hG iL h1) fun v w' hp=>?_)
   obtain⟨x,s2,I2,jm,h2,kh,hx,hE,e1,e2,e3,gh,_⟩:=hp
   obtain⟨s3,h3,j6,pn⟩:=aN.fq (G:=G) h2
   have g1:bJ I β s w I2 jm s2 w':=(bJ.same j5).trans ⟨hE,e1,e2,e3,gh⟩
   exact zQ hG l h3 (pn _ _ _ _ v kh hx) fun x s' I' aM a' xD hq cd hg=>hQ x s' I' aM a' xD hq cd ((g1.trans (bJ.same j6)).trans hg)
  ·rw[hw,if_neg (by simp)]
   obtain⟨s3,h3,j6,pn⟩:=aN.fq (G:=G) h1
   exact zQ hG l h3 (pn _ _ _ _ _ iL Is.undef) fun x s' I' aM a' xD hq cd hg=>hQ x s' I' aM a' xD hq cd (((bJ.same j5).trans (bJ.same j6)).trans hg)
end
def my:Op->Bool
 | .load ..=>true
 | _=>false
def aR (op:Op):Bool:=!(Ev.pV op || my op)
structure nh where
 k:Nat
 D:List Nat
 Y:World->Prop
section
variable {P:Program} {ops:Array Oper} {Q:Exit->Act->World->Prop}
def Yields (P:Program) (ops:Array Oper) (S:World->Prop) (o:Oper) (v:Value) (a:Act):Prop :=
 (Region.wanted o (yielded ops a.tmps)=true/\∀ w,S w->(execOp a.eval o).run P w = .ok (.value v) w)\/(Region.wanted o (yielded ops a.tmps)=false/\v=undef)
theorem Yields.mono {S S':World->Prop} {o:Oper} {v:Value} {a:Act} (hS:∀ w,S' w->S w) (h:Yields P ops S o v a):Yields P ops S' o v a:=h.imp (fun ⟨h1,h2⟩=>⟨h1,fun w hw=>h2 w (hS w hw)⟩) id
theorem Yields.of_same {S:World->Prop} {o:Oper} {v:Value} {a a':Act} (hy:Yields P ops S o v a) (he:execOp a'.eval o=execOp a.eval o) (hw:Region.wanted o (yielded ops a'.tmps)=Region.wanted o (yielded ops a.tmps)):Yields P ops S o v a':=by
 unfold Yields at *; rw[he,hw]; exact hy
def cR (i:Nat) (pins:List nh):List nh:=pins.filter fun p=>!p.D.any (Nat.beq i)
def cU (P:Program) (ops:Array Oper) (Q:Exit->Act->World->Prop):Nat->Array Bool->Act->(World->Prop)->List nh->Prop
 | 0,l,a,S,_=>Region.ready .any ops l = []/\∀ w,S w->Q .normal a w
 | f+1,l,a,S,pins=>(Region.ready .any ops l = []->∀ w,S w->Q .normal a w)/\∀ i∈Region.ready .any ops l,∀ o,ops[i]?=some o ->
   (aR o.op=false->∃ v,Yields P ops S o v a/\cU P ops Q f (l.setIfInBounds i true) (a.put o.dst v) S (cR i pins)) /\
   (aR o.op=true->∀ w,S w->Ev.ug P ops o a w fun v w'=>∃ S':World->Prop,(∀ p∈cR i pins,∀ w,S' w->p.Y w)/\S' w'/\cU P ops Q f (l.setIfInBounds i true) (a.put o.dst v) S' (cR i pins))
theorem cU.sound:∀ (f:Nat) (l:Array Bool) (a:Act) (S:World->Prop) (pins:List nh) (w:World),cU P ops Q f l a S pins->S w->wpAny P .any ops Q f l a w
 | 0,l,a,S,_,w,h,hw=>⟨h.1,h.2 w hw⟩
 | f+1,l,a,S,pins,w,h,hw=>by
  refine⟨fun h0=>h.1 h0 w hw,fun i hi=>?_⟩
  obtain⟨o,ho⟩:=Ev.Bb hi
  obtain⟨h0,h1⟩:=h.2 i hi o ho
  unfold wpOp
  rw[ho]
  simp only
  by_cases hl:aR o.op=false
  ·obtain⟨v,hy,hn⟩:=h0 hl
   rcases hy with ⟨eK,hy⟩|⟨eK,rfl⟩
   ·rw[if_pos eK]
    refine .inl (Ev.uI (K:=fun u w'=>u=v/\w'=w) (by rw[hy w hw]; exact⟨rfl,rfl⟩) fun u w' ⟨hu,hb⟩=>?_)
    subst hu; subst hb
    exact cU.sound f _ _ S _ w' hn hw
   ·rw[if_neg (by rw[eK]; simp)]
    exact cU.sound f _ _ S _ w hn hw
  ·rcases h1 (by simpa using hl) w hw with ⟨eK,hd⟩|⟨eK,S',_,Kg,hn⟩
   ·rw[if_pos eK]
    refine .inl (Ev.uI hd fun u w' ⟨S',_,Kg,hn⟩=>?_)
    exact cU.sound f _ _ S' _ w' hn Kg
   ·rw[if_neg (by rw[eK]; simp)]
    exact cU.sound f _ _ S' _ w hn Kg
theorem j7 {o:Oper} {a:Act} {w:World} {K K':Value->World->Prop} (hK:∀ v w,K v w->K' v w) (h:Ev.ug P ops o a w K):Ev.ug P ops o a w K':=Ev.ug.mono hK h
theorem sM {i:Nat} {pins yx:List nh} (h:∀ p∈yx,p∈pins):∀ p∈cR i yx,p∈cR i pins:=fun p hp=>by
 unfold cR at *
 rw[List.mem_filter] at *
 exact⟨h p hp.1,hp.2⟩
theorem cU.sub:∀ (f:Nat) (l:Array Bool) (a:Act) (S:World->Prop) (pins yx:List nh),(∀ p∈yx,p∈pins)->cU P ops Q f l a S pins->cU P ops Q f l a S yx
 | 0,_,_,_,_,_,_,h=>h
 | f+1,l,a,S,pins,yx,hs,h=>by
  refine⟨h.1,fun i hi o ho=>?_⟩
  obtain⟨h0,h1⟩:=h.2 i hi o ho
  refine⟨fun hl=>?_,fun hl w hw=>j7 (fun v w' ⟨S',h2,h3,h4⟩=>⟨S',fun p hp=>h2 p (sM hs p hp),h3,cU.sub f _ _ _ _ _ (sM hs) h4⟩) (h1 hl w hw)⟩
  obtain⟨v,hy,hn⟩:=h0 hl
  exact⟨v,hy,cU.sub f _ _ _ _ _ (sM hs) hn⟩
theorem cU.first {i:Nat} {oi:Oper} {v:Value} {D:List Nat} {Y:World->Prop} (hi:ops[i]?=some oi) (Z9:aR oi.op=false) (qP:Region.noSelect ops=true) :
  ∀ (f:Nat) (l:Array Bool) (a:Act) (S:World->Prop) (pins:List nh),
   (∀ j oj,ops[j]?=some oj->j≠i->l.getD j true=false->(∀ e∈oj.after,Region.binds .any e=true->e.on≠i)->oi.apart ops oj=true) ->
   (∀ j∈D,l.getD j false=false/\∃ oj,ops[j]?=some oj/\∃ e∈oj.after,Region.binds .any e=true/\(e.on=i\/e.on∈D)) ->
   Yields P ops Y oi v a->(∀ w,S w->Y w)->i∈Region.ready .any ops l->cU P ops Q f (l.setIfInBounds i true) (a.put oi.dst v) S (⟨i,D,Y⟩::pins)->cU P ops Q (f+1) l a S pins:=by
 intro f
 induction f with
 | zero =>
  intro l a S pins _ _ hY hSY hr H
  refine⟨fun h0=>(by rw[h0] at hr; cases hr),fun j hj o ho=>?_⟩
  by_cases Kd:j=i
  ·subst Kd
   rw[hi] at ho; cases ho
   exact⟨fun _=>⟨v,hY.mono hSY,H⟩,fun h=>by rw[Z9] at h; cases h⟩
  ·have:=ready_mono hj Kd
   rw[H.1] at this
   cases this
 | succ f ih =>
  intro l a S pins Su hD hY hSY hr H
  refine⟨fun h0=>(by rw[h0] at hr; cases hr),fun j hj oj lK=>?_⟩
  by_cases Kd:j=i
  ·subst Kd
   rw[hi] at lK; cases lK
   refine⟨fun _=>⟨v,hY.mono hSY,?_⟩,fun h=>by rw[Z9] at h; cases h⟩
   refine cU.sub _ _ _ _ _ _ (fun p hp=>?_) H
   unfold cR at hp
   exact List.mem_cons_of_mem _ (List.mem_filter.1 hp).1
  ·obtain⟨hjun,oj',vx,cA⟩:=mem_ready.1 hj
   rw[lK] at vx; cases vx
   have T0:=(mem_ready.1 hr).1
   have ilist:l.getD i false=false:=by
    have ch:i < l.size:=by
     rcases Nat.lt_or_ge i l.size with h'|h'
     ·exact h'
     ·simp[Array.getElem?_eq_none h'] at T0
    simp[ch] at T0 ⊢; exact T0
   have hnot:∀ e∈oj.after,Region.binds .any e=true->e.on≠i:=fun e he hb heq=>by
    have h1:=cA e he hb
    rw[heq,ilist] at h1; cases h1
   have hjD:D.any (Nat.beq j)=false:=by
    rw[List.any_eq_false]
    intro x hx e
    have:=Nat.eq_of_beq_eq_true e
    subst this
    obtain⟨_,oj2,TV,ed,he,hb,h3⟩:=hD j hx
    rw[lK] at TV; cases TV
    rcases h3 with h3|h3
    ·exact hnot ed he hb h3
    ·have h4:=cA ed he hb
     rw[(hD _ h3).1] at h4; cases h4
   have hjD':j ∉ D:=fun hm=>by
    rw[List.any_eq_false] at hjD
    exact hjD j hm (Nat.beq_refl j)
   have Z':cR j (⟨i,D,Y⟩::pins)=⟨i,D,Y⟩::cR j pins:=by
    unfold cR
    rw[List.filter_cons,if_pos (by simp only[hjD]; rfl)]
   have hap:=Su j oj lK Kd hjun hnot
   obtain⟨a1,a2,a3⟩:=Oper.apart_spec hap
   have Sv:=fun cs b=>Region.noSelect_spec qP i oi cs b hi
   have hsj:=fun cs b=>Region.noSelect_spec qP j oj cs b lK
   have ej:execOp (a.put oi.dst v).eval oj=execOp a.eval oj:=execOp_put oj hsj a oi.dst v a1
   have wj:Region.wanted oj (yielded ops (a.put oi.dst v).tmps)=Region.wanted oj (yielded ops a.tmps):=wanted_put oj a oi.dst v a1
   have ei:∀ u,execOp (a.put oj.dst u).eval oi=execOp a.eval oi:=fun u=>execOp_put oi Sv a oj.dst u a3
   have wi:∀ u,Region.wanted oi (yielded ops (a.put oj.dst u).tmps)=Region.wanted oi (yielded ops a.tmps):=fun u=>wanted_put oi a oj.dst u a3
   have Lf:∀ k ok,ops[k]?=some ok->k≠i->(l.setIfInBounds j true).getD k true=false->(∀ e∈ok.after,Region.binds .any e=true->e.on≠i)->oi.apart ops ok=true:=fun k ok hk hki Z' F_=>by
    refine Su k ok hk hki ?_ F_
    by_cases hjk:j=k
    ·subst hjk; exact hjun
    ·rw[getD_set_ne true hjk] at Z'; exact Z'
   have hD':∀ k∈D,(l.setIfInBounds j true).getD k false=false/\∃ oj,ops[k]?=some oj/\∃ e∈oj.after,Region.binds .any e=true/\(e.on=i\/e.on∈D):=fun k hk=>by
    refine⟨?_,(hD k hk).2⟩
    rw[getD_set_ne false (fun e=>hjD' (by rw[e]; exact hk))]
    exact (hD k hk).1
   obtain⟨h0,h1⟩:=H.2 j (ready_mono hj Kd) oj lK
   rw[Z'] at h0 h1
   refine⟨fun hl=>?_,fun hl w hw=>?_⟩
   ·obtain⟨u,hu,hn⟩:=h0 hl
    refine⟨u,hu.of_same ej.symm wj.symm,?_⟩
    refine ih (l.setIfInBounds j true) (a.put oj.dst u) S (cR j pins) Lf hD' (hY.of_same (ei u) (wi u)) hSY (ready_mono hr (Ne.symm Kd)) ?_
    rw[Array.setIfInBounds_comm _ _ Kd,← Act.put_comm a v u a2]
    exact hn
   ·have hd:=h1 hl w hw
    unfold Ev.ug at hd ⊢
    rw[ej,wj] at hd
    have step:∀ u w',(∃ S':World->Prop,(∀ p∈⟨i,D,Y⟩::cR j pins,∀ w,S' w->p.Y w)/\S' w'/\cU P ops Q f ((l.setIfInBounds i true).setIfInBounds j true) ((a.put oi.dst v).put oj.dst u) S' (⟨i,D,Y⟩::cR j pins)) ->
      ∃ S':World->Prop,(∀ p∈cR j pins,∀ w,S' w->p.Y w)/\S' w'/\cU P ops Q (f+1) (l.setIfInBounds j true) (a.put oj.dst u) S' (cR j pins):=by
     rintro u w' ⟨S',Kg,hw',hn⟩
     refine⟨S',fun p hp=>Kg p (List.mem_cons_of_mem _ hp),hw',ih (l.setIfInBounds j true) (a.put oj.dst u) S' (cR j pins) Lf hD' (hY.of_same (ei u) (wi u)) (Kg _ List.mem_cons_self) (ready_mono hr (Ne.symm Kd)) ?_⟩
     rw[Array.setIfInBounds_comm _ _ Kd,← Act.put_comm a v u a2]
     exact hn
    rcases hd with ⟨Sw,hd⟩|⟨Sw,hd⟩
    ·exact .inl ⟨Sw,Ev.oA step hd⟩
    ·exact .inr ⟨Sw,step _ _ hd⟩
end
end Go.Proofs.YtnbhdacpogplgaaGreatDoor.Pw

/- What this claim is proved with: no condition. -/
import Derived.Test.YtnbhdacpogplgaaGreatDoorPd9
import Derived.Test.YtnbhdacpogplgaaGreatDoorPd11
set_option linter.unusedVariables false
set_option linter.unusedSimpArgs false
namespace Go.Proofs.YtnbhdacpogplgaaGreatDoor.Pw
open Go Go.RowKit
def lH (m:Nat) (P:Program) (t:TypeId) (S:PV->Prop):Prop:=∀ {H:Type} (e:TypeId × Value->H) (w:World) (base:Nat) (held:Bool) (fuel:Nat) (cs:List Value) (x:DataW H × List MemPlace),SizeOf.sizeOf x.1 < m ->
 DataW.trod e P w base (fun _=>true) held fuel t cs=some x->(∀ n∈x.1.weights P t,n<=reachBytes)->∃ y,S y/\(∀ vs,y≠.tup vs)/\a_ w (In w) y.cells no cs/\cs.length=P.cellsOf t/\∀ c∈cs,c.oneCell'=true
theorem lH.all {P:Program} {t:TypeId} {S:PV->Prop} (h:∀ m,lH m P t S):Op P t S:=fun e w base held fuel cs x=>h (SizeOf.sizeOf x.1+1) e w base held fuel cs x (Nat.lt_succ_self _)
theorem Op.CE {P:Program} {t:TypeId} {S:PV->Prop} (h:Op P t S) (m:Nat):lH m P t S:=fun e w base held fuel cs x _=>h e w base held fuel cs x
theorem lH.less {P:Program} {t:TypeId} {S:PV->Prop} {m n:Nat} (h:lH n P t S) (hm:m<=n):lH m P t S:=fun e w base held fuel cs x hs=>h e w base held fuel cs x (Nat.lt_of_lt_of_le hs hm)
theorem lH.zero {P:Program} {t:TypeId} {S:PV->Prop}:lH 0 P t S:=fun e w base held fuel cs x hs=>absurd hs (Nat.not_lt_zero _)
theorem lH.vk {P:Program} {t:TypeId} {m:Nat} {S S':PV->Prop} (h:lH m P t S) (hS:∀ x,S x->S' x):lH m P t S':=fun e w base held fuel cs x hs hx rQ=>by
 obtain⟨y,h1,h2⟩:=h e w base held fuel cs x hs hx rQ
 exact⟨y,hS y h1,h2⟩
section
variable {P:Program} {t e:TypeId}
theorem wC {m0:Nat} {S:PV->Prop} (he:lH m0 P e S) (n b:Nat) (W3:P.bytesOf e=b) (ht:P.underlying t=some (.slice e)) (hn:P.cellsOf e=n) (h0:0 < n) (hc:P.cellsOf t=1):lH (m0+1) P t (QX n b S):=fun {H} ec w base held fuel cs x eI h rQ=>by
 subst hn
 subst W3
 rcases Deep.open_slice ht h with ⟨rfl,_⟩|⟨a,len,cap,m,k,D,Pl,rfl,hb,hl,hm,oD,rfl,hx⟩
 ·exact⟨.sl _ [],⟨[],⟨by simp,by simp⟩,fun _ h=>by simp at h,rfl⟩,nofun,a_.one (by simp only[PV.Is]; exact⟨none,0,rfl,Nat.le_refl _,by simp,fun _ _ h=>by simp at h,fun h=>absurd rfl h⟩),by rw[hc]; rfl,fun c hc=>by simp only[List.mem_singleton] at hc; subst hc; rfl⟩
 ·simp only[if_true] at oD
  subst oD
  have QT:∀ i,i < len->SizeOf.sizeOf (D i) < m0:=fun i hi=>by
   have h1:SizeOf.sizeOf (D i) < SizeOf.sizeOf ((List.range len).map D):=List.sizeOf_lt_of_mem (List.mem_map.2 ⟨i,List.mem_range.2 hi,rfl⟩)
   have h2:SizeOf.sizeOf (DataW.slice ((List.range len).map D) ((List.range (m - len)).map fun j=>D (len+j))) < m0+1:=eI
   rw[DataW.slice.sizeOf_spec] at h2
   omega
  have W4:len*P.bytesOf e<=reachBytes:=by
   have:=rQ ((len+(m - len))*P.bytesOf e) (by simp only[DataW.weights,ht,List.length_map,List.length_range]; exact List.mem_cons_self)
   exact Nat.le_trans (Nat.mul_le_mul_right _ (Nat.le_add_right _ _)) this
  have R4:∀ i,i < len->∀ n∈(D i).weights P e,n<=reachBytes:=fun i hi n hn=>rQ n (by
   simp only[DataW.weights,ht]
   exact List.mem_cons_of_mem _ (List.mem_append.2 (.inl (jX (List.mem_map.2 ⟨i,List.mem_range.2 hi,rfl⟩) hn))))
  have R0:0 < len->a.spot=none:=fun hp=>by
   obtain⟨rR,h1,h2⟩:=hx 0 (by omega)
   obtain⟨y,_,_,hy,hlen,_⟩:=he ec w base held k rR _ (QT 0 hp) h2 (R4 0 hp)
   obtain⟨_,_,gl⟩:=World.cells?_some h1
   have pk:=gl 0 h0
   rw[List.getElem?_eq_getElem (by omega),Nat.zero_mul] at pk
   exact World.cell?_spot pk
  have each:∀ i,i < len->∃ y,S y/\a.spot=none/\a.block < w.heap.size/\As w (In w) (P.cellsOf e) y a.block (a.off+i*P.cellsOf e):=fun i hi=>by
   obtain⟨rR,h1,h2⟩:=hx i (by omega)
   obtain⟨y,hS,_,hy,hlen,W5⟩:=he ec w base held k rR _ (QT i hi) h2 (R4 i hi)
   obtain⟨_,_,gl⟩:=World.cells?_some h1
   have pk:=gl 0 h0
   rw[List.getElem?_eq_getElem (by omega)] at pk
   have hs:a.spot=none:=R0 (by omega)
   obtain⟨b,off,sp⟩:=a
   dsimp only at hs
   subst hs
   have ea:∀ b off k,(⟨b,off,none⟩:Addr).add k=⟨b,off+k,none⟩:=fun b off k=>by unfold Addr.add; split<;>simp_all
   refine⟨y,hS,rfl,?_,?_,cd.of fun j c hj=>?_⟩
   ·have:=World.block_lt_of_cell? w _ pk
    rw[ea,ea] at this; exact this
   ·rw[hy.length,hlen]
   ·obtain⟨v,hv,DF⟩:=hy.get hj
    have uN:j < P.cellsOf e:=by rw[← hlen]; exact (List.getElem?_eq_some_iff.1 hv).1
    have:=gl j uN
    rw[ea,ea,hv] at this
    exact⟨v,by simpa only [Nat.add_assoc] using this,DF,W5 v (List.mem_of_getElem? hv)⟩
  obtain⟨es,kN,hp⟩:=jW len each
  refine⟨.sl _ es,⟨es,⟨by omega,by rw[kN]; exact W4⟩,fun y hy=>?_,rfl⟩,nofun,a_.one ?_,by rw[hc]; rfl,fun c hc=>by simp only[List.mem_singleton] at hc; subst hc; rfl⟩
  ·obtain⟨i,hi⟩:=List.getElem?_of_mem hy
   exact (hp i y hi).1
  ·simp only[PV.Is]
   refine⟨some a,m,by rw[kN],by omega,by omega,fun g o JT=>?_,fun bZ=>?_⟩
   ·cases JT
    exact bE.of fun i y hy=>(hp i y hy).2.2.2
   ·have h1:0 < es.length:=by omega
    obtain⟨_,h2,h3,_⟩:=hp 0 es[0] (List.getElem?_eq_getElem h1)
    obtain⟨b,off,sp⟩:=a
    dsimp only at h2
    subst h2
    exact⟨b,off,rfl,h3,h0⟩
def Ab (m:Nat) (P:Program) (total:Nat):Nat->List Field->List (PV->Prop)->Prop
 | off,[],[]=>off=total
 | off,f::fs,S::Ss=>f.offset=off/\lH m P f.type S/\Ab m P total (off+P.cellsOf f.type) fs Ss
 | _,_,_=>False
theorem FI {m0:Nat} {fs:Array Field} {Ss:List (PV->Prop)} (ht:P.underlying t=some (.struct fs)) (hf:Ab m0 P (P.cellsOf t) 0 fs.toList Ss):lH (m0+1) P t (AJ Ss):=fun {H} ec w base held fuel cs x eI h rQ=>by
 obtain⟨xs,n,_,rfl,hl,px,hx⟩:=DataW.trod_struct ht h
 have key:∀ (l:List Field) (Ss:List (PV->Prop)) (off:Nat),Ab m0 P (P.cellsOf t) off l Ss->(∀ f∈l,∃ y,DataW.trod ec P w base (fun _=>true) held n f.type ((cs.drop f.offset).take (P.cellsOf f.type))=some y/\SizeOf.sizeOf y.1 < m0/\∀ n∈y.1.weights P f.type,n<=reachBytes)->off<=cs.length ->
   ∃ ys,pU Ss ys/\a_ w (In w) (ys.flatMap PV.cells) no (cs.drop off)/\∀ c∈cs.drop off,c.oneCell'=true:=by
  intro l
  induction l with
  | nil =>
   intro Ss off h _ _
   cases Ss with
   | nil =>
    simp only[Ab] at h
    refine⟨[],trivial,?_,?_⟩
    ·rw[List.drop_eq_nil_of_le (by omega)]; simp only[List.flatMap_nil,a_]
    ·rw[List.drop_eq_nil_of_le (by omega)]; intro c hc; cases hc
   | cons=>exact h.elim
  | cons f l ih =>
   intro Ss off h ht hle
   cases Ss with
   | nil=>exact h.elim
   | cons S Ss =>
    obtain⟨h1,h2,h3⟩:=h
    subst h1
    obtain⟨z,hz,Wv,W6⟩:=ht f (List.mem_cons_self ..)
    obtain⟨y,hS,_,hy,Gs,JL⟩:=h2 ec w base held n _ z Wv hz W6
    have lp:f.offset+P.cellsOf f.type<=cs.length:=by
     rw[List.length_take,List.length_drop] at Gs; omega
    obtain⟨ys,W7,W8,W9⟩:=ih Ss _ h3 (fun g hg=>ht g (List.mem_cons_of_mem _ hg)) lp
    have hd:cs.drop f.offset=(cs.drop f.offset).take (P.cellsOf f.type)++cs.drop (f.offset+P.cellsOf f.type):=by
     rw[← List.drop_drop,List.take_append_drop]
    refine⟨y::ys,⟨hS,W7⟩,?_,?_⟩
    ·rw[hd,List.flatMap_cons]; exact hy.append W8
    ·intro c hc
     rw[hd,List.mem_append] at hc
     exact hc.elim (JL c) (W9 c)
 obtain⟨ys,h1,h2,h3⟩:=key fs.toList Ss 0 hf (fun f hf=>by
  obtain⟨i,hi⟩:=List.getElem?_of_mem hf
  have DF:i < fs.size:=by simpa using (List.getElem?_eq_some_iff.1 hi).1
  have:=hx i f (by simpa using hi)
  rw[this]
  have bG:i < xs.length:=by omega
  refine⟨_,List.getElem?_eq_getElem bG,?_,fun n hn=>rQ n ?_⟩
  ·have h1:SizeOf.sizeOf xs[i].1 < SizeOf.sizeOf (xs.map (·.1)):=List.sizeOf_lt_of_mem (List.mem_map.2 ⟨xs[i],List.getElem_mem bG,rfl⟩)
   have h2:SizeOf.sizeOf (DataW.agg (xs.map (·.1))) < m0+1:=eI
   rw[DataW.agg.sizeOf_spec] at h2
   omega
  simp only[DataW.weights,ht]
  exact fV (i:=i) (by rw[List.getElem?_map,hi]; rfl) (by rw[List.getElem?_map,List.getElem?_eq_getElem bG]; rfl) hn) (Nat.zero_le _)
 rw[List.drop_zero] at h2 h3
 exact⟨.agg (ys.flatMap PV.cells),⟨ys,h1,rfl⟩,nofun,h2,hl,h3⟩
theorem Ac {α:Type} {m:Nat} {S:PV->Prop} {n b:Nat} {enc:α->PV} {ok:α->Prop} (h:lH m P t (QX n b S)) (hd:∀ x,S x->∃ z,ok z/\x=enc z):lH m P t (mh n b enc ok):=h.vk fun x ⟨es,h1,h2,h3⟩=>by
 obtain⟨l,hl,rfl⟩:=decode hd es h2
 exact⟨l,by simpa using h1,hl,h3⟩
end
section
variable {w:World} {I:Nat->Prop} {β:ax} {G:Gx} {s:aO} {st:List ak}
theorem gO {k:Nat} {bk bk':ak} (hk:st[k]?=some bk) (hl:bk'.live=bk.live) {l g:Nat} {fr:Nat × Nat} {b b':ak} (hm:b'.m=b.m) (h:Own I β st l g fr b):Own I β (st.set k bk') l g fr b':=by
 refine⟨fun h1=>?_,fun h1=>h.2 (by rw[← hm]; exact h1)⟩
 obtain⟨q1,q2,q3⟩:=h.1 (by rw[← hm]; exact h1)
 refine⟨q1,q2,fun l' b2 bZ cR az p g' o' hp ha=>?_⟩
 by_cases Ja:k=l'
 ·subst Ja
  have bG:k < st.length:=(List.getElem?_eq_some_iff.1 hk).1
  rw[List.getElem?_set_self bG] at cR
  cases cR
  exact q3 k bk bZ hk (by rw[← hl]; exact az) p g' o' hp ha
 ·rw[List.getElem?_set_ne Ja] at cR
  exact q3 l' b2 bZ cR az p g' o' hp ha
theorem aD.Qr {k:Nat} {bk:ak} (hH:aD I β st w) (hk:st[k]?=some bk) (bS:bk.k = .loc) (rR:List PV) (h:∀ arr o,aS w I β bk.cs arr o->aS w I β rR arr o):aD I β (st.set k { bk with cs:=rR }) w:=by
 have bG:k < st.length:=(List.getElem?_eq_some_iff.1 hk).1
 refine⟨fun l hl=>hH.jI l (by rw[List.length_set] at hl; exact hl),fun l b hb az=>?_⟩
 by_cases Ja:k=l
 ·subst Ja
  rw[List.getElem?_set_self bG] at hb
  cases hb
  obtain⟨p,hp,hq⟩:=hH.fp k bk hk az
  refine⟨p,hp,?_⟩
  obtain⟨kk,Wi,sz,md,lv,cs⟩:=bk
  cases bS
  obtain⟨g,o,arr,ty,fr,h1,h2,h3,ho⟩:=hq
  exact⟨g,o,arr,ty,fr,h1,h2,h arr o h3,gO (bk':=⟨.loc,Wi,sz,md,lv,rR⟩) hk rfl rfl ho⟩
 ·rw[List.getElem?_set_ne Ja] at hb
  obtain⟨p,hp,hq⟩:=hH.fp l b hb az
  refine⟨p,hp,?_⟩
  obtain⟨kk,Wi,sz,md,lv,cs⟩:=b
  cases kk
  ·obtain⟨g,o,arr,ty,fr,h1,h2,h3,ho⟩:=hq
   exact⟨g,o,arr,ty,fr,h1,h2,h3,gO (bk':={ bk with cs:=rR }) hk rfl rfl ho⟩
  ·obtain⟨g,arr,fr,h1,h2,h3,ho,h4⟩:=hq
   exact⟨g,arr,fr,h1,h2,h3,gO (bk':={ bk with cs:=rR }) hk rfl rfl ho,h4⟩
  ·obtain⟨h1,hq⟩:=hq
   refine⟨h1,?_⟩
   rcases hq with h|⟨g,arr,fr,h2,h3,h4,ho,h5⟩
   ·exact .inl h
   ·exact .inr ⟨g,arr,fr,h2,h3,h4,gO (bk':={ bk with cs:=rR }) hk rfl rfl ho,h5⟩
  ·obtain⟨g,h1,h2,ho⟩:=hq
   exact⟨g,h1,h2,gO (bk':={ bk with cs:=rR }) hk rfl rfl ho⟩
theorem Sub.trans {s1 s2 s3:aO} (h1:Sub G s1 s2) (h2:Sub G s2 s3):Sub G s1 s3:=fun I β a w hR=>by
 obtain⟨I',aI,di,g'⟩:=h1 I β a w hR
 obtain⟨I2,gY,jR,g2⟩:=h2 I' aI a w di
 exact⟨I2,gY,jR,g'.trans g2⟩
def aO.Qs (s:aO) (l k j n:Nat) (es:List PV):aO:=match (eK [l] s.st)[k]? with
 | some bk=>{ s with st:=(eK [l] s.st).set k { bk with cs:=bk.cs.set j (.sl n es) } }
 | none=>s
theorem Sub.jr (l k j n:Nat) (es:List PV) {b bk:ak} (hz:Lj s.st [l]=true) (hb:s.st[l]?=some b) (he:Sa b n es) (hk:(eK [l] s.st)[k]?=some bk) (bS:bk.k = .loc) (hj:bk.cs[j]?=some (.wref l)):Sub G s (s.Qs l k j n es):=fun I β a w hR=>by
 obtain⟨nn,t,st,b0,rl⟩:=s
 have fg:(eK [l] st)[k]?=some bk:=hk
 have e:aO.Qs ⟨nn,t,st,b0,rl⟩ l k j n es=⟨nn,t,(eK [l] st).set k { bk with cs:=bk.cs.set j (.sl n es) },b0,rl⟩:=by
  unfold aO.Qs
  simp only[fg]
 rw[e]
 have hlen:((eK [l] st).set k { bk with cs:=bk.cs.set j (.sl n es) }).length=st.length:=by rw[List.length_set]; unfold eK; rw[dP]
 have US:=(hR.heap.AI hR.aw hz).Qr fg bS (bk.cs.set j (.sl n es)) fun arr o hc i c hi=>by
  by_cases QN:j=i
  ·subst QN
   obtain⟨v,h1,h2,h3⟩:=hc j _ hj
   have QO:j < bk.cs.length:=(List.getElem?_eq_some_iff.1 hj).1
   rw[List.getElem?_set_self QO] at hi
   cases hi
   refine⟨v,h1,?_,h3⟩
   have hx:(PV.wref l).Is w I β v:=by simpa only [PV.Is] using h2
   have h4:=oW hR.heap (fz:=[l]) (List.mem_singleton_self _) hb he hx
   exact PV.Is.mono (fun _ h=>h) (fun _ _=>rfl) _ no β v (fun l p hl=>by simp[PV.cr] at hl) h4
  ·rw[List.getElem?_set_ne QN] at hi
   exact hc i c hi
 refine⟨dQ I β st [l],β,⟨hR.small,hR.defers,hR.size,by show b0<=_; rw[hlen]; exact hR.base,fun i x hx=>?_,US,jY hR.heap hR.aw⟩,⟨⟨rfl,rfl,rfl,Nat.le_refl _,fun _ _ _=>rfl,fun g _ h=>?_,fun _ h=>.inl h,fun g _ h=>?_⟩,rfl,rfl,rfl,fun _ _ _=>rfl⟩⟩
 ·obtain⟨v,hv,hi⟩:=hR.get i x hx
  exact⟨v,hv,PV.Is.mono (fun _ h=>.inl h) (fun _ _=>rfl) x β β v (fun _ _ _ h=>h) hi⟩
 ·obtain⟨l1,b1,p,o,h1,h2,h3,h4,h5⟩:=h
  have key:∃ b2,(eK [l] st)[l1]?=some b2/\b2.live=true/\b2.m = .w:=by
   by_cases Ja:k=l1
   ·subst Ja
    have bG:k < (eK [l] st).length:=(List.getElem?_eq_some_iff.1 fg).1
    have gf:((eK [l] st).set k { bk with cs:=bk.cs.set j (.sl n es) })[k]?=some b1:=h1
    rw[List.getElem?_set_self bG] at gf
    cases gf
    exact⟨bk,fg,h2,h3⟩
   ·have gf:((eK [l] st).set k { bk with cs:=bk.cs.set j (.sl n es) })[l1]?=some b1:=h1
    rw[List.getElem?_set_ne Ja] at gf
    exact⟨b1,gf,h2,h3⟩
  obtain⟨b2,k1,k2,k3⟩:=key
  obtain⟨b3,jA,rfl⟩:=j9 k1
  refine⟨l1,b3,p,o,jA,k2,?_,h4,h5⟩
  cases hc:iI l1 [l] with
  | true=>simp only[hc,jj,cond_true] at k3; cases k3
  | false=>simpa only [hc,jj,cond_false] using k3
 ·rcases h with h|⟨l1,b1,p,o,hl,AM,az,hm,hp,ha⟩
  ·exact .inl h
  ·cases oD:b1.m with
   | w=>exact .inr ⟨l1,b1,p,o,AM,az,oD,hp,ha⟩
   | p=>rw[oD] at hm; cases hm
   | r =>
    obtain⟨arr,ty,fr,_,ho⟩:=(hR.heap.fp l1 b1 AM az).place hp ha
    exact .inl (ho.2 oD)
end
end Go.Proofs.YtnbhdacpogplgaaGreatDoor.Pw

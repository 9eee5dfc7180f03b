/- What this claim is proved with: no condition. -/
import Derived.Test.YtnbhdacpogplgaaGreatDoorPv2
import Derived.ChangeKeysEq
set_option linter.unusedVariables false
set_option linter.unusedSimpArgs false
namespace Go.Proofs.YtnbhdacpogplgaaGreatDoor.Pw
open Go Go.RowKit
section
variable {w:World} {I:Nat->Prop} {β:ax} {cx:Ev.Cx} {G:Gx} {P:Program} {s:aN} {a:Act}
theorem FW (hO:Ev.hC cx) {t:TypeId} {cs:List PV} {off:Nat} {q:PV->Prop} {vs:Array Value} (h:part cx t cs off q) (hc:bp w I cs β vs.toList) :
  ∃ x v,q x/\x.Is w I β v/\∀ w',(Go.part t vs off).run cx.P w' = .ok v w':=by
 replace h:=au h
 obtain⟨x,hx,h⟩:=h
 obtain⟨v,h1,h2⟩:=nv hO hx hc
 exact⟨x,v,Ee h,h1,h2⟩
theorem KQ {p q:Prop}:pb (p/\q)=(pb p && pb q):=by
 by_cases hp:p<;>by_cases hq:q
 ·rw[cj ⟨hp,hq⟩,cj hp,cj hq]; rfl
 ·rw[bM fun h=>hq h.2,cj hp,bM hq]; rfl
 ·rw[bM fun h=>hp h.1,bM hp]; rfl
 ·rw[bM fun h=>hp h.1,bM hp]; rfl
theorem zI {p q:Prop}:pb (p↔q)=(pb p == pb q):=by
 by_cases hp:p<;>by_cases hq:q
 ·rw[cj ⟨fun _=>hq,fun _=>hp⟩,cj hp,cj hq]; rfl
 ·rw[bM fun h=>hq (h.1 hp),cj hp,bM hq]; rfl
 ·rw[bM fun h=>hp (h.2 hq),bM hp,cj hq]; rfl
 ·rw[cj ⟨fun h=>absurd h hp,fun h=>absurd h hq⟩,bM hp,bM hq]; rfl
theorem FX (hO:Ev.hC cx) {r:TypeId->PV->PV->Option Prop} {d:Nat} {xs ys:List PV} {us vs:Array Value} (hx:bp w I xs β us.toList) (hy:bp w I ys β vs.toList)
  (hr:∀ t a b p u v,r t a b=some p->a.Is w I β u->b.Is w I β v->∀ w',(Op.equalIn d t u v).run cx.P w' = .ok (pb p) w') :
  ∀ {fs:List Field} {p:Prop},(fs.all fun f=>decide (f.name≠"_"))=true->A9 r cx xs ys fs=some p->∀ w',(Op.eqFields d us vs fs).run cx.P w' = .ok (pb p) w'
 | [],p,_,h,w'=>by
  simp only[A9,Option.some.injEq] at h
  subst h
  rw[cj trivial]; rfl
 | f::fs,p,hn,h,w'=>by
  rw[List.all_cons,Bool.and_eq_true] at hn
  unfold A9 at h
  split at h
  ·rename_i a b ha hb
   split at h
   ·rename_i e1 e2 h1 h2
    cases h
    obtain⟨u,hu,ru⟩:=nv hO ha hx
    obtain⟨v,hv,rv⟩:=nv hO hb hy
    have rq1:=hr _ _ _ _ _ _ h1 hu hv
    have rq2:=FX hO hx hy hr hn.2 h2
    have cH:f.name≠"_":=by simpa using hn.1
    simp only[Op.eqFields,if_pos cH,Sem.run_bind,ru,rv,rq1,Result.andThen_ok,Sem.run_ite,rq2,Sem.run_pure,KQ]
    cases pb e1<;>simp
   ·cases h
  ·cases h
theorem vr (hO:Ev.hC cx) {r:TypeId->PV->PV->Option Prop} {d c:Nat} {e:TypeId} {xs ys:List PV} {us vs:Array Value} (hx:bp w I xs β us.toList) (hy:bp w I ys β vs.toList)
  (hr:∀ t a b p u v,r t a b=some p->a.Is w I β u->b.Is w I β v->∀ w',(Op.equalIn d t u v).run cx.P w' = .ok (pb p) w') :
  ∀ (k i:Nat) {p:Prop},qF r cx e c xs ys k (i*c)=some p->∀ w',(Op.eqItems d e c us vs (List.range' i k)).run cx.P w' = .ok (pb p) w'
 | 0,i,p,h,w'=>by
  simp only[qF,Option.some.injEq] at h
  subst h
  rw[cj trivial]; rfl
 | k+1,i,p,h,w'=>by
  unfold qF at h
  split at h
  ·rename_i a b ha hb
   split at h
   ·rename_i e1 e2 h1 h2
    cases h
    obtain⟨u,hu,ru⟩:=nv hO ha hx
    obtain⟨v,hv,rv⟩:=nv hO hb hy
    have rq1:=hr _ _ _ _ _ _ h1 hu hv
    have rq2:=vr hO hx hy hr k (i+1) (by rw[Nat.succ_mul]; exact h2)
    simp only[List.range'_succ,Op.eqItems,Sem.run_bind,ru,rv,rq1,Result.andThen_ok,Sem.run_ite,rq2,Sem.run_pure,KQ]
    cases pb e1<;>simp
   ·cases h
  ·cases h
theorem zJ (hO:Ev.hC cx):∀ (n d:Nat),n<=d->∀ (t:TypeId) (a b:PV) (p:Prop) (u v:Value),OX cx n t a b=some p->a.Is w I β u->b.Is w I β v ->
  ∀ w',(Op.equalIn d t u v).run cx.P w' = .ok (pb p) w'
 | 0,_,_,_,_,_,_,_,_,h,_,_=>by simp[OX] at h
 | n+1,0,hd,_,_,_,_,_,_,_,_,_=>by omega
 | n+1,d+1,hd,t,a,b,p,u,v,h,ha,hb=>by
  intro w'
  unfold OX at h
  split at h
  ·rename_i k hu
   split at h
   ·rename_i b1 k1 x b2 k2 y hax KT
    split at h
    ·rename_i hk
     simp only[decide_eq_true_eq] at hk
     subst hk
     cases h
     rw[PV.p6 hax ha,PV.p6 KT hb,run_equalIn_int w' d t k1 k x y (hO.un hu),D9]; rfl
    ·cases h
   ·cases h
  ·rename_i hu
   split at h
   ·rename_i p1 p2 hax KT
    cases h
    rw[PV.FV hax ha,PV.FV KT hb,run_equalIn_bool' w' d t _ _ (hO.un hu),zI]
   ·cases h
  ·rename_i fs hu
   split at h
   ·rename_i xs ys
    split at h
    ·rename_i hc
     simp only[PV.Is] at ha hb
     obtain⟨us,rfl,hus⟩:=ha
     obtain⟨vs,rfl,Z2⟩:=hb
     obtain⟨t',FY,hbt⟩:=List.any_eq_true.1 hc
     have:t=t':=Nat.eq_of_beq_eq_true hbt
     subst this
     obtain⟨_,hheld,TP⟩:=hO.eq _ FY
     have KU:cx.P.fieldsOf t=fs:=by unfold Program.fieldsOf; rw[hO.un hu]
     rw[run_equalIn_struct w' d t us vs (by rw[KU]; exact hO.un hu) hheld,KU]
     exact FX (d:=d) hO hus Z2 (fun t a b e u v h ha hb=>zJ hO n d (by omega) t a b e u v h ha hb) (by rw[← KU]; exact TP) h w'
    ·cases h
   ·cases h
  ·rename_i len elem hu
   split at h
   ·rename_i xs ys
    split at h
    ·rename_i c hc
     simp only[PV.Is] at ha hb
     obtain⟨us,rfl,hus⟩:=ha
     obtain⟨vs,rfl,Z2⟩:=hb
     obtain⟨i,hi,hic⟩:=Ev.kb hO hc
     have kg:cx.P.cellsOf elem=c:=by unfold Program.cellsOf; rw[hi]; exact hic
     rw[run_equalIn_array w' d us vs (hO.un hu) hi,kg,List.range_eq_range']
     exact vr (d:=d) hO hus Z2 (fun t a b e u v h ha hb=>zJ hO n d (by omega) t a b e u v h ha hb) len 0 (by rw[Nat.zero_mul]; exact h) w'
    ·cases h
   ·cases h
  ·cases h
theorem gQ {st:List an} (hR:aL I β st w) {l:Nat} {b:an} {p:tI} (hb:st[l]?=some b) (hl:b.live=true) (hk:b.k = .arr) (hp:β l=some p):∃ g arr fr,p.a=some (g,0)/\p.whole = .slice (some ⟨g,0,none⟩) p.len p.cap/\w.heap[g]?=some (.cells arr b.ty fr)/\bg w I β b.cs arr 0/\Own I β st l g fr b/\b.cs.length=p.len*b.size/\p.len<=p.cap/\p.cap<=maxLen/\arr.size=p.cap*b.size/\0 < b.size:=by
 obtain⟨q,hq,h⟩:=hR.iI l b hb hl
 rw[hp] at hq
 cases hq
 rw[hk] at h
 obtain⟨g,arr,fr,ha,h⟩:=h
 exact⟨g,arr,fr,ha,by unfold tI.whole; rw[ha],h⟩
theorem da {st:List an} (hR:aL I β st w) {l:Nat} {b:an} {p:tI} (hb:st[l]?=some b) (hl:b.live=true) (hk:b.k = .dyn) (hp:β l=some p):0 < b.size/\b.cs.length=p.len/\p.len<=p.cap/\p.cap<=maxLen/\((p.a=none/\p.cap=0/\p.whole = .slice none 0 0)\/∃ g arr fr,p.a=some (g,0)/\p.whole = .slice (some ⟨g,0,none⟩) p.len p.cap/\w.heap[g]?=some (.cells arr b.ty fr)/\cg w I b.cs b.size g 0/\Own I β st l g fr b/\arr.size=p.cap*b.size):=by
 obtain⟨q,hq,h⟩:=hR.iI l b hb hl
 rw[hp] at hq
 cases hq
 rw[hk] at h
 obtain⟨⟨h1,h2,h3,h4⟩,h⟩:=h
 refine⟨h1,h2,h3,h4,?_⟩
 rcases h with ⟨ha,hc⟩|⟨g,arr,fr,ha,h⟩
 ·exact .inl ⟨ha,hc,by unfold tI.whole; rw[ha]⟩
 ·exact .inr ⟨g,arr,fr,ha,by unfold tI.whole; rw[ha],h⟩
theorem KV (hO:Ev.hC cx) (hR:aL I β s.st w) {op:BinOp} {t e:TypeId} {x:PV} {u:Value} {q:PV->Prop} (hu:cx.ns t=some (.slice e)) (h:KD s.st op x q) (hx:x.Is w I β u) :
  ∃ y v,q y/\y.Is w I β v/\(∀ f g:Operand,eqGuard op t f g u (.slice none 0 0)=pure ())/\∀ w',(binOp op t u (.slice none 0 0)).run cx.P w' = .ok v w':=by
 have gen:∀ {ad:Option Addr} {n c:Nat},u = .slice ad n c->Eb op ad.isNone q->∃ y v,q y/\y.Is w I β v/\(∀ f g:Operand,eqGuard op t f g u (.slice none 0 0)=pure ())/\∀ w',(binOp op t u (.slice none 0 0)).run cx.P w' = .ok v w':=by
  intro ad n c Bh h
  subst Bh
  obtain⟨y,v,h1,h2,h3⟩:=zH (P:=cx.P) (t:=t) (u:=.slice ad n c) (v:=.slice none 0 0) (w:=w) (I:=I) (β:=β) h (fun _ w'=>by simp only[binOp]; simp[Op.equal,Op.maxDepth,Lib.run_equalIn_slice_nil w' 9999 t e ad n c 0 0 (hO.un hu)]) (fun _ w'=>run_neq_slice_nil_any w' t e _ _ _ _ _ (hO.un hu))
  exact⟨y,v,h1,h2,fun f g=>eqGuard_at_slice _ _ _ _ _ _ _ _,h3⟩
 unfold KD at h
 split at h
 ·simp only[PV.Is] at hx
  exact gen hx h
 ·simp only[PV.Is] at hx
  obtain⟨p,g,o,cap,_,_,rfl,_⟩:=hx
  exact gen rfl h
 ·rename_i l
  replace h:=au h
  obtain⟨b,hb,h⟩:=h
  replace h:=aZ h
  obtain⟨hl,h⟩:=h
  simp only[PV.Is] at hx
  obtain⟨p,hp,rfl⟩:=hx
  split at h
  ·rename_i hk
   obtain⟨g,arr,fr,_,hw,_⟩:=gQ hR hb hl hk hp
   exact gen hw h
  ·rename_i hk
   obtain⟨_,h1,h2,_,h3⟩:=da hR hb hl hk hp
   rcases h with ⟨cH,h⟩|⟨ht,hf⟩
   ·rcases h3 with ⟨_,hc,_⟩|⟨g,arr,fr,_,hw,_⟩
    ·omega
    ·exact gen hw h
   ·rcases h3 with ⟨_,hc,hw⟩|⟨g,arr,fr,_,hw,_⟩
    ·exact gen hw ht
    ·exact gen hw hf
  ·exact h.elim
 ·rename_i es
  simp only[PV.Is] at hx
  obtain⟨ad,cap,rfl,_,_,_,h4⟩:=hx
  rcases h with ⟨cH,h⟩|⟨ht,hf⟩
  ·obtain⟨g,o,rfl,_⟩:=h4 cH
   exact gen rfl h
  ·cases ad with
   | none=>exact gen rfl ht
   | some a=>exact gen rfl hf
 ·exact h.elim
theorem Pz (hO:Ev.hC cx) (hR:aL I β s.st w) {op:BinOp} {t:TypeId} {x y:PV} {u v:Value} {q:PV->Prop} (h:TJ cx s.st op t x y q) (hx:x.Is w I β u) (hy:y.Is w I β v) :
  ∃ z r,q z/\z.Is w I β r/\(∀ (f g:Operand) (w':World),(eqGuard op t f g u v).run cx.P w' = .ok () w')/\∀ w',(binOp op t u v).run cx.P w' = .ok r w':=by
 have yu:∀ {u v:Value},(∀ f g:Operand,eqGuard op t f g u v=pure ())->∀ (f g:Operand) (w':World),(eqGuard op t f g u v).run cx.P w' = .ok () w':=fun h f g w'=>by rw[h]; rfl
 unfold TJ at h
 split at h
 ·rename_i sx k a hxa
  replace h:=au h
  obtain⟨⟨sy,k',b⟩,hyb,h⟩:=h
  rw[PV.p6 hxa hx,PV.p6 hyb hy]
  obtain⟨z,r,h1,h2,h3⟩:=Py (P:=cx.P) (t:=t) (w:=w) (I:=I) (β:=β) h
  exact⟨z,r,h1,h2,yu fun f g=>eqGuard_at_int _ _ _ _ _ _ _,h3⟩
 ·replace h:=au h
  obtain⟨d,hu,h⟩:=h
  split at h
  ·replace h:=au h
   obtain⟨p,hp,h⟩:=h
   replace h:=au h
   obtain⟨p',e_,h⟩:=h
   rw[PV.FV hp hx,PV.FV e_ hy]
   obtain⟨z,r,h1,h2,h3⟩:=Ef (P:=cx.P) (t:=t) (u:=.bool (pb p)) (v:=.bool (pb p')) (w:=w) (I:=I) (β:=β) h
    (fun _ w'=>by rw[Ev.Pp rfl (run_equal_bool w' t _ _ (hO.un hu)),zI]) (fun _ w'=>by rw[Ev.Pq rfl (run_equal_bool w' t _ _ (hO.un hu)),zI])
   exact⟨z,r,h1,h2,yu fun f g=>eqGuard_at_bool _ _ _ _ _ _,h3⟩
  ·split at h
   ·simp only[PV.Is] at hx hy
    obtain⟨rfl,_⟩:=hx
    obtain⟨rfl,_⟩:=hy
    obtain⟨z,r,h1,h2,h3⟩:=zH (P:=cx.P) (t:=t) (u:=.string _) (v:=.string _) (w:=w) (I:=I) (β:=β) h (fun _ w'=>rfl) (fun _ w'=>rfl)
    exact⟨z,r,h1,h2,yu fun f g=>eqGuard_at_string _ _ _ _ _ _,h3⟩
   ·exact h.elim
  ·split at h
   ·simp only[PV.Is] at hy
    subst hy
    obtain⟨z,r,h1,h2,h3,h4⟩:=KV hO hR hu h hx
    exact⟨z,r,h1,h2,yu h3,h4⟩
   ·exact h.elim
  ·rename_i e
   have hpt:cx.P.underlying t=some (.pointer (cx.P.pointee t)):=by have:=hO.un hu; rw[this]; simp[Program.pointee,this]
   split at h
   ·simp only[PV.Is] at hx hy
    obtain⟨rfl,_⟩:=hx
    obtain⟨rfl,_⟩:=hy
    obtain⟨z,r,h1,h2,h3⟩:=zH (P:=cx.P) (t:=t) (u:=.pointer none) (v:=.pointer none) (w:=w) (I:=I) (β:=β) h (fun _ w'=>by rw[run_eql_pointer_nil w' t _ hpt]; rfl) (fun _ w'=>by rw[run_neq_pointer_nil w' t _ hpt]; rfl)
    exact⟨z,r,h1,h2,yu fun f g=>eqGuard_at_pointer _ _ _ _ _ _,h3⟩
   ·simp only[PV.Is] at hx hy
    obtain⟨rfl,_⟩:=hy
    obtain⟨p,g,o,_,_,rfl⟩:=hx
    obtain⟨z,r,h1,h2,h3⟩:=zH (P:=cx.P) (t:=t) (u:=.pointer (some ⟨g,o+_,none⟩)) (v:=.pointer none) (w:=w) (I:=I) (β:=β) h (fun _ w'=>by rw[run_eql_pointer_nil w' t _ hpt]; rfl) (fun _ w'=>by rw[run_neq_pointer_nil w' t _ hpt]; rfl)
    exact⟨z,r,h1,h2,yu fun f g=>eqGuard_at_pointer _ _ _ _ _ _,h3⟩
   ·exact h.elim
  ·split at h
   ·rename_i xs ys
    replace h:=aZ h
    obtain⟨hc,h⟩:=h
    replace h:=au h
    obtain⟨p,hp,h⟩:=h
    obtain⟨t',FY,hbt⟩:=List.any_eq_true.1 hc
    have:t=t':=Nat.eq_of_beq_eq_true hbt
    subst this
    obtain⟨Eg,_,_⟩:=hO.eq _ FY
    have he:=zJ hO 6 10000 (by decide) t _ _ _ u v hp hx hy
    simp only[PV.Is] at hx hy
    obtain⟨us,rfl,_⟩:=hx
    obtain⟨vs,rfl,_⟩:=hy
    obtain⟨z,r,h1,h2,h3⟩:=Ef (P:=cx.P) (t:=t) (u:=.agg us) (v:=.agg vs) (w:=w) (I:=I) (β:=β) h (fun _ w'=>by rw[run_eql_struct,he]; rfl) (fun _ w'=>by rw[run_neq_struct,he]; rfl)
    exact⟨z,r,h1,h2,fun f g w'=>run_eqGuard_agg w' op t f g us vs Eg,h3⟩
   ·exact h.elim
  ·split at h
   ·rename_i xs ys
    replace h:=aZ h
    obtain⟨hc,h⟩:=h
    replace h:=au h
    obtain⟨p,hp,h⟩:=h
    obtain⟨t',FY,hbt⟩:=List.any_eq_true.1 hc
    have:t=t':=Nat.eq_of_beq_eq_true hbt
    subst this
    obtain⟨Eg,_,_⟩:=hO.eq _ FY
    have he:=zJ hO 6 10000 (by decide) t _ _ _ u v hp hx hy
    simp only[PV.Is] at hx hy
    obtain⟨us,rfl,_⟩:=hx
    obtain⟨vs,rfl,_⟩:=hy
    obtain⟨z,r,h1,h2,h3⟩:=Ef (P:=cx.P) (t:=t) (u:=.agg us) (v:=.agg vs) (w:=w) (I:=I) (β:=β) h (fun _ w'=>by rw[run_eql_struct,he]; rfl) (fun _ w'=>by rw[run_neq_struct,he]; rfl)
    exact⟨z,r,h1,h2,fun f g w'=>run_eqGuard_agg w' op t f g us vs Eg,h3⟩
   ·exact h.elim
  ·exact h.elim
theorem TQ {op:UnOp} {x:PV} {u:Value} {q:PV->Prop} (h:pun op x q) (hx:x.Is w I β u):∃ z r,q z/\z.Is w I β r/\∀ w',(Op.unary op u).run P w' = .ok r w':=by
 unfold pun at h
 split at h<;>try simp only[PV.Is] at hx
 ·subst hx
  refine⟨_,_,h,Is.lit,fun w'=>?_⟩
  rename_i k a
  rw[show -a=0 - a by omega]; rfl
 ·subst hx
  obtain⟨z,h,hz⟩:=uK (w:=w) (I:=I) (β:=β) h
  refine⟨z,_,h,hz,fun w'=>?_⟩
  rename_i k a _
  rw[show -a=0 - a by omega]; rfl
 ·subst hx; exact⟨_,_,h,Is.lit,fun w'=>rfl⟩
 ·subst hx; exact⟨_,_,h,Is.int,fun w'=>rfl⟩
 ·subst hx; exact⟨_,_,h,Is.ff,fun w'=>rfl⟩
 ·subst hx; exact⟨_,_,h,Is.tt,fun w'=>rfl⟩
 ·subst hx
  rename_i p
  refine⟨_,_,h,Is.bool,fun w'=>?_⟩
  by_cases hp:p
  ·rw[cj hp,bM fun h=>h hp]; rfl
  ·rw[bM hp,cj hp]; rfl
 ·exact h.elim
theorem KW (hO:Ev.hC cx) {src dst:TypeId} {x:PV} {u:Value} {q:PV->Prop} (h:Se cx src dst x q) (hx:x.Is w I β u):∃ z r,q z/\z.Is w I β r/\∀ w',(convert src dst u).run cx.P w' = .ok r w':=by
 replace h:=au h
 obtain⟨d1,hs,h⟩:=h
 replace h:=au h
 obtain⟨d2,hd,h⟩:=h
 split at h<;>try simp only[PV.Is] at hx
 ·subst hx
  exact⟨_,_,h,Is.lit,fun w'=>by simp[convert,run_underlying (hO.un hs),run_underlying (hO.un hd),Conv.intToInt]⟩
 ·subst hx
  obtain⟨z,h,hz⟩:=uK (w:=w) (I:=I) (β:=β) h
  exact⟨z,_,h,hz,fun w'=>by simp[convert,run_underlying (hO.un hs),run_underlying (hO.un hd),Conv.intToInt]⟩
 ·exact h.elim
theorem iJ (hO:Ev.hC cx) {t:TypeId} {q:List PV->Prop} (h:nu cx t q):∃ z i v,q z/\cx.P.info? t=some i/\i.zero=some v/\bp w I z β v.cells.toList:=by
 replace h:=au h
 obtain⟨v,hv,h⟩:=h
 replace h:=Be (w:=w) (I:=I) (β:=β) h
 obtain⟨x,h,hx,hn⟩:=h
 rw[Option.bind_eq_some_iff] at hv
 obtain⟨ti,hti,hz⟩:=hv
 obtain⟨i,hi,_,h2⟩:=hO.inf _ (Ev.jT hti)
 exact⟨_,i,v,h,hi,h2.trans hz,hx.nt hn⟩
theorem aN.cc (hR:Rel G I β s a w) {o:Operand} {q:PV->Prop} (h:s.ev o q):∃ x,q x/\x.Is w I β (a.eval o):=by
 cases o with
 | tmp t =>
  replace h:=au h
  obtain⟨x,hx,h⟩:=h
  obtain⟨v,hv,hi⟩:=hR.get t x hx
  exact⟨x,h,by simp only[Act.eval,Array.getD_eq_getD_getElem?,hv,Option.getD_some]; exact hi⟩
 | const v =>
  replace h:=Be (w:=w) (I:=I) (β:=β) h
  obtain⟨x,h,hx,_⟩:=h
  exact⟨x,h,hx⟩
 | global g=>exact⟨_,h,by simp only[PV.Is,Act.eval]⟩
 | func f=>exact⟨_,h,by simp only[PV.Is,Act.eval]; exact⟨#[],rfl,by simp only[bp]⟩⟩
def zK (w:World) (I:Nat->Prop) (β:ax):List (Nat × PV)->List (Nat × Value)->Prop
 | [],[]=>True
 | p::ps,v::vs=>(p.1=v.1/\p.2.Is w I β v.2/\∀ ts,p.2≠.tup ts)/\zK w I β ps vs
 | _,_=>False
theorem sw (hR:Rel G I β s a w):∀ {ps:List (Nat × Operand)} {q:List (Nat × PV)->Prop},vo s ps q->∃ l,q l/\zK w I β l (ps.map fun p=>(p.1,a.eval p.2))
 | [],q,h=>⟨[],h,trivial⟩
 | (i,o)::ps,q,h=>by
  replace h:=aN.cc hR h
  obtain⟨x,h,hx⟩:=h
  have key:(∀ ts,x≠.tup ts)/\vo s ps fun l=>q ((i,x)::l):=by
   cases x<;>first|exact h.elim|exact⟨(fun _ e=>by cases e),h⟩
  obtain⟨l,h,hl⟩:=sw hR key.2
  exact⟨_,h,⟨rfl,hx,key.1⟩,hl⟩
theorem qK {place:Nat->Option (Nat × Nat)} {q:List PV->Prop}:∀ {ps:List (Nat × PV)} {cells:List PV},yo place cells ps q->∃ cs,yn place cells ps=some cs/\q cs
 | [],cells,h=>⟨cells,rfl,h⟩
 | (i,v)::rest,cells,h=>by
  unfold yo at h
  unfold yn
  split at h
  ·exact h.elim
  ·rename_i off size hp
   obtain⟨hc,h⟩:=aZ h
   obtain⟨cs,h1,h2⟩:=qK (cI h)
   refine⟨cs,?_,h2⟩
   simp only[hc,if_true]
   exact h1
theorem qL {place:Nat->Option (Nat × Nat)}:∀ {ps:List (Nat × PV)} {vs:List (Nat × Value)} {cells r:List PV} {A:Array Value},yn place cells ps=some r->bp w I cells β A.toList->zK w I β ps vs ->
  ∃ B,Instr.fill place A vs=some B/\bp w I r β B.toList
 | [],[],cells,r,A,h,hc,_=>by simp only[yn,Option.some.injEq] at h; subst h; exact⟨A,rfl,hc⟩
 | (i,x)::ps,(j,v)::vs,cells,r,A,h,hc,hps=>by
  obtain⟨⟨Z3,hx,FZ⟩,KX⟩:=hps
  simp only at Z3 hx FZ
  subst Z3
  unfold yn at h
  cases lD:place i with
  | none=>rw[lD] at h; cases h
  | some os =>
   obtain⟨off,size⟩:=os
   rw[lD] at h
   simp only at h
   split at h
   ·rename_i Bi
    simp only[Bool.and_eq_true] at Bi
    have h1:x.cells.length=size:=Nat.eq_of_beq_eq_true Bi.1
    have h2:off+size<=cells.length:=Nat.le_of_ble_eq_true Bi.2
    have O0:=hx.nt FZ
    have hl:=O0.length
    have AZ:=hc.length
    simp only[Array.length_toList] at hl AZ
    unfold Instr.fill
    rw[lD]
    simp only
    rw[if_neg (by simp; omega)]
    have key:=Ev.yk off v.cells.toList 0 A (by simp; omega)
    have sC:(v.cells.zipIdx.foldl (fun (cs:Array Value) (x:Value × Nat)=>cs.setIfInBounds (off+x.2) x.1) A).toList=A.toList.take off++v.cells.toList++A.toList.drop (off+size):=by
     rw[← Array.foldl_toList,Array.toList_zipIdx]
     rw[key]; simp; congr 2; omega
    refine qL h ?_ KX
    rw[sC]
    exact ((hc.take off).append O0).append (hc.drop (off+size))
   ·cases h
 | [],_::_,_,_,_,_,_,h=>h.elim
 | _::_,[],_,_,_,_,_,h=>h.elim
theorem HV (hO:Ev.hC cx) (hR:Rel G I β s a w) {t:TypeId} {parts:Array (Nat × Operand)} {q:PV->Prop} (h:KE cx s t parts.toList q) :
  ∃ x r,q x/\x.Is w I β r/\∀ w',(Instr.build t (parts.map fun (i,y)=>(i,a.eval y))).run cx.P w' = .ok r w':=by
 replace h:=iJ (w:=w) (I:=I) (β:=β) hO h
 obtain⟨z,i,v,h,hi,F0,nw⟩:=h
 replace h:=sw hR h
 obtain⟨ps,h,hps⟩:=h
 replace h:=au h
 obtain⟨d,hu,h⟩:=h
 split at h
 ·rename_i fs
  replace h:=au h
  obtain⟨pl,lD,h⟩:=h
  replace h:=qK h
  obtain⟨l,hl,h⟩:=h
  obtain⟨B,hB,hBB⟩:=qL hl nw hps
  refine⟨_,.agg B,cI h,by simp only[PV.Is]; exact⟨B,rfl,hBB⟩,fun w'=>run_build w' t _ B ?_⟩
  unfold Program.built
  simp only[hi,hO.un hu,F0,Ev.yl hO lD]
  rw[← hB]; simp
 ·rename_i n elem
  replace h:=au h
  obtain⟨sz,fY,h⟩:=h
  replace h:=qK h
  obtain⟨l,hl,h⟩:=h
  obtain⟨B,hB,hBB⟩:=qL hl nw hps
  obtain⟨ie,hie,hie2⟩:=Ev.kb hO fY
  refine⟨_,.agg B,cI h,by simp only[PV.Is]; exact⟨B,rfl,hBB⟩,fun w'=>run_build w' t _ B ?_⟩
  unfold Program.built
  simp only[hi,hO.un hu,F0,hie,hie2]
  rw[← hB]; simp
 ·exact h.elim
theorem xF (hO:Ev.hC cx) {t:TypeId} {x:PV} {f:Nat} {u:Value} {q:PV->Prop} (h:vp cx t x f q) (hx:x.Is w I β u):∃ z r,q z/\z.Is w I β r/\∀ w',(Instr.fieldAt t u f).run cx.P w' = .ok r w':=by
 replace h:=au h
 obtain⟨d,hu,h⟩:=h
 split at h
 ·rename_i fs
  replace h:=au h
  obtain⟨fd,hfd,h⟩:=h
  replace h:=au h
  obtain⟨n,hn,h⟩:=h
  replace h:=Pv h
  obtain⟨lh,h⟩:=h
  ·have TR:n≠0:=fun e=>by subst e; cases lh
   have TS:fs[f]?=some fd:=by simpa using hfd
   have bI:∀ (b o:Nat) w',(Instr.fieldAt t (.pointer (some ⟨b,o,none⟩)) f).run cx.P w' = .ok (.pointer (some ⟨b,o+fd.offset,none⟩)) w':=fun b o w'=>by
    simp[Instr.fieldAt,run_underlying (hO.un hu),TS,Instr.sureAddr,fieldPlace,Ev.dY hO hn,TR,Ev.kc]
   split at h<;>try simp only[PV.Is] at hx
   ·obtain⟨p,g,o,hp,ha,rfl⟩:=hx
    exact⟨_,_,h,by simp only[PV.Is]; exact⟨p,g,o,hp,ha,rfl⟩,fun w'=>by rw[bI]; simp only[Nat.add_assoc]⟩
   ·obtain⟨p,g,o,hp,ha,rfl⟩:=hx
    exact⟨_,_,h,by simp only[PV.Is]; exact⟨p,g,o,hp,ha,rfl⟩,fun w'=>by rw[bI]; congr 4; omega⟩
   ·obtain⟨p,g,o,hp,ha,rfl⟩:=hx
    exact⟨_,_,h,by simp only[PV.Is]; exact⟨p,g,o,hp,ha,rfl⟩,fun w'=>by rw[bI]; congr 4; omega⟩
   ·obtain⟨g,o,rfl,hg,hc⟩:=hx
    exact⟨_,_,h,by simp only[PV.Is]; exact⟨g,o,rfl,hg,hc⟩,fun w'=>by rw[bI]; simp only[Nat.add_assoc]⟩
   ·subst hx
    exact⟨_,_,h,by simp only[PV.Is]; exact rfl,fun w'=>by rw[bI]⟩
   ·subst hx
    exact⟨_,_,h,by simp only[PV.Is]; exact rfl,fun w'=>by rw[bI]; congr 4; omega⟩
   ·exact h.elim
 ·exact h.elim
theorem iK {st:Bool} {i:Int} {len:Nat} {f:Nat->Prop} {g:Prop} (h:within st i len f g):0<=i/\i < len/\(f i.toNat\/g):=by
 cases st with
 | true =>
  replace h:=aZ h
  obtain⟨hb,h⟩:=h
  simp only[Bool.and_eq_true,decide_eq_true_eq] at hb
  exact⟨hb.1,hb.2,.inl h⟩
 | false=>exact⟨h.1,h.2.1,.inr h.2.2⟩
theorem KY {es:List PV} {i:Int} {q:PV->Prop} (h:Sf es i q):∃ e,0<=i/\i < es.length/\es[i.toNat]?=some e/\q e:=by
 obtain⟨α,l,enc,rfl,h0,h1,h⟩:=h
 have ch:i.toNat < l.length:=by omega
 exact⟨_,h0,by simpa using h1,by rw[List.getElem?_map,List.getElem?_eq_getElem ch]; rfl,h _ (List.getElem?_eq_getElem ch)⟩
theorem xG (hO:Ev.hC cx) (hR:aL I β s.st w) {t:TypeId} {x i:PV} {u v:Value} {q:PV->Prop} (h:vq cx s.st t x i q) (hx:x.Is w I β u) (hi:i.Is w I β v) :
  ∃ z r,q z/\z.Is w I β r/\∀ w',(Instr.indexAt t u v).run cx.P w' = .ok r w':=by
 replace h:=au h
 obtain⟨⟨st,k,n⟩,hn,h⟩:=h
 obtain rfl:=PV.p6 hn hi
 replace h:=au h
 obtain⟨d,hu,h⟩:=h
 try simp only at h
 split at h
 ·rename_i len elem
  replace h:=au h
  obtain⟨size,hs,h⟩:=h
  have bI:∀ (b o:Nat),0<=n->n < len->∀ w',(Instr.indexAt t (.pointer (some ⟨b,o,none⟩)) (.int k n)).run cx.P w' = .ok (.pointer (some ⟨b,o+n.toNat*size,none⟩)) w':=fun b o h0 h1 w'=>by
   simp[Instr.indexAt,Instr.sureAddr,asIntOf,run_underlying (hO.un hu),h0,h1,Ev.dY hO hs,Ev.kc]
  split at h<;>try simp only[PV.Is] at hx
  ·obtain⟨p,g,o,hp,ha,rfl⟩:=hx
   replace h:=iK h
   obtain⟨h0,h1,h|h⟩:=h
   ·exact⟨_,_,h,by simp only[PV.Is]; exact⟨p,g,o,hp,ha,rfl⟩,fun w'=>by rw[bI _ _ h0 h1]; simp only[Nat.add_assoc]⟩
   ·exact⟨_,_,h,by simp only[PV.Is]; exact⟨p,g,o,hp,ha,rfl⟩,fun w'=>by rw[bI _ _ h0 h1]; simp only[Nat.add_assoc]⟩
  ·subst hx
   replace h:=iK h
   obtain⟨h0,h1,h|h⟩:=h
   ·exact⟨_,_,h,by simp only[PV.Is]; exact rfl,fun w'=>by rw[bI _ _ h0 h1]⟩
   ·exact⟨_,_,h,by simp only[PV.Is]; exact rfl,fun w'=>by rw[bI _ _ h0 h1]⟩
  ·obtain⟨g,o,rfl,hg,hc⟩:=hx
   replace h:=iK h
   obtain⟨h0,h1,h|h⟩:=h
   ·exact⟨_,_,h,by simp only[PV.Is]; exact⟨g,o,rfl,hg,hc⟩,fun w'=>by rw[bI _ _ h0 h1]; simp only[Nat.add_assoc]⟩
   ·exact h.elim
  ·exact h.elim
 ·rename_i elem
  replace h:=au h
  obtain⟨size,hs,h⟩:=h
  have bI:∀ (b o len cap:Nat),0<=n->n < len->∀ w',(Instr.indexAt t (.slice (some ⟨b,o,none⟩) len cap) (.int k n)).run cx.P w' = .ok (.pointer (some ⟨b,o+n.toNat*size,none⟩)) w':=fun b o len cap h0 h1 w'=>by
   simp[Instr.indexAt,asIntOf,run_underlying (hO.un hu),h0,h1,Ev.dY hO hs,Ev.kc]
  split at h<;>try simp only[PV.Is] at hx
  ·rename_i m es
   replace h:=aZ h
   obtain⟨hm,h⟩:=h
   have hms:m=size:=Nat.eq_of_beq_eq_true hm
   replace h:=KY h
   obtain⟨e,h0,h1,he,h⟩:=h
   obtain⟨ad,cap,rfl,_,_,h2,h3⟩:=hx
   obtain⟨g,o,rfl,hg,_⟩:=h3 (by omega)
   have KZ:=(h2 g o rfl).get he
   exact⟨_,_,cI h,by simp only[PV.Is]; exact⟨g,o+n.toNat*m,rfl,hg,KZ.2⟩,fun w'=>by rw[bI _ _ _ _ h0 h1,hms]; rfl⟩
  ·obtain⟨p,g,o,cap,hp,ha,rfl,_⟩:=hx
   cases hd:Sg s.st _ with
   | true =>
    rw[hd] at h
    obtain⟨yj,h⟩:=aZ (show bif true then _ else _ from h) |>.2 |> aZ
    have yj:=Nat.eq_of_beq_eq_true yj
    subst yj
    replace h:=iK h
    obtain⟨h0,h1,h|h⟩:=h
    ·exact⟨_,_,h,by simp only[PV.Is]; exact⟨p,g,o,hp,ha,rfl⟩,fun w'=>by rw[bI _ _ _ _ h0 h1]; simp only[Nat.add_assoc,Nat.mul_one,Nat.add_zero]⟩
    ·exact⟨_,_,h,by simp only[PV.Is]; exact⟨p,g,o,hp,ha,rfl⟩,fun w'=>by rw[bI _ _ _ _ h0 h1]; simp only[Nat.add_assoc,Nat.mul_one,Nat.add_zero]⟩
   | false =>
    rw[hd,cond_false] at h
    replace h:=iK h
    obtain⟨h0,h1,h|h⟩:=h
    ·exact⟨_,_,h,by simp only[PV.Is]; exact⟨p,g,o,hp,ha,rfl⟩,fun w'=>by rw[bI _ _ _ _ h0 h1]; simp only[Nat.add_assoc]⟩
    ·exact⟨_,_,h,by simp only[PV.Is]; exact⟨p,g,o,hp,ha,rfl⟩,fun w'=>by rw[bI _ _ _ _ h0 h1]; simp only[Nat.add_assoc]⟩
  ·rename_i l
   replace h:=au h
   obtain⟨b,hb,h⟩:=h
   replace h:=aZ h
   obtain⟨hc,h⟩:=h
   simp only[Bool.and_eq_true] at hc
   have fY:b.size=size:=Nat.eq_of_beq_eq_true hc.1.2
   obtain⟨p,hp,rfl⟩:=hx
   split at h
   ·rename_i hk
    obtain⟨g,arr,fr,ha,hw,_,_,_,hlen,_,_,_,K0⟩:=gQ hR hb hc.1.1 hk hp
    rw[hw]
    rw[oC,Nat.zero_add] at h
    have hq:b.cs.length / size=p.len:=by rw[hlen,fY]; exact Nat.mul_div_cancel _ (by omega)
    rw[hq] at h
    replace h:=iK h
    obtain⟨h0,h1,h|h⟩:=h
    ·exact⟨_,_,h,by simp only[PV.Is]; exact⟨p,g,0,hp,ha,rfl⟩,fun w'=>by rw[bI _ _ _ _ h0 h1]⟩
    ·exact⟨_,_,h,by simp only[PV.Is]; exact⟨p,g,0,hp,ha,rfl⟩,fun w'=>by rw[bI _ _ _ _ h0 h1]; congr 4; omega⟩
   ·rename_i hk
    obtain⟨h0,h1,h⟩:=h
    obtain⟨_,hlen,hle,_,pg⟩:=da hR hb hc.1.1 hk hp
    rcases pg with ⟨_,tL,_⟩|⟨g,arr,fr,ha,hw,_⟩
    ·omega
    ·rw[hw]
     exact⟨_,_,h,by simp only[PV.Is]; exact⟨p,g,0,hp,ha,rfl⟩,fun w'=>by rw[bI _ _ _ _ h0 (by omega)]; congr 4⟩
   ·exact h.elim
  ·exact h.elim
 ·exact h.elim
theorem HW (hO:Ev.hC cx) {t:TypeId} {x i:PV} {u v:Value} {q:PV->Prop} (h:KF cx t x i q) (hx:x.Is w I β u) (hi:i.Is w I β v) :
  ∃ z r,q z/\z.Is w I β r/\∀ w',(Instr.index t u v).run cx.P w' = .ok r w':=by
 replace h:=au h
 obtain⟨⟨st,k,n⟩,hn,h⟩:=h
 obtain rfl:=PV.p6 hn hi
 replace h:=au h
 obtain⟨d,hu,h⟩:=h
 try simp only at h
 split at h<;>try simp only[PV.Is] at hx
 ·rename_i len elem cs
  obtain⟨vs,rfl,hc⟩:=hx
  replace h:=au h
  obtain⟨size,hs,h⟩:=h
  replace h:=iK h
  obtain⟨h0,h1,h⟩:=h
  have bI:∀ w',(Instr.index t (.agg vs) (.int k n)).run cx.P w'=(Go.part elem vs (n.toNat*size)).run cx.P w':=fun w'=>by
   simp[Instr.index,asIntOf,run_underlying (hO.un hu),h0,h1,Ev.dY hO hs]
  rcases h with h|h
  ·obtain⟨z,r,h2,h3,h4⟩:=FW hO h hc
   exact⟨z,r,h2,h3,fun w'=>by rw[bI,h4]⟩
  ·replace h:=au h
   obtain⟨ag,K1,h⟩:=h
   replace h:=aZ h
   obtain⟨hb,h⟩:=h
   simp only[Bool.and_eq_true,Bool.not_eq_true'] at hb
   obtain⟨⟨hag',j5⟩,AZ⟩:=hb
   subst hag'
   have hs1':=Nat.eq_of_beq_eq_true j5
   have hcl':=Nat.eq_of_beq_eq_true AZ
   subst hs1'
   have ch:n.toNat < cs.length:=by omega
   obtain⟨r,hr,hri⟩:=hc.get (List.getElem?_eq_getElem ch)
   have xH:vs[n.toNat]?=some r:=by simpa using hr
   exact⟨_,r,h _ (List.getElem?_eq_getElem ch),hri,fun w'=>by rw[bI]; simp[Go.part,Ev.j4 hO K1,xH]⟩
 ·rename_i sb
  obtain⟨rfl,_⟩:=hx
  obtain⟨h0,h1,h⟩:=h
  have ch:n.toNat < sb.size:=by omega
  refine⟨_,_,h,Is.int,fun w'=>?_⟩
  rw[run_index_string w' t sb k _ (hO.un hu),dif_pos ⟨h0,h1⟩]
  have:sb.data.toList[n.toNat]?=some (sb[n.toNat]'ch):=by
   rw[Array.getElem?_toList,Array.getElem?_eq_getElem ch]; rfl
  rw[List.getElem?_map,this]; rfl
 ·exact h.elim
end
section
variable {w w':World} {I I':Nat->Prop} {β aM:ax} {cx:Ev.Cx} {G:Gx} {P:Program} {s:aN} {a:Act}
theorem nx (hR:Rel G I β s a w) {o:Option Operand} {d:Bool × Int} {q:Bool × Int->Prop} (h:Pt s o d q):∃ z,q z/\((o.map a.eval=none/\z=d)\/∃ k,o.map a.eval=some (.int k z.2)):=by
 cases o with
 | none=>exact⟨d,h,.inl ⟨rfl,rfl⟩⟩
 | some o =>
  replace h:=aN.cc hR h
  obtain⟨x,h,hx⟩:=h
  replace h:=au h
  obtain⟨⟨st,k,n⟩,hn,h⟩:=h
  exact⟨(st,n),h,.inr ⟨k,by simp only[Option.map_some,PV.p6 hn hx]⟩⟩
theorem Eh {b:Bool} {len cap H L:Nat} {uh ul:Option Value} (hh:(uh=none/\H=len)\/∃ k i,uh=some (.int k i)/\0<=i/\i<=cap/\H=i.toNat) (hl:(ul=none/\L=0)\/∃ k i,ul=some (.int k i)/\0<=i/\i<=H/\L=i.toNat) (w:World) :
  (Instr.sliceBounds b len cap ul uh none).run P w = .ok (L,H,cap) w:=by
 rcases hh with ⟨rfl,rfl⟩|⟨k,i,rfl,h0,h1,rfl⟩<;>rcases hl with ⟨rfl,rfl⟩|⟨k',i',rfl,g0,g1,rfl⟩
 ·simp[Instr.sliceBounds]
 ·simp[Instr.sliceBounds,Ev.hJ g0 g1]
 ·simp[Instr.sliceBounds,Ev.hJ h0 h1]
 ·simp[Instr.sliceBounds,Ev.hJ h0 h1,Ev.hJ g0 g1]
theorem F6 {b:Bool} {len cap:Nat} {uh ul:Option Value} {l h:Bool × Int} (hh:(uh=none/\h.2=(len:Int))\/∃ k,uh=some (.int k h.2)) (hl:(ul=none/\l.2=0)\/∃ k,ul=some (.int k l.2)) (h0:0<=l.2) (h1:l.2<=h.2) (h2:h.2<=cap) (w:World) :
  (Instr.sliceBounds b len cap ul uh none).run P w = .ok (l.2.toNat,h.2.toNat,cap) w:=by
 refine Eh ?_ ?_ w
 ·rcases hh with ⟨e,e'⟩|⟨k,e⟩
  ·exact .inl ⟨e,by omega⟩
  ·exact .inr ⟨k,h.2,e,by omega,by omega,rfl⟩
 ·rcases hl with ⟨e,e'⟩|⟨k,e⟩
  ·exact .inl ⟨e,by omega⟩
  ·exact .inr ⟨k,l.2,e,by omega,by omega,rfl⟩
theorem cg.drop {es:List PV} {n g o:Nat} (k:Nat) (h:cg w I es n g o):cg w I (es.drop k) n g (o+k*n):=cg.of fun i e he=>by
 rw[List.getElem?_drop] at he
 have:=h.get he
 rw[show o+k*n+i*n=o+(k+i)*n by rw[Nat.add_mul]; omega]
 exact this
theorem cg.take {es:List PV} {n g o:Nat} (k:Nat) (h:cg w I es n g o):cg w I (es.take k) n g o:=cg.of fun i e he=>by
 rw[List.getElem?_take] at he
 split at he
 ·exact h.get he
 ·cases he
theorem HX (hO:Ev.hC G.cx) (hR:Rel G I β s a w) {t:TypeId} {x:PV} {u:Value} {lo hi mx:Option Operand} {q:PV->Prop} (h:KG G.cx s t x lo hi mx q) (hx:x.Is w I β u) :
  ∃ z r,q z/\z.Is w I β r/\∀ w',(Instr.sliceAt t u (lo.map a.eval) (hi.map a.eval) (mx.map a.eval)).run G.cx.P w' = .ok r w':=by
 replace h:=au h
 obtain⟨d,hu,h⟩:=h
 split at h
 ·rename_i n elem
  replace h:=au h
  obtain⟨m,hm,h⟩:=h
  replace h:=aZ h
  obtain⟨K0,h⟩:=h
  simp only[Bool.and_eq_true] at K0
  replace h:=nx hR h
  obtain⟨l,h,hl⟩:=h
  replace h:=nx hR h
  obtain⟨hh,h,HY⟩:=h
  split at h<;>try simp only[PV.Is] at hx
  ·obtain⟨p,g,o,hp,ha,rfl⟩:=hx
   replace h:=aZ h
   obtain⟨hc,h⟩:=h
   simp only[Bool.and_eq_true,decide_eq_true_eq] at hc
   obtain⟨⟨⟨⟨⟨_,_⟩,h0⟩,h1⟩,h2⟩,h3⟩:=hc
   refine⟨_,.slice (some ⟨g,o+_,none⟩) _ (n - l.2.toNat),h,by simp only[PV.Is]; exact⟨p,g,o,n - l.2.toNat,hp,ha,rfl,by omega⟩,fun w'=>?_⟩
   have hb:=fun b=>F6 (P:=G.cx.P) (b:=b) (len:=n) (cap:=n) (HY.imp (fun ⟨e,e'⟩=>⟨e,by rw[e']⟩) id) (hl.imp (fun ⟨e,e'⟩=>⟨e,by rw[e']⟩) id) h0 h2 h3 w'
   have cH:¬ n=l.2.toNat:=by omega
   have e1:hh.2.toNat - l.2.toNat=(hh.2 - l.2).toNat:=by omega
   simp only[Instr.sliceAt,Sem.run_bind,run_underlying (hO.un hu),Result.andThen_ok,Instr.sureAddr,Sem.run_pure,Option.map_none,hb,Ev.dY hO hm]
   simp[cH,Ev.kc,Nat.add_assoc,e1]
  ·exact h.elim
 ·rename_i elem
  replace h:=au h
  obtain⟨m,hm,h⟩:=h
  replace h:=nx hR h
  obtain⟨l,h,hl⟩:=h
  have run:∀ (ad:Option Addr) (len cap:Nat) (hh:Bool × Int),((hi.map a.eval=none/\hh.2=(len:Int))\/∃ k,hi.map a.eval=some (.int k hh.2))->0<=l.2->l.2<=hh.2->hh.2<=cap->∃ PD,(∀ w',(Instr.sliceAt t (.slice ad len cap) (lo.map a.eval) (hi.map a.eval) none).run G.cx.P w' = .ok (.slice PD (hh.2 - l.2).toNat (cap - l.2.toNat)) w')/\(ad=none->PD=none)/\(∀ g o,ad=some ⟨g,o,none⟩->l.2 < cap->PD=some ⟨g,o+l.2.toNat*m,none⟩):=by
   intro ad len cap hh HY h0 h1 h2
   have hb:=fun b w'=>F6 (P:=G.cx.P) (b:=b) (len:=len) (cap:=cap) HY (hl.imp (fun ⟨e,e'⟩=>⟨e,by rw[e']⟩) id) h0 h1 h2 w'
   have e1:hh.2.toNat - l.2.toNat=(hh.2 - l.2).toNat:=by omega
   cases ad with
   | none =>
    refine⟨none,fun w'=>?_,fun _=>rfl,fun _ _ e=>by cases e⟩
    simp only[Instr.sliceAt,Instr.slice,Sem.run_bind,run_underlying (hO.un hu),Result.andThen_ok,Sem.run_pure,Option.map_none,hb,Ev.dY hO hm]
    simp[e1]
   | some ad =>
    by_cases AZ:cap=l.2.toNat
    ·refine⟨some ad,fun w'=>?_,(fun e=>by cases e),fun g o e ch=>by omega⟩
     simp only[Instr.sliceAt,Instr.slice,Sem.run_bind,run_underlying (hO.un hu),Result.andThen_ok,Sem.run_pure,Option.map_none,hb,Ev.dY hO hm]
     simp[e1,AZ]
    ·refine⟨some (ad.add (l.2.toNat*m)),fun w'=>?_,(fun e=>by cases e),fun g o e ch=>by cases e; rw[Ev.kc]⟩
     simp only[Instr.sliceAt,Instr.slice,Sem.run_bind,run_underlying (hO.un hu),Result.andThen_ok,Sem.run_pure,Option.map_none,hb,Ev.dY hO hm]
     simp[e1,AZ]
  split at h<;>try simp only[PV.Is] at hx
  ·subst hx
   replace h:=nx hR h
   obtain⟨hh,⟨h0,h1,h⟩,HY⟩:=h
   refine⟨_,.slice none 0 0,h,by simp only[PV.Is],fun w'=>?_⟩
   obtain⟨PD,hr,hn,_⟩:=run none 0 0 hh (HY.imp (fun ⟨e,e'⟩=>⟨e,by rw[e']; rfl⟩) id) (by omega) (by omega) (by omega)
   rw[hn rfl] at hr
   rw[Option.map_none,hr,h0,h1]; rfl
  ·rename_i b off len
   obtain⟨p,g,o,cap,hp,ha,rfl,hle⟩:=hx
   replace h:=nx hR h
   obtain⟨hh,h,HY⟩:=h
   replace h:=aZ h
   obtain⟨hc,h⟩:=h
   simp only[Bool.and_eq_true,decide_eq_true_eq] at hc
   obtain⟨⟨⟨⟨⟨_,_⟩,h0⟩,h1⟩,h2⟩,h3⟩:=hc
   refine⟨_,.slice (some ⟨g,o+(off+l.2.toNat*m),none⟩) (hh.2 - l.2).toNat (cap - l.2.toNat),h,by simp only[PV.Is]; exact⟨p,g,o,cap - l.2.toNat,hp,ha,rfl,by omega⟩,fun w'=>?_⟩
   obtain⟨PD,hr,_,hs⟩:=run (some ⟨g,o+off,none⟩) len cap hh (HY.imp (fun ⟨e,e'⟩=>⟨e,by rw[e']⟩) id) h0 h2 (by omega)
   rw[Option.map_none,hr,hs g (o+off) rfl (by omega)]
   simp only[Nat.add_assoc]
  ·rename_i n es
   obtain⟨ad,cap,rfl,hle,sD,h4,h5⟩:=hx
   replace h:=nx hR h
   obtain⟨hh,h,HY⟩:=h
   replace h:=aZ h
   obtain⟨hc,h0,h1,h2,h⟩:=h
   simp only[Bool.and_eq_true] at hc
   have hnm:n=m:=Nat.eq_of_beq_eq_true hc.1
   have sq:0 < m:=Nat.le_of_ble_eq_true hc.2
   have hlen:((es.drop l.2.toNat).take (hh.2 - l.2).toNat).length=(hh.2 - l.2).toNat:=by rw[List.length_take,List.length_drop]; omega
   obtain⟨PD,xH,hn,hs⟩:=run ad es.length cap hh (HY.imp (fun ⟨e,e'⟩=>⟨e,by rw[e']⟩) id) h0 h1 (by omega)
   refine⟨_,_,h,?_,fun w'=>by rw[Option.map_none,xH]⟩
   simp only[PV.Is,hlen]
   refine⟨PD,cap - l.2.toNat,rfl,by omega,by omega,fun g o e=>?_,fun cH=>?_⟩
   ·by_cases hz:(hh.2 - l.2).toNat=0
    ·rw[hz,List.take_zero]; simp only[cg]
    ·obtain⟨g',o',TT,hg,_⟩:=h5 (by omega)
     have:=hs g' o' TT (by omega)
     rw[this] at e
     cases e
     rw[← hnm]
     exact ((h4 _ _ TT).drop _).take _
   ·obtain⟨g',o',TT,hg,lh⟩:=h5 (by omega)
    exact⟨g',_,hs g' o' TT (by omega),hg,lh⟩
  ·rename_i b
   obtain⟨p,hp,rfl⟩:=hx
   replace h:=au h
   obtain⟨k,hb,h⟩:=h
   split at h
   ·rename_i hk
    replace h:=aZ h
    obtain⟨hc,h⟩:=h
    simp only[Bool.and_eq_true] at hc
    have fY:k.size=m:=Nat.eq_of_beq_eq_true hc.1.2
    obtain⟨g,arr,fr,ha,hw,_,_,_,hlen,hle,_,_,K0⟩:=gQ hR.heap hb hc.1.1 hk hp
    rw[oC,Nat.zero_add] at h
    have hq:k.cs.length / m=p.len:=by rw[hlen,fY]; exact Nat.mul_div_cancel _ (by omega)
    rw[hq] at h
    replace h:=nx hR h
    obtain⟨hh,h,HY⟩:=h
    replace h:=aZ h
    obtain⟨ph,h⟩:=h
    simp only[Bool.and_eq_true,decide_eq_true_eq] at ph
    obtain⟨⟨⟨⟨⟨_,_⟩,h0⟩,h1⟩,h2⟩,h3⟩:=ph
    refine⟨_,.slice (some ⟨g,0+l.2.toNat*m,none⟩) (hh.2 - l.2).toNat (p.cap - l.2.toNat),h,by simp only[PV.Is]; exact⟨p,g,0,p.cap - l.2.toNat,hp,ha,rfl,by omega⟩,fun w'=>?_⟩
    obtain⟨PD,hr,_,hs⟩:=run (some ⟨g,0,none⟩) p.len p.cap hh (HY.imp (fun ⟨e,e'⟩=>⟨e,by rw[e']⟩) id) h0 h2 (by omega)
    rw[hw,Option.map_none,hr,hs g 0 rfl (by omega)]
   ·rename_i hk
    replace h:=aZ h
    obtain⟨hc,h⟩:=h
    simp only[Bool.and_eq_true] at hc
    have fY:k.size=m:=Nat.eq_of_beq_eq_true hc.1.2
    obtain⟨Kb,hlen,hle,sD,pg⟩:=da hR.heap hb hc.1.1 hk hp
    replace h:=nx hR h
    obtain⟨hh,⟨i,j,hi,hj,Z3,Z4,hil,h⟩,HY⟩:=h
    rcases pg with ⟨_,tL,_⟩|⟨g,arr,fr,ha,hw,iX,mq,dj,has⟩
    ·exact absurd hil (by omega)
    ·refine⟨_,.slice (some ⟨g,0+i*m,none⟩) (j - i) (p.cap - i),h,by simp only[PV.Is]; exact⟨p,g,0,p.cap - i,hp,ha,rfl,by omega⟩,fun w'=>?_⟩
     obtain⟨PD,hr,_,hs⟩:=run (some ⟨g,0,none⟩) p.len p.cap hh (HY.imp (fun ⟨e,e'⟩=>⟨e,by rw[e',hlen]⟩) id) (by omega) (by omega) (by omega)
     rw[hw,Option.map_none,hr,hs g 0 rfl (by omega),show l.2.toNat=i by omega,show (hh.2 - l.2).toNat=j - i by omega]
   ·exact h.elim
  ·exact h.elim
 ·exact h.elim
theorem PE (hR:aL I β s.st w) {x:PV} {u:Value} {q:PV->Prop} (h:TK s.st x q) (hx:x.Is w I β u):∃ z,q z/\∃ (ad:Option Addr) (n c:Nat),u = .slice ad n c/\z.Is w I β (.int .i64 n):=by
 unfold TK at h
 simp only[oC,Nat.zero_add,an.D'] at h
 split at h<;>try simp only[PV.Is] at hx
 ·exact⟨_,h,_,_,_,hx,Is.lit⟩
 ·obtain⟨ad,cap,rfl,_,hm,_⟩:=hx
  exact⟨_,h hm,_,_,_,rfl,Is.int⟩
 ·obtain⟨p,g,o,cap,_,_,rfl,_⟩:=hx
  exact⟨_,h,_,_,_,rfl,Is.lit⟩
 ·obtain⟨p,hp,rfl⟩:=hx
  replace h:=au h
  obtain⟨b,hb,h⟩:=h
  replace h:=aZ h
  obtain⟨hl,h⟩:=h
  split at h
  ·rename_i hk
   obtain⟨g,arr,fr,_,hw,_,_,_,hlen,_,_,_,K0⟩:=gQ hR hb hl hk hp
   refine⟨_,h,_,_,_,hw,?_⟩
   rw[hlen,Nat.mul_div_cancel _ K0]
   exact Is.lit
  ·rename_i hk
   obtain⟨_,hlen,hle,hm,pg⟩:=da hR hb hl hk hp
   have h:=h (by omega)
   rcases pg with ⟨_,hc,hw⟩|⟨g,arr,fr,_,hw,_⟩
   ·exact⟨_,h,_,_,_,hw,by rw[show b.cs.length=0 by omega]; exact Is.int⟩
   ·exact⟨_,h,_,_,_,hw,by rw[hlen]; exact Is.int⟩
  ·exact h.elim
 ·exact h.elim
theorem tM (hR:Rel G I β s a w):∀ {os:List Operand} {q:List PV->Prop},qG.qH s os q->∃ l,q l/\bp w I l β (os.map a.eval)
 | [],q,h=>⟨[],h,by simp only[List.map_nil,bp]⟩
 | o::os,q,h=>by
  replace h:=aN.cc hR h
  obtain⟨x,h,hx⟩:=h
  have key:qG.qH s os fun xs=>q (x::xs):=by cases x<;>first|exact h.elim|exact h
  obtain⟨l,h,hl⟩:=tM hR key
  exact⟨_,h,by simp only[List.map_cons,bp]; exact⟨hx,hl⟩⟩
set_option maxHeartbeats 1000000 in
theorem vt (hO:Ev.hC G.cx) (hR:Rel G I β s a w) {o:Oper} {q:PV->Prop} (h:qG G.cx s o.op q) :
  ∃ x r,q x/\x.Is w I β r/\∀ w',(execOp a.eval o).run G.cx.P w' = .ok (.value r) w':=by
 obtain⟨dst,op,ty,pos,after,guard⟩:=o
 simp only at h
 unfold qG at h
 split at h
 ·
  replace h:=aN.cc hR h
  obtain⟨x,h,hx⟩:=h
  exact⟨x,_,h,hx,fun w'=>rfl⟩
 ·
  replace h:=aN.cc hR h
  obtain⟨x,h,hx⟩:=h
  exact⟨x,_,h,hx,fun w'=>rfl⟩
 ·
  rename_i c x y
  have bI:∀ b,a.eval c = .bool b->∀ w',(execOp a.eval ⟨dst,.pick c x y,ty,pos,after,guard⟩).run G.cx.P w' = .ok (.value (if b then a.eval x else a.eval y)) w':=fun b hb w'=>by
   cases b<;>simp[execOp,hb,asBool]
  replace h:=aN.cc hR h
  obtain⟨xc,h,hc⟩:=h
  split at h<;>try simp only[PV.Is] at hc
  ·replace h:=aN.cc hR h
   obtain⟨z,h,hz⟩:=h
   exact⟨z,_,h,hz,fun w'=>by rw[bI _ hc]; rfl⟩
  ·replace h:=aN.cc hR h
   obtain⟨z,h,hz⟩:=h
   exact⟨z,_,h,hz,fun w'=>by rw[bI _ hc]; rfl⟩
  ·rename_i p
   by_cases hp:p
   ·obtain⟨z,h,hz⟩:=aN.cc hR (h.1 hp)
    exact⟨z,_,h,hz,fun w'=>by rw[bI _ hc,cj hp]; rfl⟩
   ·obtain⟨z,h,hz⟩:=aN.cc hR (h.2 hp)
    exact⟨z,_,h,hz,fun w'=>by rw[bI _ hc,bM hp]; rfl⟩
  ·exact h.elim
 ·
  replace h:=aN.cc hR h
  obtain⟨x,h,hx⟩:=h
  replace h:=aN.cc hR h
  obtain⟨y,h,hy⟩:=h
  obtain⟨z,r,h,hz,hg,hr⟩:=Pz hO hR.heap h hx hy
  exact⟨z,r,h,hz,fun w'=>by simp[execOp,hg,hr]⟩
 ·
  replace h:=aN.cc hR h
  obtain⟨x,h,hx⟩:=h
  obtain⟨z,r,h,hz,hr⟩:=TQ (P:=G.cx.P) h hx
  exact⟨z,r,h,hz,fun w'=>by simp[execOp,hr]⟩
 ·
  replace h:=aN.cc hR h
  obtain⟨x,h,hx⟩:=h
  obtain⟨z,r,h,hz,hr⟩:=KW hO h hx
  exact⟨z,r,h,hz,fun w'=>by simp[execOp,hr]⟩
 ·
  rename_i o
  replace h:=aN.cc hR h
  obtain⟨x,h,hx⟩:=h
  have key:∀ {ad:Addr},a.eval o = .pointer (some ad)->∀ w',(execOp a.eval ⟨dst,.nilCheck o,ty,pos,after,guard⟩).run G.cx.P w' = .ok (.value (a.eval o)) w':=fun he w'=>by simp[execOp,he]
  split at h<;>first|exact h.elim|(have dE:=hx; simp only[PV.Is] at dE)
  ·obtain⟨p,g,o',_,_,he⟩:=dE; exact⟨_,_,h,hx,key he⟩
  ·obtain⟨p,g,o',_,_,he⟩:=dE; exact⟨_,_,h,hx,key he⟩
  ·obtain⟨p,g,o',_,_,he⟩:=dE; exact⟨_,_,h,hx,key he⟩
  ·obtain⟨g,o',he,_⟩:=dE; exact⟨_,_,h,hx,key he⟩
  ·exact⟨_,_,h,hx,key dE⟩
  ·exact⟨_,_,h,hx,key dE⟩
 ·
  obtain⟨x,r,h,hx,hr⟩:=HV hO hR h
  exact⟨x,r,h,hx,fun w'=>by simp[execOp,hr]⟩
 ·
  replace h:=aN.cc hR h
  obtain⟨x,h,hx⟩:=h
  obtain⟨z,r,h,hz,hr⟩:=xF hO h hx
  exact⟨z,r,h,hz,fun w'=>by simp[execOp,hr]⟩
 ·
  rename_i f
  replace h:=au h
  obtain⟨d,hu,h⟩:=h
  replace h:=aN.cc hR h
  obtain⟨x,h,hx⟩:=h
  split at h
  ·rename_i fs cs
   replace h:=au h
   obtain⟨fd,hfd,h⟩:=h
   simp only[PV.Is] at hx
   obtain⟨vs,he,hc⟩:=hx
   obtain⟨z,r,h,hz,hr⟩:=FW hO h hc
   have TS:fs[f]?=some fd:=by simpa using hfd
   exact⟨z,r,h,hz,fun w'=>by simp[execOp,Instr.field,run_underlying (hO.un hu),TS,he,asAgg,hr]⟩
  ·exact h.elim
 ·
  replace h:=aN.cc hR h
  obtain⟨x,h,hx⟩:=h
  replace h:=aN.cc hR h
  obtain⟨y,h,hy⟩:=h
  obtain⟨z,r,h,hz,hr⟩:=xG hO hR.heap h hx hy
  exact⟨z,r,h,hz,fun w'=>by simp[execOp,hr]⟩
 ·
  replace h:=aN.cc hR h
  obtain⟨x,h,hx⟩:=h
  replace h:=aN.cc hR h
  obtain⟨y,h,hy⟩:=h
  obtain⟨z,r,h,hz,hr⟩:=HW hO h hx hy
  exact⟨z,r,h,hz,fun w'=>by simp[execOp,hr]⟩
 ·
  rename_i i
  replace h:=aN.cc hR h
  obtain⟨x,h,hx⟩:=h
  split at h
  ·replace h:=au h
   obtain⟨z,hz,h⟩:=h
   simp only[PV.Is] at hx
   obtain⟨vs,he,hc⟩:=hx
   obtain⟨r,hr,hri⟩:=hc.get hz
   have xH:vs[i]?=some r:=by simpa using hr
   exact⟨z,r,h,hri,fun w'=>by simp[execOp,Instr.extract,he,xH]⟩
  ·exact h.elim
 ·
  replace h:=aN.cc hR h
  obtain⟨x,h,hx⟩:=h
  obtain⟨z,r,h,hz,hr⟩:=HX hO hR h hx
  exact⟨z,r,h,hz,fun w'=>by simp[execOp,hr]⟩
 ·
  rename_i f pe
  replace h:=tM hR h
  obtain⟨l,h,hl⟩:=h
  refine⟨_,.func (.func f) #[] ⟨pe.map a.eval⟩,h,by simp only[PV.Is]; exact⟨_,rfl,hl⟩,fun w'=>?_⟩
  simp[execOp,Instr.makeFunc]
 ·
  rename_i o t
  replace h:=au h
  obtain⟨d,hu,h⟩:=h
  replace h:=aN.cc hR h
  obtain⟨x,h,hx⟩:=h
  have bI:∀ {r:Value},(∀ w',(Builtin.len_ #[t] ty #[a.eval o]).run G.cx.P w' = .ok r w')->∀ w',(execOp a.eval ⟨dst,.call { callee:=.builtin .len,args:=#[o],argTypes:=#[t] },ty,pos,after,guard⟩).run G.cx.P w' = .ok (.value r) w':=fun hr w'=>by
   simp[execOp,resolve,invoke,builtin,hr]
  split at h
  ·obtain⟨z,h,ad,n,c,he,hz⟩:=PE hR.heap h hx
   exact⟨z,_,h,hz,bI fun w'=>by simp[Builtin.len_,run_underlying (hO.un hu),he,goInt]⟩
  ·exact⟨_,_,h,Is.lit,bI fun w'=>by simp[Builtin.len_,run_underlying (hO.un hu),goInt]⟩
  ·split at h
   ·simp only[PV.Is] at hx
    obtain⟨he,_⟩:=hx
    exact⟨_,_,h,Is.lit,bI fun w'=>by simp[Builtin.len_,run_underlying (hO.un hu),he,goInt]⟩
   ·exact h.elim
  ·exact h.elim
 ·
  rename_i ox oy ts
  replace h:=aN.cc hR h
  obtain⟨x,h,hx⟩:=h
  replace h:=aN.cc hR h
  obtain⟨y,h,hy⟩:=h
  have key:∀ {k k':IntKind} {m n:Int},a.eval ox = .int k m->a.eval oy = .int k' n->∀ w',(execOp a.eval ⟨dst,.call { callee:=.builtin .min,args:=⟨[ox,oy]⟩,argTypes:=ts },ty,pos,after,guard⟩).run G.cx.P w' = .ok (.value (.int k (min m n))) w':=fun h1 h2 w'=>by
   rename_i m n
   simp[execOp,resolve,invoke,builtin,Builtin.min_,h1,h2,Builtin.min2]
   by_cases ch:n < m<;>simp[ch]<;>omega
  unfold uJ at h
  split at h<;>first|exact h.elim|(simp only[PV.Is] at hx hy)
  ·exact⟨_,_,h,Is.lit,key hx hy⟩
  ·exact⟨_,_,h,Is.int,key hx hy⟩
  ·exact⟨_,_,h,Is.int,key hx hy⟩
  ·exact⟨_,_,h,Is.int,key hx hy⟩
 ·
  rename_i ox oy ts
  replace h:=aN.cc hR h
  obtain⟨x,h,hx⟩:=h
  replace h:=aN.cc hR h
  obtain⟨y,h,hy⟩:=h
  have key:∀ {k k':IntKind} {m n:Int},a.eval ox = .int k m->a.eval oy = .int k' n->∀ w',(execOp a.eval ⟨dst,.call { callee:=.builtin .max,args:=⟨[ox,oy]⟩,argTypes:=ts },ty,pos,after,guard⟩).run G.cx.P w' = .ok (.value (.int k (max m n))) w':=fun h1 h2 w'=>by
   rename_i m n
   simp[execOp,resolve,invoke,builtin,Builtin.max_,h1,h2,Builtin.max2]
   by_cases ch:m < n<;>simp[ch]<;>omega
  unfold uJ at h
  split at h<;>first|exact h.elim|(simp only[PV.Is] at hx hy)
  ·exact⟨_,_,h,Is.lit,key hx hy⟩
  ·exact⟨_,_,h,Is.int,key hx hy⟩
  ·exact⟨_,_,h,Is.int,key hx hy⟩
  ·exact⟨_,_,h,Is.int,key hx hy⟩
 ·exact h.elim
end
def ax.set (β:ax) (l:Nat) (p:tI):ax:=fun l'=>if l'=l then some p else β l'
section
variable {w w':World} {I I':Nat->Prop} {β aM:ax} {cx:Ev.Cx} {G:Gx} {P:Program} {s:aN} {a:Act} {st eP:List an}
theorem kP:∀ {st:List an} {l:Nat} {b:an} {q:List an->Prop},xE st l b q->l < st.length/\q (st.set l b)
 | [],_,_,_,h=>h.elim
 | _::st,0,b,q,h=>⟨by simp,h⟩
 | a::st,n+1,b,q,h=>by
  obtain⟨h1,h2⟩:=kP (st:=st) (q:=fun l=>q (a::l)) h
  exact⟨by simpa using h1,h2⟩
theorem oD:∀ {st:List an} {b:an} {q:List an->Prop},Ec st b q->q (st++[b])
 | [],_,_,h=>h
 | a::st,b,q,h=>oD (st:=st) (q:=fun l=>q (a::l)) h
theorem iY {α:Type}:∀ {l:List α} {n:Nat} {q:Nat->Prop},pf l n q->q (n+l.length)
 | [],n,q,h=>h
 | _::l,n,q,h=>by
  have:=iY (l:=l) h
  rwa [List.length_cons,show n+(l.length+1)=n+1+l.length by omega]
theorem ji.place {l:Nat} {b:an} (h:ji I β st w l b) {p:tI} {g o:Nat} (hp:β l=some p) (ha:p.a=some (g,o)):∃ (ob:Obj) (_:Unit) (fr:Nat × Nat),w.heap[g]?=some ob/\Own I β st l g fr b:=by
 obtain⟨q,hq,hk⟩:=h
 rw[hp] at hq
 cases hq
 split at hk
 ·obtain⟨g',o',arr,ty,fr,fW,hh,_,ho⟩:=hk
  rw[ha] at fW; cases fW; exact⟨_,(),fr,hh,ho⟩
 ·obtain⟨g',arr,fr,fW,hh,_,ho,_⟩:=hk
  rw[ha] at fW; cases fW; exact⟨_,(),fr,hh,ho⟩
 ·obtain⟨_,hk⟩:=hk
  rcases hk with ⟨fW,_⟩|⟨g',arr,fr,fW,hh,_,ho,_⟩
  ·rw[ha] at fW; cases fW
  ·rw[ha] at fW; cases fW; exact⟨_,(),fr,hh,ho⟩
 ·obtain⟨g',fW,⟨es,clock,hh,_⟩,ho⟩:=hk
  rw[ha] at fW; cases fW; exact⟨_,(),(0,0),hh,ho⟩
theorem FQ.pj {g:Nat} {cs:List PV} (h:FQ w g cs) (hw:w'.heap[g]?=w.heap[g]?):FQ w' g cs:=by
 obtain⟨es,clock,hb,F,hs,hD⟩:=h
 exact⟨es,clock,hw.trans hb,F,hs,hD⟩
theorem ji.mono {l:Nat} {b:an} (hI:∀ g,I g->I' g) (hw:∀ g,I g->w'.heap[g]?=w.heap[g]?) (p7:∀ l p,β l=some p->aM l=some p)
  (hg:∀ p g o,β l=some p->p.a=some (g,o)->w'.heap[g]?=w.heap[g]?/\(b.m≠.r->¬ I' g/\∀ l' b',l'≠l->eP[l']?=some b'->b'.live=true->∀ p g' o',aM l'=some p->p.a=some (g',o')->g'≠g)) (hb:ji I β st w l b):ji I' aM eP w' l b:=by
 obtain⟨p,hp,hk⟩:=hb
 refine⟨p,p7 l p hp,?_⟩
 have own:∀ {g o:Nat} {fr:Nat × Nat},p.a=some (g,o)->Own I β st l g fr b->Own I' aM eP l g fr b:=fun ha ho=>⟨fun hr=>⟨(ho.1 hr).1,(hg p _ _ hp ha).2 hr⟩,fun hr=>hI _ (ho.2 hr)⟩
 split at hk
 ·obtain⟨g,o,arr,ty,fr,ha,hh,hc,ho⟩:=hk
  exact⟨g,o,arr,ty,fr,ha,(hg p g o hp ha).1.trans hh,hc.mono hI hw p7,own ha ho⟩
 ·obtain⟨g,arr,fr,ha,hh,hc,ho,h1⟩:=hk
  exact⟨g,arr,fr,ha,(hg p g 0 hp ha).1.trans hh,hc.mono hI hw p7,own ha ho,h1⟩
 ·obtain⟨h1,hk⟩:=hk
  refine⟨h1,?_⟩
  rcases hk with h|⟨g,arr,fr,ha,hh,hc,ho,h2⟩
  ·exact .inl h
  ·exact .inr ⟨g,arr,fr,ha,(hg p g 0 hp ha).1.trans hh,cg.mono hI hw _ _ _ _ (hg p g 0 hp ha).1 hc,own ha ho,h2⟩
 ·obtain⟨g,ha,hm,ho⟩:=hk
  exact⟨g,ha,hm.pj (hg p g 0 hp ha).1,own ha ho⟩
theorem aL.lt (h:aL I β st w) {l:Nat} {p:tI} (hp:β l=some p):l < st.length:=by
 rcases Nat.lt_or_ge l st.length with h'|h'
 ·exact h'
 ·rw[h.py l h'] at hp; cases hp
def lE (β:ax) (st:List an) (g:Nat):Prop:=∃ l b p o,st[l]?=some b/\b.live=true/\β l=some p/\p.a=some (g,o)
theorem ax.lF (h:aL I β st w) (p:tI):∀ l q,β l=some q->(β.set st.length p) l=some q:=fun l q hq=>by
 have:=h.lt hq
 unfold ax.set
 rw[if_neg (by omega)]; exact hq
theorem ax.eI (β:ax) (l:Nat) (p:tI):(β.set l p) l=some p:=if_pos rfl
theorem aL.add (h:aL I β st w) (hw:∀ g,lE β st g\/I g->w'.heap[g]?=w.heap[g]?) {b:an} {p:tI} (hp:∀ g o,p.a=some (g,o)->¬ I g/\¬ lE β st g)
  (hb:ji I (β.set st.length p) (st++[b]) w' st.length b):aL I (β.set st.length p) (st++[b]) w':=by
 refine⟨fun l hl=>?_,fun l b' hl aF=>?_⟩
 ·simp only[List.length_append,List.length_singleton] at hl
  unfold ax.set
  rw[if_neg (by omega),h.py l (by omega)]
 ·by_cases ch:l < st.length
  ·rw[List.getElem?_append_left ch] at hl
   have dw:=h.iI l b' hl aF
   refine dw.mono (fun _ h=>h) (fun g hg=>hw g (.inr hg)) (ax.lF h p) fun q g o hq ha=>?_
   obtain⟨arr,ty,fr,hh,ho⟩:=dw.place hq ha
   have hL:lE β st g:=⟨l,b',q,o,hl,aF,hq,ha⟩
   refine⟨hw g (.inl hL),fun hr=>⟨(ho.1 hr).2.1,fun l' pY cH kf gF p' g' o' e_ fW=>?_⟩⟩
   unfold ax.set at e_
   split at e_
   ·cases e_
    intro e
    subst e
    exact (hp _ _ fW).2 hL
   ·have:=h.lt e_
    rw[List.getElem?_append_left this] at kf
    exact (ho.1 hr).2.2 l' pY cH kf gF p' g' o' e_ fW
  ·have hle:l=st.length:=by
    have:=(List.getElem?_eq_some_iff.1 hl).1
    simp at this; omega
   subst hle
   rw[List.getElem?_append_right (Nat.le_refl _)] at hl
   simp only[Nat.sub_self,List.getElem?_cons_zero,Option.some.injEq] at hl
   subst hl
   exact hb
theorem aL.dk (h:aL I β st w) {g:Nat} (hg:lE β st g):g < w.heap.size:=by
 obtain⟨l,b,p,o,h1,h2,h3,h4⟩:=hg
 obtain⟨arr,ty,fr,hh,_⟩:=(h.iI l b h1 h2).place h3 h4
 exact dD hh
theorem Ext.add (h:aL I β st w) (hos:w'.os=w.os) (K2:w'.tape=w.tape) (jk:w'.output=w.output) (fY:w.heap.size<=w'.heap.size) {b:an} {p:tI} (hw:∀ g,g < w.heap.size->¬ Wr β st g->w'.heap[g]?=w.heap[g]?)
  (hp:∀ g o,p.a=some (g,o)->g < w.heap.size->Wr β st g):Ext I β st w I (β.set st.length p) (st++[b]) w' :=
 ⟨hos,K2,jk,fY,hw,fun g hg ⟨l,b',q,o,h1,h2,h3,h4,h5⟩=>by
  unfold ax.set at h4
  split at h4
  ·cases h4
   exact hp g o h5 hg
  ·have:=h.lt h4
   rw[List.getElem?_append_left this] at h1
   exact⟨l,b',q,o,h1,h2,h3,h4,h5⟩,fun _ h=>h,fun _ _ h=>.inl h⟩
theorem aL.kill (h:aL I β st w) (l:Nat) {b:an} (hb:b.live=false):aL I β (st.set l b) w:=by
 refine⟨fun l' kf=>h.py l' (by simpa using kf),fun l' b' kf aF=>?_⟩
 have cH:l'≠l:=fun e=>by
  subst e
  rw[List.getElem?_set_self (by simpa using (List.getElem?_eq_some_iff.1 kf).1)] at kf
  cases kf; rw[hb] at aF; cases aF
 rw[List.getElem?_set_ne (fun e=>cH e.symm)] at kf
 have dw:=h.iI l' b' kf aF
 refine dw.mono (fun _ h=>h) (fun _ _=>rfl) (fun _ _ h=>h) fun q g o hq ha=>⟨rfl,fun hr=>?_⟩
 obtain⟨arr,ty,fr,hh,ho⟩:=dw.place hq ha
 refine⟨(ho.1 hr).2.1,fun l2 b2 hne2 gz bH=>?_⟩
 have Bj:l2≠l:=fun e=>by
  subst e
  rw[List.getElem?_set_self (by simpa using (List.getElem?_eq_some_iff.1 gz).1)] at gz
  cases gz; rw[hb] at bH; cases bH
 rw[List.getElem?_set_ne (fun e=>Bj e.symm)] at gz
 exact (ho.1 hr).2.2 l2 b2 hne2 gz bH
theorem K3 {l g:Nat} {b:an} (hb:b.live=false\/∃ b0,st[l]?=some b0/\b0.live=b.live/\b0.m=b.m) (h:Wr β (st.set l b) g):Wr β st g:=by
 obtain⟨l',b',p,o,h1,h2,h3,h4,h5⟩:=h
 by_cases cH:l'=l
 ·subst cH
  rw[List.getElem?_set_self (by simpa using (List.getElem?_eq_some_iff.1 h1).1)] at h1
  cases h1
  rcases hb with hb|⟨b0,e1,e2,e3⟩
  ·rw[hb] at h2; cases h2
  ·exact⟨l',b0,p,o,e1,by rw[e2]; exact h2,by rw[e3]; exact h3,h4,h5⟩
 ·rw[List.getElem?_set_ne (fun e=>cH e.symm)] at h1
  exact⟨l',b',p,o,h1,h2,h3,h4,h5⟩
theorem Ext.kill {l:Nat} {b:an} (hb:b.live=false):Ext I β st w I β (st.set l b) w:=⟨rfl,rfl,rfl,Nat.le_refl _,fun _ _ _=>rfl,fun _ _ h=>K3 (.inl hb) h,fun _ h=>h,fun _ _ h=>.inl h⟩
theorem aL.write (h:aL I β st w) {l:Nat} {b b':an} {p:tI} {g o:Nat} {arr arr':Array Value} {ty:TypeId} (hb:st[l]?=some b) (aF:b.live=true) (hm:b.m = .w) (hp:β l=some p) (ha:p.a=some (g,o)) (hh:w.heap[g]?=some (.cells arr ty (0,0)))
  (kf:b'.live=true) (pW:b'.m = .w) (mr:∀ (hI:∀ x,I x->(w.setRow g arr').heap[x]?=w.heap[x]?),Own I β (st.set l b') l g (0,0) b'->ji I β (st.set l b') (w.setRow g arr') l b') :
  aL I β (st.set l b') (w.setRow g arr')/\Ext I β st w I β (st.set l b') (w.setRow g arr'):=by
 have jL:=h.iI l b hb aF
 obtain⟨arr0,ty0,fr0,hh0,ho0⟩:=jL.place hp ha
 obtain⟨_,hIg,K4⟩:=ho0.1 (by rw[hm]; decide)
 have yv:∀ x,I x->(w.setRow g arr').heap[x]?=w.heap[x]?:=fun x hx=>setRow_other w g x _ fun e=>hIg (e ▸ hx)
 have hll:l < st.length:=(List.getElem?_eq_some_iff.1 hb).1
 have TU:∀ l' pY,l'≠l->(st.set l b')[l']?=some pY->pY.live=true->∀ p g' o',β l'=some p->p.a=some (g',o')->g'≠g:=fun l' pY cH Pr PF p g' o' e_ fW=>by
  rw[List.getElem?_set_ne (fun e=>cH e.symm)] at Pr
  exact K4 l' pY cH Pr PF p g' o' e_ fW
 refine⟨⟨fun l2 gz=>h.py l2 (by simpa using gz),fun l2 b2 gz bH=>?_⟩,⟨rfl,rfl,rfl,by simp,fun x hx hn=>setRow_other w g x _ fun e=>hn (e ▸ ⟨l,b,p,o,hb,aF,hm,hp,ha⟩),fun x hx hw=>K3 (.inr ⟨b,hb,by rw[aF,kf],by rw[hm,pW]⟩) hw,fun _ h=>h,fun _ _ h=>.inl h⟩⟩
 by_cases cH:l2=l
 ·subst cH
  rw[List.getElem?_set_self hll] at gz
  cases gz
  exact mr yv ⟨fun _=>⟨rfl,hIg,TU⟩,fun hr=>by rw[pW] at hr; cases hr⟩
 ·rw[List.getElem?_set_ne (fun e=>cH e.symm)] at gz
  have eG:=h.iI l2 b2 gz bH
  refine eG.mono (fun _ h=>h) yv (fun _ _ h=>h) fun q g2 o2 hq jM=>?_
  obtain⟨arr2,ty2,fr2,hh2,TV⟩:=eG.place hq jM
  refine⟨setRow_other w g g2 _ (K4 l2 b2 cH gz bH q g2 o2 hq jM),fun hr=>⟨(TV.1 hr).2.1,fun l3 b3 hne3 Sh TW p3 g3 o3 hp3 ha3=>?_⟩⟩
  by_cases h3:l3=l
  ·subst h3
   rw[hp] at hp3
   cases hp3
   rw[ha] at ha3
   cases ha3
   exact fun e=>K4 l2 b2 cH gz bH q g2 o2 hq jM e.symm
  ·rw[List.getElem?_set_ne (fun e=>h3 e.symm)] at Sh
   exact (TV.1 hr).2.2 l3 b3 hne3 Sh TW p3 g3 o3 hp3 ha3
theorem zL {g o n:Nat} {cs:List PV} (hl:cs.length=n) (hc:∀ j c,cs[j]?=some c->∃ v,w.cell? ⟨g,o+j,none⟩=some v/\c.Is w I β v) :
  ∃ vs:Array Value,bp w I cs β vs.toList/\∀ w2:World,w2.heap[g]?=w.heap[g]?->(loadCells ⟨g,o,none⟩ n).run P w2 = .ok vs w2:=by
 have key:∀ (cs:List PV) (o:Nat),(∀ j c,cs[j]?=some c->∃ v,w.cell? ⟨g,o+j,none⟩=some v/\c.Is w I β v)->∃ l:List Value,bp w I cs β l/\∀ j v,l[j]?=some v->w.cell? ⟨g,o+j,none⟩=some v:=by
  intro cs
  induction cs with
  | nil=>intro o _; exact⟨[],by simp only[bp],fun j v h=>by simp at h⟩
  | cons a cs ih =>
   intro o hc
   obtain⟨v,hv,hi⟩:=hc 0 a rfl
   obtain⟨l,h1,h2⟩:=ih (o+1) fun j x hx=>by
    obtain⟨u,hu,hui⟩:=hc (j+1) x (by simpa using hx)
    exact⟨u,by rw[show o+1+j=o+(j+1) by omega]; exact hu,hui⟩
   refine⟨v::l,by simp only[bp]; exact⟨hi,h1⟩,fun j u hu=>?_⟩
   cases j with
   | zero=>simp at hu; subst hu; exact hv
   | succ j=>rw[show o+(j+1)=o+1+j by omega]; exact h2 j u (by simpa using hu)
 obtain⟨l,h1,h2⟩:=key cs o hc
 refine⟨l.toArray,by simpa using h1,fun w2 mu=>?_⟩
 have hll:=h1.length
 rw[show n=l.length by omega]
 exact run_loadCells_list w2 _ l fun j v hv=>by rw[Ev.kc]; exact (World.cell?_of_block (a:=⟨g,o+j,none⟩) mu).trans (h2 j v hv)
theorem lG (hO:Ev.hC cx) {t:TypeId} {cs:List PV} {off g o:Nat} {q:PV->Prop} (h:part cx t cs off q) (hc:∀ j c,cs[j]?=some c->∃ v,w.cell? ⟨g,o+j,none⟩=some v/\c.Is w I β v) :
  ∃ x v,q x/\x.Is w I β v/\∀ w2:World,w2.heap[g]?=w.heap[g]?->(Instr.loadAt t (.pointer (some ⟨g,o+off,none⟩))).run cx.P w2 = .ok v w2:=by
 replace h:=au h
 obtain⟨x,hx,h⟩:=h
 replace h:=Ee h
 unfold tJ at hx
 split at hx
 ·rename_i n ha hn
  split at hx
  ·rename_i hle
   have hle':off+n<=cs.length:=Nat.le_of_ble_eq_true hle
   cases hx
   obtain⟨vs,g1,g2⟩:=zL (P:=cx.P) (w:=w) (I:=I) (β:=β) (g:=g) (o:=o+off) (cs:=(cs.drop off).take n) (n:=n) (by simp; omega) (fun j x hx=>by
    rw[List.getElem?_take] at hx
    split at hx
    ·rw[List.getElem?_drop] at hx
     obtain⟨v,hv,hi⟩:=hc _ _ hx
     exact⟨v,by rw[Nat.add_assoc]; exact hv,hi⟩
    ·cases hx)
   exact⟨_,.agg vs,h,by simp only[PV.Is]; exact⟨vs,rfl,g1⟩,fun w2 mu=>by simp[Instr.loadAt,Instr.sureAddr,loadVar,Ev.j4 hO ha,Ev.dY hO hn,g2 w2 mu]⟩
  ·cases hx
 ·rename_i ha
  obtain⟨v,hv,hi⟩:=hc _ _ hx
  refine⟨x,v,h,hi,fun w2 mu=>?_⟩
  have hv2:=(World.cell?_of_block (a:=⟨g,o+off,none⟩) mu).trans hv
  simp[Instr.loadAt,Instr.sureAddr,loadVar,Ev.j4 hO ha,hv2]
 ·cases hx
end
section
variable {w w':World} {I I':Nat->Prop} {β aM:ax} {cx:Ev.Cx} {G:Gx} {P:Program} {s:aN} {a:Act} {st eP:List an}
theorem Is.anywhere {x:PV} {v:Value} (h:x.Is w I (fun _=>none) v):x.Is w I β v:=PV.Is.mono (fun _ h=>h) (fun _ _=>rfl) x _ β v (fun _ _ _ h=>by cases h) h
theorem lH (h:aL I β st w) {l:Nat} {b:an} {p:tI} {g o:Nat} (hb:st[l]?=some b) (hm:b.mem=true) (hp:β l=some p) (ha:p.a=some (g,o)) :
  ∃ arr ty fr,w.heap[g]?=some (.cells arr ty fr)/\bg w I β b.cs arr o/\Own I β st l g fr b:=by
 unfold an.mem at hm
 simp only[Bool.and_eq_true] at hm
 obtain⟨q,hq,hk⟩:=h.iI l b hb hm.1
 rw[hp] at hq
 cases hq
 have Bk:=hm.2
 split at hk
 ·obtain⟨g',o',arr,ty,fr,fW,hh,hc,ho⟩:=hk
  rw[ha] at fW; cases fW; exact⟨arr,ty,fr,hh,hc,ho⟩
 ·obtain⟨g',arr,fr,fW,hh,hc,ho,_⟩:=hk
  rw[ha] at fW; cases fW; exact⟨arr,_,fr,hh,hc,ho⟩
 ·rename_i jC; rw[jC] at Bk; cases Bk
 ·rename_i jC; rw[jC] at Bk; cases Bk
theorem bg.load {cs:List PV} {arr:Array Value} {g o:Nat} {ty:TypeId} {fr:Nat × Nat} (h:bg w I β cs arr o) (hh:w.heap[g]?=some (.cells arr ty fr)):∀ j c,cs[j]?=some c->∃ v,w.cell? ⟨g,o+j,none⟩=some v/\c.Is w I β v:=fun j c hc=>by
 obtain⟨v,hv,hi,_⟩:=h j c hc
 exact⟨v,by rw[Ev.dZ hh]; exact hv,hi⟩
theorem c8.load {cs:List PV} {g o:Nat} (h:c8 w I cs g o):∀ j c,cs[j]?=some c->∃ v,w.cell? ⟨g,o+j,none⟩=some v/\c.Is w I β v:=fun j c hc=>by
 obtain⟨v,hv,hi,_⟩:=h.get hc
 exact⟨v,hv,Is.anywhere hi⟩
theorem K5 (hO:Ev.hC cx) {t:TypeId} {g o:Nat} {v:Value} (ha:Ev.gD cx t=some false) (hc:w.cell? ⟨g,o,none⟩=some v):(Instr.loadAt t (.pointer (some ⟨g,o,none⟩))).run cx.P w = .ok v w:=by
 simp[Instr.loadAt,Instr.sureAddr,loadVar,Ev.j4 hO ha,hc]
theorem ny (hO:Ev.hC G.cx) (hh:aL I β st w) (hM:d_ G I w) {t:TypeId} {x:PV} {u:Value} {q:PV->Prop} (h:tK G st t x q) (hx:x.Is w I β u) :
  ∃ z v g,q z/\z.Is w I β v/\(I g\/∃ l b p o,x.iI=some l/\st[l]?=some b/\b.live=true/\β l=some p/\p.a=some (g,o))/\∀ w2:World,w2.heap[g]?=w.heap[g]?->(Instr.loadAt t u).run G.cx.P w2 = .ok v w2:=by
 have idx:∀ {cs:List PV} {g o off n:Nat} {i:Int},(∀ j c,cs[j]?=some c->∃ v,w.cell? ⟨g,o+j,none⟩=some v/\c.Is w I β v) ->
   ((∃ m:Nat,i=m/\part G.cx t cs (off+m*n) q)\/(Ev.gD G.cx t=some false/\0<=i/\off+i.toNat*n < cs.length/\∀ c,cs[off+i.toNat*n]?=some c->q c))->∃ z v,q z/\z.Is w I β v/\∀ w2:World,w2.heap[g]?=w.heap[g]?->(Instr.loadAt t (.pointer (some ⟨g,o+(off+i.toNat*n),none⟩))).run G.cx.P w2 = .ok v w2:=by
  intro cs g o off n i hc h
  rcases h with ⟨m,rfl,h⟩|⟨ha,h0,ch,h⟩
  ·exact lG hO h hc
  ·obtain⟨v,hv,hi⟩:=hc _ _ (List.getElem?_eq_getElem ch)
   exact⟨_,v,h _ (List.getElem?_eq_getElem ch),hi,fun w2 mu=>K5 hO ha ((World.cell?_of_block (a:=⟨g,o+(off+i.toNat*n),none⟩) mu).trans hv)⟩
 unfold tK at h
 split at h<;>try simp only[PV.Is] at hx
 ·replace h:=au h
  obtain⟨b,hb,h⟩:=h
  replace h:=aZ h
  obtain⟨hm,h⟩:=h
  obtain⟨p,g,o,hp,ha,rfl⟩:=hx
  obtain⟨arr,ty,fr,iX,hc,_⟩:=lH hh hb hm hp ha
  obtain⟨z,v,h1,h2,h3⟩:=lG hO h (hc.load iX)
  exact⟨z,v,g,h1,h2,.inr ⟨_,b,p,o,rfl,hb,by unfold an.mem at hm; simp only[Bool.and_eq_true] at hm; exact hm.1,hp,ha⟩,h3⟩
 ·replace h:=au h
  obtain⟨b,hb,h⟩:=h
  replace h:=aZ h
  obtain⟨hm,h⟩:=h
  obtain⟨p,g,o,hp,ha,rfl⟩:=hx
  obtain⟨arr,ty,fr,iX,hc,_⟩:=lH hh hb hm hp ha
  obtain⟨z,v,h1,h2,h3⟩:=idx (hc.load iX) h
  exact⟨z,v,g,h1,h2,.inr ⟨_,b,p,o,rfl,hb,by unfold an.mem at hm; simp only[Bool.and_eq_true] at hm; exact hm.1,hp,ha⟩,h3⟩
 ·rename_i l i n off
  replace h:=au h
  obtain⟨b,hb,h⟩:=h
  split at h
  ·rename_i hk
   replace h:=aZ h
   obtain⟨hc,α,l',enc,jA,hi,h⟩:=h
   simp only[Bool.and_eq_true] at hc
   have hn:b.size=n:=Nat.eq_of_beq_eq_true hc.2
   obtain⟨p,g,o,hp,ha,rfl⟩:=hx
   obtain⟨_,hlen,hle,_,pg⟩:=da hh hb hc.1 hk hp
   rcases pg with ⟨fW,_⟩|⟨g',arr,fr,fW,_,iX,mq,_⟩
   ·rw[ha] at fW; cases fW
   ·rw[ha] at fW
    cases fW
    have he:b.cs[i]?=some (enc l'[i]):=by rw[jA,List.getElem?_map,List.getElem?_eq_getElem hi]; rfl
    have KZ:=mq.get he
    obtain⟨z,v,h1,h2,h3⟩:=lG (β:=β) hO (h _ (List.getElem?_eq_getElem hi)) (c8.load KZ.2)
    rw[hn,Nat.add_assoc] at h3
    exact⟨z,v,g,h1,h2,.inr ⟨_,b,p,0,rfl,hb,hc.1,hp,ha⟩,h3⟩
  ·exact h.elim
 ·obtain⟨g,o,rfl,hg,hc⟩:=hx
  obtain⟨z,v,h1,h2,h3⟩:=lG (β:=β) hO h hc.load
  exact⟨z,v,g,h1,h2,.inl hg,h3⟩
 ·subst hx
  replace h:=au h
  obtain⟨cs,jA,h⟩:=h
  obtain⟨hg,hc⟩:=hM.vn _ _ (Ev.jT jA)
  obtain⟨z,v,h1,h2,h3⟩:=lG (β:=β) hO h (c8.load hc)
  rw[Nat.zero_add] at h3
  exact⟨z,v,_,h1,h2,.inl hg,h3⟩
 ·subst hx
  replace h:=au h
  obtain⟨cs,jA,h⟩:=h
  obtain⟨hg,hc⟩:=hM.vn _ _ (Ev.jT jA)
  obtain⟨z,v,h1,h2,h3⟩:=idx (c8.load hc) h
  rw[Nat.zero_add] at h3
  exact⟨z,v,_,h1,h2,.inl hg,h3⟩
 ·exact h.elim
theorem PG {cs new r:List PV} {arr:Array Value} {o off:Nat} {vs:List Value} (h:KH cs new off=some r) (hc:bg w I β cs arr o) (hn:bp w I new β vs) (h1:∀ v∈vs,v.oneCell'=true) (fY:o+off+vs.length<=arr.size) :
  bg w I β r (arr.toList.take (o+off)++vs++arr.toList.drop (o+off+vs.length)).toArray o:=by
 unfold KH at h
 split at h
 ·rename_i hle
  have hle:=Nat.le_of_ble_eq_true hle
  cases h
  intro j x hx
  have hl:=hn.length
  simp only[List.getElem?_toArray]
  have eU:(arr.toList.take (o+off)).length=o+off:=by simp; omega
  by_cases hj:j < off
  ·rw[List.append_assoc,List.getElem?_append_left (by simp; omega),List.getElem?_take,if_pos hj] at hx
   obtain⟨v,hv,hi,ho⟩:=hc j x hx
   refine⟨v,?_,hi,ho⟩
   rw[List.append_assoc,List.getElem?_append_left (by rw[eU]; omega),List.getElem?_take,if_pos (by omega)]
   simpa using hv
  ·by_cases D0:j < off+new.length
   ·rw[List.getElem?_append_left (by simp; omega),List.getElem?_append_right (by simp; omega)] at hx
    have ht:(cs.take off).length=off:=by simp; omega
    rw[ht] at hx
    obtain⟨v,hv,hi⟩:=hn.get hx
    refine⟨v,?_,hi,h1 v (List.mem_of_getElem? hv)⟩
    rw[List.getElem?_append_left (by simp; omega),List.getElem?_append_right (by rw[eU]; omega),eU,show o+j - (o+off)=j - off by omega]
    exact hv
   ·rw[List.getElem?_append_right (by simp; omega),List.getElem?_drop] at hx
    have ht:(cs.take off++new).length=off+new.length:=by simp; omega
    rw[ht,show off+new.length+(j - (off+new.length))=j by omega] at hx
    obtain⟨v,hv,hi,ho⟩:=hc j x hx
    refine⟨v,?_,hi,ho⟩
    have h2:(arr.toList.take (o+off)++vs).length=o+off+vs.length:=by simp; omega
    rw[List.getElem?_append_right (by rw[h2]; omega),h2,List.getElem?_drop,show o+off+vs.length+(o+j - (o+off+vs.length))=o+j by omega]
    simpa using hv
 ·cases h
theorem nz (b:an) (cs:List PV):(b.fX cs).k=b.k/\(b.fX cs).ty=b.ty/\(b.fX cs).size=b.size/\(b.fX cs).m=b.m/\(b.fX cs).live=b.live/\(b.fX cs).cs=cs:=by
 cases b; exact⟨rfl,rfl,rfl,rfl,rfl,rfl⟩
theorem sF {b:an} (h:b.can=true):b.live=true/\b.m = .w:=by
 unfold an.can at h
 simp only[Bool.and_eq_true] at h
 refine⟨h.1,?_⟩
 have:=h.2
 cases hm:b.m<;>rw[hm] at this<;>first|rfl|cases this
theorem PH {v:PV} {u:Value} (he:v.elem=true) (h:v.Is w I β u):(∀ ts,v≠.tup ts)/\∀ (j:Nat) (c:PV),v.cells[j]?=some c->∃ y,u.cells.toList[j]?=some y/\c.Is w I (fun _=>none) y/\y.oneCell'=true:=by
 have nr:∀ {c:PV} {y:Value},c.pz=true->c.Is w I β y->c.Is w I (fun _=>none) y/\y.oneCell'=true:=fun hc hi=>by
  refine⟨?_,jj (hi.flat (by rename_i c _; cases c<;>first|rfl|cases hc))⟩
  refine PV.Is.mono (fun _ h=>h) (fun _ _=>rfl) _ β _ _ (fun l p hl=>?_) hi
  rename_i c _
  cases c<;>simp_all [PV.c9,PV.pz]
 have FZ:∀ ts,v≠.tup ts:=fun ts e=>by subst e; cases he
 refine⟨FZ,fun j c hc=>?_⟩
 obtain⟨y,hy,hi⟩:=(h.nt FZ).get hc
 refine⟨y,hy,nr ?_ hi⟩
 cases v with
 | agg cs =>
  simp only[PV.elem,List.all_eq_true] at he
  exact he c (List.mem_of_getElem? hc)
 | _ =>
  simp only[PV.cells] at hc
  cases j with
  | zero=>simp at hc; subst hc; exact he
  | succ j=>simp at hc
theorem PI {x:PV} {y:Value} (FZ:∀ ts,x≠.tup ts) (h:x.Is w I β y) (h1:∀ c∈x.cells,c.lC=true):∀ z∈y.cells.toList,z.oneCell'=true:=by
 intro z hz
 obtain⟨k,hk,hkz⟩:=List.getElem_of_mem hz
 have hl:=(h.nt FZ).length
 have jC:k < x.cells.length:=by omega
 obtain⟨z',Si,TX⟩:=(h.nt FZ).get (List.getElem?_eq_getElem jC)
 rw[List.getElem?_eq_getElem hk,hkz] at Si
 cases Si
 exact jj (TX.flat (h1 _ (List.getElem_mem jC)))
end
end Go.Proofs.YtnbhdacpogplgaaGreatDoor.Pw

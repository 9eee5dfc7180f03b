/- What this claim is proved with: no condition. -/
import Derived.Test.YtbnoodjnpooocaaGreatDoorNw3
import Derived.ChangeKeysEq
set_option linter.unusedVariables false
set_option linter.unusedSimpArgs false
namespace Go.Proofs.YtbnoodjnpooocaaGreatDoor.Pw
open Go Go.RowKit
section
variable {w:World} {I:Nat->Prop} {β:an} {cx:Ev.Cx} {G:Gx} {P:Program} {s:aD} {a:Act}
theorem C_ (hO:Ev.fR cx) {t:TypeId} {cs:List PV} {off:Nat} {q:PV->Prop} {vs:Array Value} (h:part cx t cs off q) (hc:bg w I cs β vs.toList) :
  ∃ x v,q x/\x.Is w I β v/\∀ w',(Go.part t vs off).run cx.P w' = .ok v w':=by
 replace h:=ao h
 obtain⟨x,hx,h⟩:=h
 obtain⟨v,h1,h2⟩:=lZ hO hx hc
 exact⟨x,v,Bt h,h1,h2⟩
theorem HL {p q:Prop}:pb (p/\q)=(pb p && pb q):=by
 by_cases hp:p<;>by_cases hq:q
 ·rw[cv ⟨hp,hq⟩,cv hp,cv hq]; rfl
 ·rw[bT fun h=>hq h.2,cv hp,bT hq]; rfl
 ·rw[bT fun h=>hp h.1,bT hp]; rfl
 ·rw[bT fun h=>hp h.1,bT hp]; rfl
theorem xf {p q:Prop}:pb (p↔q)=(pb p == pb q):=by
 by_cases hp:p<;>by_cases hq:q
 ·rw[cv ⟨fun _=>hq,fun _=>hp⟩,cv hp,cv hq]; rfl
 ·rw[bT fun h=>hq (h.1 hp),cv hp,bT hq]; rfl
 ·rw[bT fun h=>hp (h.2 hq),bT hp,cv hq]; rfl
 ·rw[cv ⟨fun h=>absurd h hp,fun h=>absurd h hq⟩,bT hp,bT hq]; rfl
theorem Da (hO:Ev.fR cx) {r:TypeId->PV->PV->Option Prop} {d:Nat} {xs ys:List PV} {us vs:Array Value} (hx:bg w I xs β us.toList) (hy:bg w I ys β vs.toList)
  (hr:∀ t a b p u v,r t a b=some p->a.Is w I β u->b.Is w I β v->∀ w',(Op.equalIn d t u v).run cx.P w' = .ok (pb p) w') :
  ∀ {fs:List Field} {p:Prop},(fs.all fun f=>decide (f.name≠ "_"))=true->uO r cx xs ys fs=some p->∀ w',(Op.eqFields d us vs fs).run cx.P w' = .ok (pb p) w'
 | [],p,_,h,w'=>by
  simp only[uO,Option.some.injEq] at h
  subst h
  rw[cv trivial]; rfl
 | f::fs,p,hn,h,w'=>by
  rw[List.all_cons,Bool.and_eq_true] at hn
  unfold uO at h
  split at h
  ·rename_i a b ha hb
   split at h
   ·rename_i e1 e2 h1 h2
    cases h
    obtain⟨u,hu,ru⟩:=lZ hO ha hx
    obtain⟨v,hv,rv⟩:=lZ hO hb hy
    have rq1:=hr _ _ _ _ _ _ h1 hu hv
    have rq2:=Da hO hx hy hr hn.2 h2
    have cN:f.name≠ "_":=by simpa using hn.1
    simp only[Op.eqFields,if_pos cN,Sem.run_bind,ru,rv,rq1,Result.andThen_ok,Sem.run_ite,rq2,Sem.run_pure,HL]
    cases pb e1<;>simp
   ·cases h
  ·cases h
theorem sI (hO:Ev.fR cx) {r:TypeId->PV->PV->Option Prop} {d c:Nat} {e:TypeId} {xs ys:List PV} {us vs:Array Value} (hx:bg w I xs β us.toList) (hy:bg w I ys β vs.toList)
  (hr:∀ t a b p u v,r t a b=some p->a.Is w I β u->b.Is w I β v->∀ w',(Op.equalIn d t u v).run cx.P w' = .ok (pb p) w') :
  ∀ (k i:Nat) {p:Prop},kQ r cx e c xs ys k (i*c)=some p->∀ w',(Op.eqItems d e c us vs (List.range' i k)).run cx.P w' = .ok (pb p) w'
 | 0,i,p,h,w'=>by
  simp only[kQ,Option.some.injEq] at h
  subst h
  rw[cv trivial]; rfl
 | k+1,i,p,h,w'=>by
  unfold kQ at h
  split at h
  ·rename_i a b ha hb
   split at h
   ·rename_i e1 e2 h1 h2
    cases h
    obtain⟨u,hu,ru⟩:=lZ hO ha hx
    obtain⟨v,hv,rv⟩:=lZ hO hb hy
    have rq1:=hr _ _ _ _ _ _ h1 hu hv
    have rq2:=sI hO hx hy hr k (i+1) (by rw[Nat.succ_mul]; exact h2)
    simp only[List.range'_succ,Op.eqItems,Sem.run_bind,ru,rv,rq1,Result.andThen_ok,Sem.run_ite,rq2,Sem.run_pure,HL]
    cases pb e1<;>simp
   ·cases h
  ·cases h
theorem xg (hO:Ev.fR cx):∀ (n d:Nat),n<=d->∀ (t:TypeId) (a b:PV) (p:Prop) (u v:Value),G4 cx n t a b=some p->a.Is w I β u->b.Is w I β v ->
  ∀ w',(Op.equalIn d t u v).run cx.P w' = .ok (pb p) w'
 | 0,_,_,_,_,_,_,_,_,h,_,_=>by simp[G4] at h
 | n+1,0,hd,_,_,_,_,_,_,_,_,_=>by omega
 | n+1,d+1,hd,t,a,b,p,u,v,h,ha,hb=>by
  intro w'
  unfold G4 at h
  split at h
  ·rename_i k hu
   split at h
   ·rename_i b1 k1 x b2 k2 y hax yP
    split at h
    ·rename_i hk
     simp only[decide_eq_true_eq] at hk
     subst hk
     cases h
     rw[PV.nO hax ha,PV.nO yP hb,run_equalIn_int w' d t k1 k x y (hO.un hu),HB]; rfl
    ·cases h
   ·cases h
  ·rename_i hu
   split at h
   ·rename_i p1 p2 hax yP
    cases h
    rw[PV.C' hax ha,PV.C' yP hb,run_equalIn_bool' w' d t _ _ (hO.un hu),xf]
   ·cases h
  ·rename_i fs hu
   split at h
   ·rename_i xs ys
    split at h
    ·rename_i hc
     simp only[PV.Is] at ha hb
     obtain⟨us,rfl,xh⟩:=ha
     obtain⟨vs,rfl,Db⟩:=hb
     obtain⟨t',Bc,Za⟩:=List.any_eq_true.1 hc
     have:t=t':=Nat.eq_of_beq_eq_true Za
     subst this
     obtain⟨_,Zb,Rz⟩:=hO.eq _ Bc
     have RA:cx.P.fieldsOf t=fs:=by unfold Program.fieldsOf; rw[hO.un hu]
     rw[run_equalIn_struct w' d t us vs (by rw[RA]; exact hO.un hu) Zb,RA]
     exact Da (d:=d) hO xh Db (fun t a b e u v h ha hb=>xg hO n d (by omega) t a b e u v h ha hb) (by rw[← RA]; exact Rz) h w'
    ·cases h
   ·cases h
  ·rename_i len elem hu
   split at h
   ·rename_i xs ys
    split at h
    ·rename_i c hc
     simp only[PV.Is] at ha hb
     obtain⟨us,rfl,xh⟩:=ha
     obtain⟨vs,rfl,Db⟩:=hb
     obtain⟨i,hi,hic⟩:=Ev.gw hO hc
     have nx:cx.P.cellsOf elem=c:=by unfold Program.cellsOf; rw[hi]; exact hic
     rw[run_equalIn_array w' d us vs (hO.un hu) hi,nx,List.range_eq_range']
     exact sI (d:=d) hO xh Db (fun t a b e u v h ha hb=>xg hO n d (by omega) t a b e u v h ha hb) len 0 (by rw[Nat.zero_mul]; exact h) w'
    ·cases h
   ·cases h
  ·cases h
theorem eP {st:List aj} (hR:aC I β st w) {l:Nat} {b:aj} {p:na} (hb:st[l]?=some b) (hl:b.live=true) (hk:b.k = .arr) (hp:β l=some p):∃ g arr fr,p.a=some (g,0)/\p.whole = .slice (some ⟨g,0,none⟩) p.len p.cap/\w.heap[g]?=some (.cells arr b.ty fr)/\bj w I β b.cs arr 0/\Own I β st l g fr b/\b.cs.length=p.len*b.size/\p.len<=p.cap/\p.cap<=maxLen/\arr.size=p.cap*b.size/\0 < b.size:=by
 obtain⟨q,hq,h⟩:=hR.dX l b hb hl
 rw[hp] at hq
 cases hq
 rw[hk] at h
 obtain⟨g,arr,fr,ha,h⟩:=h
 exact⟨g,arr,fr,ha,by unfold na.whole; rw[ha],h⟩
theorem dO {st:List aj} (hR:aC I β st w) {l:Nat} {b:aj} {p:na} (hb:st[l]?=some b) (hl:b.live=true) (hk:b.k = .dyn) (hp:β l=some p):0 < b.size/\b.cs.length=p.len/\p.len<=p.cap/\p.cap<=maxLen/\((p.a=none/\p.cap=0/\p.whole = .slice none 0 0)\/∃ g arr fr,p.a=some (g,0)/\p.whole = .slice (some ⟨g,0,none⟩) p.len p.cap/\w.heap[g]?=some (.cells arr b.ty fr)/\ca w I b.cs b.size g 0/\Own I β st l g fr b/\arr.size=p.cap*b.size):=by
 obtain⟨q,hq,h⟩:=hR.dX l b hb hl
 rw[hp] at hq
 cases hq
 rw[hk] at h
 obtain⟨⟨h1,h2,h3,h4⟩,h⟩:=h
 refine⟨h1,h2,h3,h4,?_⟩
 rcases h with ⟨ha,hc⟩|⟨g,arr,fr,ha,h⟩
 ·exact .inl ⟨ha,hc,by unfold na.whole; rw[ha]⟩
 ·exact .inr ⟨g,arr,fr,ha,by unfold na.whole; rw[ha],h⟩
theorem HM (hO:Ev.fR cx) (hR:aC I β s.st w) {op:BinOp} {t e:TypeId} {x:PV} {u:Value} {q:PV->Prop} (hu:cx.fg t=some (.slice e)) (h:y3 s.st op x q) (hx:x.Is w I β u) :
  ∃ y v,q y/\y.Is w I β v/\(∀ f g:Operand,eqGuard op t f g u (.slice none 0 0)=pure ())/\∀ w',(binOp op t u (.slice none 0 0)).run cx.P w' = .ok v w':=by
 have gen:∀ {ad:Option Addr} {n c:Nat},u = .slice ad n c->y2 op ad.isNone q->∃ y v,q y/\y.Is w I β v/\(∀ f g:Operand,eqGuard op t f g u (.slice none 0 0)=pure ())/\∀ w',(binOp op t u (.slice none 0 0)).run cx.P w' = .ok v w':=by
  intro ad n c Bv h
  subst Bv
  obtain⟨y,v,h1,h2,h3⟩:=xe (P:=cx.P) (t:=t) (u:=.slice ad n c) (v:=.slice none 0 0) (w:=w) (I:=I) (β:=β) h (fun _ w'=>by simp only[binOp]; simp[Op.equal,Op.maxDepth,Lib.run_equalIn_slice_nil w' 9999 t e ad n c 0 0 (hO.un hu)]) (fun _ w'=>run_neq_slice_nil_any w' t e _ _ _ _ _ (hO.un hu))
  exact⟨y,v,h1,h2,fun f g=>eqGuard_at_slice _ _ _ _ _ _ _ _,h3⟩
 unfold y3 at h
 split at h
 ·simp only[PV.Is] at hx
  exact gen hx h
 ·simp only[PV.Is] at hx
  obtain⟨p,g,o,cap,_,_,rfl,_⟩:=hx
  exact gen rfl h
 ·rename_i l
  replace h:=ao h
  obtain⟨b,hb,h⟩:=h
  replace h:=ba h
  obtain⟨hl,h⟩:=h
  simp only[PV.Is] at hx
  obtain⟨p,hp,rfl⟩:=hx
  split at h
  ·rename_i hk
   obtain⟨g,arr,fr,_,hw,_⟩:=eP hR hb hl hk hp
   exact gen hw h
  ·rename_i hk
   obtain⟨_,h1,h2,_,h3⟩:=dO hR hb hl hk hp
   rcases h with ⟨cN,h⟩|⟨ht,hf⟩
   ·rcases h3 with ⟨_,hc,_⟩|⟨g,arr,fr,_,hw,_⟩
    ·omega
    ·exact gen hw h
   ·rcases h3 with ⟨_,hc,hw⟩|⟨g,arr,fr,_,hw,_⟩
    ·exact gen hw ht
    ·exact gen hw hf
  ·exact h.elim
 ·rename_i es
  simp only[PV.Is] at hx
  obtain⟨ad,cap,rfl,_,_,_,h4⟩:=hx
  rcases h with ⟨cN,h⟩|⟨ht,hf⟩
  ·obtain⟨g,o,rfl,_⟩:=h4 cN
   exact gen rfl h
  ·cases ad with
   | none=>exact gen rfl ht
   | some a=>exact gen rfl hf
 ·exact h.elim
theorem M5 (hO:Ev.fR cx) (hR:aC I β s.st w) {op:BinOp} {t:TypeId} {x y:PV} {u v:Value} {q:PV->Prop} (h:HG cx s.st op t x y q) (hx:x.Is w I β u) (hy:y.Is w I β v) :
  ∃ z r,q z/\z.Is w I β r/\(∀ (f g:Operand) (w':World),(eqGuard op t f g u v).run cx.P w' = .ok () w')/\∀ w',(binOp op t u v).run cx.P w' = .ok r w':=by
 have vv:∀ {u v:Value},(∀ f g:Operand,eqGuard op t f g u v=pure ())->∀ (f g:Operand) (w':World),(eqGuard op t f g u v).run cx.P w' = .ok () w':=fun h f g w'=>by rw[h]; rfl
 unfold HG at h
 split at h
 ·rename_i sx k a hxa
  replace h:=ao h
  obtain⟨⟨sy,k',b⟩,hyb,h⟩:=h
  rw[PV.nO hxa hx,PV.nO hyb hy]
  obtain⟨z,r,h1,h2,h3⟩:=M4 (P:=cx.P) (t:=t) (w:=w) (I:=I) (β:=β) h
  exact⟨z,r,h1,h2,vv fun f g=>eqGuard_at_int _ _ _ _ _ _ _,h3⟩
 ·replace h:=ao h
  obtain⟨d,hu,h⟩:=h
  split at h
  ·replace h:=ao h
   obtain⟨p,hp,h⟩:=h
   replace h:=ao h
   obtain⟨p',dM,h⟩:=h
   rw[PV.C' hp hx,PV.C' dM hy]
   obtain⟨z,r,h1,h2,h3⟩:=Bu (P:=cx.P) (t:=t) (u:=.bool (pb p)) (v:=.bool (pb p')) (w:=w) (I:=I) (β:=β) h
    (fun _ w'=>by rw[Ev.MX rfl (run_equal_bool w' t _ _ (hO.un hu)),xf]) (fun _ w'=>by rw[Ev.MY rfl (run_equal_bool w' t _ _ (hO.un hu)),xf])
   exact⟨z,r,h1,h2,vv fun f g=>eqGuard_at_bool _ _ _ _ _ _,h3⟩
  ·split at h
   ·simp only[PV.Is] at hx hy
    obtain⟨rfl,_⟩:=hx
    obtain⟨rfl,_⟩:=hy
    obtain⟨z,r,h1,h2,h3⟩:=xe (P:=cx.P) (t:=t) (u:=.string _) (v:=.string _) (w:=w) (I:=I) (β:=β) h (fun _ w'=>rfl) (fun _ w'=>rfl)
    exact⟨z,r,h1,h2,vv fun f g=>eqGuard_at_string _ _ _ _ _ _,h3⟩
   ·exact h.elim
  ·split at h
   ·simp only[PV.Is] at hy
    subst hy
    obtain⟨z,r,h1,h2,h3,h4⟩:=HM hO hR hu h hx
    exact⟨z,r,h1,h2,vv h3,h4⟩
   ·exact h.elim
  ·rename_i e
   have hpt:cx.P.underlying t=some (.pointer (cx.P.pointee t)):=by have:=hO.un hu; rw[this]; simp[Program.pointee,this]
   split at h
   ·simp only[PV.Is] at hx hy
    obtain⟨rfl,_⟩:=hx
    obtain⟨rfl,_⟩:=hy
    obtain⟨z,r,h1,h2,h3⟩:=xe (P:=cx.P) (t:=t) (u:=.pointer none) (v:=.pointer none) (w:=w) (I:=I) (β:=β) h (fun _ w'=>by rw[run_eql_pointer_nil w' t _ hpt]; rfl) (fun _ w'=>by rw[run_neq_pointer_nil w' t _ hpt]; rfl)
    exact⟨z,r,h1,h2,vv fun f g=>eqGuard_at_pointer _ _ _ _ _ _,h3⟩
   ·simp only[PV.Is] at hx hy
    obtain⟨rfl,_⟩:=hy
    obtain⟨p,g,o,_,_,rfl⟩:=hx
    obtain⟨z,r,h1,h2,h3⟩:=xe (P:=cx.P) (t:=t) (u:=.pointer (some ⟨g,o+_,none⟩)) (v:=.pointer none) (w:=w) (I:=I) (β:=β) h (fun _ w'=>by rw[run_eql_pointer_nil w' t _ hpt]; rfl) (fun _ w'=>by rw[run_neq_pointer_nil w' t _ hpt]; rfl)
    exact⟨z,r,h1,h2,vv fun f g=>eqGuard_at_pointer _ _ _ _ _ _,h3⟩
   ·exact h.elim
  ·split at h
   ·rename_i xs ys
    replace h:=ba h
    obtain⟨hc,h⟩:=h
    replace h:=ao h
    obtain⟨p,hp,h⟩:=h
    obtain⟨t',Bc,Za⟩:=List.any_eq_true.1 hc
    have:t=t':=Nat.eq_of_beq_eq_true Za
    subst this
    obtain⟨Bw,_,_⟩:=hO.eq _ Bc
    have he:=xg hO 6 10000 (by decide) t _ _ _ u v hp hx hy
    simp only[PV.Is] at hx hy
    obtain⟨us,rfl,_⟩:=hx
    obtain⟨vs,rfl,_⟩:=hy
    obtain⟨z,r,h1,h2,h3⟩:=Bu (P:=cx.P) (t:=t) (u:=.agg us) (v:=.agg vs) (w:=w) (I:=I) (β:=β) h (fun _ w'=>by rw[run_eql_struct,he]; rfl) (fun _ w'=>by rw[run_neq_struct,he]; rfl)
    exact⟨z,r,h1,h2,fun f g w'=>run_eqGuard_agg w' op t f g us vs Bw,h3⟩
   ·exact h.elim
  ·split at h
   ·rename_i xs ys
    replace h:=ba h
    obtain⟨hc,h⟩:=h
    replace h:=ao h
    obtain⟨p,hp,h⟩:=h
    obtain⟨t',Bc,Za⟩:=List.any_eq_true.1 hc
    have:t=t':=Nat.eq_of_beq_eq_true Za
    subst this
    obtain⟨Bw,_,_⟩:=hO.eq _ Bc
    have he:=xg hO 6 10000 (by decide) t _ _ _ u v hp hx hy
    simp only[PV.Is] at hx hy
    obtain⟨us,rfl,_⟩:=hx
    obtain⟨vs,rfl,_⟩:=hy
    obtain⟨z,r,h1,h2,h3⟩:=Bu (P:=cx.P) (t:=t) (u:=.agg us) (v:=.agg vs) (w:=w) (I:=I) (β:=β) h (fun _ w'=>by rw[run_eql_struct,he]; rfl) (fun _ w'=>by rw[run_neq_struct,he]; rfl)
    exact⟨z,r,h1,h2,fun f g w'=>run_eqGuard_agg w' op t f g us vs Bw,h3⟩
   ·exact h.elim
  ·exact h.elim
theorem RB {op:UnOp} {x:PV} {u:Value} {q:PV->Prop} (h:Y' op x q) (hx:x.Is w I β u):∃ z r,q z/\z.Is w I β r/\∀ w',(Op.unary op u).run P w' = .ok r w':=by
 unfold Y' at h
 split at h<;>try simp only[PV.Is] at hx
 ·subst hx
  refine⟨_,_,h,Is.lit,fun w'=>?_⟩
  rename_i k a
  rw[show -a=0 - a by omega]; rfl
 ·subst hx
  obtain⟨z,h,hz⟩:=rY (w:=w) (I:=I) (β:=β) h
  refine⟨z,_,h,hz,fun w'=>?_⟩
  rename_i k a _
  rw[show -a=0 - a by omega]; rfl
 ·subst hx; exact⟨_,_,h,Is.lit,fun w'=>rfl⟩
 ·subst hx; exact⟨_,_,h,Is.int,fun w'=>rfl⟩
 ·subst hx; exact⟨_,_,h,Is.ff,fun w'=>rfl⟩
 ·subst hx; exact⟨_,_,h,Is.tt,fun w'=>rfl⟩
 ·subst hx
  rename_i p
  refine⟨_,_,h,Is.bool,fun w'=>?_⟩
  by_cases hp:p
  ·rw[cv hp,bT fun h=>h hp]; rfl
  ·rw[bT hp,cv hp]; rfl
 ·exact h.elim
theorem HN (hO:Ev.fR cx) {src dst:TypeId} {x:PV} {u:Value} {q:PV->Prop} (h:Qu cx src dst x q) (hx:x.Is w I β u):∃ z r,q z/\z.Is w I β r/\∀ w',(convert src dst u).run cx.P w' = .ok r w':=by
 replace h:=ao h
 obtain⟨d1,hs,h⟩:=h
 replace h:=ao h
 obtain⟨d2,hd,h⟩:=h
 split at h<;>try simp only[PV.Is] at hx
 ·subst hx
  exact⟨_,_,h,Is.lit,fun w'=>by simp[convert,run_underlying (hO.un hs),run_underlying (hO.un hd),Conv.intToInt]⟩
 ·subst hx
  obtain⟨z,h,hz⟩:=rY (w:=w) (I:=I) (β:=β) h
  exact⟨z,_,h,hz,fun w'=>by simp[convert,run_underlying (hO.un hs),run_underlying (hO.un hd),Conv.intToInt]⟩
 ·exact h.elim
theorem gj (hO:Ev.fR cx) {t:TypeId} {q:List PV->Prop} (h:kR cx t q):∃ z i v,q z/\cx.P.info? t=some i/\i.zero=some v/\bg w I z β v.cells.toList:=by
 replace h:=ao h
 obtain⟨v,hv,h⟩:=h
 replace h:=sH (w:=w) (I:=I) (β:=β) h
 obtain⟨x,h,hx,hn⟩:=h
 rw[Option.bind_eq_some_iff] at hv
 obtain⟨ti,Ru,hz⟩:=hv
 obtain⟨i,hi,_,h2⟩:=hO.inf _ (Ev.dJ Ru)
 exact⟨_,i,v,h,hi,h2.trans hz,hx.lX hn⟩
theorem aD.cd (hR:Rel G I β s a w) {o:Operand} {q:PV->Prop} (h:s.ev o q):∃ x,q x/\x.Is w I β (a.eval o):=by
 cases o with
 | tmp t =>
  replace h:=ao h
  obtain⟨x,hx,h⟩:=h
  obtain⟨v,hv,hi⟩:=hR.get t x hx
  exact⟨x,h,by simp only[Act.eval,Array.getD_eq_getD_getElem?,hv,Option.getD_some]; exact hi⟩
 | const v =>
  replace h:=sH (w:=w) (I:=I) (β:=β) h
  obtain⟨x,h,hx,_⟩:=h
  exact⟨x,h,hx⟩
 | global g=>exact⟨_,h,by simp only[PV.Is,Act.eval]⟩
 | func f=>exact⟨_,h,by simp only[PV.Is,Act.eval]; exact⟨#[],rfl,by simp only[bg]⟩⟩
def xi (w:World) (I:Nat->Prop) (β:an):List (Nat × PV)->List (Nat × Value)->Prop
 | [],[]=>True
 | p::ps,v::vs=>(p.1=v.1/\p.2.Is w I β v.2/\∀ ts,p.2≠.tup ts)/\xi w I β ps vs
 | _,_=>False
theorem qd (hR:Rel G I β s a w):∀ {ps:List (Nat × Operand)} {q:List (Nat × PV)->Prop},nL s ps q->∃ l,q l/\xi w I β l (ps.map fun p=>(p.1,a.eval p.2))
 | [],q,h=>⟨[],h,trivial⟩
 | (i,o)::ps,q,h=>by
  replace h:=aD.cd hR h
  obtain⟨x,h,hx⟩:=h
  have key:(∀ ts,x≠.tup ts)/\nL s ps fun l=>q ((i,x)::l):=by
   cases x<;>first|exact h.elim|exact⟨(fun _ e=>by cases e),h⟩
  obtain⟨l,h,hl⟩:=qd hR key.2
  exact⟨_,h,⟨rfl,hx,key.1⟩,hl⟩
theorem oC {place:Nat->Option (Nat × Nat)} {q:List PV->Prop}:∀ {ps:List (Nat × PV)} {cells:List PV},ow place cells ps q->∃ cs,vq place cells ps=some cs/\q cs
 | [],cells,h=>⟨cells,rfl,h⟩
 | (i,v)::rest,cells,h=>by
  unfold ow at h
  unfold vq
  split at h
  ·exact h.elim
  ·rename_i off size hp
   obtain⟨hc,h⟩:=ba h
   obtain⟨cs,h1,h2⟩:=oC (cW h)
   refine⟨cs,?_,h2⟩
   simp only[hc,if_true]
   exact h1
theorem oD {place:Nat->Option (Nat × Nat)}:∀ {ps:List (Nat × PV)} {vs:List (Nat × Value)} {cells r:List PV} {A:Array Value},vq place cells ps=some r->bg w I cells β A.toList->xi w I β ps vs ->
  ∃ B,Instr.fill place A vs=some B/\bg w I r β B.toList
 | [],[],cells,r,A,h,hc,_=>by simp only[vq,Option.some.injEq] at h; subst h; exact⟨A,rfl,hc⟩
 | (i,x)::ps,(j,v)::vs,cells,r,A,h,hc,Yr=>by
  obtain⟨⟨hij,hx,Dc⟩,HO⟩:=Yr
  simp only at hij hx Dc
  subst hij
  unfold vq at h
  cases j3:place i with
  | none=>rw[j3] at h; cases h
  | some os =>
   obtain⟨off,size⟩:=os
   rw[j3] at h
   simp only at h
   split at h
   ·rename_i HP
    simp only[Bool.and_eq_true] at HP
    have h1:x.cells.length=size:=Nat.eq_of_beq_eq_true HP.1
    have h2:off+size<=cells.length:=Nat.le_of_ble_eq_true HP.2
    have Ys:=hx.lX Dc
    have hl:=Ys.length
    have xj:=hc.length
    simp only[Array.length_toList] at hl xj
    unfold Instr.fill
    rw[j3]
    simp only
    rw[if_neg (by simp; omega)]
    have key:=Ev.vn off v.cells.toList 0 A (by simp; omega)
    have qe:(v.cells.zipIdx.foldl (fun (cs:Array Value) (x:Value × Nat)=>cs.setIfInBounds (off+x.2) x.1) A).toList=A.toList.take off++v.cells.toList++A.toList.drop (off+size):=by
     rw[← Array.foldl_toList,Array.toList_zipIdx]
     rw[key]; simp; congr 2; omega
    refine oD h ?_ HO
    rw[qe]
    exact ((hc.take off).append Ys).append (hc.drop (off+size))
   ·cases h
 | [],_::_,_,_,_,_,_,h=>h.elim
 | _::_,[],_,_,_,_,_,h=>h.elim
theorem ET (hO:Ev.fR cx) (hR:Rel G I β s a w) {t:TypeId} {parts:Array (Nat × Operand)} {q:PV->Prop} (h:Bp cx s t parts.toList q) :
  ∃ x r,q x/\x.Is w I β r/\∀ w',(Instr.build t (parts.map fun (i,y)=>(i,a.eval y))).run cx.P w' = .ok r w':=by
 replace h:=gj (w:=w) (I:=I) (β:=β) hO h
 obtain⟨z,i,v,h,hi,Bx,rF⟩:=h
 replace h:=qd hR h
 obtain⟨ps,h,Yr⟩:=h
 replace h:=ao h
 obtain⟨d,hu,h⟩:=h
 split at h
 ·rename_i fs
  replace h:=ao h
  obtain⟨pl,j3,h⟩:=h
  replace h:=oC h
  obtain⟨l,hl,h⟩:=h
  obtain⟨B,hB,Zc⟩:=oD hl rF Yr
  refine⟨_,.agg B,cW h,by simp only[PV.Is]; exact⟨B,rfl,Zc⟩,fun w'=>run_build w' t _ B ?_⟩
  unfold Program.built
  simp only[hi,hO.un hu,Bx,Ev.vo hO j3]
  rw[← hB]; simp
 ·rename_i n elem
  replace h:=ao h
  obtain⟨sz,eL,h⟩:=h
  replace h:=oC h
  obtain⟨l,hl,h⟩:=h
  obtain⟨B,hB,Zc⟩:=oD hl rF Yr
  obtain⟨ie,hie,hie2⟩:=Ev.gw hO eL
  refine⟨_,.agg B,cW h,by simp only[PV.Is]; exact⟨B,rfl,Zc⟩,fun w'=>run_build w' t _ B ?_⟩
  unfold Program.built
  simp only[hi,hO.un hu,Bx,hie,hie2]
  rw[← hB]; simp
 ·exact h.elim
theorem uQ (hO:Ev.fR cx) {t:TypeId} {x:PV} {f:Nat} {u:Value} {q:PV->Prop} (h:nM cx t x f q) (hx:x.Is w I β u):∃ z r,q z/\z.Is w I β r/\∀ w',(Instr.fieldAt t u f).run cx.P w' = .ok r w':=by
 replace h:=ao h
 obtain⟨d,hu,h⟩:=h
 split at h
 ·rename_i fs
  replace h:=ao h
  obtain⟨fd,hfd,h⟩:=h
  replace h:=ao h
  obtain⟨n,hn,h⟩:=h
  replace h:=M1 h
  obtain⟨fS,h⟩:=h
  ·have RC:n≠0:=fun e=>by subst e; cases fS
   have RD:fs[f]?=some fd:=by simpa using hfd
   have bp:∀ (b o:Nat) w',(Instr.fieldAt t (.pointer (some ⟨b,o,none⟩)) f).run cx.P w' = .ok (.pointer (some ⟨b,o+fd.offset,none⟩)) w':=fun b o w'=>by
    simp[Instr.fieldAt,run_underlying (hO.un hu),RD,Instr.sureAddr,fieldPlace,Ev.di hO hn,RC,Ev.gx]
   split at h<;>try simp only[PV.Is] at hx
   ·obtain⟨p,g,o,hp,ha,rfl⟩:=hx
    exact⟨_,_,h,by simp only[PV.Is]; exact⟨p,g,o,hp,ha,rfl⟩,fun w'=>by rw[bp]; simp only[Nat.add_assoc]⟩
   ·obtain⟨p,g,o,hp,ha,rfl⟩:=hx
    exact⟨_,_,h,by simp only[PV.Is]; exact⟨p,g,o,hp,ha,rfl⟩,fun w'=>by rw[bp]; congr 4; omega⟩
   ·obtain⟨p,g,o,hp,ha,rfl⟩:=hx
    exact⟨_,_,h,by simp only[PV.Is]; exact⟨p,g,o,hp,ha,rfl⟩,fun w'=>by rw[bp]; congr 4; omega⟩
   ·obtain⟨g,o,rfl,hg,hc⟩:=hx
    exact⟨_,_,h,by simp only[PV.Is]; exact⟨g,o,rfl,hg,hc⟩,fun w'=>by rw[bp]; simp only[Nat.add_assoc]⟩
   ·subst hx
    exact⟨_,_,h,by simp only[PV.Is]; exact rfl,fun w'=>by rw[bp]⟩
   ·subst hx
    exact⟨_,_,h,by simp only[PV.Is]; exact rfl,fun w'=>by rw[bp]; congr 4; omega⟩
   ·exact h.elim
 ·exact h.elim
theorem hU {st:Bool} {i:Int} {len:Nat} {f:Nat->Prop} {g:Prop} (h:within st i len f g):0<=i/\i < len/\(f i.toNat\/g):=by
 cases st with
 | true =>
  replace h:=ba h
  obtain⟨hb,h⟩:=h
  simp only[Bool.and_eq_true,decide_eq_true_eq] at hb
  exact⟨hb.1,hb.2,.inl h⟩
 | false=>exact⟨h.1,h.2.1,.inr h.2.2⟩
theorem HQ {es:List PV} {i:Int} {q:PV->Prop} (h:Qv es i q):∃ e,0<=i/\i < es.length/\es[i.toNat]?=some e/\q e:=by
 obtain⟨α,l,enc,rfl,h0,h1,h⟩:=h
 have bZ:i.toNat < l.length:=by omega
 exact⟨_,h0,by simpa using h1,by rw[List.getElem?_map,List.getElem?_eq_getElem bZ]; rfl,h _ (List.getElem?_eq_getElem bZ)⟩
theorem uR (hO:Ev.fR cx) (hR:aC I β s.st w) {t:TypeId} {x i:PV} {u v:Value} {q:PV->Prop} (h:nN cx s.st t x i q) (hx:x.Is w I β u) (hi:i.Is w I β v) :
  ∃ z r,q z/\z.Is w I β r/\∀ w',(Instr.indexAt t u v).run cx.P w' = .ok r w':=by
 replace h:=ao h
 obtain⟨⟨st,k,n⟩,hn,h⟩:=h
 obtain rfl:=PV.nO hn hi
 replace h:=ao h
 obtain⟨d,hu,h⟩:=h
 try simp only at h
 split at h
 ·rename_i len elem
  replace h:=ao h
  obtain⟨size,hs,h⟩:=h
  have bp:∀ (b o:Nat),0<=n->n < len->∀ w',(Instr.indexAt t (.pointer (some ⟨b,o,none⟩)) (.int k n)).run cx.P w' = .ok (.pointer (some ⟨b,o+n.toNat*size,none⟩)) w':=fun b o h0 h1 w'=>by
   simp[Instr.indexAt,Instr.sureAddr,asIntOf,run_underlying (hO.un hu),h0,h1,Ev.di hO hs,Ev.gx]
  split at h<;>try simp only[PV.Is] at hx
  ·obtain⟨p,g,o,hp,ha,rfl⟩:=hx
   replace h:=hU h
   obtain⟨h0,h1,h|h⟩:=h
   ·exact⟨_,_,h,by simp only[PV.Is]; exact⟨p,g,o,hp,ha,rfl⟩,fun w'=>by rw[bp _ _ h0 h1]; simp only[Nat.add_assoc]⟩
   ·exact⟨_,_,h,by simp only[PV.Is]; exact⟨p,g,o,hp,ha,rfl⟩,fun w'=>by rw[bp _ _ h0 h1]; simp only[Nat.add_assoc]⟩
  ·subst hx
   replace h:=hU h
   obtain⟨h0,h1,h|h⟩:=h
   ·exact⟨_,_,h,by simp only[PV.Is]; exact rfl,fun w'=>by rw[bp _ _ h0 h1]⟩
   ·exact⟨_,_,h,by simp only[PV.Is]; exact rfl,fun w'=>by rw[bp _ _ h0 h1]⟩
  ·obtain⟨g,o,rfl,hg,hc⟩:=hx
   replace h:=hU h
   obtain⟨h0,h1,h|h⟩:=h
   ·exact⟨_,_,h,by simp only[PV.Is]; exact⟨g,o,rfl,hg,hc⟩,fun w'=>by rw[bp _ _ h0 h1]; simp only[Nat.add_assoc]⟩
   ·exact h.elim
  ·exact h.elim
 ·rename_i elem
  replace h:=ao h
  obtain⟨size,hs,h⟩:=h
  have bp:∀ (b o len cap:Nat),0<=n->n < len->∀ w',(Instr.indexAt t (.slice (some ⟨b,o,none⟩) len cap) (.int k n)).run cx.P w' = .ok (.pointer (some ⟨b,o+n.toNat*size,none⟩)) w':=fun b o len cap h0 h1 w'=>by
   simp[Instr.indexAt,asIntOf,run_underlying (hO.un hu),h0,h1,Ev.di hO hs,Ev.gx]
  split at h<;>try simp only[PV.Is] at hx
  ·rename_i m es
   replace h:=ba h
   obtain⟨hm,h⟩:=h
   have hms:m=size:=Nat.eq_of_beq_eq_true hm
   replace h:=HQ h
   obtain⟨e,h0,h1,he,h⟩:=h
   obtain⟨ad,cap,rfl,_,_,h2,h3⟩:=hx
   obtain⟨g,o,rfl,hg,_⟩:=h3 (by omega)
   have HR:=(h2 g o rfl).get he
   exact⟨_,_,cW h,by simp only[PV.Is]; exact⟨g,o+n.toNat*m,rfl,hg,HR.2⟩,fun w'=>by rw[bp _ _ _ _ h0 h1,hms]; rfl⟩
  ·obtain⟨p,g,o,cap,hp,ha,rfl,_⟩:=hx
   cases hd:C7 s.st _ with
   | true =>
    rw[hd] at h
    obtain⟨lT,h⟩:=ba (show bif true then _ else _ from h) |>.2 |> ba
    have lT:=Nat.eq_of_beq_eq_true lT
    subst lT
    replace h:=hU h
    obtain⟨h0,h1,h|h⟩:=h
    ·exact⟨_,_,h,by simp only[PV.Is]; exact⟨p,g,o,hp,ha,rfl⟩,fun w'=>by rw[bp _ _ _ _ h0 h1]; simp only[Nat.add_assoc,Nat.mul_one,Nat.add_zero]⟩
    ·exact⟨_,_,h,by simp only[PV.Is]; exact⟨p,g,o,hp,ha,rfl⟩,fun w'=>by rw[bp _ _ _ _ h0 h1]; simp only[Nat.add_assoc,Nat.mul_one,Nat.add_zero]⟩
   | false =>
    rw[hd,cond_false] at h
    replace h:=hU h
    obtain⟨h0,h1,h|h⟩:=h
    ·exact⟨_,_,h,by simp only[PV.Is]; exact⟨p,g,o,hp,ha,rfl⟩,fun w'=>by rw[bp _ _ _ _ h0 h1]; simp only[Nat.add_assoc]⟩
    ·exact⟨_,_,h,by simp only[PV.Is]; exact⟨p,g,o,hp,ha,rfl⟩,fun w'=>by rw[bp _ _ _ _ h0 h1]; simp only[Nat.add_assoc]⟩
  ·rename_i l
   replace h:=ao h
   obtain⟨b,hb,h⟩:=h
   replace h:=ba h
   obtain⟨hc,h⟩:=h
   simp only[Bool.and_eq_true] at hc
   have eL:b.size=size:=Nat.eq_of_beq_eq_true hc.1.2
   obtain⟨p,hp,rfl⟩:=hx
   split at h
   ·rename_i hk
    obtain⟨g,arr,fr,ha,hw,_,_,_,hlen,_,_,_,HS⟩:=eP hR hb hc.1.1 hk hp
    rw[hw]
    rw[gA,Nat.zero_add] at h
    have hq:b.cs.length / size=p.len:=by rw[hlen,eL]; exact Nat.mul_div_cancel _ (by omega)
    rw[hq] at h
    replace h:=hU h
    obtain⟨h0,h1,h|h⟩:=h
    ·exact⟨_,_,h,by simp only[PV.Is]; exact⟨p,g,0,hp,ha,rfl⟩,fun w'=>by rw[bp _ _ _ _ h0 h1]⟩
    ·exact⟨_,_,h,by simp only[PV.Is]; exact⟨p,g,0,hp,ha,rfl⟩,fun w'=>by rw[bp _ _ _ _ h0 h1]; congr 4; omega⟩
   ·rename_i hk
    obtain⟨h0,h1,h⟩:=h
    obtain⟨_,hlen,hle,_,oE⟩:=dO hR hb hc.1.1 hk hp
    rcases oE with ⟨_,rZ,_⟩|⟨g,arr,fr,ha,hw,_⟩
    ·omega
    ·rw[hw]
     exact⟨_,_,h,by simp only[PV.Is]; exact⟨p,g,0,hp,ha,rfl⟩,fun w'=>by rw[bp _ _ _ _ h0 (by omega)]; congr 4⟩
   ·exact h.elim
  ·exact h.elim
 ·exact h.elim
theorem EU (hO:Ev.fR cx) {t:TypeId} {x i:PV} {u v:Value} {q:PV->Prop} (h:Bq cx t x i q) (hx:x.Is w I β u) (hi:i.Is w I β v) :
  ∃ z r,q z/\z.Is w I β r/\∀ w',(Instr.index t u v).run cx.P w' = .ok r w':=by
 replace h:=ao h
 obtain⟨⟨st,k,n⟩,hn,h⟩:=h
 obtain rfl:=PV.nO hn hi
 replace h:=ao h
 obtain⟨d,hu,h⟩:=h
 try simp only at h
 split at h<;>try simp only[PV.Is] at hx
 ·rename_i len elem cs
  obtain⟨vs,rfl,hc⟩:=hx
  replace h:=ao h
  obtain⟨size,hs,h⟩:=h
  replace h:=hU h
  obtain⟨h0,h1,h⟩:=h
  have bp:∀ w',(Instr.index t (.agg vs) (.int k n)).run cx.P w'=(Go.part elem vs (n.toNat*size)).run cx.P w':=fun w'=>by
   simp[Instr.index,asIntOf,run_underlying (hO.un hu),h0,h1,Ev.di hO hs]
  rcases h with h|h
  ·obtain⟨z,r,h2,h3,h4⟩:=C_ hO h hc
   exact⟨z,r,h2,h3,fun w'=>by rw[bp,h4]⟩
  ·replace h:=ao h
   obtain⟨ag,Dd,h⟩:=h
   replace h:=ba h
   obtain⟨hb,h⟩:=h
   simp only[Bool.and_eq_true,Bool.not_eq_true'] at hb
   obtain⟨⟨hag',d_⟩,xj⟩:=hb
   subst hag'
   have hs1':=Nat.eq_of_beq_eq_true d_
   have hcl':=Nat.eq_of_beq_eq_true xj
   subst hs1'
   have bZ:n.toNat < cs.length:=by omega
   obtain⟨r,hr,hri⟩:=hc.get (List.getElem?_eq_getElem bZ)
   have sJ:vs[n.toNat]?=some r:=by simpa using hr
   exact⟨_,r,h _ (List.getElem?_eq_getElem bZ),hri,fun w'=>by rw[bp]; simp[Go.part,Ev.jh hO Dd,sJ]⟩
 ·rename_i sb
  obtain⟨rfl,_⟩:=hx
  obtain⟨h0,h1,h⟩:=h
  have bZ:n.toNat < sb.size:=by omega
  refine⟨_,_,h,Is.int,fun w'=>?_⟩
  rw[run_index_string w' t sb k _ (hO.un hu),dif_pos ⟨h0,h1⟩]
  have:sb.data.toList[n.toNat]?=some (sb[n.toNat]'bZ):=by
   rw[Array.getElem?_toList,Array.getElem?_eq_getElem bZ]; rfl
  rw[List.getElem?_map,this]; rfl
 ·exact h.elim
end
section
variable {w w':World} {I I':Nat->Prop} {β ay:an} {cx:Ev.Cx} {G:Gx} {P:Program} {s:aD} {a:Act}
theorem kS (hR:Rel G I β s a w) {o:Option Operand} {d:Bool × Int} {q:Bool × Int->Prop} (h:w_ s o d q):∃ z,q z/\((o.map a.eval=none/\z=d)\/∃ k,o.map a.eval=some (.int k z.2)):=by
 cases o with
 | none=>exact⟨d,h,.inl ⟨rfl,rfl⟩⟩
 | some o =>
  replace h:=aD.cd hR h
  obtain⟨x,h,hx⟩:=h
  replace h:=ao h
  obtain⟨⟨st,k,n⟩,hn,h⟩:=h
  exact⟨(st,n),h,.inr ⟨k,by simp only[Option.map_some,PV.nO hn hx]⟩⟩
theorem By {b:Bool} {len cap H L:Nat} {uh ul:Option Value} (hh:(uh=none/\H=len)\/∃ k i,uh=some (.int k i)/\0<=i/\i<=cap/\H=i.toNat) (hl:(ul=none/\L=0)\/∃ k i,ul=some (.int k i)/\0<=i/\i<=H/\L=i.toNat) (w:World) :
  (Instr.sliceBounds b len cap ul uh none).run P w = .ok (L,H,cap) w:=by
 rcases hh with ⟨rfl,rfl⟩|⟨k,i,rfl,h0,h1,rfl⟩<;>rcases hl with ⟨rfl,rfl⟩|⟨k',i',rfl,g0,g1,rfl⟩
 ·simp[Instr.sliceBounds]
 ·simp[Instr.sliceBounds,Ev.gy g0 g1]
 ·simp[Instr.sliceBounds,Ev.gy h0 h1]
 ·simp[Instr.sliceBounds,Ev.gy h0 h1,Ev.gy g0 g1]
theorem xk {b:Bool} {len cap:Nat} {uh ul:Option Value} {l h:Bool × Int} (hh:(uh=none/\h.2=(len:Int))\/∃ k,uh=some (.int k h.2)) (hl:(ul=none/\l.2=0)\/∃ k,ul=some (.int k l.2)) (h0:0<=l.2) (h1:l.2<=h.2) (h2:h.2<=cap) (w:World) :
  (Instr.sliceBounds b len cap ul uh none).run P w = .ok (l.2.toNat,h.2.toNat,cap) w:=by
 refine By ?_ ?_ w
 ·rcases hh with ⟨e,e'⟩|⟨k,e⟩
  ·exact .inl ⟨e,by omega⟩
  ·exact .inr ⟨k,h.2,e,by omega,by omega,rfl⟩
 ·rcases hl with ⟨e,e'⟩|⟨k,e⟩
  ·exact .inl ⟨e,by omega⟩
  ·exact .inr ⟨k,l.2,e,by omega,by omega,rfl⟩
theorem ca.drop {es:List PV} {n g o:Nat} (k:Nat) (h:ca w I es n g o):ca w I (es.drop k) n g (o+k*n):=ca.of fun i e he=>by
 rw[List.getElem?_drop] at he
 have:=h.get he
 rw[show o+k*n+i*n=o+(k+i)*n by rw[Nat.add_mul]; omega]
 exact this
theorem ca.take {es:List PV} {n g o:Nat} (k:Nat) (h:ca w I es n g o):ca w I (es.take k) n g o:=ca.of fun i e he=>by
 rw[List.getElem?_take] at he
 split at he
 ·exact h.get he
 ·cases he
theorem vw (hO:Ev.fR G.cx) (hR:Rel G I β s a w) {t:TypeId} {x:PV} {u:Value} {lo hi mx:Option Operand} {q:PV->Prop} (h:Br G.cx s t x lo hi mx q) (hx:x.Is w I β u) :
  ∃ z r,q z/\z.Is w I β r/\∀ w',(Instr.sliceAt t u (lo.map a.eval) (hi.map a.eval) (mx.map a.eval)).run G.cx.P w' = .ok r w':=by
 replace h:=ao h
 obtain⟨d,hu,h⟩:=h
 split at h
 ·rename_i n elem
  replace h:=ao h
  obtain⟨m,hm,h⟩:=h
  replace h:=ba h
  obtain⟨HS,h⟩:=h
  simp only[Bool.and_eq_true] at HS
  replace h:=kS hR h
  obtain⟨l,h,hl⟩:=h
  replace h:=kS hR h
  obtain⟨hh,h,EV⟩:=h
  split at h<;>try simp only[PV.Is] at hx
  ·obtain⟨p,g,o,hp,ha,rfl⟩:=hx
   replace h:=ba h
   obtain⟨hc,h⟩:=h
   simp only[Bool.and_eq_true,decide_eq_true_eq] at hc
   obtain⟨⟨⟨⟨⟨_,_⟩,h0⟩,h1⟩,h2⟩,h3⟩:=hc
   refine⟨_,.slice (some ⟨g,o+_,none⟩) _ (n - l.2.toNat),h,by simp only[PV.Is]; exact⟨p,g,o,n - l.2.toNat,hp,ha,rfl,by omega⟩,fun w'=>?_⟩
   have hb:=fun b=>xk (P:=G.cx.P) (b:=b) (len:=n) (cap:=n) (EV.imp (fun ⟨e,e'⟩=>⟨e,by rw[e']⟩) id) (hl.imp (fun ⟨e,e'⟩=>⟨e,by rw[e']⟩) id) h0 h2 h3 w'
   have cN:¬ n=l.2.toNat:=by omega
   have e1:hh.2.toNat - l.2.toNat=(hh.2 - l.2).toNat:=by omega
   simp only[Instr.sliceAt,Sem.run_bind,run_underlying (hO.un hu),Result.andThen_ok,Instr.sureAddr,Sem.run_pure,Option.map_none,hb,Ev.di hO hm]
   simp[cN,Ev.gx,Nat.add_assoc,e1]
  ·exact h.elim
 ·rename_i elem
  replace h:=ao h
  obtain⟨m,hm,h⟩:=h
  replace h:=kS hR h
  obtain⟨l,h,hl⟩:=h
  have run:∀ (ad:Option Addr) (len cap:Nat) (hh:Bool × Int),((hi.map a.eval=none/\hh.2=(len:Int))\/∃ k,hi.map a.eval=some (.int k hh.2))->0<=l.2->l.2<=hh.2->hh.2<=cap->∃ M6,(∀ w',(Instr.sliceAt t (.slice ad len cap) (lo.map a.eval) (hi.map a.eval) none).run G.cx.P w' = .ok (.slice M6 (hh.2 - l.2).toNat (cap - l.2.toNat)) w')/\(ad=none->M6=none)/\(∀ g o,ad=some ⟨g,o,none⟩->l.2 < cap->M6=some ⟨g,o+l.2.toNat*m,none⟩):=by
   intro ad len cap hh EV h0 h1 h2
   have hb:=fun b w'=>xk (P:=G.cx.P) (b:=b) (len:=len) (cap:=cap) EV (hl.imp (fun ⟨e,e'⟩=>⟨e,by rw[e']⟩) id) h0 h1 h2 w'
   have e1:hh.2.toNat - l.2.toNat=(hh.2 - l.2).toNat:=by omega
   cases ad with
   | none =>
    refine⟨none,fun w'=>?_,fun _=>rfl,fun _ _ e=>by cases e⟩
    simp only[Instr.sliceAt,Instr.slice,Sem.run_bind,run_underlying (hO.un hu),Result.andThen_ok,Sem.run_pure,Option.map_none,hb,Ev.di hO hm]
    simp[e1]
   | some ad =>
    by_cases xj:cap=l.2.toNat
    ·refine⟨some ad,fun w'=>?_,(fun e=>by cases e),fun g o e bZ=>by omega⟩
     simp only[Instr.sliceAt,Instr.slice,Sem.run_bind,run_underlying (hO.un hu),Result.andThen_ok,Sem.run_pure,Option.map_none,hb,Ev.di hO hm]
     simp[e1,xj]
    ·refine⟨some (ad.add (l.2.toNat*m)),fun w'=>?_,(fun e=>by cases e),fun g o e bZ=>by cases e; rw[Ev.gx]⟩
     simp only[Instr.sliceAt,Instr.slice,Sem.run_bind,run_underlying (hO.un hu),Result.andThen_ok,Sem.run_pure,Option.map_none,hb,Ev.di hO hm]
     simp[e1,xj]
  split at h<;>try simp only[PV.Is] at hx
  ·subst hx
   replace h:=kS hR h
   obtain⟨hh,⟨h0,h1,h⟩,EV⟩:=h
   refine⟨_,.slice none 0 0,h,by simp only[PV.Is],fun w'=>?_⟩
   obtain⟨M6,hr,hn,_⟩:=run none 0 0 hh (EV.imp (fun ⟨e,e'⟩=>⟨e,by rw[e']; rfl⟩) id) (by omega) (by omega) (by omega)
   rw[hn rfl] at hr
   rw[Option.map_none,hr,h0,h1]; rfl
  ·rename_i b off len
   obtain⟨p,g,o,cap,hp,ha,rfl,hle⟩:=hx
   replace h:=kS hR h
   obtain⟨hh,h,EV⟩:=h
   replace h:=ba h
   obtain⟨hc,h⟩:=h
   simp only[Bool.and_eq_true,decide_eq_true_eq] at hc
   obtain⟨⟨⟨⟨⟨_,_⟩,h0⟩,h1⟩,h2⟩,h3⟩:=hc
   refine⟨_,.slice (some ⟨g,o+(off+l.2.toNat*m),none⟩) (hh.2 - l.2).toNat (cap - l.2.toNat),h,by simp only[PV.Is]; exact⟨p,g,o,cap - l.2.toNat,hp,ha,rfl,by omega⟩,fun w'=>?_⟩
   obtain⟨M6,hr,_,hs⟩:=run (some ⟨g,o+off,none⟩) len cap hh (EV.imp (fun ⟨e,e'⟩=>⟨e,by rw[e']⟩) id) h0 h2 (by omega)
   rw[Option.map_none,hr,hs g (o+off) rfl (by omega)]
   simp only[Nat.add_assoc]
  ·rename_i n es
   obtain⟨ad,cap,rfl,hle,oF,h4,h5⟩:=hx
   replace h:=kS hR h
   obtain⟨hh,h,EV⟩:=h
   replace h:=ba h
   obtain⟨hc,h0,h1,h2,h⟩:=h
   simp only[Bool.and_eq_true] at hc
   have hnm:n=m:=Nat.eq_of_beq_eq_true hc.1
   have l5:0 < m:=Nat.le_of_ble_eq_true hc.2
   have hlen:((es.drop l.2.toNat).take (hh.2 - l.2).toNat).length=(hh.2 - l.2).toNat:=by rw[List.length_take,List.length_drop]; omega
   obtain⟨M6,sJ,hn,hs⟩:=run ad es.length cap hh (EV.imp (fun ⟨e,e'⟩=>⟨e,by rw[e']⟩) id) h0 h1 (by omega)
   refine⟨_,_,h,?_,fun w'=>by rw[Option.map_none,sJ]⟩
   simp only[PV.Is,hlen]
   refine⟨M6,cap - l.2.toNat,rfl,by omega,by omega,fun g o e=>?_,fun cN=>?_⟩
   ·by_cases hz:(hh.2 - l.2).toNat=0
    ·rw[hz,List.take_zero]; simp only[ca]
    ·obtain⟨g',o',G5,hg,_⟩:=h5 (by omega)
     have:=hs g' o' G5 (by omega)
     rw[this] at e
     cases e
     rw[← hnm]
     exact ((h4 _ _ G5).drop _).take _
   ·obtain⟨g',o',G5,hg,fS⟩:=h5 (by omega)
    exact⟨g',_,hs g' o' G5 (by omega),hg,fS⟩
  ·rename_i b
   obtain⟨p,hp,rfl⟩:=hx
   replace h:=ao h
   obtain⟨k,hb,h⟩:=h
   split at h
   ·rename_i hk
    replace h:=ba h
    obtain⟨hc,h⟩:=h
    simp only[Bool.and_eq_true] at hc
    have eL:k.size=m:=Nat.eq_of_beq_eq_true hc.1.2
    obtain⟨g,arr,fr,ha,hw,_,_,_,hlen,hle,_,_,HS⟩:=eP hR.heap hb hc.1.1 hk hp
    rw[gA,Nat.zero_add] at h
    have hq:k.cs.length / m=p.len:=by rw[hlen,eL]; exact Nat.mul_div_cancel _ (by omega)
    rw[hq] at h
    replace h:=kS hR h
    obtain⟨hh,h,EV⟩:=h
    replace h:=ba h
    obtain⟨iW,h⟩:=h
    simp only[Bool.and_eq_true,decide_eq_true_eq] at iW
    obtain⟨⟨⟨⟨⟨_,_⟩,h0⟩,h1⟩,h2⟩,h3⟩:=iW
    refine⟨_,.slice (some ⟨g,0+l.2.toNat*m,none⟩) (hh.2 - l.2).toNat (p.cap - l.2.toNat),h,by simp only[PV.Is]; exact⟨p,g,0,p.cap - l.2.toNat,hp,ha,rfl,by omega⟩,fun w'=>?_⟩
    obtain⟨M6,hr,_,hs⟩:=run (some ⟨g,0,none⟩) p.len p.cap hh (EV.imp (fun ⟨e,e'⟩=>⟨e,by rw[e']⟩) id) h0 h2 (by omega)
    rw[hw,Option.map_none,hr,hs g 0 rfl (by omega)]
   ·rename_i hk
    replace h:=ba h
    obtain⟨hc,h⟩:=h
    simp only[Bool.and_eq_true] at hc
    have eL:k.size=m:=Nat.eq_of_beq_eq_true hc.1.2
    obtain⟨Qw,hlen,hle,oF,oE⟩:=dO hR.heap hb hc.1.1 hk hp
    replace h:=kS hR h
    obtain⟨hh,⟨i,j,hi,hj,hij,hjl,hil,h⟩,EV⟩:=h
    rcases oE with ⟨_,rZ,_⟩|⟨g,arr,fr,ha,hw,gU,oh,dh,has⟩
    ·exact absurd hil (by omega)
    ·refine⟨_,.slice (some ⟨g,0+i*m,none⟩) (j - i) (p.cap - i),h,by simp only[PV.Is]; exact⟨p,g,0,p.cap - i,hp,ha,rfl,by omega⟩,fun w'=>?_⟩
     obtain⟨M6,hr,_,hs⟩:=run (some ⟨g,0,none⟩) p.len p.cap hh (EV.imp (fun ⟨e,e'⟩=>⟨e,by rw[e',hlen]⟩) id) (by omega) (by omega) (by omega)
     rw[hw,Option.map_none,hr,hs g 0 rfl (by omega),show l.2.toNat=i by omega,show (hh.2 - l.2).toNat=j - i by omega]
   ·exact h.elim
  ·exact h.elim
 ·exact h.elim
theorem M7 (hR:aC I β s.st w) {x:PV} {u:Value} {q:PV->Prop} (h:HH s.st x q) (hx:x.Is w I β u):∃ z,q z/\∃ (ad:Option Addr) (n c:Nat),u = .slice ad n c/\z.Is w I β (.int .i64 n):=by
 unfold HH at h
 simp only[gA,Nat.zero_add,aj.w8] at h
 split at h<;>try simp only[PV.Is] at hx
 ·exact⟨_,h,_,_,_,hx,Is.lit⟩
 ·obtain⟨ad,cap,rfl,_,hm,_⟩:=hx
  exact⟨_,h hm,_,_,_,rfl,Is.int⟩
 ·obtain⟨p,g,o,cap,_,_,rfl,_⟩:=hx
  exact⟨_,h,_,_,_,rfl,Is.lit⟩
 ·obtain⟨p,hp,rfl⟩:=hx
  replace h:=ao h
  obtain⟨b,hb,h⟩:=h
  replace h:=ba h
  obtain⟨hl,h⟩:=h
  split at h
  ·rename_i hk
   obtain⟨g,arr,fr,_,hw,_,_,_,hlen,_,_,_,HS⟩:=eP hR hb hl hk hp
   refine⟨_,h,_,_,_,hw,?_⟩
   rw[hlen,Nat.mul_div_cancel _ HS]
   exact Is.lit
  ·rename_i hk
   obtain⟨_,hlen,hle,hm,oE⟩:=dO hR hb hl hk hp
   have h:=h (by omega)
   rcases oE with ⟨_,hc,hw⟩|⟨g,arr,fr,_,hw,_⟩
   ·exact⟨_,h,_,_,_,hw,by rw[show b.cs.length=0 by omega]; exact Is.int⟩
   ·exact⟨_,h,_,_,_,hw,by rw[hlen]; exact Is.int⟩
  ·exact h.elim
 ·exact h.elim
theorem qX (hR:Rel G I β s a w):∀ {os:List Operand} {q:List PV->Prop},nu.oA s os q->∃ l,q l/\bg w I l β (os.map a.eval)
 | [],q,h=>⟨[],h,by simp only[List.map_nil,bg]⟩
 | o::os,q,h=>by
  replace h:=aD.cd hR h
  obtain⟨x,h,hx⟩:=h
  have key:nu.oA s os fun xs=>q (x::xs):=by cases x<;>first|exact h.elim|exact h
  obtain⟨l,h,hl⟩:=qX hR key
  exact⟨_,h,by simp only[List.map_cons,bg]; exact⟨hx,hl⟩⟩
set_option maxHeartbeats 1000000 in
theorem oG (hO:Ev.fR G.cx) (hR:Rel G I β s a w) {o:Oper} {q:PV->Prop} (h:nu G.cx s o.op q) :
  ∃ x r,q x/\x.Is w I β r/\∀ w',(execOp a.eval o).run G.cx.P w' = .ok (.value r) w':=by
 obtain⟨dst,op,ty,pos,after,guard⟩:=o
 simp only at h
 unfold nu at h
 split at h
 ·
  replace h:=aD.cd hR h
  obtain⟨x,h,hx⟩:=h
  exact⟨x,_,h,hx,fun w'=>rfl⟩
 ·
  replace h:=aD.cd hR h
  obtain⟨x,h,hx⟩:=h
  exact⟨x,_,h,hx,fun w'=>rfl⟩
 ·
  rename_i c x y
  have bp:∀ b,a.eval c = .bool b->∀ w',(execOp a.eval ⟨dst,.pick c x y,ty,pos,after,guard⟩).run G.cx.P w' = .ok (.value (if b then a.eval x else a.eval y)) w':=fun b hb w'=>by
   cases b<;>simp[execOp,hb,asBool]
  replace h:=aD.cd hR h
  obtain⟨xc,h,hc⟩:=h
  split at h<;>try simp only[PV.Is] at hc
  ·replace h:=aD.cd hR h
   obtain⟨z,h,hz⟩:=h
   exact⟨z,_,h,hz,fun w'=>by rw[bp _ hc]; rfl⟩
  ·replace h:=aD.cd hR h
   obtain⟨z,h,hz⟩:=h
   exact⟨z,_,h,hz,fun w'=>by rw[bp _ hc]; rfl⟩
  ·rename_i p
   by_cases hp:p
   ·obtain⟨z,h,hz⟩:=aD.cd hR (h.1 hp)
    exact⟨z,_,h,hz,fun w'=>by rw[bp _ hc,cv hp]; rfl⟩
   ·obtain⟨z,h,hz⟩:=aD.cd hR (h.2 hp)
    exact⟨z,_,h,hz,fun w'=>by rw[bp _ hc,bT hp]; rfl⟩
  ·exact h.elim
 ·
  replace h:=aD.cd hR h
  obtain⟨x,h,hx⟩:=h
  replace h:=aD.cd hR h
  obtain⟨y,h,hy⟩:=h
  obtain⟨z,r,h,hz,hg,hr⟩:=M5 hO hR.heap h hx hy
  exact⟨z,r,h,hz,fun w'=>by simp[execOp,hg,hr]⟩
 ·
  replace h:=aD.cd hR h
  obtain⟨x,h,hx⟩:=h
  obtain⟨z,r,h,hz,hr⟩:=RB (P:=G.cx.P) h hx
  exact⟨z,r,h,hz,fun w'=>by simp[execOp,hr]⟩
 ·
  replace h:=aD.cd hR h
  obtain⟨x,h,hx⟩:=h
  obtain⟨z,r,h,hz,hr⟩:=HN hO h hx
  exact⟨z,r,h,hz,fun w'=>by simp[execOp,hr]⟩
 ·
  rename_i o
  replace h:=aD.cd hR h
  obtain⟨x,h,hx⟩:=h
  have key:∀ {ad:Addr},a.eval o = .pointer (some ad)->∀ w',(execOp a.eval ⟨dst,.nilCheck o,ty,pos,after,guard⟩).run G.cx.P w' = .ok (.value (a.eval o)) w':=fun he w'=>by simp[execOp,he]
  split at h<;>first|exact h.elim|(have xl:=hx; simp only[PV.Is] at xl)
  ·obtain⟨p,g,o',_,_,he⟩:=xl; exact⟨_,_,h,hx,key he⟩
  ·obtain⟨p,g,o',_,_,he⟩:=xl; exact⟨_,_,h,hx,key he⟩
  ·obtain⟨p,g,o',_,_,he⟩:=xl; exact⟨_,_,h,hx,key he⟩
  ·obtain⟨g,o',he,_⟩:=xl; exact⟨_,_,h,hx,key he⟩
  ·exact⟨_,_,h,hx,key xl⟩
  ·exact⟨_,_,h,hx,key xl⟩
 ·
  obtain⟨x,r,h,hx,hr⟩:=ET hO hR h
  exact⟨x,r,h,hx,fun w'=>by simp[execOp,hr]⟩
 ·
  replace h:=aD.cd hR h
  obtain⟨x,h,hx⟩:=h
  obtain⟨z,r,h,hz,hr⟩:=uQ hO h hx
  exact⟨z,r,h,hz,fun w'=>by simp[execOp,hr]⟩
 ·
  rename_i f
  replace h:=ao h
  obtain⟨d,hu,h⟩:=h
  replace h:=aD.cd hR h
  obtain⟨x,h,hx⟩:=h
  split at h
  ·rename_i fs cs
   replace h:=ao h
   obtain⟨fd,hfd,h⟩:=h
   simp only[PV.Is] at hx
   obtain⟨vs,he,hc⟩:=hx
   obtain⟨z,r,h,hz,hr⟩:=C_ hO h hc
   have RD:fs[f]?=some fd:=by simpa using hfd
   exact⟨z,r,h,hz,fun w'=>by simp[execOp,Instr.field,run_underlying (hO.un hu),RD,he,asAgg,hr]⟩
  ·exact h.elim
 ·
  replace h:=aD.cd hR h
  obtain⟨x,h,hx⟩:=h
  replace h:=aD.cd hR h
  obtain⟨y,h,hy⟩:=h
  obtain⟨z,r,h,hz,hr⟩:=uR hO hR.heap h hx hy
  exact⟨z,r,h,hz,fun w'=>by simp[execOp,hr]⟩
 ·
  replace h:=aD.cd hR h
  obtain⟨x,h,hx⟩:=h
  replace h:=aD.cd hR h
  obtain⟨y,h,hy⟩:=h
  obtain⟨z,r,h,hz,hr⟩:=EU hO h hx hy
  exact⟨z,r,h,hz,fun w'=>by simp[execOp,hr]⟩
 ·
  rename_i i
  replace h:=aD.cd hR h
  obtain⟨x,h,hx⟩:=h
  split at h
  ·replace h:=ao h
   obtain⟨z,hz,h⟩:=h
   simp only[PV.Is] at hx
   obtain⟨vs,he,hc⟩:=hx
   obtain⟨r,hr,hri⟩:=hc.get hz
   have sJ:vs[i]?=some r:=by simpa using hr
   exact⟨z,r,h,hri,fun w'=>by simp[execOp,Instr.extract,he,sJ]⟩
  ·exact h.elim
 ·
  replace h:=aD.cd hR h
  obtain⟨x,h,hx⟩:=h
  obtain⟨z,r,h,hz,hr⟩:=vw hO hR h hx
  exact⟨z,r,h,hz,fun w'=>by simp[execOp,hr]⟩
 ·
  rename_i f eB
  replace h:=qX hR h
  obtain⟨l,h,hl⟩:=h
  refine⟨_,.func (.func f) #[] ⟨eB.map a.eval⟩,h,by simp only[PV.Is]; exact⟨_,rfl,hl⟩,fun w'=>?_⟩
  simp[execOp,Instr.makeFunc]
 ·
  rename_i o t
  replace h:=ao h
  obtain⟨d,hu,h⟩:=h
  replace h:=aD.cd hR h
  obtain⟨x,h,hx⟩:=h
  have bp:∀ {r:Value},(∀ w',(Builtin.len_ #[t] ty #[a.eval o]).run G.cx.P w' = .ok r w')->∀ w',(execOp a.eval ⟨dst,.call { callee:=.builtin .len,args:=#[o],argTypes:=#[t] },ty,pos,after,guard⟩).run G.cx.P w' = .ok (.value r) w':=fun hr w'=>by
   simp[execOp,resolve,invoke,builtin,hr]
  split at h
  ·obtain⟨z,h,ad,n,c,he,hz⟩:=M7 hR.heap h hx
   exact⟨z,_,h,hz,bp fun w'=>by simp[Builtin.len_,run_underlying (hO.un hu),he,goInt]⟩
  ·exact⟨_,_,h,Is.lit,bp fun w'=>by simp[Builtin.len_,run_underlying (hO.un hu),goInt]⟩
  ·split at h
   ·simp only[PV.Is] at hx
    obtain⟨he,_⟩:=hx
    exact⟨_,_,h,Is.lit,bp fun w'=>by simp[Builtin.len_,run_underlying (hO.un hu),he,goInt]⟩
   ·exact h.elim
  ·exact h.elim
 ·
  rename_i ox oy ts
  replace h:=aD.cd hR h
  obtain⟨x,h,hx⟩:=h
  replace h:=aD.cd hR h
  obtain⟨y,h,hy⟩:=h
  have key:∀ {k k':IntKind} {m n:Int},a.eval ox = .int k m->a.eval oy = .int k' n->∀ w',(execOp a.eval ⟨dst,.call { callee:=.builtin .min,args:=⟨[ox,oy]⟩,argTypes:=ts },ty,pos,after,guard⟩).run G.cx.P w' = .ok (.value (.int k (min m n))) w':=fun h1 h2 w'=>by
   rename_i m n
   simp[execOp,resolve,invoke,builtin,Builtin.min_,h1,h2,Builtin.min2]
   by_cases bZ:n < m<;>simp[bZ]<;>omega
  unfold oz at h
  split at h<;>first|exact h.elim|(simp only[PV.Is] at hx hy)
  ·exact⟨_,_,h,Is.lit,key hx hy⟩
  ·exact⟨_,_,h,Is.int,key hx hy⟩
  ·exact⟨_,_,h,Is.int,key hx hy⟩
  ·exact⟨_,_,h,Is.int,key hx hy⟩
 ·
  rename_i ox oy ts
  replace h:=aD.cd hR h
  obtain⟨x,h,hx⟩:=h
  replace h:=aD.cd hR h
  obtain⟨y,h,hy⟩:=h
  have key:∀ {k k':IntKind} {m n:Int},a.eval ox = .int k m->a.eval oy = .int k' n->∀ w',(execOp a.eval ⟨dst,.call { callee:=.builtin .max,args:=⟨[ox,oy]⟩,argTypes:=ts },ty,pos,after,guard⟩).run G.cx.P w' = .ok (.value (.int k (max m n))) w':=fun h1 h2 w'=>by
   rename_i m n
   simp[execOp,resolve,invoke,builtin,Builtin.max_,h1,h2,Builtin.max2]
   by_cases bZ:m < n<;>simp[bZ]<;>omega
  unfold oz at h
  split at h<;>first|exact h.elim|(simp only[PV.Is] at hx hy)
  ·exact⟨_,_,h,Is.lit,key hx hy⟩
  ·exact⟨_,_,h,Is.int,key hx hy⟩
  ·exact⟨_,_,h,Is.int,key hx hy⟩
  ·exact⟨_,_,h,Is.int,key hx hy⟩
 ·exact h.elim
end
def an.set (β:an) (l:Nat) (p:na):an:=fun l'=>if l'=l then some p else β l'
section
variable {w w':World} {I I':Nat->Prop} {β ay:an} {cx:Ev.Cx} {G:Gx} {P:Program} {s:aD} {a:Act} {st dY:List aj}
theorem jP:∀ {st:List aj} {l:Nat} {b:aj} {q:List aj->Prop},oB st l b q->l < st.length/\q (st.set l b)
 | [],_,_,_,h=>h.elim
 | _::st,0,b,q,h=>⟨by simp,h⟩
 | a::st,n+1,b,q,h=>by
  obtain⟨h1,h2⟩:=jP (st:=st) (q:=fun l=>q (a::l)) h
  exact⟨by simpa using h1,h2⟩
theorem mG:∀ {st:List aj} {b:aj} {q:List aj->Prop},sF st b q->q (st++[b])
 | [],_,_,h=>h
 | a::st,b,q,h=>mG (st:=st) (q:=fun l=>q (a::l)) h
theorem gC {α:Type}:∀ {l:List α} {n:Nat} {q:Nat->Prop},lH l n q->q (n+l.length)
 | [],n,q,h=>h
 | _::l,n,q,h=>by
  have:=gC (l:=l) h
  rwa [List.length_cons,show n+(l.length+1)=n+1+l.length by omega]
theorem fF.place {l:Nat} {b:aj} (h:fF I β st w l b) {p:na} {g o:Nat} (hp:β l=some p) (ha:p.a=some (g,o)):∃ (ob:Obj) (_:Unit) (fr:Nat × Nat),w.heap[g]?=some ob/\Own I β st l g fr b:=by
 obtain⟨q,hq,hk⟩:=h
 rw[hp] at hq
 cases hq
 split at hk
 ·obtain⟨g',o',arr,ty,fr,cJ,hh,_,ho⟩:=hk
  rw[ha] at cJ; cases cJ; exact⟨_,(),fr,hh,ho⟩
 ·obtain⟨g',arr,fr,cJ,hh,_,ho,_⟩:=hk
  rw[ha] at cJ; cases cJ; exact⟨_,(),fr,hh,ho⟩
 ·obtain⟨_,hk⟩:=hk
  rcases hk with ⟨cJ,_⟩|⟨g',arr,fr,cJ,hh,_,ho,_⟩
  ·rw[ha] at cJ; cases cJ
  ·rw[ha] at cJ; cases cJ; exact⟨_,(),fr,hh,ho⟩
 ·obtain⟨g',cJ,⟨es,clock,hh,_⟩,ho⟩:=hk
  rw[ha] at cJ; cases cJ; exact⟨_,(),(0,0),hh,ho⟩
 ·obtain⟨g',es,clock,cJ,hh,_,ho,_⟩:=hk
  rw[ha] at cJ; cases cJ; exact⟨_,(),(0,0),hh,ho⟩
theorem C5.oH {g:Nat} {cs:List PV} (h:C5 w g cs) (hw:w'.heap[g]?=w.heap[g]?):C5 w' g cs:=by
 obtain⟨es,clock,hb,F,hs,hD⟩:=h
 exact⟨es,clock,hw.trans hb,F,hs,hD⟩
theorem fF.mono {l:Nat} {b:aj} (hI:∀ g,I g->I' g) (hw:∀ g,I g->w'.heap[g]?=w.heap[g]?) (ny:∀ l p,β l=some p->ay l=some p)
  (hg:∀ p g o,β l=some p->p.a=some (g,o)->w'.heap[g]?=w.heap[g]?/\(b.m≠.r->¬ I' g/\∀ l' b',l'≠l->dY[l']?=some b'->b'.live=true->∀ p g' o',ay l'=some p->p.a=some (g',o')->g'≠g)) (hb:fF I β st w l b):fF I' ay dY w' l b:=by
 obtain⟨p,hp,hk⟩:=hb
 refine⟨p,ny l p hp,?_⟩
 have own:∀ {g o:Nat} {fr:Nat × Nat},p.a=some (g,o)->Own I β st l g fr b->Own I' ay dY l g fr b:=fun ha ho=>⟨fun hr=>⟨(ho.1 hr).1,(hg p _ _ hp ha).2 hr⟩,fun hr=>hI _ (ho.2 hr)⟩
 split at hk
 ·obtain⟨g,o,arr,ty,fr,ha,hh,hc,ho⟩:=hk
  exact⟨g,o,arr,ty,fr,ha,(hg p g o hp ha).1.trans hh,hc.mono hI hw ny,own ha ho⟩
 ·obtain⟨g,arr,fr,ha,hh,hc,ho,h1⟩:=hk
  exact⟨g,arr,fr,ha,(hg p g 0 hp ha).1.trans hh,hc.mono hI hw ny,own ha ho,h1⟩
 ·obtain⟨h1,hk⟩:=hk
  refine⟨h1,?_⟩
  rcases hk with h|⟨g,arr,fr,ha,hh,hc,ho,h2⟩
  ·exact .inl h
  ·exact .inr ⟨g,arr,fr,ha,(hg p g 0 hp ha).1.trans hh,ca.mono hI hw _ _ _ _ (hg p g 0 hp ha).1 hc,own ha ho,h2⟩
 ·obtain⟨g,ha,hm,ho⟩:=hk
  exact⟨g,ha,hm.oH (hg p g 0 hp ha).1,own ha ho⟩
 ·obtain⟨g,es,clock,ha,hh,hc,ho,h1⟩:=hk
  exact⟨g,es,clock,ha,(hg p g 0 hp ha).1.trans hh,hc.mono hI hw ny,own ha ho,h1⟩
theorem aC.lt (h:aC I β st w) {l:Nat} {p:na} (hp:β l=some p):l < st.length:=by
 rcases Nat.lt_or_ge l st.length with h'|h'
 ·exact h'
 ·rw[h.p8 l h'] at hp; cases hp
def gD (β:an) (st:List aj) (g:Nat):Prop:=∃ l b p o,st[l]?=some b/\b.live=true/\β l=some p/\p.a=some (g,o)
theorem an.iD (h:aC I β st w) (p:na):∀ l q,β l=some q->(β.set st.length p) l=some q:=fun l q hq=>by
 have:=h.lt hq
 unfold an.set
 rw[if_neg (by omega)]; exact hq
theorem an.dy (β:an) (l:Nat) (p:na):(β.set l p) l=some p:=if_pos rfl
theorem aC.add (h:aC I β st w) (hw:∀ g,gD β st g\/I g->w'.heap[g]?=w.heap[g]?) {b:aj} {p:na} (hp:∀ g o,p.a=some (g,o)->¬ I g/\¬ gD β st g)
  (hb:fF I (β.set st.length p) (st++[b]) w' st.length b):aC I (β.set st.length p) (st++[b]) w':=by
 refine⟨fun l hl=>?_,fun l b' hl az=>?_⟩
 ·simp only[List.length_append,List.length_singleton] at hl
  unfold an.set
  rw[if_neg (by omega),h.p8 l (by omega)]
 ·by_cases bZ:l < st.length
  ·rw[List.getElem?_append_left bZ] at hl
   have cO:=h.dX l b' hl az
   refine cO.mono (fun _ h=>h) (fun g hg=>hw g (.inr hg)) (an.iD h p) fun q g o hq ha=>?_
   obtain⟨arr,ty,fr,hh,ho⟩:=cO.place hq ha
   have hL:gD β st g:=⟨l,b',q,o,hl,az,hq,ha⟩
   refine⟨hw g (.inl hL),fun hr=>⟨(ho.1 hr).2.1,fun l' lP cN iu fi p' g' o' dM cJ=>?_⟩⟩
   unfold an.set at dM
   split at dM
   ·cases dM
    intro e
    subst e
    exact (hp _ _ cJ).2 hL
   ·have:=h.lt dM
    rw[List.getElem?_append_left this] at iu
    exact (ho.1 hr).2.2 l' lP cN iu fi p' g' o' dM cJ
  ·have hle:l=st.length:=by
    have:=(List.getElem?_eq_some_iff.1 hl).1
    simp at this; omega
   subst hle
   rw[List.getElem?_append_right (Nat.le_refl _)] at hl
   simp only[Nat.sub_self,List.getElem?_cons_zero,Option.some.injEq] at hl
   subst hl
   exact hb
theorem aC.cH (h:aC I β st w) {g:Nat} (hg:gD β st g):g < w.heap.size:=by
 obtain⟨l,b,p,o,h1,h2,h3,h4⟩:=hg
 obtain⟨arr,ty,fr,hh,_⟩:=(h.dX l b h1 h2).place h3 h4
 exact aV hh
theorem Ext.add (h:aC I β st w) (RE:w'.os=w.os) (HT:w'.tape=w.tape) (oI:w'.output=w.output) (eL:w.heap.size<=w'.heap.size) {b:aj} {p:na} (hw:∀ g,g < w.heap.size->¬ Wr β st g->w'.heap[g]?=w.heap[g]?)
  (hp:∀ g o,p.a=some (g,o)->g < w.heap.size->Wr β st g):Ext I β st w I (β.set st.length p) (st++[b]) w' :=
 ⟨RE,HT,oI,eL,hw,fun g hg ⟨l,b',q,o,h1,h2,h3,h4,h5⟩=>by
  unfold an.set at h4
  split at h4
  ·cases h4
   exact hp g o h5 hg
  ·have:=h.lt h4
   rw[List.getElem?_append_left this] at h1
   exact⟨l,b',q,o,h1,h2,h3,h4,h5⟩,fun _ h=>h,fun _ _ h=>.inl h⟩
theorem aC.kill (h:aC I β st w) (l:Nat) {b:aj} (hb:b.live=false):aC I β (st.set l b) w:=by
 refine⟨fun l' iu=>h.p8 l' (by simpa using iu),fun l' b' iu az=>?_⟩
 have cN:l'≠l:=fun e=>by
  subst e
  rw[List.getElem?_set_self (by simpa using (List.getElem?_eq_some_iff.1 iu).1)] at iu
  cases iu; rw[hb] at az; cases az
 rw[List.getElem?_set_ne (fun e=>cN e.symm)] at iu
 have cO:=h.dX l' b' iu az
 refine cO.mono (fun _ h=>h) (fun _ _=>rfl) (fun _ _ h=>h) fun q g o hq ha=>⟨rfl,fun hr=>?_⟩
 obtain⟨arr,ty,fr,hh,ho⟩:=cO.place hq ha
 refine⟨(ho.1 hr).2.1,fun l2 b2 hne2 eR bC=>?_⟩
 have hne':l2≠l:=fun e=>by
  subst e
  rw[List.getElem?_set_self (by simpa using (List.getElem?_eq_some_iff.1 eR).1)] at eR
  cases eR; rw[hb] at bC; cases bC
 rw[List.getElem?_set_ne (fun e=>hne' e.symm)] at eR
 exact (ho.1 hr).2.2 l2 b2 hne2 eR bC
theorem Bz {l g:Nat} {b:aj} (hb:b.live=false\/∃ b0,st[l]?=some b0/\b0.live=b.live/\b0.m=b.m) (h:Wr β (st.set l b) g):Wr β st g:=by
 obtain⟨l',b',p,o,h1,h2,h3,h4,h5⟩:=h
 by_cases cN:l'=l
 ·subst cN
  rw[List.getElem?_set_self (by simpa using (List.getElem?_eq_some_iff.1 h1).1)] at h1
  cases h1
  rcases hb with hb|⟨b0,e1,e2,e3⟩
  ·rw[hb] at h2; cases h2
  ·exact⟨l',b0,p,o,e1,by rw[e2]; exact h2,by rw[e3]; exact h3,h4,h5⟩
 ·rw[List.getElem?_set_ne (fun e=>cN e.symm)] at h1
  exact⟨l',b',p,o,h1,h2,h3,h4,h5⟩
theorem Ext.kill {l:Nat} {b:aj} (hb:b.live=false):Ext I β st w I β (st.set l b) w:=⟨rfl,rfl,rfl,Nat.le_refl _,fun _ _ _=>rfl,fun _ _ h=>Bz (.inl hb) h,fun _ h=>h,fun _ _ h=>.inl h⟩
theorem aC.write (h:aC I β st w) {l:Nat} {b b':aj} {p:na} {g o:Nat} {arr arr':Array Value} {ty:TypeId} (hb:st[l]?=some b) (az:b.live=true) (hm:b.m = .w) (hp:β l=some p) (ha:p.a=some (g,o)) (hh:w.heap[g]?=some (.cells arr ty (0,0)))
  (iu:b'.live=true) (qb:b'.m = .w) (iE:∀ (hI:∀ x,I x->(w.setRow g arr').heap[x]?=w.heap[x]?),Own I β (st.set l b') l g (0,0) b'->fF I β (st.set l b') (w.setRow g arr') l b') :
  aC I β (st.set l b') (w.setRow g arr')/\Ext I β st w I β (st.set l b') (w.setRow g arr'):=by
 have gE:=h.dX l b hb az
 obtain⟨arr0,ty0,fr0,hh0,ho0⟩:=gE.place hp ha
 obtain⟨_,M8,qY⟩:=ho0.1 (by rw[hm]; decide)
 have qf:∀ x,I x->(w.setRow g arr').heap[x]?=w.heap[x]?:=fun x hx=>setRow_other w g x _ fun e=>M8 (e ▸ hx)
 have Yt:l < st.length:=(List.getElem?_eq_some_iff.1 hb).1
 have BA:∀ l' lP,l'≠l->(st.set l b')[l']?=some lP->lP.live=true->∀ p g' o',β l'=some p->p.a=some (g',o')->g'≠g:=fun l' lP cN Bo xm p g' o' dM cJ=>by
  rw[List.getElem?_set_ne (fun e=>cN e.symm)] at Bo
  exact qY l' lP cN Bo xm p g' o' dM cJ
 refine⟨⟨fun l2 eR=>h.p8 l2 (by simpa using eR),fun l2 b2 eR bC=>?_⟩,⟨rfl,rfl,rfl,by simp,fun x hx hn=>setRow_other w g x _ fun e=>hn (e ▸ ⟨l,b,p,o,hb,az,hm,hp,ha⟩),fun x hx hw=>Bz (.inr ⟨b,hb,by rw[az,iu],by rw[hm,qb]⟩) hw,fun _ h=>h,fun _ _ h=>.inl h⟩⟩
 by_cases cN:l2=l
 ·subst cN
  rw[List.getElem?_set_self Yt] at eR
  cases eR
  exact iE qf ⟨fun _=>⟨rfl,M8,BA⟩,fun hr=>by rw[qb] at hr; cases hr⟩
 ·rw[List.getElem?_set_ne (fun e=>cN e.symm)] at eR
  have dS:=h.dX l2 b2 eR bC
  refine dS.mono (fun _ h=>h) qf (fun _ _ h=>h) fun q g2 o2 hq gX=>?_
  obtain⟨RF,ty2,fr2,hh2,HU⟩:=dS.place hq gX
  refine⟨setRow_other w g g2 _ (qY l2 b2 cN eR bC q g2 o2 hq gX),fun hr=>⟨(HU.1 hr).2.1,fun l3 b3 RG Bd BB p3 g3 o3 RH RI=>?_⟩⟩
  by_cases h3:l3=l
  ·subst h3
   rw[hp] at RH
   cases RH
   rw[ha] at RI
   cases RI
   exact fun e=>qY l2 b2 cN eR bC q g2 o2 hq gX e.symm
  ·rw[List.getElem?_set_ne (fun e=>h3 e.symm)] at Bd
   exact (HU.1 hr).2.2 l3 b3 RG Bd BB p3 g3 o3 RH RI
theorem xn {g o n:Nat} {cs:List PV} (hl:cs.length=n) (hc:∀ j c,cs[j]?=some c->∃ v,w.cell? ⟨g,o+j,none⟩=some v/\c.Is w I β v) :
  ∃ vs:Array Value,bg w I cs β vs.toList/\∀ w2:World,w2.heap[g]?=w.heap[g]?->(loadCells ⟨g,o,none⟩ n).run P w2 = .ok vs w2:=by
 have key:∀ (cs:List PV) (o:Nat),(∀ j c,cs[j]?=some c->∃ v,w.cell? ⟨g,o+j,none⟩=some v/\c.Is w I β v)->∃ l:List Value,bg w I cs β l/\∀ j v,l[j]?=some v->w.cell? ⟨g,o+j,none⟩=some v:=by
  intro cs
  induction cs with
  | nil=>intro o _; exact⟨[],by simp only[bg],fun j v h=>by simp at h⟩
  | cons a cs ih =>
   intro o hc
   obtain⟨v,hv,hi⟩:=hc 0 a rfl
   obtain⟨l,h1,h2⟩:=ih (o+1) fun j x hx=>by
    obtain⟨u,hu,hui⟩:=hc (j+1) x (by simpa using hx)
    exact⟨u,by rw[show o+1+j=o+(j+1) by omega]; exact hu,hui⟩
   refine⟨v::l,by simp only[bg]; exact⟨hi,h1⟩,fun j u hu=>?_⟩
   cases j with
   | zero=>simp at hu; subst hu; exact hv
   | succ j=>rw[show o+(j+1)=o+1+j by omega]; exact h2 j u (by simpa using hu)
 obtain⟨l,h1,h2⟩:=key cs o hc
 refine⟨l.toArray,by simpa using h1,fun w2 j4=>?_⟩
 have Yt:=h1.length
 rw[show n=l.length by omega]
 exact run_loadCells_list w2 _ l fun j v hv=>by rw[Ev.gx]; exact (World.cell?_of_block (a:=⟨g,o+j,none⟩) j4).trans (h2 j v hv)
theorem kg (hO:Ev.fR cx) {t:TypeId} {cs:List PV} {off g o:Nat} {q:PV->Prop} (h:part cx t cs off q) (hc:∀ j c,cs[j]?=some c->∃ v,w.cell? ⟨g,o+j,none⟩=some v/\c.Is w I β v) :
  ∃ x v,q x/\x.Is w I β v/\∀ w2:World,w2.heap[g]?=w.heap[g]?->(Instr.loadAt t (.pointer (some ⟨g,o+off,none⟩))).run cx.P w2 = .ok v w2:=by
 replace h:=ao h
 obtain⟨x,hx,h⟩:=h
 replace h:=Bt h
 unfold jO at hx
 split at hx
 ·rename_i n ha hn
  split at hx
  ·rename_i hle
   have Zd:off+n<=cs.length:=Nat.le_of_ble_eq_true hle
   cases hx
   obtain⟨vs,g1,g2⟩:=xn (P:=cx.P) (w:=w) (I:=I) (β:=β) (g:=g) (o:=o+off) (cs:=(cs.drop off).take n) (n:=n) (by simp; omega) (fun j x hx=>by
    rw[List.getElem?_take] at hx
    split at hx
    ·rw[List.getElem?_drop] at hx
     obtain⟨v,hv,hi⟩:=hc _ _ hx
     exact⟨v,by rw[Nat.add_assoc]; exact hv,hi⟩
    ·cases hx)
   exact⟨_,.agg vs,h,by simp only[PV.Is]; exact⟨vs,rfl,g1⟩,fun w2 j4=>by simp[Instr.loadAt,Instr.sureAddr,loadVar,Ev.jh hO ha,Ev.di hO hn,g2 w2 j4]⟩
  ·cases hx
 ·rename_i ha
  obtain⟨v,hv,hi⟩:=hc _ _ hx
  refine⟨x,v,h,hi,fun w2 j4=>?_⟩
  have hv2:=(World.cell?_of_block (a:=⟨g,o+off,none⟩) j4).trans hv
  simp[Instr.loadAt,Instr.sureAddr,loadVar,Ev.jh hO ha,hv2]
 ·cases hx
end
section
variable {w w':World} {I I':Nat->Prop} {β ay:an} {cx:Ev.Cx} {G:Gx} {P:Program} {s:aD} {a:Act} {st dY:List aj}
theorem Is.anywhere {x:PV} {v:Value} (h:x.Is w I (fun _=>none) v):x.Is w I β v:=PV.Is.mono (fun _ h=>h) (fun _ _=>rfl) x _ β v (fun _ _ _ h=>by cases h) h
theorem hZ (h:aC I β st w) {l:Nat} {b:aj} {p:na} {g o:Nat} (hb:st[l]?=some b) (hm:b.mem=true) (hp:β l=some p) (ha:p.a=some (g,o)) :
  ∃ arr ty fr,w.heap[g]?=some (.cells arr ty fr)/\bj w I β b.cs arr o/\Own I β st l g fr b:=by
 unfold aj.mem at hm
 simp only[Bool.and_eq_true] at hm
 obtain⟨q,hq,hk⟩:=h.dX l b hb hm.1
 rw[hp] at hq
 cases hq
 have De:=hm.2
 split at hk
 ·obtain⟨g',o',arr,ty,fr,cJ,hh,hc,ho⟩:=hk
  rw[ha] at cJ; cases cJ; exact⟨arr,ty,fr,hh,hc,ho⟩
 ·obtain⟨g',arr,fr,cJ,hh,hc,ho,_⟩:=hk
  rw[ha] at cJ; cases cJ; exact⟨arr,_,fr,hh,hc,ho⟩
 ·rename_i ji; rw[ji] at De; cases De
 ·rename_i ji; rw[ji] at De; cases De
 ·rename_i ji; rw[ji] at De; cases De
theorem bj.load {cs:List PV} {arr:Array Value} {g o:Nat} {ty:TypeId} {fr:Nat × Nat} (h:bj w I β cs arr o) (hh:w.heap[g]?=some (.cells arr ty fr)):∀ j c,cs[j]?=some c->∃ v,w.cell? ⟨g,o+j,none⟩=some v/\c.Is w I β v:=fun j c hc=>by
 obtain⟨v,hv,hi,_⟩:=h j c hc
 exact⟨v,by rw[Ev.fh hh]; exact hv,hi⟩
theorem cL.load {cs:List PV} {g o:Nat} (h:cL w I cs g o):∀ j c,cs[j]?=some c->∃ v,w.cell? ⟨g,o+j,none⟩=some v/\c.Is w I β v:=fun j c hc=>by
 obtain⟨v,hv,hi,_⟩:=h.get hc
 exact⟨v,hv,Is.anywhere hi⟩
theorem HV (hO:Ev.fR cx) {t:TypeId} {g o:Nat} {v:Value} (ha:Ev.fI cx t=some false) (hc:w.cell? ⟨g,o,none⟩=some v):(Instr.loadAt t (.pointer (some ⟨g,o,none⟩))).run cx.P w = .ok v w:=by
 simp[Instr.loadAt,Instr.sureAddr,loadVar,Ev.jh hO ha,hc]
theorem jm (hO:Ev.fR G.cx) (hh:aC I β st w) (hM:cE G I w) {t:TypeId} {x:PV} {u:Value} {q:PV->Prop} (h:nv G st t x q) (hx:x.Is w I β u) :
  ∃ z v g,q z/\z.Is w I β v/\(I g\/∃ l b p o,x.dX=some l/\st[l]?=some b/\b.live=true/\β l=some p/\p.a=some (g,o))/\∀ w2:World,w2.heap[g]?=w.heap[g]?->(Instr.loadAt t u).run G.cx.P w2 = .ok v w2:=by
 have idx:∀ {cs:List PV} {g o off n:Nat} {i:Int},(∀ j c,cs[j]?=some c->∃ v,w.cell? ⟨g,o+j,none⟩=some v/\c.Is w I β v) ->
   ((∃ m:Nat,i=m/\part G.cx t cs (off+m*n) q)\/(Ev.fI G.cx t=some false/\0<=i/\off+i.toNat*n < cs.length/\∀ c,cs[off+i.toNat*n]?=some c->q c))->∃ z v,q z/\z.Is w I β v/\∀ w2:World,w2.heap[g]?=w.heap[g]?->(Instr.loadAt t (.pointer (some ⟨g,o+(off+i.toNat*n),none⟩))).run G.cx.P w2 = .ok v w2:=by
  intro cs g o off n i hc h
  rcases h with ⟨m,rfl,h⟩|⟨ha,h0,bZ,h⟩
  ·exact kg hO h hc
  ·obtain⟨v,hv,hi⟩:=hc _ _ (List.getElem?_eq_getElem bZ)
   exact⟨_,v,h _ (List.getElem?_eq_getElem bZ),hi,fun w2 j4=>HV hO ha ((World.cell?_of_block (a:=⟨g,o+(off+i.toNat*n),none⟩) j4).trans hv)⟩
 unfold nv at h
 split at h<;>try simp only[PV.Is] at hx
 ·replace h:=ao h
  obtain⟨b,hb,h⟩:=h
  replace h:=ba h
  obtain⟨hm,h⟩:=h
  obtain⟨p,g,o,hp,ha,rfl⟩:=hx
  obtain⟨arr,ty,fr,gU,hc,_⟩:=hZ hh hb hm hp ha
  obtain⟨z,v,h1,h2,h3⟩:=kg hO h (hc.load gU)
  exact⟨z,v,g,h1,h2,.inr ⟨_,b,p,o,rfl,hb,by unfold aj.mem at hm; simp only[Bool.and_eq_true] at hm; exact hm.1,hp,ha⟩,h3⟩
 ·replace h:=ao h
  obtain⟨b,hb,h⟩:=h
  replace h:=ba h
  obtain⟨hm,h⟩:=h
  obtain⟨p,g,o,hp,ha,rfl⟩:=hx
  obtain⟨arr,ty,fr,gU,hc,_⟩:=hZ hh hb hm hp ha
  obtain⟨z,v,h1,h2,h3⟩:=idx (hc.load gU) h
  exact⟨z,v,g,h1,h2,.inr ⟨_,b,p,o,rfl,hb,by unfold aj.mem at hm; simp only[Bool.and_eq_true] at hm; exact hm.1,hp,ha⟩,h3⟩
 ·rename_i l i n off
  replace h:=ao h
  obtain⟨b,hb,h⟩:=h
  split at h
  ·rename_i hk
   replace h:=ba h
   obtain⟨hc,α,l',enc,fj,hi,h⟩:=h
   simp only[Bool.and_eq_true] at hc
   have hn:b.size=n:=Nat.eq_of_beq_eq_true hc.2
   obtain⟨p,g,o,hp,ha,rfl⟩:=hx
   obtain⟨_,hlen,hle,_,oE⟩:=dO hh hb hc.1 hk hp
   rcases oE with ⟨cJ,_⟩|⟨g',arr,fr,cJ,_,gU,oh,_⟩
   ·rw[ha] at cJ; cases cJ
   ·rw[ha] at cJ
    cases cJ
    have he:b.cs[i]?=some (enc l'[i]):=by rw[fj,List.getElem?_map,List.getElem?_eq_getElem hi]; rfl
    have HR:=oh.get he
    obtain⟨z,v,h1,h2,h3⟩:=kg (β:=β) hO (h _ (List.getElem?_eq_getElem hi)) (cL.load HR.2)
    rw[hn,Nat.add_assoc] at h3
    exact⟨z,v,g,h1,h2,.inr ⟨_,b,p,0,rfl,hb,hc.1,hp,ha⟩,h3⟩
  ·exact h.elim
 ·obtain⟨g,o,rfl,hg,hc⟩:=hx
  obtain⟨z,v,h1,h2,h3⟩:=kg (β:=β) hO h hc.load
  exact⟨z,v,g,h1,h2,.inl hg,h3⟩
 ·subst hx
  replace h:=ao h
  obtain⟨cs,fj,h⟩:=h
  obtain⟨hg,hc⟩:=hM.lV _ _ (Ev.dJ fj)
  obtain⟨z,v,h1,h2,h3⟩:=kg (β:=β) hO h (cL.load hc)
  rw[Nat.zero_add] at h3
  exact⟨z,v,_,h1,h2,.inl hg,h3⟩
 ·subst hx
  replace h:=ao h
  obtain⟨cs,fj,h⟩:=h
  obtain⟨hg,hc⟩:=hM.lV _ _ (Ev.dJ fj)
  obtain⟨z,v,h1,h2,h3⟩:=idx (cL.load hc) h
  rw[Nat.zero_add] at h3
  exact⟨z,v,_,h1,h2,.inl hg,h3⟩
 ·exact h.elim
theorem xo {cs new r:List PV} {arr:Array Value} {o off:Nat} {vs:List Value} (h:rE cs new off=some r) (hc:bj w I β cs arr o) (hn:bg w I new β vs) (h1:∀ v∈vs,v.oneCell'=true) (eL:o+off+vs.length<=arr.size) :
  bj w I β r (arr.toList.take (o+off)++vs++arr.toList.drop (o+off+vs.length)).toArray o:=by
 unfold rE at h
 split at h
 ·rename_i hle
  have hle:=Nat.le_of_ble_eq_true hle
  cases h
  intro j x hx
  have hl:=hn.length
  simp only[List.getElem?_toArray]
  have nP:(arr.toList.take (o+off)).length=o+off:=by simp; omega
  by_cases hj:j < off
  ·rw[List.append_assoc,List.getElem?_append_left (by simp; omega),List.getElem?_take,if_pos hj] at hx
   obtain⟨v,hv,hi,ho⟩:=hc j x hx
   refine⟨v,?_,hi,ho⟩
   rw[List.append_assoc,List.getElem?_append_left (by rw[nP]; omega),List.getElem?_take,if_pos (by omega)]
   simpa using hv
  ·by_cases hj2:j < off+new.length
   ·rw[List.getElem?_append_left (by simp; omega),List.getElem?_append_right (by simp; omega)] at hx
    have ht:(cs.take off).length=off:=by simp; omega
    rw[ht] at hx
    obtain⟨v,hv,hi⟩:=hn.get hx
    refine⟨v,?_,hi,h1 v (List.mem_of_getElem? hv)⟩
    rw[List.getElem?_append_left (by simp; omega),List.getElem?_append_right (by rw[nP]; omega),nP,show o+j - (o+off)=j - off by omega]
    exact hv
   ·rw[List.getElem?_append_right (by simp; omega),List.getElem?_drop] at hx
    have ht:(cs.take off++new).length=off+new.length:=by simp; omega
    rw[ht,show off+new.length+(j - (off+new.length))=j by omega] at hx
    obtain⟨v,hv,hi,ho⟩:=hc j x hx
    refine⟨v,?_,hi,ho⟩
    have h2:(arr.toList.take (o+off)++vs).length=o+off+vs.length:=by simp; omega
    rw[List.getElem?_append_right (by rw[h2]; omega),h2,List.getElem?_drop,show o+off+vs.length+(o+j - (o+off+vs.length))=o+j by omega]
    simpa using hv
 ·cases h
theorem ki (b:aj) (cs:List PV):(b.c8 cs).k=b.k/\(b.c8 cs).ty=b.ty/\(b.c8 cs).size=b.size/\(b.c8 cs).m=b.m/\(b.c8 cs).live=b.live/\(b.c8 cs).cs=cs:=by
 cases b; exact⟨rfl,rfl,rfl,rfl,rfl,rfl⟩
theorem nQ {b:aj} (h:b.can=true):b.live=true/\b.m = .w:=by
 unfold aj.can at h
 simp only[Bool.and_eq_true] at h
 refine⟨h.1,?_⟩
 have:=h.2
 cases hm:b.m<;>rw[hm] at this<;>first|rfl|cases this
theorem M9 {v:PV} {u:Value} (he:v.elem=true) (h:v.Is w I β u):(∀ ts,v≠.tup ts)/\∀ (j:Nat) (c:PV),v.cells[j]?=some c->∃ y,u.cells.toList[j]?=some y/\c.Is w I (fun _=>none) y/\y.oneCell'=true:=by
 have nr:∀ {c:PV} {y:Value},c.qV=true->c.Is w I β y->c.Is w I (fun _=>none) y/\y.oneCell'=true:=fun hc hi=>by
  refine⟨?_,lW (hi.flat (by rename_i c _; cases c<;>first|rfl|cases hc))⟩
  refine PV.Is.mono (fun _ h=>h) (fun _ _=>rfl) _ β _ _ (fun l p hl=>?_) hi
  rename_i c _
  cases c<;>simp_all [PV.df,PV.qV]
 have Dc:∀ ts,v≠.tup ts:=fun ts e=>by subst e; cases he
 refine⟨Dc,fun j c hc=>?_⟩
 obtain⟨y,hy,hi⟩:=(h.lX Dc).get hc
 refine⟨y,hy,nr ?_ hi⟩
 cases v with
 | agg cs =>
  simp only[PV.elem,List.all_eq_true] at he
  exact he c (List.mem_of_getElem? hc)
 | _ =>
  simp only[PV.cells] at hc
  cases j with
  | zero=>simp at hc; subst hc; exact he
  | succ j=>simp at hc
theorem M' {x:PV} {y:Value} (Dc:∀ ts,x≠.tup ts) (h:x.Is w I β y) (h1:∀ c∈x.cells,c.iC=true):∀ z∈y.cells.toList,z.oneCell'=true:=by
 intro z hz
 obtain⟨k,hk,M_⟩:=List.getElem_of_mem hz
 have hl:=(h.lX Dc).length
 have ji:k < x.cells.length:=by omega
 obtain⟨z',hz',RJ⟩:=(h.lX Dc).get (List.getElem?_eq_getElem ji)
 rw[List.getElem?_eq_getElem hk,M_] at hz'
 cases hz'
 exact lW (RJ.flat (h1 _ (List.getElem_mem ji)))
end
end Go.Proofs.YtbnoodjnpooocaaGreatDoor.Pw

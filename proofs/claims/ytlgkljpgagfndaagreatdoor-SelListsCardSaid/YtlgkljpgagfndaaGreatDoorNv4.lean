/- What this claim is proved with: no condition. -/
import Derived.Test.YtlgkljpgagfndaaGreatDoorNv3
import Derived.ChangeKeysEq
set_option linter.unusedVariables false
set_option linter.unusedSimpArgs false
namespace Go.Proofs.YtlgkljpgagfndaaGreatDoor.Pw
open Go Go.RowKit
theorem aA {α:Type} {o:Option α} {k:α->Prop} (h:bu o k):∃ x,o=some x/\k x:=by
 cases o with
 | none=>exact h.elim
 | some x=>exact⟨x,rfl,h⟩
theorem bp {b:Bool} {p:Prop} (h:bif b then p else False):b=true/\p:=by
 cases b with
 | true=>exact⟨rfl,h⟩
 | false=>exact h.elim
theorem JB {b:Bool} {p:Prop} (h:bif b then False else p):b=false/\p:=by
 cases b with
 | true=>exact h.elim
 | false=>exact⟨rfl,h⟩
theorem Og {x:PV} {q:PV->Prop} (h:fc1 x q):q x:=by cases x<;>exact h
theorem cR:∀ {cs:List PV} {q:List PV->Prop},fk cs q->q cs
 | [],_,h=>h
 | c::cs,q,h=>by
  have:=cR (Og h)
  exact this
theorem yF {x:PV} {q:PV->Prop} (h:fcA x q):q x:=by
 cases x<;>first|exact h|exact cR h
theorem tq:∀ {cs:List PV} {q:List PV->Prop},yA cs q->q cs
 | [],_,h=>h
 | c::cs,q,h=>by
  have:=tq (yF h)
  exact this
theorem EM {x:PV} {q:PV->Prop} (h:fc x q):q x:=by
 cases x<;>first|exact h|exact cR h|exact tq h
section
variable {w:World} {I:Nat->Prop} {β:aB} {cx:Ev.Cx} {G:Gx} {P:Program}
theorem Is.int {k:IntKind} {n:Int}:(PV.int k n).Is w I β (.int k n):=by simp only[PV.Is]
theorem Is.lit {k:IntKind} {n:Int}:(PV.lit k n).Is w I β (.int k n):=by simp only[PV.Is]
theorem Is.tt:PV.tt.Is w I β (.bool true):=by simp only[PV.Is]
theorem Is.ff:PV.ff.Is w I β (.bool false):=by simp only[PV.Is]
theorem Is.bool {p:Prop}:(PV.bool p).Is w I β (.bool (pb p)):=by simp only[PV.Is]
theorem tu {v:Value} {q:PV->Prop} (h:iu v q):∃ x,q x/\x.Is w I β v/\x.kD=true:=by
 unfold iu at h
 split at h
 ·exact⟨_,h,by simp only[PV.Is],rfl⟩
 ·exact⟨_,h,by simp only[PV.Is],rfl⟩
 ·exact⟨_,h,by simp only[PV.Is],rfl⟩
 ·exact⟨_,h,by simp only[PV.Is],rfl⟩
 ·exact⟨_,h,by simp only[PV.Is]; exact⟨#[],rfl,by simp only[bH]⟩,rfl⟩
 ·obtain⟨hf,h⟩:=bp h
  exact⟨_,h,by simp only[PV.Is]; exact⟨trivial,hf⟩,rfl⟩
theorem tv:∀ {vs:List Value} {q:List PV->Prop},yB iu vs q->∃ xs,q xs/\bH w I xs β vs
 | [],q,h=>⟨[],h,by simp only[bH]⟩
 | v::vs,q,h=>by
  obtain⟨x,h,hx,_⟩:=tu (w:=w) (I:=I) (β:=β) h
  obtain⟨xs,h,p5⟩:=tv h
  exact⟨x::xs,h,by simp only[bH]; exact⟨hx,p5⟩⟩
theorem vX {v:Value} {q:PV->Prop} (h:pf v q):∃ x,q x/\x.Is w I β v/\∀ vs,x≠.tup vs:=by
 unfold pf at h
 split at h
 ·rename_i cs
  obtain⟨xs,h,p5⟩:=tv (w:=w) (I:=I) (β:=β) h
  exact⟨_,h,by simp only[PV.Is]; exact⟨⟨cs⟩,rfl,p5⟩,fun _ e=>by cases e⟩
 ·obtain⟨x,h,hx,h1⟩:=tu (w:=w) (I:=I) (β:=β) h
  exact⟨x,h,hx,fun vs e=>by subst e; cases h1⟩
theorem PV.mu {x:PV} {b:Bool} {k:IntKind} {n:Int} {v:Value} (h:x.num=some (b,k,n)) (hx:x.Is w I β v):v = .int k n:=by
 cases x<;>simp only[PV.num] at h<;>cases h<;>simpa only [PV.Is] using hx
theorem PV.Ae {x:PV} {p:Prop} {v:Value} (h:x.bl=some p) (hx:x.Is w I β v):v = .bool (pb p):=by
 cases x<;>simp only[PV.bl] at h<;>cases h<;>simp only[PV.Is] at hx
 ·rw[hx,cv trivial]
 ·rw[hx,b_ id]
 ·exact hx
theorem p6 {k:IntKind} {z:Int} {q:PV->Prop} (h:vV k z q):∃ x,q x/\x.Is w I β (.int k (k.wrap z)):=by
 rcases h with ⟨⟨h1,h2⟩,h⟩|h
 ·exact⟨_,h,by rw[Ev.z6 k z h1 h2]; exact Is.int⟩
 ·exact⟨_,h,Is.int⟩
theorem EN {b:Bool} {q:PV->Prop} (h:tf b q):∃ x,q x/\x.Is w I β (.bool b):=by
 cases b with
 | true=>exact⟨_,h,Is.tt⟩
 | false=>exact⟨_,h,Is.ff⟩
theorem Vz {p:Prop} [Decidable p] {q:PV->Prop} (h:q (.bool p)):∃ x,q x/\x.Is w I β (.bool (decide p)):=⟨_,h,by rw[← EA]; exact Is.bool⟩
theorem vY {op:BinOp} {t:TypeId} {k:IntKind} {a b:Int} (w:World) :
  (binOp .eql t (.int k a) (.int k b)).run P w = .ok (.bool (decide (a=b))) w/\(binOp .neq t (.int k a) (.int k b)).run P w = .ok (.bool (!decide (a=b))) w/\(binOp .lss t (.int k a) (.int k b)).run P w = .ok (.bool (decide (a < b))) w /\
  (binOp .leq t (.int k a) (.int k b)).run P w = .ok (.bool (decide (a<=b))) w/\(binOp .gtr t (.int k a) (.int k b)).run P w = .ok (.bool (decide (b < a))) w/\(binOp .geq t (.int k a) (.int k b)).run P w = .ok (.bool (decide (b<=a))) w:=by
 refine⟨by simp only[binOp_eql]; rfl,?_,by simp only[binOp_lss]; rfl,by simp only[binOp_leq]; rfl,by simp only[binOp_gtr]; rfl,by simp only[binOp_geq]; rfl⟩
 simp only[binOp_neq]
 show Result.ok (Value.bool (a != b)) w=_
 congr 2
theorem uB {op:BinOp} {t:TypeId} {k:IntKind} {a b:Int} {q:PV->Prop} (h:Oa op k a b q):∃ x v,q x/\x.Is w I β v/\∀ w,(binOp op t (.int k a) (.int k b)).run P w = .ok v w:=by
 have cmp:=fun w=>vY (P:=P) (op:=op) (t:=t) (k:=k) (a:=a) (b:=b) w
 have out:∀ {z},vV k z q->(∀ w,(binOp op t (.int k a) (.int k b)).run P w = .ok (.int k (k.wrap z)) w)->∃ x v,q x/\x.Is w I β v/\∀ w,(binOp op t (.int k a) (.int k b)).run P w = .ok v w:=fun h hr=>by
  obtain⟨x,h,hx⟩:=p6 (w:=w) (I:=I) (β:=β) h
  exact⟨x,_,h,hx,hr⟩
 have bl:∀ {p:Prop} [Decidable p],q (.bool p)->(∀ w,(binOp op t (.int k a) (.int k b)).run P w = .ok (.bool (decide p)) w)->∃ x v,q x/\x.Is w I β v/\∀ w,(binOp op t (.int k a) (.int k b)).run P w = .ok v w:=fun h hr=>by
  obtain⟨x,h,hx⟩:=Vz (w:=w) (I:=I) (β:=β) h
  exact⟨x,_,h,hx,hr⟩
 cases op<;>simp only[Oa] at h
 case add=>exact out h fun w=>by rw[binOp_add]; rfl
 case sub=>exact out h fun w=>by rw[binOp_sub]; rfl
 case mul=>exact out h fun w=>by rw[binOp_mul]; rfl
 case quo =>
  obtain⟨h0,h⟩:=h
  have hr:∀ w,(binOp .quo t (.int k a) (.int k b)).run P w = .ok (.int k (k.wrap (a.tdiv b))) w:=fun w=>by rw[binOp_quo]; simp[Op.intDiv,h0]
  rcases h with ⟨ha,hk,hb,h⟩|h
  ·refine⟨_,_,h,?_,hr⟩
   have e:a.tdiv b=a / b:=Int.tdiv_eq_ediv_of_nonneg ha
   have h1:0<=a / b:=Int.ediv_nonneg ha (by omega)
   have h2:a / b<=a:=Int.ediv_le_self b ha
   rw[e,Ev.z6 k _ (by (have:Ev.kB k<=0:=by cases k<;>simp[Ev.kB,IntKind.signed,IntKind.bits]); omega) (by omega)]
   exact Is.int
  ·exact⟨_,_,h,Is.int,hr⟩
 case rem =>
  obtain⟨h0,h⟩:=h
  have hr:∀ w,(binOp .rem t (.int k a) (.int k b)).run P w = .ok (.int k (a.tmod b)) w:=fun w=>by rw[binOp_rem]; simp[Op.intDiv,h0]
  rcases h with ⟨ha,hb,h⟩|h
  ·refine⟨_,_,h,?_,hr⟩
   rw[Int.tmod_eq_emod_of_nonneg ha]
   exact Is.int
  ·exact⟨_,_,h,Is.int,hr⟩
 case and=>exact⟨_,_,h,Is.int,fun w=>by rw[binOp_and,intBits_and]; rfl⟩
 case or=>exact⟨_,_,h,Is.int,fun w=>by rw[binOp_or,intBits_or]; rfl⟩
 case xor=>exact⟨_,_,h,Is.int,fun w=>by rw[binOp_xor,intBits_xor]; rfl⟩
 case andNot=>exact⟨_,_,h,Is.int,fun w=>by rw[binOp_andNot,intBits_andNot]; rfl⟩
 case eql=>exact bl h fun w=>(cmp w).1
 case neq=>exact bl h fun w=>by rw[(cmp w).2.1]; congr 2; by_cases hh:a=b<;>simp[hh]
 case lss=>exact bl h fun w=>(cmp w).2.2.1
 case leq=>exact bl h fun w=>(cmp w).2.2.2.1
 case gtr=>exact bl h fun w=>(cmp w).2.2.2.2.1
 case geq=>exact bl h fun w=>(cmp w).2.2.2.2.2
theorem JC {op:BinOp} {t:TypeId} {k:IntKind} {a b:Int} {q:PV->Prop} (h:Ob op k a b q):∃ x v,q x/\x.Is w I β v/\∀ w,(binOp op t (.int k a) (.int k b)).run P w = .ok v w:=by
 have cmp:=fun w=>vY (P:=P) (op:=op) (t:=t) (k:=k) (a:=a) (b:=b) w
 have bl:∀ {b':Bool},tf b' q->(∀ w,(binOp op t (.int k a) (.int k b)).run P w = .ok (.bool b') w)->∃ x v,q x/\x.Is w I β v/\∀ w,(binOp op t (.int k a) (.int k b)).run P w = .ok v w:=fun h hr=>by
  obtain⟨x,h,hx⟩:=EN (w:=w) (I:=I) (β:=β) h
  exact⟨x,_,h,hx,hr⟩
 cases op<;>simp only[Ob] at h
 case add=>exact⟨_,_,h,Is.lit,fun w=>by rw[binOp_add]; rfl⟩
 case sub=>exact⟨_,_,h,Is.lit,fun w=>by rw[binOp_sub]; rfl⟩
 case mul=>exact⟨_,_,h,Is.lit,fun w=>by rw[binOp_mul]; rfl⟩
 case quo =>
  cases h0:decide (b=0)<;>rw[h0] at h
  ·exact⟨_,_,h,Is.lit,fun w=>by rw[binOp_quo]; simp[Op.intDiv,of_decide_eq_false h0]⟩
  ·exact h.elim
 case rem =>
  cases h0:decide (b=0)<;>rw[h0] at h
  ·exact⟨_,_,h,Is.lit,fun w=>by rw[binOp_rem]; simp[Op.intDiv,of_decide_eq_false h0]⟩
  ·exact h.elim
 case and=>exact⟨_,_,h,Is.lit,fun w=>by rw[binOp_and,intBits_and]; rfl⟩
 case or=>exact⟨_,_,h,Is.lit,fun w=>by rw[binOp_or,intBits_or]; rfl⟩
 case xor=>exact⟨_,_,h,Is.lit,fun w=>by rw[binOp_xor,intBits_xor]; rfl⟩
 case andNot=>exact⟨_,_,h,Is.lit,fun w=>by rw[binOp_andNot,intBits_andNot]; rfl⟩
 case eql=>exact bl h fun w=>(cmp w).1
 case neq=>exact bl h fun w=>(cmp w).2.1
 case lss=>exact bl h fun w=>(cmp w).2.2.1
 case leq=>exact bl h fun w=>(cmp w).2.2.2.1
 case gtr=>exact bl h fun w=>(cmp w).2.2.2.2.1
 case geq=>exact bl h fun w=>(cmp w).2.2.2.2.2
theorem vZ {op:BinOp} {st:Bool} {t:TypeId} {k k':IntKind} {a b:Int} {q:PV->Prop} (h:shift op st k a b q):∃ x v,q x/\x.Is w I β v/\∀ w,(binOp op t (.int k a) (.int k' b)).run P w = .ok v w:=by
 have hl:0<=b->∀ w,(binOp .shl t (.int k a) (.int k' b)).run P w = .ok (.int k (k.wrap (a*Ev.aV k b))) w:=fun h0 w=>by
  rw[binOp_shl]
  simp only[Op.shift,if_neg (by omega:¬ b < 0),Ev.aV]
  simp
 have hr:0<=b->∀ w,(binOp .shr t (.int k a) (.int k' b)).run P w = .ok (.int k (a / Ev.aV k b)) w:=fun h0 w=>by
  rw[binOp_shr]
  simp only[Op.shift,if_neg (by omega:¬ b < 0),Ev.aV,Ev.fdiv_pow]
  rfl
 unfold shift at h
 split at h
 ·obtain⟨h0,h⟩:=bp h
  exact⟨_,_,h,Is.lit,hl (of_decide_eq_true h0)⟩
 ·obtain⟨h0,h⟩:=bp h
  exact⟨_,_,h,Is.lit,hr (of_decide_eq_true h0)⟩
 ·obtain⟨h0,h⟩:=h
  obtain⟨x,h,hx⟩:=p6 (w:=w) (I:=I) (β:=β) h
  exact⟨x,_,h,hx,hl h0⟩
 ·obtain⟨h0,h⟩:=h
  exact⟨_,_,h,Is.int,hr h0⟩
 ·exact h.elim
theorem JD {op:BinOp} {sx sy:Bool} {t:TypeId} {k k':IntKind} {a b:Int} {q:PV->Prop} (h:Oc op sx sy k k' a b q):∃ x v,q x/\x.Is w I β v/\∀ w,(binOp op t (.int k a) (.int k' b)).run P w = .ok v w:=by
 unfold Oc at h
 split at h
 ·exact vZ h
 ·exact vZ h
 ·obtain⟨hk,h'⟩:=bp h
  have cM:=of_decide_eq_true hk
  subst cM
  clear h hk
  cases sx<;>cases sy
  ·exact uB h'
  ·exact uB h'
  ·exact uB h'
  ·exact JC h'
theorem yG {op:BinOp} {t:TypeId} {p:Prop} {q:PV->Prop} {u v:Value} (h:Vx op p q) (he:op = .eql->∀ w,(binOp .eql t u v).run P w = .ok (.bool (pb p)) w) (hn:op = .neq->∀ w,(binOp .neq t u v).run P w = .ok (.bool (!pb p)) w) :
  ∃ x r,q x/\x.Is w I β r/\∀ w,(binOp op t u v).run P w = .ok r w:=by
 cases op<;>simp only[Vx] at h
 case eql=>exact⟨_,_,h,Is.bool,he rfl⟩
 case neq =>
  refine⟨_,_,h,Is.bool,fun w=>?_⟩
  rw[hn rfl w]
  congr 2
  by_cases hp:p
  ·rw[cv hp,b_ (fun h=>h hp)]; rfl
  ·rw[b_ hp,cv hp]; rfl
theorem uC {op:BinOp} {t:TypeId} {b:Bool} {q:PV->Prop} {u v:Value} (h:yC op b q) (he:op = .eql->∀ w,(binOp .eql t u v).run P w = .ok (.bool b) w) (hn:op = .neq->∀ w,(binOp .neq t u v).run P w = .ok (.bool (!b)) w) :
  ∃ x r,q x/\x.Is w I β r/\∀ w,(binOp op t u v).run P w = .ok r w:=by
 cases op<;>simp only[yC] at h
 case eql =>
  obtain⟨x,h,hx⟩:=EN (w:=w) (I:=I) (β:=β) h
  exact⟨x,_,h,hx,he rfl⟩
 case neq =>
  obtain⟨x,h,hx⟩:=EN (w:=w) (I:=I) (β:=β) h
  exact⟨x,_,h,hx,hn rfl⟩
theorem kH (hO:Ev.f_ cx) {t:TypeId} {cs:List PV} {off:Nat} {x:PV} {vs:Array Value} (h:pg cx t cs off=some x) (hc:bH w I cs β vs.toList) :
  ∃ v,x.Is w I β v/\∀ w',(Go.part t vs off).run cx.P w' = .ok v w':=by
 unfold pg at h
 split at h
 ·rename_i n ha hn
  split at h
  ·cases h
   refine⟨.agg (vs.extract off (off+n)),?_,fun w'=>?_⟩
   ·simp only[PV.Is]
    refine⟨_,rfl,?_⟩
    have:=(hc.drop off).take n
    rw[show (vs.extract off (off+n)).toList=(vs.toList.drop off).take n by simp]
    exact this
   ·simp[Go.part,Ev.im hO ha,Ev.dQ hO hn]
  ·cases h
 ·rename_i ha
  obtain⟨v,hv,hi⟩:=hc.get h
  refine⟨v,hi,fun w'=>?_⟩
  have hv':vs[off]?=some v:=by simpa using hv
  simp[Go.part,Ev.im hO ha,hv']
 ·cases h
end
section
variable {w:World} {I:Nat->Prop} {β:aB} {cx:Ev.Cx} {G:Gx} {P:Program} {s:bb} {a:Act}
theorem Af (hO:Ev.f_ cx) {t:TypeId} {cs:List PV} {off:Nat} {q:PV->Prop} {vs:Array Value} (h:part cx t cs off q) (hc:bH w I cs β vs.toList) :
  ∃ x v,q x/\x.Is w I β v/\∀ w',(Go.part t vs off).run cx.P w' = .ok v w':=by
 replace h:=aA h
 obtain⟨x,hx,h⟩:=h
 obtain⟨v,h1,h2⟩:=kH hO hx hc
 exact⟨x,v,yF h,h1,h2⟩
theorem EO {p q:Prop}:pb (p/\q)=(pb p && pb q):=by
 by_cases hp:p<;>by_cases hq:q
 ·rw[cv ⟨hp,hq⟩,cv hp,cv hq]; rfl
 ·rw[b_ fun h=>hq h.2,cv hp,b_ hq]; rfl
 ·rw[b_ fun h=>hp h.1,b_ hp]; rfl
 ·rw[b_ fun h=>hp h.1,b_ hp]; rfl
theorem uD {p q:Prop}:pb (p↔q)=(pb p == pb q):=by
 by_cases hp:p<;>by_cases hq:q
 ·rw[cv ⟨fun _=>hq,fun _=>hp⟩,cv hp,cv hq]; rfl
 ·rw[b_ fun h=>hq (h.1 hp),cv hp,b_ hq]; rfl
 ·rw[b_ fun h=>hp (h.2 hq),b_ hp,cv hq]; rfl
 ·rw[cv ⟨fun h=>absurd h hp,fun h=>absurd h hq⟩,b_ hp,b_ hq]; rfl
theorem Ag (hO:Ev.f_ cx) {r:TypeId->PV->PV->Option Prop} {d:Nat} {xs ys:List PV} {us vs:Array Value} (hx:bH w I xs β us.toList) (hy:bH w I ys β vs.toList)
  (hr:∀ t a b p u v,r t a b=some p->a.Is w I β u->b.Is w I β v->∀ w',(Op.equalIn d t u v).run cx.P w' = .ok (pb p) w') :
  ∀ {fs:List Field} {p:Prop},(fs.all fun f=>decide (f.name≠"_"))=true->vR r cx xs ys fs=some p->∀ w',(Op.eqFields d us vs fs).run cx.P w' = .ok (pb p) w'
 | [],p,_,h,w'=>by
  simp only[vR,Option.some.injEq] at h
  subst h
  rw[cv trivial]; rfl
 | f::fs,p,hn,h,w'=>by
  rw[List.all_cons,Bool.and_eq_true] at hn
  unfold vR at h
  split at h
  ·rename_i a b ha hb
   split at h
   ·rename_i e1 e2 h1 h2
    cases h
    obtain⟨u,hu,ru⟩:=kH hO ha hx
    obtain⟨v,hv,rv⟩:=kH hO hb hy
    have rq1:=hr _ _ _ _ _ _ h1 hu hv
    have rq2:=Ag hO hx hy hr hn.2 h2
    have de:f.name≠"_":=by simpa using hn.1
    simp only[Op.eqFields,if_pos de,Sem.run_bind,ru,rv,rq1,Result.andThen_ok,Sem.run_ite,rq2,Sem.run_pure,EO]
    cases pb e1<;>simp
   ·cases h
  ·cases h
theorem qt (hO:Ev.f_ cx) {r:TypeId->PV->PV->Option Prop} {d c:Nat} {e:TypeId} {xs ys:List PV} {us vs:Array Value} (hx:bH w I xs β us.toList) (hy:bH w I ys β vs.toList)
  (hr:∀ t a b p u v,r t a b=some p->a.Is w I β u->b.Is w I β v->∀ w',(Op.equalIn d t u v).run cx.P w' = .ok (pb p) w') :
  ∀ (k i:Nat) {p:Prop},m5 r cx e c xs ys k (i*c)=some p->∀ w',(Op.eqItems d e c us vs (List.range' i k)).run cx.P w' = .ok (pb p) w'
 | 0,i,p,h,w'=>by
  simp only[m5,Option.some.injEq] at h
  subst h
  rw[cv trivial]; rfl
 | k+1,i,p,h,w'=>by
  unfold m5 at h
  split at h
  ·rename_i a b ha hb
   split at h
   ·rename_i e1 e2 h1 h2
    cases h
    obtain⟨u,hu,ru⟩:=kH hO ha hx
    obtain⟨v,hv,rv⟩:=kH hO hb hy
    have rq1:=hr _ _ _ _ _ _ h1 hu hv
    have rq2:=qt hO hx hy hr k (i+1) (by rw[Nat.succ_mul]; exact h2)
    simp only[List.range'_succ,Op.eqItems,Sem.run_bind,ru,rv,rq1,Result.andThen_ok,Sem.run_ite,rq2,Sem.run_pure,EO]
    cases pb e1<;>simp
   ·cases h
  ·cases h
theorem uE (hO:Ev.f_ cx):∀ (n d:Nat),n<=d->∀ (t:TypeId) (a b:PV) (p:Prop) (u v:Value),Jc cx n t a b=some p->a.Is w I β u->b.Is w I β v ->
  ∀ w',(Op.equalIn d t u v).run cx.P w' = .ok (pb p) w'
 | 0,_,_,_,_,_,_,_,_,h,_,_=>by simp[Jc] at h
 | n+1,0,hd,_,_,_,_,_,_,_,_,_=>by omega
 | n+1,d+1,hd,t,a,b,p,u,v,h,ha,hb=>by
  intro w'
  unfold Jc at h
  split at h
  ·rename_i k hu
   split at h
   ·rename_i b1 k1 x b2 k2 y hax Nc
    split at h
    ·rename_i hk
     simp only[decide_eq_true_eq] at hk
     subst hk
     cases h
     rw[PV.mu hax ha,PV.mu Nc hb,run_equalIn_int w' d t k1 k x y (hO.un hu),EA]; rfl
    ·cases h
   ·cases h
  ·rename_i hu
   split at h
   ·rename_i p1 p2 hax Nc
    cases h
    rw[PV.Ae hax ha,PV.Ae Nc hb,run_equalIn_bool' w' d t _ _ (hO.un hu),uD]
   ·cases h
  ·rename_i fs hu
   split at h
   ·rename_i xs ys
    split at h
    ·rename_i hc
     simp only[PV.Is] at ha hb
     obtain⟨us,rfl,VA⟩:=ha
     obtain⟨vs,rfl,hvs⟩:=hb
     obtain⟨t',Ah,VB⟩:=List.any_eq_true.1 hc
     have:t=t':=Nat.eq_of_beq_eq_true VB
     subst this
     obtain⟨_,VC,Oh⟩:=hO.eq _ Ah
     have Oi:cx.P.fieldsOf t=fs:=by unfold Program.fieldsOf; rw[hO.un hu]
     rw[run_equalIn_struct w' d t us vs (by rw[Oi]; exact hO.un hu) VC,Oi]
     exact Ag (d:=d) hO VA hvs (fun t a b e u v h ha hb=>uE hO n d (by omega) t a b e u v h ha hb) (by rw[← Oi]; exact Oh) h w'
    ·cases h
   ·cases h
  ·rename_i len elem hu
   split at h
   ·rename_i xs ys
    split at h
    ·rename_i c hc
     simp only[PV.Is] at ha hb
     obtain⟨us,rfl,VA⟩:=ha
     obtain⟨vs,rfl,hvs⟩:=hb
     obtain⟨i,hi,hic⟩:=Ev.js hO hc
     have l_:cx.P.cellsOf elem=c:=by unfold Program.cellsOf; rw[hi]; exact hic
     rw[run_equalIn_array w' d us vs (hO.un hu) hi,l_,List.range_eq_range']
     exact qt (d:=d) hO VA hvs (fun t a b e u v h ha hb=>uE hO n d (by omega) t a b e u v h ha hb) len 0 (by rw[Nat.zero_mul]; exact h) w'
    ·cases h
   ·cases h
  ·cases h
theorem fW {st:List ak} (hR:aO I β st w) {l:Nat} {b:ak} {p:ow} (hb:st[l]?=some b) (hl:b.live=true) (hk:b.k = .arr) (hp:β l=some p):∃ g arr fr,p.a=some (g,0)/\p.whole = .slice (some ⟨g,0,none⟩) p.len p.cap/\w.heap[g]?=some (.cells arr b.ty fr)/\bB w I β b.cs arr 0/\Own I β st l g fr b/\b.cs.length=p.len*b.size/\p.len<=p.cap/\p.cap<=maxLen/\arr.size=p.cap*b.size/\0 < b.size:=by
 obtain⟨q,hq,h⟩:=hR.gw l b hb hl
 rw[hp] at hq
 cases hq
 rw[hk] at h
 obtain⟨g,arr,fr,ha,h⟩:=h
 exact⟨g,arr,fr,ha,by unfold ow.whole; rw[ha],h⟩
theorem dN {st:List ak} (hR:aO I β st w) {l:Nat} {b:ak} {p:ow} (hb:st[l]?=some b) (hl:b.live=true) (hk:b.k = .dyn) (hp:β l=some p):0 < b.size/\b.cs.length=p.len/\p.len<=p.cap/\p.cap<=maxLen/\((p.a=none/\p.cap=0/\p.whole = .slice none 0 0)\/∃ g arr fr,p.a=some (g,0)/\p.whole = .slice (some ⟨g,0,none⟩) p.len p.cap/\w.heap[g]?=some (.cells arr b.ty fr)/\cB w I b.cs b.size g 0/\Own I β st l g fr b/\arr.size=p.cap*b.size):=by
 obtain⟨q,hq,h⟩:=hR.gw l b hb hl
 rw[hp] at hq
 cases hq
 rw[hk] at h
 obtain⟨⟨h1,h2,h3,h4⟩,h⟩:=h
 refine⟨h1,h2,h3,h4,?_⟩
 rcases h with ⟨ha,hc⟩|⟨g,arr,fr,ha,h⟩
 ·exact .inl ⟨ha,hc,by unfold ow.whole; rw[ha]⟩
 ·exact .inr ⟨g,arr,fr,ha,by unfold ow.whole; rw[ha],h⟩
theorem EP (hO:Ev.f_ cx) (hR:aO I β s.st w) {op:BinOp} {t e:TypeId} {x:PV} {u:Value} {q:PV->Prop} (hu:cx.l9 t=some (.slice e)) (h:EE s.st op x q) (hx:x.Is w I β u) :
  ∃ y v,q y/\y.Is w I β v/\(∀ f g:Operand,eqGuard op t f g u (.slice none 0 0)=pure ())/\∀ w',(binOp op t u (.slice none 0 0)).run cx.P w' = .ok v w':=by
 have gen:∀ {ad:Option Addr} {n c:Nat},u = .slice ad n c->yC op ad.isNone q->∃ y v,q y/\y.Is w I β v/\(∀ f g:Operand,eqGuard op t f g u (.slice none 0 0)=pure ())/\∀ w',(binOp op t u (.slice none 0 0)).run cx.P w' = .ok v w':=by
  intro ad n c Ea h
  subst Ea
  obtain⟨y,v,h1,h2,h3⟩:=uC (P:=cx.P) (t:=t) (u:=.slice ad n c) (v:=.slice none 0 0) (w:=w) (I:=I) (β:=β) h (fun _ w'=>by simp only[binOp]; simp[Op.equal,Op.maxDepth,Lib.run_equalIn_slice_nil w' 9999 t e ad n c 0 0 (hO.un hu)]) (fun _ w'=>run_neq_slice_nil_any w' t e _ _ _ _ _ (hO.un hu))
  exact⟨y,v,h1,h2,fun f g=>eqGuard_at_slice _ _ _ _ _ _ _ _,h3⟩
 unfold EE at h
 split at h
 ·simp only[PV.Is] at hx
  exact gen hx h
 ·simp only[PV.Is] at hx
  obtain⟨p,g,o,cap,_,_,rfl,_⟩:=hx
  exact gen rfl h
 ·rename_i l
  replace h:=aA h
  obtain⟨b,hb,h⟩:=h
  replace h:=bp h
  obtain⟨hl,h⟩:=h
  simp only[PV.Is] at hx
  obtain⟨p,hp,rfl⟩:=hx
  split at h
  ·rename_i hk
   obtain⟨g,arr,fr,_,hw,_⟩:=fW hR hb hl hk hp
   exact gen hw h
  ·rename_i hk
   obtain⟨_,h1,h2,_,h3⟩:=dN hR hb hl hk hp
   rcases h with ⟨de,h⟩|⟨ht,hf⟩
   ·rcases h3 with ⟨_,hc,_⟩|⟨g,arr,fr,_,hw,_⟩
    ·omega
    ·exact gen hw h
   ·rcases h3 with ⟨_,hc,hw⟩|⟨g,arr,fr,_,hw,_⟩
    ·exact gen hw ht
    ·exact gen hw hf
  ·exact h.elim
 ·rename_i es
  simp only[PV.Is] at hx
  obtain⟨ad,cap,rfl,_,_,_,h4⟩:=hx
  rcases h with ⟨de,h⟩|⟨ht,hf⟩
  ·obtain⟨g,o,rfl,_⟩:=h4 de
   exact gen rfl h
  ·cases ad with
   | none=>exact gen rfl ht
   | some a=>exact gen rfl hf
 ·exact h.elim
theorem JE (hO:Ev.f_ cx) (hR:aO I β s.st w) {op:BinOp} {t:TypeId} {x y:PV} {u v:Value} {q:PV->Prop} (h:Od cx s.st op t x y q) (hx:x.Is w I β u) (hy:y.Is w I β v) :
  ∃ z r,q z/\z.Is w I β r/\(∀ (f g:Operand) (w':World),(eqGuard op t f g u v).run cx.P w' = .ok () w')/\∀ w',(binOp op t u v).run cx.P w' = .ok r w':=by
 have tx:∀ {u v:Value},(∀ f g:Operand,eqGuard op t f g u v=pure ())->∀ (f g:Operand) (w':World),(eqGuard op t f g u v).run cx.P w' = .ok () w':=fun h f g w'=>by rw[h]; rfl
 unfold Od at h
 split at h
 ·rename_i sx k a hxa
  replace h:=aA h
  obtain⟨⟨sy,k',b⟩,hyb,h⟩:=h
  rw[PV.mu hxa hx,PV.mu hyb hy]
  obtain⟨z,r,h1,h2,h3⟩:=JD (P:=cx.P) (t:=t) (w:=w) (I:=I) (β:=β) h
  exact⟨z,r,h1,h2,tx fun f g=>eqGuard_at_int _ _ _ _ _ _ _,h3⟩
 ·replace h:=aA h
  obtain⟨d,hu,h⟩:=h
  split at h
  ·replace h:=aA h
   obtain⟨p,hp,h⟩:=h
   replace h:=aA h
   obtain⟨p',eU,h⟩:=h
   rw[PV.Ae hp hx,PV.Ae eU hy]
   obtain⟨z,r,h1,h2,h3⟩:=yG (P:=cx.P) (t:=t) (u:=.bool (pb p)) (v:=.bool (pb p')) (w:=w) (I:=I) (β:=β) h
    (fun _ w'=>by rw[Ev.Jv rfl (run_equal_bool w' t _ _ (hO.un hu)),uD]) (fun _ w'=>by rw[Ev.Jw rfl (run_equal_bool w' t _ _ (hO.un hu)),uD])
   exact⟨z,r,h1,h2,tx fun f g=>eqGuard_at_bool _ _ _ _ _ _,h3⟩
  ·split at h
   ·simp only[PV.Is] at hx hy
    obtain⟨rfl,_⟩:=hx
    obtain⟨rfl,_⟩:=hy
    obtain⟨z,r,h1,h2,h3⟩:=uC (P:=cx.P) (t:=t) (u:=.string _) (v:=.string _) (w:=w) (I:=I) (β:=β) h (fun _ w'=>rfl) (fun _ w'=>rfl)
    exact⟨z,r,h1,h2,tx fun f g=>eqGuard_at_string _ _ _ _ _ _,h3⟩
   ·exact h.elim
  ·split at h
   ·simp only[PV.Is] at hy
    subst hy
    obtain⟨z,r,h1,h2,h3,h4⟩:=EP hO hR hu h hx
    exact⟨z,r,h1,h2,tx h3,h4⟩
   ·exact h.elim
  ·rename_i e
   have hpt:cx.P.underlying t=some (.pointer (cx.P.pointee t)):=by have:=hO.un hu; rw[this]; simp[Program.pointee,this]
   split at h
   ·simp only[PV.Is] at hx hy
    obtain⟨rfl,_⟩:=hx
    obtain⟨rfl,_⟩:=hy
    obtain⟨z,r,h1,h2,h3⟩:=uC (P:=cx.P) (t:=t) (u:=.pointer none) (v:=.pointer none) (w:=w) (I:=I) (β:=β) h (fun _ w'=>by rw[run_eql_pointer_nil w' t _ hpt]; rfl) (fun _ w'=>by rw[run_neq_pointer_nil w' t _ hpt]; rfl)
    exact⟨z,r,h1,h2,tx fun f g=>eqGuard_at_pointer _ _ _ _ _ _,h3⟩
   ·simp only[PV.Is] at hx hy
    obtain⟨rfl,_⟩:=hy
    obtain⟨p,g,o,_,_,rfl⟩:=hx
    obtain⟨z,r,h1,h2,h3⟩:=uC (P:=cx.P) (t:=t) (u:=.pointer (some ⟨g,o+_,none⟩)) (v:=.pointer none) (w:=w) (I:=I) (β:=β) h (fun _ w'=>by rw[run_eql_pointer_nil w' t _ hpt]; rfl) (fun _ w'=>by rw[run_neq_pointer_nil w' t _ hpt]; rfl)
    exact⟨z,r,h1,h2,tx fun f g=>eqGuard_at_pointer _ _ _ _ _ _,h3⟩
   ·exact h.elim
  ·split at h
   ·rename_i xs ys
    replace h:=bp h
    obtain⟨hc,h⟩:=h
    replace h:=aA h
    obtain⟨p,hp,h⟩:=h
    obtain⟨t',Ah,VB⟩:=List.any_eq_true.1 hc
    have:t=t':=Nat.eq_of_beq_eq_true VB
    subst this
    obtain⟨yH,_,_⟩:=hO.eq _ Ah
    have he:=uE hO 6 10000 (by decide) t _ _ _ u v hp hx hy
    simp only[PV.Is] at hx hy
    obtain⟨us,rfl,_⟩:=hx
    obtain⟨vs,rfl,_⟩:=hy
    obtain⟨z,r,h1,h2,h3⟩:=yG (P:=cx.P) (t:=t) (u:=.agg us) (v:=.agg vs) (w:=w) (I:=I) (β:=β) h (fun _ w'=>by rw[run_eql_struct,he]; rfl) (fun _ w'=>by rw[run_neq_struct,he]; rfl)
    exact⟨z,r,h1,h2,fun f g w'=>run_eqGuard_agg w' op t f g us vs yH,h3⟩
   ·exact h.elim
  ·split at h
   ·rename_i xs ys
    replace h:=bp h
    obtain⟨hc,h⟩:=h
    replace h:=aA h
    obtain⟨p,hp,h⟩:=h
    obtain⟨t',Ah,VB⟩:=List.any_eq_true.1 hc
    have:t=t':=Nat.eq_of_beq_eq_true VB
    subst this
    obtain⟨yH,_,_⟩:=hO.eq _ Ah
    have he:=uE hO 6 10000 (by decide) t _ _ _ u v hp hx hy
    simp only[PV.Is] at hx hy
    obtain⟨us,rfl,_⟩:=hx
    obtain⟨vs,rfl,_⟩:=hy
    obtain⟨z,r,h1,h2,h3⟩:=yG (P:=cx.P) (t:=t) (u:=.agg us) (v:=.agg vs) (w:=w) (I:=I) (β:=β) h (fun _ w'=>by rw[run_eql_struct,he]; rfl) (fun _ w'=>by rw[run_neq_struct,he]; rfl)
    exact⟨z,r,h1,h2,fun f g w'=>run_eqGuard_agg w' op t f g us vs yH,h3⟩
   ·exact h.elim
  ·exact h.elim
theorem Oj {op:UnOp} {x:PV} {u:Value} {q:PV->Prop} (h:pun op x q) (hx:x.Is w I β u):∃ z r,q z/\z.Is w I β r/\∀ w',(Op.unary op u).run P w' = .ok r w':=by
 unfold pun at h
 split at h<;>try simp only[PV.Is] at hx
 ·subst hx
  refine⟨_,_,h,Is.lit,fun w'=>?_⟩
  rename_i k a
  rw[show -a=0 - a by omega]; rfl
 ·subst hx
  obtain⟨z,h,hz⟩:=p6 (w:=w) (I:=I) (β:=β) h
  refine⟨z,_,h,hz,fun w'=>?_⟩
  rename_i k a _
  rw[show -a=0 - a by omega]; rfl
 ·subst hx; exact⟨_,_,h,Is.lit,fun w'=>rfl⟩
 ·subst hx; exact⟨_,_,h,Is.int,fun w'=>rfl⟩
 ·subst hx; exact⟨_,_,h,Is.ff,fun w'=>rfl⟩
 ·subst hx; exact⟨_,_,h,Is.tt,fun w'=>rfl⟩
 ·subst hx
  rename_i p
  refine⟨_,_,h,Is.bool,fun w'=>?_⟩
  by_cases hp:p
  ·rw[cv hp,b_ fun h=>h hp]; rfl
  ·rw[b_ hp,cv hp]; rfl
 ·exact h.elim
theorem ER (hO:Ev.f_ cx) {src dst:TypeId} {x:PV} {u:Value} {q:PV->Prop} (h:M_ cx src dst x q) (hx:x.Is w I β u):∃ z r,q z/\z.Is w I β r/\∀ w',(convert src dst u).run cx.P w' = .ok r w':=by
 replace h:=aA h
 obtain⟨d1,hs,h⟩:=h
 replace h:=aA h
 obtain⟨d2,hd,h⟩:=h
 split at h<;>try simp only[PV.Is] at hx
 ·subst hx
  exact⟨_,_,h,Is.lit,fun w'=>by simp[convert,run_underlying (hO.un hs),run_underlying (hO.un hd),Conv.intToInt]⟩
 ·subst hx
  obtain⟨z,h,hz⟩:=p6 (w:=w) (I:=I) (β:=β) h
  exact⟨z,_,h,hz,fun w'=>by simp[convert,run_underlying (hO.un hs),run_underlying (hO.un hd),Conv.intToInt]⟩
 ·exact h.elim
theorem jx (hO:Ev.f_ cx) {t:TypeId} {q:List PV->Prop} (h:oz cx t q):∃ z i v,q z/\cx.P.info? t=some i/\i.zero=some v/\bH w I z β v.cells.toList:=by
 replace h:=aA h
 obtain⟨v,hv,h⟩:=h
 replace h:=vX (w:=w) (I:=I) (β:=β) h
 obtain⟨x,h,hx,hn⟩:=h
 rw[Option.bind_eq_some_iff] at hv
 obtain⟨ti,hti,hz⟩:=hv
 obtain⟨i,hi,_,h2⟩:=hO.inf _ (Ev.iU hti)
 exact⟨_,i,v,h,hi,h2.trans hz,hx.kF hn⟩
theorem bb.cI (hR:Rel G I β s a w) {o:Operand} {q:PV->Prop} (h:s.ev o q):∃ x,q x/\x.Is w I β (a.eval o):=by
 cases o with
 | tmp t =>
  replace h:=aA h
  obtain⟨x,hx,h⟩:=h
  obtain⟨v,hv,hi⟩:=hR.get t x hx
  exact⟨x,h,by simp only[Act.eval,Array.getD_eq_getD_getElem?,hv,Option.getD_some]; exact hi⟩
 | const v =>
  replace h:=vX (w:=w) (I:=I) (β:=β) h
  obtain⟨x,h,hx,_⟩:=h
  exact⟨x,h,hx⟩
 | global g=>exact⟨_,h,by simp only[PV.Is,Act.eval]⟩
 | func f=>exact⟨_,h,by simp only[PV.Is,Act.eval]; exact⟨#[],rfl,by simp only[bH]⟩⟩
def uF (w:World) (I:Nat->Prop) (β:aB):List (Nat × PV)->List (Nat × Value)->Prop
 | [],[]=>True
 | p::ps,v::vs=>(p.1=v.1/\p.2.Is w I β v.2/\∀ ts,p.2≠.tup ts)/\uF w I β ps vs
 | _,_=>False
theorem oC (hR:Rel G I β s a w):∀ {ps:List (Nat × Operand)} {q:List (Nat × PV)->Prop},qp s ps q->∃ l,q l/\uF w I β l (ps.map fun p=>(p.1,a.eval p.2))
 | [],q,h=>⟨[],h,trivial⟩
 | (i,o)::ps,q,h=>by
  replace h:=bb.cI hR h
  obtain⟨x,h,hx⟩:=h
  have key:(∀ ts,x≠.tup ts)/\qp s ps fun l=>q ((i,x)::l):=by
   cases x<;>first|exact h.elim|exact⟨(fun _ e=>by cases e),h⟩
  obtain⟨l,h,hl⟩:=oC hR key.2
  exact⟨_,h,⟨rfl,hx,key.1⟩,hl⟩
theorem m9 {place:Nat->Option (Nat × Nat)} {q:List PV->Prop}:∀ {ps:List (Nat × PV)} {cells:List PV},tm place cells ps q->∃ cs,tl place cells ps=some cs/\q cs
 | [],cells,h=>⟨cells,rfl,h⟩
 | (i,v)::rest,cells,h=>by
  unfold tm at h
  unfold tl
  split at h
  ·exact h.elim
  ·rename_i off size hp
   obtain⟨hc,h⟩:=bp h
   obtain⟨cs,h1,h2⟩:=m9 (cR h)
   refine⟨cs,?_,h2⟩
   simp only[hc,if_true]
   exact h1
theorem m_ {place:Nat->Option (Nat × Nat)}:∀ {ps:List (Nat × PV)} {vs:List (Nat × Value)} {cells r:List PV} {A:Array Value},tl place cells ps=some r->bH w I cells β A.toList->uF w I β ps vs ->
  ∃ B,Instr.fill place A vs=some B/\bH w I r β B.toList
 | [],[],cells,r,A,h,hc,_=>by simp only[tl,Option.some.injEq] at h; subst h; exact⟨A,rfl,hc⟩
 | (i,x)::ps,(j,v)::vs,cells,r,A,h,hc,UZ=>by
  obtain⟨⟨hij,hx,Ai⟩,ES⟩:=UZ
  simp only at hij hx Ai
  subst hij
  unfold tl at h
  cases pk:place i with
  | none=>rw[pk] at h; cases h
  | some os =>
   obtain⟨off,size⟩:=os
   rw[pk] at h
   simp only at h
   split at h
   ·rename_i ET
    simp only[Bool.and_eq_true] at ET
    have h1:x.cells.length=size:=Nat.eq_of_beq_eq_true ET.1
    have h2:off+size<=cells.length:=Nat.le_of_ble_eq_true ET.2
    have U0:=hx.kF Ai
    have hl:=U0.length
    have Eb:=hc.length
    simp only[Array.length_toList] at hl Eb
    unfold Instr.fill
    rw[pk]
    simp only
    rw[if_neg (by simp; omega)]
    have key:=Ev.tj off v.cells.toList 0 A (by simp; omega)
    have yI:(v.cells.zipIdx.foldl (fun (cs:Array Value) (x:Value × Nat)=>cs.setIfInBounds (off+x.2) x.1) A).toList=A.toList.take off++v.cells.toList++A.toList.drop (off+size):=by
     rw[← Array.foldl_toList,Array.toList_zipIdx]
     rw[key]; simp; congr 2; omega
    refine m_ h ?_ ES
    rw[yI]
    exact ((hc.take off).append U0).append (hc.drop (off+size))
   ·cases h
 | [],_::_,_,_,_,_,_,h=>h.elim
 | _::_,[],_,_,_,_,_,h=>h.elim
theorem BN (hO:Ev.f_ cx) (hR:Rel G I β s a w) {t:TypeId} {parts:Array (Nat × Operand)} {q:PV->Prop} (h:EF cx s t parts.toList q) :
  ∃ x r,q x/\x.Is w I β r/\∀ w',(Instr.build t (parts.map fun (i,y)=>(i,a.eval y))).run cx.P w' = .ok r w':=by
 replace h:=jx (w:=w) (I:=I) (β:=β) hO h
 obtain⟨z,i,v,h,hi,Jf,uG⟩:=h
 replace h:=oC hR h
 obtain⟨ps,h,UZ⟩:=h
 replace h:=aA h
 obtain⟨d,hu,h⟩:=h
 split at h
 ·rename_i fs
  replace h:=aA h
  obtain⟨pl,pk,h⟩:=h
  replace h:=m9 h
  obtain⟨l,hl,h⟩:=h
  obtain⟨B,hB,VD⟩:=m_ hl uG UZ
  refine⟨_,.agg B,cR h,by simp only[PV.Is]; exact⟨B,rfl,VD⟩,fun w'=>run_build w' t _ B ?_⟩
  unfold Program.built
  simp only[hi,hO.un hu,Jf,Ev.tk hO pk]
  rw[← hB]; simp
 ·rename_i n elem
  replace h:=aA h
  obtain⟨sz,fF,h⟩:=h
  replace h:=m9 h
  obtain⟨l,hl,h⟩:=h
  obtain⟨B,hB,VD⟩:=m_ hl uG UZ
  obtain⟨ie,hie,hie2⟩:=Ev.js hO fF
  refine⟨_,.agg B,cR h,by simp only[PV.Is]; exact⟨B,rfl,VD⟩,fun w'=>run_build w' t _ B ?_⟩
  unfold Program.built
  simp only[hi,hO.un hu,Jf,hie,hie2]
  rw[← hB]; simp
 ·exact h.elim
theorem sw (hO:Ev.f_ cx) {t:TypeId} {x:PV} {f:Nat} {u:Value} {q:PV->Prop} (h:qq cx t x f q) (hx:x.Is w I β u):∃ z r,q z/\z.Is w I β r/\∀ w',(Instr.fieldAt t u f).run cx.P w' = .ok r w':=by
 replace h:=aA h
 obtain⟨d,hu,h⟩:=h
 split at h
 ·rename_i fs
  replace h:=aA h
  obtain⟨fd,hfd,h⟩:=h
  replace h:=aA h
  obtain⟨n,hn,h⟩:=h
  replace h:=JB h
  obtain⟨iQ,h⟩:=h
  ·have Ol:n≠0:=fun e=>by subst e; cases iQ
   have Om:fs[f]?=some fd:=by simpa using hfd
   have cg:∀ (b o:Nat) w',(Instr.fieldAt t (.pointer (some ⟨b,o,none⟩)) f).run cx.P w' = .ok (.pointer (some ⟨b,o+fd.offset,none⟩)) w':=fun b o w'=>by
    simp[Instr.fieldAt,run_underlying (hO.un hu),Om,Instr.sureAddr,fieldPlace,Ev.dQ hO hn,Ol,Ev.iv]
   split at h<;>try simp only[PV.Is] at hx
   ·obtain⟨p,g,o,hp,ha,rfl⟩:=hx
    exact⟨_,_,h,by simp only[PV.Is]; exact⟨p,g,o,hp,ha,rfl⟩,fun w'=>by rw[cg]; simp only[Nat.add_assoc]⟩
   ·obtain⟨p,g,o,hp,ha,rfl⟩:=hx
    exact⟨_,_,h,by simp only[PV.Is]; exact⟨p,g,o,hp,ha,rfl⟩,fun w'=>by rw[cg]; congr 4; omega⟩
   ·obtain⟨p,g,o,hp,ha,rfl⟩:=hx
    exact⟨_,_,h,by simp only[PV.Is]; exact⟨p,g,o,hp,ha,rfl⟩,fun w'=>by rw[cg]; congr 4; omega⟩
   ·obtain⟨g,o,rfl,hg,hc⟩:=hx
    exact⟨_,_,h,by simp only[PV.Is]; exact⟨g,o,rfl,hg,hc⟩,fun w'=>by rw[cg]; simp only[Nat.add_assoc]⟩
   ·subst hx
    exact⟨_,_,h,by simp only[PV.Is]; exact rfl,fun w'=>by rw[cg]⟩
   ·subst hx
    exact⟨_,_,h,by simp only[PV.Is]; exact rfl,fun w'=>by rw[cg]; congr 4; omega⟩
   ·exact h.elim
 ·exact h.elim
theorem gB {st:Bool} {i:Int} {len:Nat} {f:Nat->Prop} {g:Prop} (h:within st i len f g):0<=i/\i < len/\(f i.toNat\/g):=by
 cases st with
 | true =>
  replace h:=bp h
  obtain⟨hb,h⟩:=h
  simp only[Bool.and_eq_true,decide_eq_true_eq] at hb
  exact⟨hb.1,hb.2,.inl h⟩
 | false=>exact⟨h.1,h.2.1,.inr h.2.2⟩
theorem EU {es:List PV} {i:Int} {q:PV->Prop} (h:Na es i q):∃ e,0<=i/\i < es.length/\es[i.toNat]?=some e/\q e:=by
 obtain⟨α,l,enc,rfl,h0,h1,h⟩:=h
 have cJ:i.toNat < l.length:=by omega
 exact⟨_,h0,by simpa using h1,by rw[List.getElem?_map,List.getElem?_eq_getElem cJ]; rfl,h _ (List.getElem?_eq_getElem cJ)⟩
theorem sA (hO:Ev.f_ cx) (hR:aO I β s.st w) {t:TypeId} {x i:PV} {u v:Value} {q:PV->Prop} (h:qs cx s.st t x i q) (hx:x.Is w I β u) (hi:i.Is w I β v) :
  ∃ z r,q z/\z.Is w I β r/\∀ w',(Instr.indexAt t u v).run cx.P w' = .ok r w':=by
 replace h:=aA h
 obtain⟨⟨st,k,n⟩,hn,h⟩:=h
 obtain rfl:=PV.mu hn hi
 replace h:=aA h
 obtain⟨d,hu,h⟩:=h
 try simp only at h
 split at h
 ·rename_i len elem
  replace h:=aA h
  obtain⟨size,hs,h⟩:=h
  have cg:∀ (b o:Nat),0<=n->n < len->∀ w',(Instr.indexAt t (.pointer (some ⟨b,o,none⟩)) (.int k n)).run cx.P w' = .ok (.pointer (some ⟨b,o+n.toNat*size,none⟩)) w':=fun b o h0 h1 w'=>by
   simp[Instr.indexAt,Instr.sureAddr,asIntOf,run_underlying (hO.un hu),h0,h1,Ev.dQ hO hs,Ev.iv]
  split at h<;>try simp only[PV.Is] at hx
  ·obtain⟨p,g,o,hp,ha,rfl⟩:=hx
   replace h:=gB h
   obtain⟨h0,h1,h|h⟩:=h
   ·exact⟨_,_,h,by simp only[PV.Is]; exact⟨p,g,o,hp,ha,rfl⟩,fun w'=>by rw[cg _ _ h0 h1]; simp only[Nat.add_assoc]⟩
   ·exact⟨_,_,h,by simp only[PV.Is]; exact⟨p,g,o,hp,ha,rfl⟩,fun w'=>by rw[cg _ _ h0 h1]; simp only[Nat.add_assoc]⟩
  ·subst hx
   replace h:=gB h
   obtain⟨h0,h1,h|h⟩:=h
   ·exact⟨_,_,h,by simp only[PV.Is]; exact rfl,fun w'=>by rw[cg _ _ h0 h1]⟩
   ·exact⟨_,_,h,by simp only[PV.Is]; exact rfl,fun w'=>by rw[cg _ _ h0 h1]⟩
  ·obtain⟨g,o,rfl,hg,hc⟩:=hx
   replace h:=gB h
   obtain⟨h0,h1,h|h⟩:=h
   ·exact⟨_,_,h,by simp only[PV.Is]; exact⟨g,o,rfl,hg,hc⟩,fun w'=>by rw[cg _ _ h0 h1]; simp only[Nat.add_assoc]⟩
   ·exact h.elim
  ·exact h.elim
 ·rename_i elem
  replace h:=aA h
  obtain⟨size,hs,h⟩:=h
  have cg:∀ (b o len cap:Nat),0<=n->n < len->∀ w',(Instr.indexAt t (.slice (some ⟨b,o,none⟩) len cap) (.int k n)).run cx.P w' = .ok (.pointer (some ⟨b,o+n.toNat*size,none⟩)) w':=fun b o len cap h0 h1 w'=>by
   simp[Instr.indexAt,asIntOf,run_underlying (hO.un hu),h0,h1,Ev.dQ hO hs,Ev.iv]
  split at h<;>try simp only[PV.Is] at hx
  ·rename_i m es
   replace h:=bp h
   obtain⟨hm,h⟩:=h
   have hms:m=size:=Nat.eq_of_beq_eq_true hm
   replace h:=EU h
   obtain⟨e,h0,h1,he,h⟩:=h
   obtain⟨ad,cap,rfl,_,_,h2,h3⟩:=hx
   obtain⟨g,o,rfl,hg,_⟩:=h3 (by omega)
   have JF:=(h2 g o rfl).get he
   exact⟨_,_,cR h,by simp only[PV.Is]; exact⟨g,o+n.toNat*m,rfl,hg,JF.2⟩,fun w'=>by rw[cg _ _ _ _ h0 h1,hms]; rfl⟩
  ·obtain⟨p,g,o,cap,hp,ha,rfl,_⟩:=hx
   cases hd:Nb s.st _ with
   | true =>
    rw[hd] at h
    obtain⟨kp,h⟩:=bp (show bif true then _ else _ from h) |>.2 |> bp
    have kp:=Nat.eq_of_beq_eq_true kp
    subst kp
    replace h:=gB h
    obtain⟨h0,h1,h|h⟩:=h
    ·exact⟨_,_,h,by simp only[PV.Is]; exact⟨p,g,o,hp,ha,rfl⟩,fun w'=>by rw[cg _ _ _ _ h0 h1]; simp only[Nat.add_assoc,Nat.mul_one,Nat.add_zero]⟩
    ·exact⟨_,_,h,by simp only[PV.Is]; exact⟨p,g,o,hp,ha,rfl⟩,fun w'=>by rw[cg _ _ _ _ h0 h1]; simp only[Nat.add_assoc,Nat.mul_one,Nat.add_zero]⟩
   | false =>
    rw[hd,cond_false] at h
    replace h:=gB h
    obtain⟨h0,h1,h|h⟩:=h
    ·exact⟨_,_,h,by simp only[PV.Is]; exact⟨p,g,o,hp,ha,rfl⟩,fun w'=>by rw[cg _ _ _ _ h0 h1]; simp only[Nat.add_assoc]⟩
    ·exact⟨_,_,h,by simp only[PV.Is]; exact⟨p,g,o,hp,ha,rfl⟩,fun w'=>by rw[cg _ _ _ _ h0 h1]; simp only[Nat.add_assoc]⟩
  ·rename_i l
   replace h:=aA h
   obtain⟨b,hb,h⟩:=h
   replace h:=bp h
   obtain⟨hc,h⟩:=h
   simp only[Bool.and_eq_true] at hc
   have fF:b.size=size:=Nat.eq_of_beq_eq_true hc.1.2
   obtain⟨p,hp,rfl⟩:=hx
   split at h
   ·rename_i hk
    obtain⟨g,arr,fr,ha,hw,_,_,_,hlen,_,_,_,EV⟩:=fW hR hb hc.1.1 hk hp
    rw[hw]
    rw[lv,Nat.zero_add] at h
    have hq:b.cs.length / size=p.len:=by rw[hlen,fF]; exact Nat.mul_div_cancel _ (by omega)
    rw[hq] at h
    replace h:=gB h
    obtain⟨h0,h1,h|h⟩:=h
    ·exact⟨_,_,h,by simp only[PV.Is]; exact⟨p,g,0,hp,ha,rfl⟩,fun w'=>by rw[cg _ _ _ _ h0 h1]⟩
    ·exact⟨_,_,h,by simp only[PV.Is]; exact⟨p,g,0,hp,ha,rfl⟩,fun w'=>by rw[cg _ _ _ _ h0 h1]; congr 4; omega⟩
   ·rename_i hk
    obtain⟨h0,h1,h⟩:=h
    obtain⟨_,hlen,hle,_,na⟩:=dN hR hb hc.1.1 hk hp
    rcases na with ⟨_,qu,_⟩|⟨g,arr,fr,ha,hw,_⟩
    ·omega
    ·rw[hw]
     exact⟨_,_,h,by simp only[PV.Is]; exact⟨p,g,0,hp,ha,rfl⟩,fun w'=>by rw[cg _ _ _ _ h0 (by omega)]; congr 4⟩
   ·exact h.elim
  ·exact h.elim
 ·exact h.elim
theorem BO (hO:Ev.f_ cx) {t:TypeId} {x i:PV} {u v:Value} {q:PV->Prop} (h:EG cx t x i q) (hx:x.Is w I β u) (hi:i.Is w I β v) :
  ∃ z r,q z/\z.Is w I β r/\∀ w',(Instr.index t u v).run cx.P w' = .ok r w':=by
 replace h:=aA h
 obtain⟨⟨st,k,n⟩,hn,h⟩:=h
 obtain rfl:=PV.mu hn hi
 replace h:=aA h
 obtain⟨d,hu,h⟩:=h
 try simp only at h
 split at h<;>try simp only[PV.Is] at hx
 ·rename_i len elem cs
  obtain⟨vs,rfl,hc⟩:=hx
  replace h:=aA h
  obtain⟨size,hs,h⟩:=h
  replace h:=gB h
  obtain⟨h0,h1,h⟩:=h
  have cg:∀ w',(Instr.index t (.agg vs) (.int k n)).run cx.P w'=(Go.part elem vs (n.toNat*size)).run cx.P w':=fun w'=>by
   simp[Instr.index,asIntOf,run_underlying (hO.un hu),h0,h1,Ev.dQ hO hs]
  rcases h with h|h
  ·obtain⟨z,r,h2,h3,h4⟩:=Af hO h hc
   exact⟨z,r,h2,h3,fun w'=>by rw[cg,h4]⟩
  ·replace h:=aA h
   obtain⟨ag,JG,h⟩:=h
   replace h:=bp h
   obtain⟨hb,h⟩:=h
   simp only[Bool.and_eq_true,Bool.not_eq_true'] at hb
   obtain⟨⟨hag',mv⟩,Eb⟩:=hb
   subst hag'
   have hs1':=Nat.eq_of_beq_eq_true mv
   have hcl':=Nat.eq_of_beq_eq_true Eb
   subst hs1'
   have cJ:n.toNat < cs.length:=by omega
   obtain⟨r,hr,hri⟩:=hc.get (List.getElem?_eq_getElem cJ)
   have pn:vs[n.toNat]?=some r:=by simpa using hr
   exact⟨_,r,h _ (List.getElem?_eq_getElem cJ),hri,fun w'=>by rw[cg]; simp[Go.part,Ev.im hO JG,pn]⟩
 ·rename_i sb
  obtain⟨rfl,_⟩:=hx
  obtain⟨h0,h1,h⟩:=h
  have cJ:n.toNat < sb.size:=by omega
  refine⟨_,_,h,Is.int,fun w'=>?_⟩
  rw[run_index_string w' t sb k _ (hO.un hu),dif_pos ⟨h0,h1⟩]
  have:sb.data.toList[n.toNat]?=some (sb[n.toNat]'cJ):=by
   rw[Array.getElem?_toList,Array.getElem?_eq_getElem cJ]; rfl
  rw[List.getElem?_map,this]; rfl
 ·exact h.elim
end
section
variable {w w':World} {I I':Nat->Prop} {β aU:aB} {cx:Ev.Cx} {G:Gx} {P:Program} {s:bb} {a:Act}
theorem kJ (hR:Rel G I β s a w) {o:Option Operand} {d:Bool × Int} {q:Bool × Int->Prop} (h:Jz s o d q):∃ z,q z/\((o.map a.eval=none/\z=d)\/∃ k,o.map a.eval=some (.int k z.2)):=by
 cases o with
 | none=>exact⟨d,h,.inl ⟨rfl,rfl⟩⟩
 | some o =>
  replace h:=bb.cI hR h
  obtain⟨x,h,hx⟩:=h
  replace h:=aA h
  obtain⟨⟨st,k,n⟩,hn,h⟩:=h
  exact⟨(st,n),h,.inr ⟨k,by simp only[Option.map_some,PV.mu hn hx]⟩⟩
theorem yJ {b:Bool} {len cap H L:Nat} {uh ul:Option Value} (hh:(uh=none/\H=len)\/∃ k i,uh=some (.int k i)/\0<=i/\i<=cap/\H=i.toNat) (hl:(ul=none/\L=0)\/∃ k i,ul=some (.int k i)/\0<=i/\i<=H/\L=i.toNat) (w:World) :
  (Instr.sliceBounds b len cap ul uh none).run P w = .ok (L,H,cap) w:=by
 rcases hh with ⟨rfl,rfl⟩|⟨k,i,rfl,h0,h1,rfl⟩<;>rcases hl with ⟨rfl,rfl⟩|⟨k',i',rfl,g0,g1,rfl⟩
 ·simp[Instr.sliceBounds]
 ·simp[Instr.sliceBounds,Ev.ga g0 g1]
 ·simp[Instr.sliceBounds,Ev.ga h0 h1]
 ·simp[Instr.sliceBounds,Ev.ga h0 h1,Ev.ga g0 g1]
theorem Aj {b:Bool} {len cap:Nat} {uh ul:Option Value} {l h:Bool × Int} (hh:(uh=none/\h.2=(len:Int))\/∃ k,uh=some (.int k h.2)) (hl:(ul=none/\l.2=0)\/∃ k,ul=some (.int k l.2)) (h0:0<=l.2) (h1:l.2<=h.2) (h2:h.2<=cap) (w:World) :
  (Instr.sliceBounds b len cap ul uh none).run P w = .ok (l.2.toNat,h.2.toNat,cap) w:=by
 refine yJ ?_ ?_ w
 ·rcases hh with ⟨e,e'⟩|⟨k,e⟩
  ·exact .inl ⟨e,by omega⟩
  ·exact .inr ⟨k,h.2,e,by omega,by omega,rfl⟩
 ·rcases hl with ⟨e,e'⟩|⟨k,e⟩
  ·exact .inl ⟨e,by omega⟩
  ·exact .inr ⟨k,l.2,e,by omega,by omega,rfl⟩
theorem cB.drop {es:List PV} {n g o:Nat} (k:Nat) (h:cB w I es n g o):cB w I (es.drop k) n g (o+k*n):=cB.of fun i e he=>by
 rw[List.getElem?_drop] at he
 have:=h.get he
 rw[show o+k*n+i*n=o+(k+i)*n by rw[Nat.add_mul]; omega]
 exact this
theorem cB.take {es:List PV} {n g o:Nat} (k:Nat) (h:cB w I es n g o):cB w I (es.take k) n g o:=cB.of fun i e he=>by
 rw[List.getElem?_take] at he
 split at he
 ·exact h.get he
 ·cases he
theorem BP (hO:Ev.f_ G.cx) (hR:Rel G I β s a w) {t:TypeId} {x:PV} {u:Value} {lo hi mx:Option Operand} {q:PV->Prop} (h:EH G.cx s t x lo hi mx q) (hx:x.Is w I β u) :
  ∃ z r,q z/\z.Is w I β r/\∀ w',(Instr.sliceAt t u (lo.map a.eval) (hi.map a.eval) (mx.map a.eval)).run G.cx.P w' = .ok r w':=by
 replace h:=aA h
 obtain⟨d,hu,h⟩:=h
 split at h
 ·rename_i n elem
  replace h:=aA h
  obtain⟨m,hm,h⟩:=h
  replace h:=bp h
  obtain⟨EV,h⟩:=h
  simp only[Bool.and_eq_true] at EV
  replace h:=kJ hR h
  obtain⟨l,h,hl⟩:=h
  replace h:=kJ hR h
  obtain⟨hh,h,BQ⟩:=h
  split at h<;>try simp only[PV.Is] at hx
  ·obtain⟨p,g,o,hp,ha,rfl⟩:=hx
   replace h:=bp h
   obtain⟨hc,h⟩:=h
   simp only[Bool.and_eq_true,decide_eq_true_eq] at hc
   obtain⟨⟨⟨⟨⟨_,_⟩,h0⟩,h1⟩,h2⟩,h3⟩:=hc
   refine⟨_,.slice (some ⟨g,o+_,none⟩) _ (n - l.2.toNat),h,by simp only[PV.Is]; exact⟨p,g,o,n - l.2.toNat,hp,ha,rfl,by omega⟩,fun w'=>?_⟩
   have hb:=fun b=>Aj (P:=G.cx.P) (b:=b) (len:=n) (cap:=n) (BQ.imp (fun ⟨e,e'⟩=>⟨e,by rw[e']⟩) id) (hl.imp (fun ⟨e,e'⟩=>⟨e,by rw[e']⟩) id) h0 h2 h3 w'
   have de:¬ n=l.2.toNat:=by omega
   have e1:hh.2.toNat - l.2.toNat=(hh.2 - l.2).toNat:=by omega
   simp only[Instr.sliceAt,Sem.run_bind,run_underlying (hO.un hu),Result.andThen_ok,Instr.sureAddr,Sem.run_pure,Option.map_none,hb,Ev.dQ hO hm]
   simp[de,Ev.iv,Nat.add_assoc,e1]
  ·exact h.elim
 ·rename_i elem
  replace h:=aA h
  obtain⟨m,hm,h⟩:=h
  replace h:=kJ hR h
  obtain⟨l,h,hl⟩:=h
  have run:∀ (ad:Option Addr) (len cap:Nat) (hh:Bool × Int),((hi.map a.eval=none/\hh.2=(len:Int))\/∃ k,hi.map a.eval=some (.int k hh.2))->0<=l.2->l.2<=hh.2->hh.2<=cap->∃ JH,(∀ w',(Instr.sliceAt t (.slice ad len cap) (lo.map a.eval) (hi.map a.eval) none).run G.cx.P w' = .ok (.slice JH (hh.2 - l.2).toNat (cap - l.2.toNat)) w')/\(ad=none->JH=none)/\(∀ g o,ad=some ⟨g,o,none⟩->l.2 < cap->JH=some ⟨g,o+l.2.toNat*m,none⟩):=by
   intro ad len cap hh BQ h0 h1 h2
   have hb:=fun b w'=>Aj (P:=G.cx.P) (b:=b) (len:=len) (cap:=cap) BQ (hl.imp (fun ⟨e,e'⟩=>⟨e,by rw[e']⟩) id) h0 h1 h2 w'
   have e1:hh.2.toNat - l.2.toNat=(hh.2 - l.2).toNat:=by omega
   cases ad with
   | none =>
    refine⟨none,fun w'=>?_,fun _=>rfl,fun _ _ e=>by cases e⟩
    simp only[Instr.sliceAt,Instr.slice,Sem.run_bind,run_underlying (hO.un hu),Result.andThen_ok,Sem.run_pure,Option.map_none,hb,Ev.dQ hO hm]
    simp[e1]
   | some ad =>
    by_cases Eb:cap=l.2.toNat
    ·refine⟨some ad,fun w'=>?_,(fun e=>by cases e),fun g o e cJ=>by omega⟩
     simp only[Instr.sliceAt,Instr.slice,Sem.run_bind,run_underlying (hO.un hu),Result.andThen_ok,Sem.run_pure,Option.map_none,hb,Ev.dQ hO hm]
     simp[e1,Eb]
    ·refine⟨some (ad.add (l.2.toNat*m)),fun w'=>?_,(fun e=>by cases e),fun g o e cJ=>by cases e; rw[Ev.iv]⟩
     simp only[Instr.sliceAt,Instr.slice,Sem.run_bind,run_underlying (hO.un hu),Result.andThen_ok,Sem.run_pure,Option.map_none,hb,Ev.dQ hO hm]
     simp[e1,Eb]
  split at h<;>try simp only[PV.Is] at hx
  ·subst hx
   replace h:=kJ hR h
   obtain⟨hh,⟨h0,h1,h⟩,BQ⟩:=h
   refine⟨_,.slice none 0 0,h,by simp only[PV.Is],fun w'=>?_⟩
   obtain⟨JH,hr,hn,_⟩:=run none 0 0 hh (BQ.imp (fun ⟨e,e'⟩=>⟨e,by rw[e']; rfl⟩) id) (by omega) (by omega) (by omega)
   rw[hn rfl] at hr
   rw[Option.map_none,hr,h0,h1]; rfl
  ·rename_i b off len
   obtain⟨p,g,o,cap,hp,ha,rfl,hle⟩:=hx
   replace h:=kJ hR h
   obtain⟨hh,h,BQ⟩:=h
   replace h:=bp h
   obtain⟨hc,h⟩:=h
   simp only[Bool.and_eq_true,decide_eq_true_eq] at hc
   obtain⟨⟨⟨⟨⟨_,_⟩,h0⟩,h1⟩,h2⟩,h3⟩:=hc
   refine⟨_,.slice (some ⟨g,o+(off+l.2.toNat*m),none⟩) (hh.2 - l.2).toNat (cap - l.2.toNat),h,by simp only[PV.Is]; exact⟨p,g,o,cap - l.2.toNat,hp,ha,rfl,by omega⟩,fun w'=>?_⟩
   obtain⟨JH,hr,_,hs⟩:=run (some ⟨g,o+off,none⟩) len cap hh (BQ.imp (fun ⟨e,e'⟩=>⟨e,by rw[e']⟩) id) h0 h2 (by omega)
   rw[Option.map_none,hr,hs g (o+off) rfl (by omega)]
   simp only[Nat.add_assoc]
  ·rename_i n es
   obtain⟨ad,cap,rfl,hle,sC,h4,h5⟩:=hx
   replace h:=kJ hR h
   obtain⟨hh,h,BQ⟩:=h
   replace h:=bp h
   obtain⟨hc,h0,h1,h2,h⟩:=h
   simp only[Bool.and_eq_true] at hc
   have aZ:n=m:=Nat.eq_of_beq_eq_true hc.1
   have pL:0 < m:=Nat.le_of_ble_eq_true hc.2
   have hlen:((es.drop l.2.toNat).take (hh.2 - l.2).toNat).length=(hh.2 - l.2).toNat:=by rw[List.length_take,List.length_drop]; omega
   obtain⟨JH,pn,hn,hs⟩:=run ad es.length cap hh (BQ.imp (fun ⟨e,e'⟩=>⟨e,by rw[e']⟩) id) h0 h1 (by omega)
   refine⟨_,_,h,?_,fun w'=>by rw[Option.map_none,pn]⟩
   simp only[PV.Is,hlen]
   refine⟨JH,cap - l.2.toNat,rfl,by omega,by omega,fun g o e=>?_,fun de=>?_⟩
   ·by_cases hz:(hh.2 - l.2).toNat=0
    ·rw[hz,List.take_zero]; simp only[cB]
    ·obtain⟨g',o',On,hg,_⟩:=h5 (by omega)
     have:=hs g' o' On (by omega)
     rw[this] at e
     cases e
     rw[← aZ]
     exact ((h4 _ _ On).drop _).take _
   ·obtain⟨g',o',On,hg,iQ⟩:=h5 (by omega)
    exact⟨g',_,hs g' o' On (by omega),hg,iQ⟩
  ·rename_i b
   obtain⟨p,hp,rfl⟩:=hx
   replace h:=aA h
   obtain⟨k,hb,h⟩:=h
   split at h
   ·rename_i hk
    replace h:=bp h
    obtain⟨hc,h⟩:=h
    simp only[Bool.and_eq_true] at hc
    have fF:k.size=m:=Nat.eq_of_beq_eq_true hc.1.2
    obtain⟨g,arr,fr,ha,hw,_,_,_,hlen,hle,_,_,EV⟩:=fW hR.heap hb hc.1.1 hk hp
    rw[lv,Nat.zero_add] at h
    have hq:k.cs.length / m=p.len:=by rw[hlen,fF]; exact Nat.mul_div_cancel _ (by omega)
    rw[hq] at h
    replace h:=kJ hR h
    obtain⟨hh,h,BQ⟩:=h
    replace h:=bp h
    obtain⟨jq,h⟩:=h
    simp only[Bool.and_eq_true,decide_eq_true_eq] at jq
    obtain⟨⟨⟨⟨⟨_,_⟩,h0⟩,h1⟩,h2⟩,h3⟩:=jq
    refine⟨_,.slice (some ⟨g,0+l.2.toNat*m,none⟩) (hh.2 - l.2).toNat (p.cap - l.2.toNat),h,by simp only[PV.Is]; exact⟨p,g,0,p.cap - l.2.toNat,hp,ha,rfl,by omega⟩,fun w'=>?_⟩
    obtain⟨JH,hr,_,hs⟩:=run (some ⟨g,0,none⟩) p.len p.cap hh (BQ.imp (fun ⟨e,e'⟩=>⟨e,by rw[e']⟩) id) h0 h2 (by omega)
    rw[hw,Option.map_none,hr,hs g 0 rfl (by omega)]
   ·rename_i hk
    replace h:=bp h
    obtain⟨hc,h⟩:=h
    simp only[Bool.and_eq_true] at hc
    have fF:k.size=m:=Nat.eq_of_beq_eq_true hc.1.2
    obtain⟨Nd,hlen,hle,sC,na⟩:=dN hR.heap hb hc.1.1 hk hp
    replace h:=kJ hR h
    obtain⟨hh,⟨i,j,hi,hj,hij,hjl,hil,h⟩,BQ⟩:=h
    rcases na with ⟨_,qu,_⟩|⟨g,arr,fr,ha,hw,h_,po,fu,has⟩
    ·exact absurd hil (by omega)
    ·refine⟨_,.slice (some ⟨g,0+i*m,none⟩) (j - i) (p.cap - i),h,by simp only[PV.Is]; exact⟨p,g,0,p.cap - i,hp,ha,rfl,by omega⟩,fun w'=>?_⟩
     obtain⟨JH,hr,_,hs⟩:=run (some ⟨g,0,none⟩) p.len p.cap hh (BQ.imp (fun ⟨e,e'⟩=>⟨e,by rw[e',hlen]⟩) id) (by omega) (by omega) (by omega)
     rw[hw,Option.map_none,hr,hs g 0 rfl (by omega),show l.2.toNat=i by omega,show (hh.2 - l.2).toNat=j - i by omega]
   ·exact h.elim
  ·exact h.elim
 ·exact h.elim
theorem JI (hR:aO I β s.st w) {x:PV} {u:Value} {q:PV->Prop} (h:Oe s.st x q) (hx:x.Is w I β u):∃ z,q z/\∃ (ad:Option Addr) (n c:Nat),u = .slice ad n c/\z.Is w I β (.int .i64 n):=by
 unfold Oe at h
 simp only[lv,Nat.zero_add,ak.yz] at h
 split at h<;>try simp only[PV.Is] at hx
 ·exact⟨_,h,_,_,_,hx,Is.lit⟩
 ·obtain⟨ad,cap,rfl,_,hm,_⟩:=hx
  exact⟨_,h hm,_,_,_,rfl,Is.int⟩
 ·obtain⟨p,g,o,cap,_,_,rfl,_⟩:=hx
  exact⟨_,h,_,_,_,rfl,Is.lit⟩
 ·obtain⟨p,hp,rfl⟩:=hx
  replace h:=aA h
  obtain⟨b,hb,h⟩:=h
  replace h:=bp h
  obtain⟨hl,h⟩:=h
  split at h
  ·rename_i hk
   obtain⟨g,arr,fr,_,hw,_,_,_,hlen,_,_,_,EV⟩:=fW hR hb hl hk hp
   refine⟨_,h,_,_,_,hw,?_⟩
   rw[hlen,Nat.mul_div_cancel _ EV]
   exact Is.lit
  ·rename_i hk
   obtain⟨_,hlen,hle,hm,na⟩:=dN hR hb hl hk hp
   have h:=h (by omega)
   rcases na with ⟨_,hc,hw⟩|⟨g,arr,fr,_,hw,_⟩
   ·exact⟨_,h,_,_,_,hw,by rw[show b.cs.length=0 by omega]; exact Is.int⟩
   ·exact⟨_,h,_,_,_,hw,by rw[hlen]; exact Is.int⟩
  ·exact h.elim
 ·exact h.elim
theorem pq (hR:Rel G I β s a w):∀ {os:List Operand} {q:List PV->Prop},ph.m6 s os q->∃ l,q l/\bH w I l β (os.map a.eval)
 | [],q,h=>⟨[],h,by simp only[List.map_nil,bH]⟩
 | o::os,q,h=>by
  replace h:=bb.cI hR h
  obtain⟨x,h,hx⟩:=h
  have key:ph.m6 s os fun xs=>q (x::xs):=by cases x<;>first|exact h.elim|exact h
  obtain⟨l,h,hl⟩:=pq hR key
  exact⟨_,h,by simp only[List.map_cons,bH]; exact⟨hx,hl⟩⟩
set_option maxHeartbeats 1000000 in
theorem v5 (hO:Ev.f_ G.cx) (hR:Rel G I β s a w) {o:Oper} {q:PV->Prop} (h:ph G.cx s o.op q) :
  ∃ x r,q x/\x.Is w I β r/\∀ w',(execOp a.eval o).run G.cx.P w' = .ok (.value r) w':=by
 obtain⟨dst,op,ty,pos,after,guard⟩:=o
 simp only at h
 unfold ph at h
 split at h
 ·
  replace h:=bb.cI hR h
  obtain⟨x,h,hx⟩:=h
  exact⟨x,_,h,hx,fun w'=>rfl⟩
 ·
  replace h:=bb.cI hR h
  obtain⟨x,h,hx⟩:=h
  exact⟨x,_,h,hx,fun w'=>rfl⟩
 ·
  rename_i c x y
  have cg:∀ b,a.eval c = .bool b->∀ w',(execOp a.eval ⟨dst,.pick c x y,ty,pos,after,guard⟩).run G.cx.P w' = .ok (.value (if b then a.eval x else a.eval y)) w':=fun b hb w'=>by
   cases b<;>simp[execOp,hb,asBool]
  replace h:=bb.cI hR h
  obtain⟨xc,h,hc⟩:=h
  split at h<;>try simp only[PV.Is] at hc
  ·replace h:=bb.cI hR h
   obtain⟨z,h,hz⟩:=h
   exact⟨z,_,h,hz,fun w'=>by rw[cg _ hc]; rfl⟩
  ·replace h:=bb.cI hR h
   obtain⟨z,h,hz⟩:=h
   exact⟨z,_,h,hz,fun w'=>by rw[cg _ hc]; rfl⟩
  ·rename_i p
   by_cases hp:p
   ·obtain⟨z,h,hz⟩:=bb.cI hR (h.1 hp)
    exact⟨z,_,h,hz,fun w'=>by rw[cg _ hc,cv hp]; rfl⟩
   ·obtain⟨z,h,hz⟩:=bb.cI hR (h.2 hp)
    exact⟨z,_,h,hz,fun w'=>by rw[cg _ hc,b_ hp]; rfl⟩
  ·exact h.elim
 ·
  replace h:=bb.cI hR h
  obtain⟨x,h,hx⟩:=h
  replace h:=bb.cI hR h
  obtain⟨y,h,hy⟩:=h
  obtain⟨z,r,h,hz,hg,hr⟩:=JE hO hR.heap h hx hy
  exact⟨z,r,h,hz,fun w'=>by simp[execOp,hg,hr]⟩
 ·
  replace h:=bb.cI hR h
  obtain⟨x,h,hx⟩:=h
  obtain⟨z,r,h,hz,hr⟩:=Oj (P:=G.cx.P) h hx
  exact⟨z,r,h,hz,fun w'=>by simp[execOp,hr]⟩
 ·
  replace h:=bb.cI hR h
  obtain⟨x,h,hx⟩:=h
  obtain⟨z,r,h,hz,hr⟩:=ER hO h hx
  exact⟨z,r,h,hz,fun w'=>by simp[execOp,hr]⟩
 ·
  rename_i o
  replace h:=bb.cI hR h
  obtain⟨x,h,hx⟩:=h
  have key:∀ {ad:Addr},a.eval o = .pointer (some ad)->∀ w',(execOp a.eval ⟨dst,.nilCheck o,ty,pos,after,guard⟩).run G.cx.P w' = .ok (.value (a.eval o)) w':=fun he w'=>by simp[execOp,he]
  split at h<;>first|exact h.elim|(have tz:=hx; simp only[PV.Is] at tz)
  ·obtain⟨p,g,o',_,_,he⟩:=tz; exact⟨_,_,h,hx,key he⟩
  ·obtain⟨p,g,o',_,_,he⟩:=tz; exact⟨_,_,h,hx,key he⟩
  ·obtain⟨p,g,o',_,_,he⟩:=tz; exact⟨_,_,h,hx,key he⟩
  ·obtain⟨g,o',he,_⟩:=tz; exact⟨_,_,h,hx,key he⟩
  ·exact⟨_,_,h,hx,key tz⟩
  ·exact⟨_,_,h,hx,key tz⟩
 ·
  obtain⟨x,r,h,hx,hr⟩:=BN hO hR h
  exact⟨x,r,h,hx,fun w'=>by simp[execOp,hr]⟩
 ·
  replace h:=bb.cI hR h
  obtain⟨x,h,hx⟩:=h
  obtain⟨z,r,h,hz,hr⟩:=sw hO h hx
  exact⟨z,r,h,hz,fun w'=>by simp[execOp,hr]⟩
 ·
  rename_i f
  replace h:=aA h
  obtain⟨d,hu,h⟩:=h
  replace h:=bb.cI hR h
  obtain⟨x,h,hx⟩:=h
  split at h
  ·rename_i fs cs
   replace h:=aA h
   obtain⟨fd,hfd,h⟩:=h
   simp only[PV.Is] at hx
   obtain⟨vs,he,hc⟩:=hx
   obtain⟨z,r,h,hz,hr⟩:=Af hO h hc
   have Om:fs[f]?=some fd:=by simpa using hfd
   exact⟨z,r,h,hz,fun w'=>by simp[execOp,Instr.field,run_underlying (hO.un hu),Om,he,asAgg,hr]⟩
  ·exact h.elim
 ·
  replace h:=bb.cI hR h
  obtain⟨x,h,hx⟩:=h
  replace h:=bb.cI hR h
  obtain⟨y,h,hy⟩:=h
  obtain⟨z,r,h,hz,hr⟩:=sA hO hR.heap h hx hy
  exact⟨z,r,h,hz,fun w'=>by simp[execOp,hr]⟩
 ·
  replace h:=bb.cI hR h
  obtain⟨x,h,hx⟩:=h
  replace h:=bb.cI hR h
  obtain⟨y,h,hy⟩:=h
  obtain⟨z,r,h,hz,hr⟩:=BO hO h hx hy
  exact⟨z,r,h,hz,fun w'=>by simp[execOp,hr]⟩
 ·
  rename_i i
  replace h:=bb.cI hR h
  obtain⟨x,h,hx⟩:=h
  split at h
  ·replace h:=aA h
   obtain⟨z,hz,h⟩:=h
   simp only[PV.Is] at hx
   obtain⟨vs,he,hc⟩:=hx
   obtain⟨r,hr,hri⟩:=hc.get hz
   have pn:vs[i]?=some r:=by simpa using hr
   exact⟨z,r,h,hri,fun w'=>by simp[execOp,Instr.extract,he,pn]⟩
  ·exact h.elim
 ·
  replace h:=bb.cI hR h
  obtain⟨x,h,hx⟩:=h
  obtain⟨z,r,h,hz,hr⟩:=BP hO hR h hx
  exact⟨z,r,h,hz,fun w'=>by simp[execOp,hr]⟩
 ·
  rename_i f lR
  replace h:=pq hR h
  obtain⟨l,h,hl⟩:=h
  refine⟨_,.func (.func f) #[] ⟨lR.map a.eval⟩,h,by simp only[PV.Is]; exact⟨_,rfl,hl⟩,fun w'=>?_⟩
  simp[execOp,Instr.makeFunc]
 ·
  rename_i o t
  replace h:=aA h
  obtain⟨d,hu,h⟩:=h
  replace h:=bb.cI hR h
  obtain⟨x,h,hx⟩:=h
  have cg:∀ {r:Value},(∀ w',(Builtin.len_ #[t] ty #[a.eval o]).run G.cx.P w' = .ok r w')->∀ w',(execOp a.eval ⟨dst,.call { callee:=.builtin .len,args:=#[o],argTypes:=#[t] },ty,pos,after,guard⟩).run G.cx.P w' = .ok (.value r) w':=fun hr w'=>by
   simp[execOp,resolve,invoke,builtin,hr]
  split at h
  ·obtain⟨z,h,ad,n,c,he,hz⟩:=JI hR.heap h hx
   exact⟨z,_,h,hz,cg fun w'=>by simp[Builtin.len_,run_underlying (hO.un hu),he,goInt]⟩
  ·exact⟨_,_,h,Is.lit,cg fun w'=>by simp[Builtin.len_,run_underlying (hO.un hu),goInt]⟩
  ·split at h
   ·simp only[PV.Is] at hx
    obtain⟨he,_⟩:=hx
    exact⟨_,_,h,Is.lit,cg fun w'=>by simp[Builtin.len_,run_underlying (hO.un hu),he,goInt]⟩
   ·exact h.elim
  ·exact h.elim
 ·
  rename_i ox oy ts
  replace h:=bb.cI hR h
  obtain⟨x,h,hx⟩:=h
  replace h:=bb.cI hR h
  obtain⟨y,h,hy⟩:=h
  have key:∀ {k k':IntKind} {m n:Int},a.eval ox = .int k m->a.eval oy = .int k' n->∀ w',(execOp a.eval ⟨dst,.call { callee:=.builtin .min,args:=⟨[ox,oy]⟩,argTypes:=ts },ty,pos,after,guard⟩).run G.cx.P w' = .ok (.value (.int k (min m n))) w':=fun h1 h2 w'=>by
   rename_i m n
   simp[execOp,resolve,invoke,builtin,Builtin.min_,h1,h2,Builtin.min2]
   by_cases cJ:n < m<;>simp[cJ]<;>omega
  unfold p4 at h
  split at h<;>first|exact h.elim|(simp only[PV.Is] at hx hy)
  ·exact⟨_,_,h,Is.lit,key hx hy⟩
  ·exact⟨_,_,h,Is.int,key hx hy⟩
  ·exact⟨_,_,h,Is.int,key hx hy⟩
  ·exact⟨_,_,h,Is.int,key hx hy⟩
 ·
  rename_i ox oy ts
  replace h:=bb.cI hR h
  obtain⟨x,h,hx⟩:=h
  replace h:=bb.cI hR h
  obtain⟨y,h,hy⟩:=h
  have key:∀ {k k':IntKind} {m n:Int},a.eval ox = .int k m->a.eval oy = .int k' n->∀ w',(execOp a.eval ⟨dst,.call { callee:=.builtin .max,args:=⟨[ox,oy]⟩,argTypes:=ts },ty,pos,after,guard⟩).run G.cx.P w' = .ok (.value (.int k (max m n))) w':=fun h1 h2 w'=>by
   rename_i m n
   simp[execOp,resolve,invoke,builtin,Builtin.max_,h1,h2,Builtin.max2]
   by_cases cJ:m < n<;>simp[cJ]<;>omega
  unfold p4 at h
  split at h<;>first|exact h.elim|(simp only[PV.Is] at hx hy)
  ·exact⟨_,_,h,Is.lit,key hx hy⟩
  ·exact⟨_,_,h,Is.int,key hx hy⟩
  ·exact⟨_,_,h,Is.int,key hx hy⟩
  ·exact⟨_,_,h,Is.int,key hx hy⟩
 ·exact h.elim
end
end Go.Proofs.YtlgkljpgagfndaaGreatDoor.Pw

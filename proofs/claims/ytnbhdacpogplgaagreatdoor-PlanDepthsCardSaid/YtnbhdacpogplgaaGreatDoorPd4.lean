/- What this claim is proved with: no condition. -/
import Derived.Test.YtnbhdacpogplgaaGreatDoorPd3
import Derived.ChangeKeysEq
set_option linter.unusedVariables false
set_option linter.unusedSimpArgs false
namespace Go.Proofs.YtnbhdacpogplgaaGreatDoor.Pw
open Go Go.RowKit
theorem aq {α:Type} {o:Option α} {k:α->Prop} (h:aV o k):∃ x,o=some x/\k x:=by
 cases o with
 | none=>exact h.elim
 | some x=>exact⟨x,rfl,h⟩
theorem aQ {b:Bool} {p:Prop} (h:bif b then p else False):b=true/\p:=by
 cases b with
 | true=>exact⟨rfl,h⟩
 | false=>exact h.elim
theorem GW {b:Bool} {p:Prop} (h:bif b then False else p):b=false/\p:=by
 cases b with
 | true=>exact h.elim
 | false=>exact⟨rfl,h⟩
theorem KG {x:PV} {q:PV->Prop} (h:V4 x q):q x:=by cases x<;>exact h
theorem bP:∀ {cs:List PV} {q:List PV->Prop},dx cs q->q cs
 | [],_,h=>h
 | c::cs,q,h=>by
  have:=bP (KG h)
  exact this
theorem xu {x:PV} {q:PV->Prop} (h:Vo x q):q x:=by
 cases x<;>first|exact h|exact bP h
theorem rI:∀ {cs:List PV} {q:List PV->Prop},xn cs q->q cs
 | [],_,h=>h
 | c::cs,q,h=>by
  have:=rI (xu h)
  exact this
theorem C2 {x:PV} {q:PV->Prop} (h:fc x q):q x:=by
 cases x<;>first|exact h|exact bP h|exact rI h
section
variable {w:World} {I:Nat->Prop} {β:ax} {cx:Ev.Cx} {G:Gx} {P:Program}
theorem Is.int {k:IntKind} {n:Int}:(PV.int k n).Is w I β (.int k n):=by simp only[PV.Is]
theorem Is.lit {k:IntKind} {n:Int}:(PV.lit k n).Is w I β (.int k n):=by simp only[PV.Is]
theorem Is.tt:PV.tt.Is w I β (.bool true):=by simp only[PV.Is]
theorem Is.ff:PV.ff.Is w I β (.bool false):=by simp only[PV.Is]
theorem Is.bool {p:Prop}:(PV.bool p).Is w I β (.bool (pb p)):=by simp only[PV.Is]
theorem rJ {v:Value} {q:PV->Prop} (h:gj v q):∃ x,q x/\x.Is w I β v/\x.jL=true:=by
 unfold gj at h
 split at h
 ·exact⟨_,h,by simp only[PV.Is],rfl⟩
 ·exact⟨_,h,by simp only[PV.Is],rfl⟩
 ·exact⟨_,h,by simp only[PV.Is],rfl⟩
 ·exact⟨_,h,by simp only[PV.Is],rfl⟩
 ·exact⟨_,h,by simp only[PV.Is]; exact⟨#[],rfl,by simp only[a_]⟩,rfl⟩
 ·obtain⟨hf,h⟩:=aQ h
  exact⟨_,h,by simp only[PV.Is]; exact⟨trivial,hf⟩,rfl⟩
theorem rK:∀ {vs:List Value} {q:List PV->Prop},xo gj vs q->∃ xs,q xs/\a_ w I xs β vs
 | [],q,h=>⟨[],h,by simp only[a_]⟩
 | v::vs,q,h=>by
  obtain⟨x,h,hx,_⟩:=rJ (w:=w) (I:=I) (β:=β) h
  obtain⟨xs,h,mZ⟩:=rK h
  exact⟨x::xs,h,by simp only[a_]; exact⟨hx,mZ⟩⟩
theorem uG {v:Value} {q:PV->Prop} (h:nM v q):∃ x,q x/\x.Is w I β v/\∀ vs,x≠.tup vs:=by
 unfold nM at h
 split at h
 ·rename_i cs
  obtain⟨xs,h,mZ⟩:=rK (w:=w) (I:=I) (β:=β) h
  exact⟨_,h,by simp only[PV.Is]; exact⟨⟨cs⟩,rfl,mZ⟩,fun _ e=>by cases e⟩
 ·obtain⟨x,h,hx,h1⟩:=rJ (w:=w) (I:=I) (β:=β) h
  exact⟨x,h,hx,fun vs e=>by subst e; cases h1⟩
theorem PV.lb {x:PV} {b:Bool} {k:IntKind} {n:Int} {v:Value} (h:x.num=some (b,k,n)) (hx:x.Is w I β v):v = .int k n:=by
 cases x<;>simp only[PV.num] at h<;>cases h<;>simpa only [PV.Is] using hx
theorem PV.y7 {x:PV} {p:Prop} {v:Value} (h:x.bl=some p) (hx:x.Is w I β v):v = .bool (pb p):=by
 cases x<;>simp only[PV.bl] at h<;>cases h<;>simp only[PV.Is] at hx
 ·rw[hx,bB trivial]
 ·rw[hx,br id]
 ·exact hx
theorem oR {k:IntKind} {z:Int} {q:PV->Prop} (h:uF k z q):∃ x,q x/\x.Is w I β (.int k (k.wrap z)):=by
 rcases h with ⟨⟨h1,h2⟩,h⟩|h
 ·exact⟨_,h,by rw[Ev.yS k z h1 h2]; exact Is.int⟩
 ·exact⟨_,h,Is.int⟩
theorem C3 {b:Bool} {q:PV->Prop} (h:tf b q):∃ x,q x/\x.Is w I β (.bool b):=by
 cases b with
 | true=>exact⟨_,h,Is.tt⟩
 | false=>exact⟨_,h,Is.ff⟩
theorem Rw {p:Prop} [Decidable p] {q:PV->Prop} (h:q (.bool p)):∃ x,q x/\x.Is w I β (.bool (decide p)):=⟨_,h,by rw[← CR]; exact Is.bool⟩
theorem uH {op:BinOp} {t:TypeId} {k:IntKind} {a b:Int} (w:World) :
  (binOp .eql t (.int k a) (.int k b)).run P w = .ok (.bool (decide (a=b))) w/\(binOp .neq t (.int k a) (.int k b)).run P w = .ok (.bool (!decide (a=b))) w/\(binOp .lss t (.int k a) (.int k b)).run P w = .ok (.bool (decide (a < b))) w /\
  (binOp .leq t (.int k a) (.int k b)).run P w = .ok (.bool (decide (a<=b))) w/\(binOp .gtr t (.int k a) (.int k b)).run P w = .ok (.bool (decide (b < a))) w/\(binOp .geq t (.int k a) (.int k b)).run P w = .ok (.bool (decide (b<=a))) w:=by
 refine⟨by simp only[binOp_eql]; rfl,?_,by simp only[binOp_lss]; rfl,by simp only[binOp_leq]; rfl,by simp only[binOp_gtr]; rfl,by simp only[binOp_geq]; rfl⟩
 simp only[binOp_neq]
 show Result.ok (Value.bool (a != b)) w=_
 congr 2
theorem s8 {op:BinOp} {t:TypeId} {k:IntKind} {a b:Int} {q:PV->Prop} (h:Kz op k a b q):∃ x v,q x/\x.Is w I β v/\∀ w,(binOp op t (.int k a) (.int k b)).run P w = .ok v w:=by
 have cmp:=fun w=>uH (P:=P) (op:=op) (t:=t) (k:=k) (a:=a) (b:=b) w
 have out:∀ {z},uF k z q->(∀ w,(binOp op t (.int k a) (.int k b)).run P w = .ok (.int k (k.wrap z)) w)->∃ x v,q x/\x.Is w I β v/\∀ w,(binOp op t (.int k a) (.int k b)).run P w = .ok v w:=fun h hr=>by
  obtain⟨x,h,hx⟩:=oR (w:=w) (I:=I) (β:=β) h
  exact⟨x,_,h,hx,hr⟩
 have bl:∀ {p:Prop} [Decidable p],q (.bool p)->(∀ w,(binOp op t (.int k a) (.int k b)).run P w = .ok (.bool (decide p)) w)->∃ x v,q x/\x.Is w I β v/\∀ w,(binOp op t (.int k a) (.int k b)).run P w = .ok v w:=fun h hr=>by
  obtain⟨x,h,hx⟩:=Rw (w:=w) (I:=I) (β:=β) h
  exact⟨x,_,h,hx,hr⟩
 cases op<;>simp only[Kz] at h
 case add=>exact out h fun w=>by rw[binOp_add]; rfl
 case sub=>exact out h fun w=>by rw[binOp_sub]; rfl
 case mul=>exact out h fun w=>by rw[binOp_mul]; rfl
 case quo =>
  obtain⟨h0,h⟩:=h
  have hr:∀ w,(binOp .quo t (.int k a) (.int k b)).run P w = .ok (.int k (k.wrap (a.tdiv b))) w:=fun w=>by rw[binOp_quo]; simp[Op.intDiv,h0]
  rcases h with ⟨ha,hk,hb,h⟩|h
  ·refine⟨_,_,h,?_,hr⟩
   have e:a.tdiv b=a / b:=Int.tdiv_eq_ediv_of_nonneg ha
   have h1:0<=a / b:=Int.ediv_nonneg ha (by omega)
   have h2:a / b<=a:=Int.ediv_le_self b ha
   rw[e,Ev.yS k _ (by (have:Ev.jE k<=0:=by cases k<;>simp[Ev.jE,IntKind.signed,IntKind.bits]); omega) (by omega)]
   exact Is.int
  ·exact⟨_,_,h,Is.int,hr⟩
 case rem =>
  obtain⟨h0,h⟩:=h
  have hr:∀ w,(binOp .rem t (.int k a) (.int k b)).run P w = .ok (.int k (a.tmod b)) w:=fun w=>by rw[binOp_rem]; simp[Op.intDiv,h0]
  rcases h with ⟨ha,hb,h⟩|h
  ·refine⟨_,_,h,?_,hr⟩
   rw[Int.tmod_eq_emod_of_nonneg ha]
   exact Is.int
  ·exact⟨_,_,h,Is.int,hr⟩
 case and=>exact⟨_,_,h,Is.int,fun w=>by rw[binOp_and,intBits_and]; rfl⟩
 case or=>exact⟨_,_,h,Is.int,fun w=>by rw[binOp_or,intBits_or]; rfl⟩
 case xor=>exact⟨_,_,h,Is.int,fun w=>by rw[binOp_xor,intBits_xor]; rfl⟩
 case andNot=>exact⟨_,_,h,Is.int,fun w=>by rw[binOp_andNot,intBits_andNot]; rfl⟩
 case eql=>exact bl h fun w=>(cmp w).1
 case neq=>exact bl h fun w=>by rw[(cmp w).2.1]; congr 2; by_cases hh:a=b<;>simp[hh]
 case lss=>exact bl h fun w=>(cmp w).2.2.1
 case leq=>exact bl h fun w=>(cmp w).2.2.2.1
 case gtr=>exact bl h fun w=>(cmp w).2.2.2.2.1
 case geq=>exact bl h fun w=>(cmp w).2.2.2.2.2
theorem GX {op:BinOp} {t:TypeId} {k:IntKind} {a b:Int} {q:PV->Prop} (h:KA op k a b q):∃ x v,q x/\x.Is w I β v/\∀ w,(binOp op t (.int k a) (.int k b)).run P w = .ok v w:=by
 have cmp:=fun w=>uH (P:=P) (op:=op) (t:=t) (k:=k) (a:=a) (b:=b) w
 have bl:∀ {b':Bool},tf b' q->(∀ w,(binOp op t (.int k a) (.int k b)).run P w = .ok (.bool b') w)->∃ x v,q x/\x.Is w I β v/\∀ w,(binOp op t (.int k a) (.int k b)).run P w = .ok v w:=fun h hr=>by
  obtain⟨x,h,hx⟩:=C3 (w:=w) (I:=I) (β:=β) h
  exact⟨x,_,h,hx,hr⟩
 cases op<;>simp only[KA] at h
 case add=>exact⟨_,_,h,Is.lit,fun w=>by rw[binOp_add]; rfl⟩
 case sub=>exact⟨_,_,h,Is.lit,fun w=>by rw[binOp_sub]; rfl⟩
 case mul=>exact⟨_,_,h,Is.lit,fun w=>by rw[binOp_mul]; rfl⟩
 case quo =>
  cases h0:decide (b=0)<;>rw[h0] at h
  ·exact⟨_,_,h,Is.lit,fun w=>by rw[binOp_quo]; simp[Op.intDiv,of_decide_eq_false h0]⟩
  ·exact h.elim
 case rem =>
  cases h0:decide (b=0)<;>rw[h0] at h
  ·exact⟨_,_,h,Is.lit,fun w=>by rw[binOp_rem]; simp[Op.intDiv,of_decide_eq_false h0]⟩
  ·exact h.elim
 case and=>exact⟨_,_,h,Is.lit,fun w=>by rw[binOp_and,intBits_and]; rfl⟩
 case or=>exact⟨_,_,h,Is.lit,fun w=>by rw[binOp_or,intBits_or]; rfl⟩
 case xor=>exact⟨_,_,h,Is.lit,fun w=>by rw[binOp_xor,intBits_xor]; rfl⟩
 case andNot=>exact⟨_,_,h,Is.lit,fun w=>by rw[binOp_andNot,intBits_andNot]; rfl⟩
 case eql=>exact bl h fun w=>(cmp w).1
 case neq=>exact bl h fun w=>(cmp w).2.1
 case lss=>exact bl h fun w=>(cmp w).2.2.1
 case leq=>exact bl h fun w=>(cmp w).2.2.2.1
 case gtr=>exact bl h fun w=>(cmp w).2.2.2.2.1
 case geq=>exact bl h fun w=>(cmp w).2.2.2.2.2
theorem uI {op:BinOp} {st:Bool} {t:TypeId} {k k':IntKind} {a b:Int} {q:PV->Prop} (h:shift op st k a b q):∃ x v,q x/\x.Is w I β v/\∀ w,(binOp op t (.int k a) (.int k' b)).run P w = .ok v w:=by
 have hl:0<=b->∀ w,(binOp .shl t (.int k a) (.int k' b)).run P w = .ok (.int k (k.wrap (a*Ev.aG k b))) w:=fun h0 w=>by
  rw[binOp_shl]
  simp only[Op.shift,if_neg (by omega:¬ b < 0),Ev.aG]
  simp
 have hr:0<=b->∀ w,(binOp .shr t (.int k a) (.int k' b)).run P w = .ok (.int k (a / Ev.aG k b)) w:=fun h0 w=>by
  rw[binOp_shr]
  simp only[Op.shift,if_neg (by omega:¬ b < 0),Ev.aG,Ev.fdiv_pow]
  rfl
 unfold shift at h
 split at h
 ·obtain⟨h0,h⟩:=aQ h
  exact⟨_,_,h,Is.lit,hl (of_decide_eq_true h0)⟩
 ·obtain⟨h0,h⟩:=aQ h
  exact⟨_,_,h,Is.lit,hr (of_decide_eq_true h0)⟩
 ·obtain⟨h0,h⟩:=h
  obtain⟨x,h,hx⟩:=oR (w:=w) (I:=I) (β:=β) h
  exact⟨x,_,h,hx,hl h0⟩
 ·obtain⟨h0,h⟩:=h
  exact⟨_,_,h,Is.int,hr h0⟩
 ·exact h.elim
theorem GY {op:BinOp} {sx sy:Bool} {t:TypeId} {k k':IntKind} {a b:Int} {q:PV->Prop} (h:KB op sx sy k k' a b q):∃ x v,q x/\x.Is w I β v/\∀ w,(binOp op t (.int k a) (.int k' b)).run P w = .ok v w:=by
 unfold KB at h
 split at h
 ·exact uI h
 ·exact uI h
 ·obtain⟨hk,h'⟩:=aQ h
  have bS:=of_decide_eq_true hk
  subst bS
  clear h hk
  cases sx<;>cases sy
  ·exact s8 h'
  ·exact s8 h'
  ·exact s8 h'
  ·exact GX h'
theorem xv {op:BinOp} {t:TypeId} {p:Prop} {q:PV->Prop} {u v:Value} (h:Ru op p q) (he:op = .eql->∀ w,(binOp .eql t u v).run P w = .ok (.bool (pb p)) w) (hn:op = .neq->∀ w,(binOp .neq t u v).run P w = .ok (.bool (!pb p)) w) :
  ∃ x r,q x/\x.Is w I β r/\∀ w,(binOp op t u v).run P w = .ok r w:=by
 cases op<;>simp only[Ru] at h
 case eql=>exact⟨_,_,h,Is.bool,he rfl⟩
 case neq =>
  refine⟨_,_,h,Is.bool,fun w=>?_⟩
  rw[hn rfl w]
  congr 2
  by_cases hp:p
  ·rw[bB hp,br (fun h=>h hp)]; rfl
  ·rw[br hp,bB hp]; rfl
theorem s9 {op:BinOp} {t:TypeId} {b:Bool} {q:PV->Prop} {u v:Value} (h:xp op b q) (he:op = .eql->∀ w,(binOp .eql t u v).run P w = .ok (.bool b) w) (hn:op = .neq->∀ w,(binOp .neq t u v).run P w = .ok (.bool (!b)) w) :
  ∃ x r,q x/\x.Is w I β r/\∀ w,(binOp op t u v).run P w = .ok r w:=by
 cases op<;>simp only[xp] at h
 case eql =>
  obtain⟨x,h,hx⟩:=C3 (w:=w) (I:=I) (β:=β) h
  exact⟨x,_,h,hx,he rfl⟩
 case neq =>
  obtain⟨x,h,hx⟩:=C3 (w:=w) (I:=I) (β:=β) h
  exact⟨x,_,h,hx,hn rfl⟩
theorem jN (hO:Ev.eM cx) {t:TypeId} {cs:List PV} {off:Nat} {x:PV} {vs:Array Value} (h:nQ cx t cs off=some x) (hc:a_ w I cs β vs.toList) :
  ∃ v,x.Is w I β v/\∀ w',(Go.part t vs off).run cx.P w' = .ok v w':=by
 unfold nQ at h
 split at h
 ·rename_i n ha hn
  split at h
  ·cases h
   refine⟨.agg (vs.extract off (off+n)),?_,fun w'=>?_⟩
   ·simp only[PV.Is]
    refine⟨_,rfl,?_⟩
    have:=(hc.drop off).take n
    rw[show (vs.extract off (off+n)).toList=(vs.toList.drop off).take n by simp]
    exact this
   ·simp[Go.part,Ev.gd hO ha,Ev.cV hO hn]
  ·cases h
 ·rename_i ha
  obtain⟨v,hv,hi⟩:=hc.get h
  refine⟨v,hi,fun w'=>?_⟩
  have hv':vs[off]?=some v:=by simpa using hv
  simp[Go.part,Ev.gd hO ha,hv']
 ·cases h
end
section
variable {w:World} {I:Nat->Prop} {β:ax} {cx:Ev.Cx} {G:Gx} {P:Program} {s:aO} {a:Act}
theorem y8 (hO:Ev.eM cx) {t:TypeId} {cs:List PV} {off:Nat} {q:PV->Prop} {vs:Array Value} (h:part cx t cs off q) (hc:a_ w I cs β vs.toList) :
  ∃ x v,q x/\x.Is w I β v/\∀ w',(Go.part t vs off).run cx.P w' = .ok v w':=by
 replace h:=aq h
 obtain⟨x,hx,h⟩:=h
 obtain⟨v,h1,h2⟩:=jN hO hx hc
 exact⟨x,v,xu h,h1,h2⟩
theorem C4 {p q:Prop}:pb (p/\q)=(pb p && pb q):=by
 by_cases hp:p<;>by_cases hq:q
 ·rw[bB ⟨hp,hq⟩,bB hp,bB hq]; rfl
 ·rw[br fun h=>hq h.2,bB hp,br hq]; rfl
 ·rw[br fun h=>hp h.1,br hp]; rfl
 ·rw[br fun h=>hp h.1,br hp]; rfl
theorem s_ {p q:Prop}:pb (p↔q)=(pb p == pb q):=by
 by_cases hp:p<;>by_cases hq:q
 ·rw[bB ⟨fun _=>hq,fun _=>hp⟩,bB hp,bB hq]; rfl
 ·rw[br fun h=>hq (h.1 hp),bB hp,br hq]; rfl
 ·rw[br fun h=>hp (h.2 hq),br hp,bB hq]; rfl
 ·rw[bB ⟨fun h=>absurd h hp,fun h=>absurd h hq⟩,br hp,br hq]; rfl
theorem y9 (hO:Ev.eM cx) {r:TypeId->PV->PV->Option Prop} {d:Nat} {xs ys:List PV} {us vs:Array Value} (hx:a_ w I xs β us.toList) (hy:a_ w I ys β vs.toList)
  (hr:∀ t a b p u v,r t a b=some p->a.Is w I β u->b.Is w I β v->∀ w',(Op.equalIn d t u v).run cx.P w' = .ok (pb p) w') :
  ∀ {fs:List Field} {p:Prop},(fs.all fun f=>decide (f.name≠"_"))=true->uz r cx xs ys fs=some p->∀ w',(Op.eqFields d us vs fs).run cx.P w' = .ok (pb p) w'
 | [],p,_,h,w'=>by
  simp only[uz,Option.some.injEq] at h
  subst h
  rw[bB trivial]; rfl
 | f::fs,p,hn,h,w'=>by
  rw[List.all_cons,Bool.and_eq_true] at hn
  unfold uz at h
  split at h
  ·rename_i a b ha hb
   split at h
   ·rename_i e1 e2 h1 h2
    cases h
    obtain⟨u,hu,ru⟩:=jN hO ha hx
    obtain⟨v,hv,rv⟩:=jN hO hb hy
    have V7:=hr _ _ _ _ _ _ h1 hu hv
    have V8:=y9 hO hx hy hr hn.2 h2
    have bZ:f.name≠"_":=by simpa using hn.1
    simp only[Op.eqFields,if_pos bZ,Sem.run_bind,ru,rv,V7,Result.andThen_ok,Sem.run_ite,V8,Sem.run_pure,C4]
    cases pb e1<;>simp
   ·cases h
  ·cases h
theorem pj (hO:Ev.eM cx) {r:TypeId->PV->PV->Option Prop} {d c:Nat} {e:TypeId} {xs ys:List PV} {us vs:Array Value} (hx:a_ w I xs β us.toList) (hy:a_ w I ys β vs.toList)
  (hr:∀ t a b p u v,r t a b=some p->a.Is w I β u->b.Is w I β v->∀ w',(Op.equalIn d t u v).run cx.P w' = .ok (pb p) w') :
  ∀ (k i:Nat) {p:Prop},lO r cx e c xs ys k (i*c)=some p->∀ w',(Op.eqItems d e c us vs (List.range' i k)).run cx.P w' = .ok (pb p) w'
 | 0,i,p,h,w'=>by
  simp only[lO,Option.some.injEq] at h
  subst h
  rw[bB trivial]; rfl
 | k+1,i,p,h,w'=>by
  unfold lO at h
  split at h
  ·rename_i a b ha hb
   split at h
   ·rename_i e1 e2 h1 h2
    cases h
    obtain⟨u,hu,ru⟩:=jN hO ha hx
    obtain⟨v,hv,rv⟩:=jN hO hb hy
    have V7:=hr _ _ _ _ _ _ h1 hu hv
    have V8:=pj hO hx hy hr k (i+1) (by rw[Nat.succ_mul]; exact h2)
    simp only[List.range'_succ,Op.eqItems,Sem.run_bind,ru,rv,V7,Result.andThen_ok,Sem.run_ite,V8,Sem.run_pure,C4]
    cases pb e1<;>simp
   ·cases h
  ·cases h
theorem ta (hO:Ev.eM cx):∀ (n d:Nat),n<=d->∀ (t:TypeId) (a b:PV) (p:Prop) (u v:Value),Gl cx n t a b=some p->a.Is w I β u->b.Is w I β v ->
  ∀ w',(Op.equalIn d t u v).run cx.P w' = .ok (pb p) w'
 | 0,_,_,_,_,_,_,_,_,h,_,_=>by simp[Gl] at h
 | n+1,0,hd,_,_,_,_,_,_,_,_,_=>by omega
 | n+1,d+1,hd,t,a,b,p,u,v,h,ha,hb=>by
  intro w'
  unfold Gl at h
  split at h
  ·rename_i k hu
   split at h
   ·rename_i b1 k1 x b2 k2 y V9 Rx
    split at h
    ·rename_i hk
     simp only[decide_eq_true_eq] at hk
     subst hk
     cases h
     rw[PV.lb V9 ha,PV.lb Rx hb,run_equalIn_int w' d t k1 k x y (hO.un hu),CR]; rfl
    ·cases h
   ·cases h
  ·rename_i hu
   split at h
   ·rename_i p1 p2 V9 Rx
    cases h
    rw[PV.y7 V9 ha,PV.y7 Rx hb,run_equalIn_bool' w' d t _ _ (hO.un hu),s_]
   ·cases h
  ·rename_i fs hu
   split at h
   ·rename_i xs ys
    split at h
    ·rename_i hc
     simp only[PV.Is] at ha hb
     obtain⟨us,rfl,Ry⟩:=ha
     obtain⟨vs,rfl,QL⟩:=hb
     obtain⟨t',y_,QM⟩:=List.any_eq_true.1 hc
     have:t=t':=Nat.eq_of_beq_eq_true QM
     subst this
     obtain⟨_,Rz,KH⟩:=hO.eq _ y_
     have KI:cx.P.fieldsOf t=fs:=by unfold Program.fieldsOf; rw[hO.un hu]
     rw[run_equalIn_struct w' d t us vs (by rw[KI]; exact hO.un hu) Rz,KI]
     exact y9 (d:=d) hO Ry QL (fun t a b e u v h ha hb=>ta hO n d (by omega) t a b e u v h ha hb) (by rw[← KI]; exact KH) h w'
    ·cases h
   ·cases h
  ·rename_i len elem hu
   split at h
   ·rename_i xs ys
    split at h
    ·rename_i c hc
     simp only[PV.Is] at ha hb
     obtain⟨us,rfl,Ry⟩:=ha
     obtain⟨vs,rfl,QL⟩:=hb
     obtain⟨i,hi,hic⟩:=Ev.jK hO hc
     have gl:cx.P.cellsOf elem=c:=by unfold Program.cellsOf; rw[hi]; exact hic
     rw[run_equalIn_array w' d us vs (hO.un hu) hi,gl,List.range_eq_range']
     exact pj (d:=d) hO Ry QL (fun t a b e u v h ha hb=>ta hO n d (by omega) t a b e u v h ha hb) len 0 (by rw[Nat.zero_mul]; exact h) w'
    ·cases h
   ·cases h
  ·cases h
theorem eD {st:List ak} (hR:aD I β st w) {l:Nat} {b:ak} {p:nN} (hb:st[l]?=some b) (hl:b.live=true) (hk:b.k = .arr) (hp:β l=some p):∃ g arr fr,p.a=some (g,0)/\p.whole = .slice (some ⟨g,0,none⟩) p.len p.cap/\w.heap[g]?=some (.cells arr b.ty fr)/\aS w I β b.cs arr 0/\Own I β st l g fr b/\b.cs.length=p.len*b.size/\p.len<=p.cap/\p.cap<=maxLen/\arr.size=p.cap*b.size/\0 < b.size:=by
 obtain⟨q,hq,h⟩:=hR.fp l b hb hl
 rw[hp] at hq
 cases hq
 rw[hk] at h
 obtain⟨g,arr,fr,ha,h⟩:=h
 exact⟨g,arr,fr,ha,by unfold nN.whole; rw[ha],h⟩
theorem ct {st:List ak} (hR:aD I β st w) {l:Nat} {b:ak} {p:nN} (hb:st[l]?=some b) (hl:b.live=true) (hk:b.k = .dyn) (hp:β l=some p):0 < b.size/\b.cs.length=p.len/\p.len<=p.cap/\p.cap<=maxLen/\((p.a=none/\p.cap=0/\p.whole = .slice none 0 0)\/∃ g arr fr,p.a=some (g,0)/\p.whole = .slice (some ⟨g,0,none⟩) p.len p.cap/\w.heap[g]?=some (.cells arr b.ty fr)/\bE w I b.cs b.size g 0/\Own I β st l g fr b/\arr.size=p.cap*b.size):=by
 obtain⟨q,hq,h⟩:=hR.fp l b hb hl
 rw[hp] at hq
 cases hq
 rw[hk] at h
 obtain⟨⟨h1,h2,h3,h4⟩,h⟩:=h
 refine⟨h1,h2,h3,h4,?_⟩
 rcases h with ⟨ha,hc⟩|⟨g,arr,fr,ha,h⟩
 ·exact .inl ⟨ha,hc,by unfold nN.whole; rw[ha]⟩
 ·exact .inr ⟨g,arr,fr,ha,by unfold nN.whole; rw[ha],h⟩
theorem C5 (hO:Ev.eM cx) (hR:aD I β s.st w) {op:BinOp} {t e:TypeId} {x:PV} {u:Value} {q:PV->Prop} (hu:cx.kX t=some (.slice e)) (h:CT s.st op x q) (hx:x.Is w I β u) :
  ∃ y v,q y/\y.Is w I β v/\(∀ f g:Operand,eqGuard op t f g u (.slice none 0 0)=pure ())/\∀ w',(binOp op t u (.slice none 0 0)).run cx.P w' = .ok v w':=by
 have gen:∀ {ad:Option Addr} {n c:Nat},u = .slice ad n c->xp op ad.isNone q->∃ y v,q y/\y.Is w I β v/\(∀ f g:Operand,eqGuard op t f g u (.slice none 0 0)=pure ())/\∀ w',(binOp op t u (.slice none 0 0)).run cx.P w' = .ok v w':=by
  intro ad n c lR h
  subst lR
  obtain⟨y,v,h1,h2,h3⟩:=s9 (P:=cx.P) (t:=t) (u:=.slice ad n c) (v:=.slice none 0 0) (w:=w) (I:=I) (β:=β) h (fun _ w'=>by simp only[binOp]; simp[Op.equal,Op.maxDepth,Lib.run_equalIn_slice_nil w' 9999 t e ad n c 0 0 (hO.un hu)]) (fun _ w'=>run_neq_slice_nil_any w' t e _ _ _ _ _ (hO.un hu))
  exact⟨y,v,h1,h2,fun f g=>eqGuard_at_slice _ _ _ _ _ _ _ _,h3⟩
 unfold CT at h
 split at h
 ·simp only[PV.Is] at hx
  exact gen hx h
 ·simp only[PV.Is] at hx
  obtain⟨p,g,o,cap,_,_,rfl,_⟩:=hx
  exact gen rfl h
 ·rename_i l
  replace h:=aq h
  obtain⟨b,hb,h⟩:=h
  replace h:=aQ h
  obtain⟨hl,h⟩:=h
  simp only[PV.Is] at hx
  obtain⟨p,hp,rfl⟩:=hx
  split at h
  ·rename_i hk
   obtain⟨g,arr,fr,_,hw,_⟩:=eD hR hb hl hk hp
   exact gen hw h
  ·rename_i hk
   obtain⟨_,h1,h2,_,h3⟩:=ct hR hb hl hk hp
   rcases h with ⟨bZ,h⟩|⟨ht,hf⟩
   ·rcases h3 with ⟨_,hc,_⟩|⟨g,arr,fr,_,hw,_⟩
    ·omega
    ·exact gen hw h
   ·rcases h3 with ⟨_,hc,hw⟩|⟨g,arr,fr,_,hw,_⟩
    ·exact gen hw ht
    ·exact gen hw hf
  ·exact h.elim
 ·rename_i es
  simp only[PV.Is] at hx
  obtain⟨ad,cap,rfl,_,_,_,h4⟩:=hx
  rcases h with ⟨bZ,h⟩|⟨ht,hf⟩
  ·obtain⟨g,o,rfl,_⟩:=h4 bZ
   exact gen rfl h
  ·cases ad with
   | none=>exact gen rfl ht
   | some a=>exact gen rfl hf
 ·exact h.elim
theorem GZ (hO:Ev.eM cx) (hR:aD I β s.st w) {op:BinOp} {t:TypeId} {x y:PV} {u v:Value} {q:PV->Prop} (h:KC cx s.st op t x y q) (hx:x.Is w I β u) (hy:y.Is w I β v) :
  ∃ z r,q z/\z.Is w I β r/\(∀ (f g:Operand) (w':World),(eqGuard op t f g u v).run cx.P w' = .ok () w')/\∀ w',(binOp op t u v).run cx.P w' = .ok r w':=by
 have rL:∀ {u v:Value},(∀ f g:Operand,eqGuard op t f g u v=pure ())->∀ (f g:Operand) (w':World),(eqGuard op t f g u v).run cx.P w' = .ok () w':=fun h f g w'=>by rw[h]; rfl
 unfold KC at h
 split at h
 ·rename_i sx k a Y'
  replace h:=aq h
  obtain⟨⟨sy,k',b⟩,hyb,h⟩:=h
  rw[PV.lb Y' hx,PV.lb hyb hy]
  obtain⟨z,r,h1,h2,h3⟩:=GY (P:=cx.P) (t:=t) (w:=w) (I:=I) (β:=β) h
  exact⟨z,r,h1,h2,rL fun f g=>eqGuard_at_int _ _ _ _ _ _ _,h3⟩
 ·replace h:=aq h
  obtain⟨d,hu,h⟩:=h
  split at h
  ·replace h:=aq h
   obtain⟨p,hp,h⟩:=h
   replace h:=aq h
   obtain⟨p',dk,h⟩:=h
   rw[PV.y7 hp hx,PV.y7 dk hy]
   obtain⟨z,r,h1,h2,h3⟩:=xv (P:=cx.P) (t:=t) (u:=.bool (pb p)) (v:=.bool (pb p')) (w:=w) (I:=I) (β:=β) h
    (fun _ w'=>by rw[Ev.GO rfl (run_equal_bool w' t _ _ (hO.un hu)),s_]) (fun _ w'=>by rw[Ev.GP rfl (run_equal_bool w' t _ _ (hO.un hu)),s_])
   exact⟨z,r,h1,h2,rL fun f g=>eqGuard_at_bool _ _ _ _ _ _,h3⟩
  ·split at h
   ·simp only[PV.Is] at hx hy
    obtain⟨rfl,_⟩:=hx
    obtain⟨rfl,_⟩:=hy
    obtain⟨z,r,h1,h2,h3⟩:=s9 (P:=cx.P) (t:=t) (u:=.string _) (v:=.string _) (w:=w) (I:=I) (β:=β) h (fun _ w'=>rfl) (fun _ w'=>rfl)
    exact⟨z,r,h1,h2,rL fun f g=>eqGuard_at_string _ _ _ _ _ _,h3⟩
   ·exact h.elim
  ·split at h
   ·simp only[PV.Is] at hy
    subst hy
    obtain⟨z,r,h1,h2,h3,h4⟩:=C5 hO hR hu h hx
    exact⟨z,r,h1,h2,rL h3,h4⟩
   ·exact h.elim
  ·rename_i e
   have Vp:cx.P.underlying t=some (.pointer (cx.P.pointee t)):=by have:=hO.un hu; rw[this]; simp[Program.pointee,this]
   split at h
   ·simp only[PV.Is] at hx hy
    obtain⟨rfl,_⟩:=hx
    obtain⟨rfl,_⟩:=hy
    obtain⟨z,r,h1,h2,h3⟩:=s9 (P:=cx.P) (t:=t) (u:=.pointer none) (v:=.pointer none) (w:=w) (I:=I) (β:=β) h (fun _ w'=>by rw[run_eql_pointer_nil w' t _ Vp]; rfl) (fun _ w'=>by rw[run_neq_pointer_nil w' t _ Vp]; rfl)
    exact⟨z,r,h1,h2,rL fun f g=>eqGuard_at_pointer _ _ _ _ _ _,h3⟩
   ·simp only[PV.Is] at hx hy
    obtain⟨rfl,_⟩:=hy
    obtain⟨p,g,o,_,_,rfl⟩:=hx
    obtain⟨z,r,h1,h2,h3⟩:=s9 (P:=cx.P) (t:=t) (u:=.pointer (some ⟨g,o+_,none⟩)) (v:=.pointer none) (w:=w) (I:=I) (β:=β) h (fun _ w'=>by rw[run_eql_pointer_nil w' t _ Vp]; rfl) (fun _ w'=>by rw[run_neq_pointer_nil w' t _ Vp]; rfl)
    exact⟨z,r,h1,h2,rL fun f g=>eqGuard_at_pointer _ _ _ _ _ _,h3⟩
   ·exact h.elim
  ·split at h
   ·rename_i xs ys
    replace h:=aQ h
    obtain⟨hc,h⟩:=h
    replace h:=aq h
    obtain⟨p,hp,h⟩:=h
    obtain⟨t',y_,QM⟩:=List.any_eq_true.1 hc
    have:t=t':=Nat.eq_of_beq_eq_true QM
    subst this
    obtain⟨xw,_,_⟩:=hO.eq _ y_
    have he:=ta hO 6 10000 (by decide) t _ _ _ u v hp hx hy
    simp only[PV.Is] at hx hy
    obtain⟨us,rfl,_⟩:=hx
    obtain⟨vs,rfl,_⟩:=hy
    obtain⟨z,r,h1,h2,h3⟩:=xv (P:=cx.P) (t:=t) (u:=.agg us) (v:=.agg vs) (w:=w) (I:=I) (β:=β) h (fun _ w'=>by rw[run_eql_struct,he]; rfl) (fun _ w'=>by rw[run_neq_struct,he]; rfl)
    exact⟨z,r,h1,h2,fun f g w'=>run_eqGuard_agg w' op t f g us vs xw,h3⟩
   ·exact h.elim
  ·split at h
   ·rename_i xs ys
    replace h:=aQ h
    obtain⟨hc,h⟩:=h
    replace h:=aq h
    obtain⟨p,hp,h⟩:=h
    obtain⟨t',y_,QM⟩:=List.any_eq_true.1 hc
    have:t=t':=Nat.eq_of_beq_eq_true QM
    subst this
    obtain⟨xw,_,_⟩:=hO.eq _ y_
    have he:=ta hO 6 10000 (by decide) t _ _ _ u v hp hx hy
    simp only[PV.Is] at hx hy
    obtain⟨us,rfl,_⟩:=hx
    obtain⟨vs,rfl,_⟩:=hy
    obtain⟨z,r,h1,h2,h3⟩:=xv (P:=cx.P) (t:=t) (u:=.agg us) (v:=.agg vs) (w:=w) (I:=I) (β:=β) h (fun _ w'=>by rw[run_eql_struct,he]; rfl) (fun _ w'=>by rw[run_neq_struct,he]; rfl)
    exact⟨z,r,h1,h2,fun f g w'=>run_eqGuard_agg w' op t f g us vs xw,h3⟩
   ·exact h.elim
  ·exact h.elim
theorem KJ {op:UnOp} {x:PV} {u:Value} {q:PV->Prop} (h:V5 op x q) (hx:x.Is w I β u):∃ z r,q z/\z.Is w I β r/\∀ w',(Op.unary op u).run P w' = .ok r w':=by
 unfold V5 at h
 split at h<;>try simp only[PV.Is] at hx
 ·subst hx
  refine⟨_,_,h,Is.lit,fun w'=>?_⟩
  rename_i k a
  rw[show -a=0 - a by omega]; rfl
 ·subst hx
  obtain⟨z,h,hz⟩:=oR (w:=w) (I:=I) (β:=β) h
  refine⟨z,_,h,hz,fun w'=>?_⟩
  rename_i k a _
  rw[show -a=0 - a by omega]; rfl
 ·subst hx; exact⟨_,_,h,Is.lit,fun w'=>rfl⟩
 ·subst hx; exact⟨_,_,h,Is.int,fun w'=>rfl⟩
 ·subst hx; exact⟨_,_,h,Is.ff,fun w'=>rfl⟩
 ·subst hx; exact⟨_,_,h,Is.tt,fun w'=>rfl⟩
 ·subst hx
  rename_i p
  refine⟨_,_,h,Is.bool,fun w'=>?_⟩
  by_cases hp:p
  ·rw[bB hp,br fun h=>h hp]; rfl
  ·rw[br hp,bB hp]; rfl
 ·exact h.elim
theorem C6 (hO:Ev.eM cx) {src dst:TypeId} {x:PV} {u:Value} {q:PV->Prop} (h:JE cx src dst x q) (hx:x.Is w I β u):∃ z r,q z/\z.Is w I β r/\∀ w',(convert src dst u).run cx.P w' = .ok r w':=by
 replace h:=aq h
 obtain⟨d1,hs,h⟩:=h
 replace h:=aq h
 obtain⟨d2,hd,h⟩:=h
 split at h<;>try simp only[PV.Is] at hx
 ·subst hx
  exact⟨_,_,h,Is.lit,fun w'=>by simp[convert,run_underlying (hO.un hs),run_underlying (hO.un hd),Conv.intToInt]⟩
 ·subst hx
  obtain⟨z,h,hz⟩:=oR (w:=w) (I:=I) (β:=β) h
  exact⟨z,_,h,hz,fun w'=>by simp[convert,run_underlying (hO.un hs),run_underlying (hO.un hd),Conv.intToInt]⟩
 ·exact h.elim
theorem iC (hO:Ev.eM cx) {t:TypeId} {q:List PV->Prop} (h:mX cx t q):∃ z i v,q z/\cx.P.info? t=some i/\i.zero=some v/\a_ w I z β v.cells.toList:=by
 replace h:=aq h
 obtain⟨v,hv,h⟩:=h
 replace h:=uG (w:=w) (I:=I) (β:=β) h
 obtain⟨x,h,hx,hn⟩:=h
 rw[Option.bind_eq_some_iff] at hv
 obtain⟨ti,VZ,hz⟩:=hv
 obtain⟨i,hi,_,h2⟩:=hO.inf _ (Ev.jc VZ)
 exact⟨_,i,v,h,hi,h2.trans hz,hx.jM hn⟩
theorem aO.bL (hR:Rel G I β s a w) {o:Operand} {q:PV->Prop} (h:s.ev o q):∃ x,q x/\x.Is w I β (a.eval o):=by
 cases o with
 | tmp t =>
  replace h:=aq h
  obtain⟨x,hx,h⟩:=h
  obtain⟨v,hv,hi⟩:=hR.get t x hx
  exact⟨x,h,by simp only[Act.eval,Array.getD_eq_getD_getElem?,hv,Option.getD_some]; exact hi⟩
 | const v =>
  replace h:=uG (w:=w) (I:=I) (β:=β) h
  obtain⟨x,h,hx,_⟩:=h
  exact⟨x,h,hx⟩
 | global g=>exact⟨_,h,by simp only[PV.Is,Act.eval]⟩
 | func f=>exact⟨_,h,by simp only[PV.Is,Act.eval]; exact⟨#[],rfl,by simp only[a_]⟩⟩
def tc (w:World) (I:Nat->Prop) (β:ax):List (Nat × PV)->List (Nat × Value)->Prop
 | [],[]=>True
 | p::ps,v::vs=>(p.1=v.1/\p.2.Is w I β v.2/\∀ ts,p.2≠.tup ts)/\tc w I β ps vs
 | _,_=>False
theorem m4 (hR:Rel G I β s a w):∀ {ps:List (Nat × Operand)} {q:List (Nat × PV)->Prop},pf s ps q->∃ l,q l/\tc w I β l (ps.map fun p=>(p.1,a.eval p.2))
 | [],q,h=>⟨[],h,trivial⟩
 | (i,o)::ps,q,h=>by
  replace h:=aO.bL hR h
  obtain⟨x,h,hx⟩:=h
  have key:(∀ ts,x≠.tup ts)/\pf s ps fun l=>q ((i,x)::l):=by
   cases x<;>first|exact h.elim|exact⟨(fun _ e=>by cases e),h⟩
  obtain⟨l,h,hl⟩:=m4 hR key.2
  exact⟨_,h,⟨rfl,hx,key.1⟩,hl⟩
theorem lS {place:Nat->Option (Nat × Nat)} {q:List PV->Prop}:∀ {ps:List (Nat × PV)} {cells:List PV},rF place cells ps q->∃ cs,rE place cells ps=some cs/\q cs
 | [],cells,h=>⟨cells,rfl,h⟩
 | (i,v)::rest,cells,h=>by
  unfold rF at h
  unfold rE
  split at h
  ·exact h.elim
  ·rename_i off size hp
   obtain⟨hc,h⟩:=aQ h
   obtain⟨cs,h1,h2⟩:=lS (bP h)
   refine⟨cs,?_,h2⟩
   simp only[hc,if_true]
   exact h1
theorem lT {place:Nat->Option (Nat × Nat)}:∀ {ps:List (Nat × PV)} {vs:List (Nat × Value)} {cells r:List PV} {A:Array Value},rE place cells ps=some r->a_ w I cells β A.toList->tc w I β ps vs ->
  ∃ B,Instr.fill place A vs=some B/\a_ w I r β B.toList
 | [],[],cells,r,A,h,hc,_=>by simp only[rE,Option.some.injEq] at h; subst h; exact⟨A,rfl,hc⟩
 | (i,x)::ps,(j,v)::vs,cells,r,A,h,hc,Vq=>by
  obtain⟨⟨QN,hx,za⟩,C7⟩:=Vq
  simp only at QN hx za
  subst QN
  unfold rE at h
  cases ow:place i with
  | none=>rw[ow] at h; cases h
  | some os =>
   obtain⟨off,size⟩:=os
   rw[ow] at h
   simp only at h
   split at h
   ·rename_i C8
    simp only[Bool.and_eq_true] at C8
    have h1:x.cells.length=size:=Nat.eq_of_beq_eq_true C8.1
    have h2:off+size<=cells.length:=Nat.le_of_ble_eq_true C8.2
    have JH:=hx.jM za
    have hl:=JH.length
    have ur:=hc.length
    simp only[Array.length_toList] at hl ur
    unfold Instr.fill
    rw[ow]
    simp only
    rw[if_neg (by simp; omega)]
    have key:=Ev.rB off v.cells.toList 0 A (by simp; omega)
    have xx:(v.cells.zipIdx.foldl (fun (cs:Array Value) (x:Value × Nat)=>cs.setIfInBounds (off+x.2) x.1) A).toList=A.toList.take off++v.cells.toList++A.toList.drop (off+size):=by
     rw[← Array.foldl_toList,Array.toList_zipIdx]
     rw[key]; simp; congr 2; omega
    refine lT h ?_ C7
    rw[xx]
    exact ((hc.take off).append JH).append (hc.drop (off+size))
   ·cases h
 | [],_::_,_,_,_,_,_,h=>h.elim
 | _::_,[],_,_,_,_,_,h=>h.elim
theorem At (hO:Ev.eM cx) (hR:Rel G I β s a w) {t:TypeId} {parts:Array (Nat × Operand)} {q:PV->Prop} (h:CU cx s t parts.toList q) :
  ∃ x r,q x/\x.Is w I β r/\∀ w',(Instr.build t (parts.map fun (i,y)=>(i,a.eval y))).run cx.P w' = .ok r w':=by
 replace h:=iC (w:=w) (I:=I) (β:=β) hO h
 obtain⟨z,i,v,h,hi,Gp,xy⟩:=h
 replace h:=m4 hR h
 obtain⟨ps,h,Vq⟩:=h
 replace h:=aq h
 obtain⟨d,hu,h⟩:=h
 split at h
 ·rename_i fs
  replace h:=aq h
  obtain⟨pl,ow,h⟩:=h
  replace h:=lS h
  obtain⟨l,hl,h⟩:=h
  obtain⟨B,hB,RA⟩:=lT hl xy Vq
  refine⟨_,.agg B,bP h,by simp only[PV.Is]; exact⟨B,rfl,RA⟩,fun w'=>run_build w' t _ B ?_⟩
  unfold Program.built
  simp only[hi,hO.un hu,Gp,Ev.rC hO ow]
  rw[← hB]; simp
 ·rename_i n elem
  replace h:=aq h
  obtain⟨sz,eI,h⟩:=h
  replace h:=lS h
  obtain⟨l,hl,h⟩:=h
  obtain⟨B,hB,RA⟩:=lT hl xy Vq
  obtain⟨ie,hie,V'⟩:=Ev.jK hO eI
  refine⟨_,.agg B,bP h,by simp only[PV.Is]; exact⟨B,rfl,RA⟩,fun w'=>run_build w' t _ B ?_⟩
  unfold Program.built
  simp only[hi,hO.un hu,Gp,hie,V']
  rw[← hB]; simp
 ·exact h.elim
theorem qP (hO:Ev.eM cx) {t:TypeId} {x:PV} {f:Nat} {u:Value} {q:PV->Prop} (h:pg cx t x f q) (hx:x.Is w I β u):∃ z r,q z/\z.Is w I β r/\∀ w',(Instr.fieldAt t u f).run cx.P w' = .ok r w':=by
 replace h:=aq h
 obtain⟨d,hu,h⟩:=h
 split at h
 ·rename_i fs
  replace h:=aq h
  obtain⟨fd,V_,h⟩:=h
  replace h:=aq h
  obtain⟨n,hn,h⟩:=h
  replace h:=GW h
  obtain⟨jy,h⟩:=h
  ·have KK:n≠0:=fun e=>by subst e; cases jy
   have KM:fs[f]?=some fd:=by simpa using V_
   have bx:∀ (b o:Nat) w',(Instr.fieldAt t (.pointer (some ⟨b,o,none⟩)) f).run cx.P w' = .ok (.pointer (some ⟨b,o+fd.offset,none⟩)) w':=fun b o w'=>by
    simp[Instr.fieldAt,run_underlying (hO.un hu),KM,Instr.sureAddr,fieldPlace,Ev.cV hO hn,KK,Ev.gk]
   split at h<;>try simp only[PV.Is] at hx
   ·obtain⟨p,g,o,hp,ha,rfl⟩:=hx
    exact⟨_,_,h,by simp only[PV.Is]; exact⟨p,g,o,hp,ha,rfl⟩,fun w'=>by rw[bx]; simp only[Nat.add_assoc]⟩
   ·obtain⟨p,g,o,hp,ha,rfl⟩:=hx
    exact⟨_,_,h,by simp only[PV.Is]; exact⟨p,g,o,hp,ha,rfl⟩,fun w'=>by rw[bx]; congr 4; omega⟩
   ·obtain⟨p,g,o,hp,ha,rfl⟩:=hx
    exact⟨_,_,h,by simp only[PV.Is]; exact⟨p,g,o,hp,ha,rfl⟩,fun w'=>by rw[bx]; congr 4; omega⟩
   ·obtain⟨g,o,rfl,hg,hc⟩:=hx
    exact⟨_,_,h,by simp only[PV.Is]; exact⟨g,o,rfl,hg,hc⟩,fun w'=>by rw[bx]; simp only[Nat.add_assoc]⟩
   ·subst hx
    exact⟨_,_,h,by simp only[PV.Is]; exact rfl,fun w'=>by rw[bx]⟩
   ·subst hx
    exact⟨_,_,h,by simp only[PV.Is]; exact rfl,fun w'=>by rw[bx]; congr 4; omega⟩
   ·exact h.elim
 ·exact h.elim
theorem fq {st:Bool} {i:Int} {len:Nat} {f:Nat->Prop} {g:Prop} (h:within st i len f g):0<=i/\i < len/\(f i.toNat\/g):=by
 cases st with
 | true =>
  replace h:=aQ h
  obtain⟨hb,h⟩:=h
  simp only[Bool.and_eq_true,decide_eq_true_eq] at hb
  exact⟨hb.1,hb.2,.inl h⟩
 | false=>exact⟨h.1,h.2.1,.inr h.2.2⟩
theorem C9 {es:List PV} {i:Int} {q:PV->Prop} (h:JF es i q):∃ e,0<=i/\i < es.length/\es[i.toNat]?=some e/\q e:=by
 obtain⟨α,l,enc,rfl,h0,h1,h⟩:=h
 have bG:i.toNat < l.length:=by omega
 exact⟨_,h0,by simpa using h1,by rw[List.getElem?_map,List.getElem?_eq_getElem bG]; rfl,h _ (List.getElem?_eq_getElem bG)⟩
theorem qQ (hO:Ev.eM cx) (hR:aD I β s.st w) {t:TypeId} {x i:PV} {u v:Value} {q:PV->Prop} (h:ph cx s.st t x i q) (hx:x.Is w I β u) (hi:i.Is w I β v) :
  ∃ z r,q z/\z.Is w I β r/\∀ w',(Instr.indexAt t u v).run cx.P w' = .ok r w':=by
 replace h:=aq h
 obtain⟨⟨st,k,n⟩,hn,h⟩:=h
 obtain rfl:=PV.lb hn hi
 replace h:=aq h
 obtain⟨d,hu,h⟩:=h
 try simp only at h
 split at h
 ·rename_i len elem
  replace h:=aq h
  obtain⟨size,hs,h⟩:=h
  have bx:∀ (b o:Nat),0<=n->n < len->∀ w',(Instr.indexAt t (.pointer (some ⟨b,o,none⟩)) (.int k n)).run cx.P w' = .ok (.pointer (some ⟨b,o+n.toNat*size,none⟩)) w':=fun b o h0 h1 w'=>by
   simp[Instr.indexAt,Instr.sureAddr,asIntOf,run_underlying (hO.un hu),h0,h1,Ev.cV hO hs,Ev.gk]
  split at h<;>try simp only[PV.Is] at hx
  ·obtain⟨p,g,o,hp,ha,rfl⟩:=hx
   replace h:=fq h
   obtain⟨h0,h1,h|h⟩:=h
   ·exact⟨_,_,h,by simp only[PV.Is]; exact⟨p,g,o,hp,ha,rfl⟩,fun w'=>by rw[bx _ _ h0 h1]; simp only[Nat.add_assoc]⟩
   ·exact⟨_,_,h,by simp only[PV.Is]; exact⟨p,g,o,hp,ha,rfl⟩,fun w'=>by rw[bx _ _ h0 h1]; simp only[Nat.add_assoc]⟩
  ·subst hx
   replace h:=fq h
   obtain⟨h0,h1,h|h⟩:=h
   ·exact⟨_,_,h,by simp only[PV.Is]; exact rfl,fun w'=>by rw[bx _ _ h0 h1]⟩
   ·exact⟨_,_,h,by simp only[PV.Is]; exact rfl,fun w'=>by rw[bx _ _ h0 h1]⟩
  ·obtain⟨g,o,rfl,hg,hc⟩:=hx
   replace h:=fq h
   obtain⟨h0,h1,h|h⟩:=h
   ·exact⟨_,_,h,by simp only[PV.Is]; exact⟨g,o,rfl,hg,hc⟩,fun w'=>by rw[bx _ _ h0 h1]; simp only[Nat.add_assoc]⟩
   ·exact h.elim
  ·exact h.elim
 ·rename_i elem
  replace h:=aq h
  obtain⟨size,hs,h⟩:=h
  have bx:∀ (b o len cap:Nat),0<=n->n < len->∀ w',(Instr.indexAt t (.slice (some ⟨b,o,none⟩) len cap) (.int k n)).run cx.P w' = .ok (.pointer (some ⟨b,o+n.toNat*size,none⟩)) w':=fun b o len cap h0 h1 w'=>by
   simp[Instr.indexAt,asIntOf,run_underlying (hO.un hu),h0,h1,Ev.cV hO hs,Ev.gk]
  split at h<;>try simp only[PV.Is] at hx
  ·rename_i m es
   replace h:=aQ h
   obtain⟨hm,h⟩:=h
   have hms:m=size:=Nat.eq_of_beq_eq_true hm
   replace h:=C9 h
   obtain⟨e,h0,h1,he,h⟩:=h
   obtain⟨ad,cap,rfl,_,_,h2,h3⟩:=hx
   obtain⟨g,o,rfl,hg,_⟩:=h3 (by omega)
   have C':=(h2 g o rfl).get he
   exact⟨_,_,bP h,by simp only[PV.Is]; exact⟨g,o+n.toNat*m,rfl,hg,C'.2⟩,fun w'=>by rw[bx _ _ _ _ h0 h1,hms]; rfl⟩
  ·obtain⟨p,g,o,cap,hp,ha,rfl,_⟩:=hx
   cases hd:JG s.st _ with
   | true =>
    rw[hd] at h
    obtain⟨sY,h⟩:=aQ (show bif true then _ else _ from h) |>.2 |> aQ
    have sY:=Nat.eq_of_beq_eq_true sY
    subst sY
    replace h:=fq h
    obtain⟨h0,h1,h|h⟩:=h
    ·exact⟨_,_,h,by simp only[PV.Is]; exact⟨p,g,o,hp,ha,rfl⟩,fun w'=>by rw[bx _ _ _ _ h0 h1]; simp only[Nat.add_assoc,Nat.mul_one,Nat.add_zero]⟩
    ·exact⟨_,_,h,by simp only[PV.Is]; exact⟨p,g,o,hp,ha,rfl⟩,fun w'=>by rw[bx _ _ _ _ h0 h1]; simp only[Nat.add_assoc,Nat.mul_one,Nat.add_zero]⟩
   | false =>
    rw[hd,cond_false] at h
    replace h:=fq h
    obtain⟨h0,h1,h|h⟩:=h
    ·exact⟨_,_,h,by simp only[PV.Is]; exact⟨p,g,o,hp,ha,rfl⟩,fun w'=>by rw[bx _ _ _ _ h0 h1]; simp only[Nat.add_assoc]⟩
    ·exact⟨_,_,h,by simp only[PV.Is]; exact⟨p,g,o,hp,ha,rfl⟩,fun w'=>by rw[bx _ _ _ _ h0 h1]; simp only[Nat.add_assoc]⟩
  ·rename_i l
   replace h:=aq h
   obtain⟨b,hb,h⟩:=h
   replace h:=aQ h
   obtain⟨hc,h⟩:=h
   simp only[Bool.and_eq_true] at hc
   have eI:b.size=size:=Nat.eq_of_beq_eq_true hc.1.2
   obtain⟨p,hp,rfl⟩:=hx
   split at h
   ·rename_i hk
    obtain⟨g,arr,fr,ha,hw,_,_,_,hlen,_,_,_,m5⟩:=eD hR hb hc.1.1 hk hp
    rw[hw]
    rw[ki,Nat.zero_add] at h
    have hq:b.cs.length / size=p.len:=by rw[hlen,eI]; exact Nat.mul_div_cancel _ (by omega)
    rw[hq] at h
    replace h:=fq h
    obtain⟨h0,h1,h|h⟩:=h
    ·exact⟨_,_,h,by simp only[PV.Is]; exact⟨p,g,0,hp,ha,rfl⟩,fun w'=>by rw[bx _ _ _ _ h0 h1]⟩
    ·exact⟨_,_,h,by simp only[PV.Is]; exact⟨p,g,0,hp,ha,rfl⟩,fun w'=>by rw[bx _ _ _ _ h0 h1]; congr 4; omega⟩
   ·rename_i hk
    obtain⟨h0,h1,h⟩:=h
    obtain⟨_,hlen,hle,_,lf⟩:=ct hR hb hc.1.1 hk hp
    rcases lf with ⟨_,pk,_⟩|⟨g,arr,fr,ha,hw,_⟩
    ·omega
    ·rw[hw]
     exact⟨_,_,h,by simp only[PV.Is]; exact⟨p,g,0,hp,ha,rfl⟩,fun w'=>by rw[bx _ _ _ _ h0 (by omega)]; congr 4⟩
   ·exact h.elim
  ·exact h.elim
 ·exact h.elim
theorem Au (hO:Ev.eM cx) {t:TypeId} {x i:PV} {u v:Value} {q:PV->Prop} (h:CV cx t x i q) (hx:x.Is w I β u) (hi:i.Is w I β v) :
  ∃ z r,q z/\z.Is w I β r/\∀ w',(Instr.index t u v).run cx.P w' = .ok r w':=by
 replace h:=aq h
 obtain⟨⟨st,k,n⟩,hn,h⟩:=h
 obtain rfl:=PV.lb hn hi
 replace h:=aq h
 obtain⟨d,hu,h⟩:=h
 try simp only at h
 split at h<;>try simp only[PV.Is] at hx
 ·rename_i len elem cs
  obtain⟨vs,rfl,hc⟩:=hx
  replace h:=aq h
  obtain⟨size,hs,h⟩:=h
  replace h:=fq h
  obtain⟨h0,h1,h⟩:=h
  have bx:∀ w',(Instr.index t (.agg vs) (.int k n)).run cx.P w'=(Go.part elem vs (n.toNat*size)).run cx.P w':=fun w'=>by
   simp[Instr.index,asIntOf,run_underlying (hO.un hu),h0,h1,Ev.cV hO hs]
  rcases h with h|h
  ·obtain⟨z,r,h2,h3,h4⟩:=y8 hO h hc
   exact⟨z,r,h2,h3,fun w'=>by rw[bx,h4]⟩
  ·replace h:=aq h
   obtain⟨ag,Gq,h⟩:=h
   replace h:=aQ h
   obtain⟨hb,h⟩:=h
   simp only[Bool.and_eq_true,Bool.not_eq_true'] at hb
   obtain⟨⟨Wa,oz⟩,ur⟩:=hb
   subst Wa
   have Wb:=Nat.eq_of_beq_eq_true oz
   have hcl':=Nat.eq_of_beq_eq_true ur
   subst Wb
   have bG:n.toNat < cs.length:=by omega
   obtain⟨r,hr,Wc⟩:=hc.get (List.getElem?_eq_getElem bG)
   have uu:vs[n.toNat]?=some r:=by simpa using hr
   exact⟨_,r,h _ (List.getElem?_eq_getElem bG),Wc,fun w'=>by rw[bx]; simp[Go.part,Ev.gd hO Gq,uu]⟩
 ·rename_i sb
  obtain⟨rfl,_⟩:=hx
  obtain⟨h0,h1,h⟩:=h
  have bG:n.toNat < sb.size:=by omega
  refine⟨_,_,h,Is.int,fun w'=>?_⟩
  rw[run_index_string w' t sb k _ (hO.un hu),dif_pos ⟨h0,h1⟩]
  have:sb.data.toList[n.toNat]?=some (sb[n.toNat]'bG):=by
   rw[Array.getElem?_toList,Array.getElem?_eq_getElem bG]; rfl
  rw[List.getElem?_map,this]; rfl
 ·exact h.elim
end
section
variable {w w':World} {I I':Nat->Prop} {β aI:ax} {cx:Ev.Cx} {G:Gx} {P:Program} {s:aO} {a:Act}
theorem jO (hR:Rel G I β s a w) {o:Option Operand} {d:Bool × Int} {q:Bool × Int->Prop} (h:GU s o d q):∃ z,q z/\((o.map a.eval=none/\z=d)\/∃ k,o.map a.eval=some (.int k z.2)):=by
 cases o with
 | none=>exact⟨d,h,.inl ⟨rfl,rfl⟩⟩
 | some o =>
  replace h:=aO.bL hR h
  obtain⟨x,h,hx⟩:=h
  replace h:=aq h
  obtain⟨⟨st,k,n⟩,hn,h⟩:=h
  exact⟨(st,n),h,.inr ⟨k,by simp only[Option.map_some,PV.lb hn hx]⟩⟩
theorem xz {b:Bool} {len cap H L:Nat} {uh ul:Option Value} (hh:(uh=none/\H=len)\/∃ k i,uh=some (.int k i)/\0<=i/\i<=cap/\H=i.toNat) (hl:(ul=none/\L=0)\/∃ k i,ul=some (.int k i)/\0<=i/\i<=H/\L=i.toNat) (w:World) :
  (Instr.sliceBounds b len cap ul uh none).run P w = .ok (L,H,cap) w:=by
 rcases hh with ⟨rfl,rfl⟩|⟨k,i,rfl,h0,h1,rfl⟩<;>rcases hl with ⟨rfl,rfl⟩|⟨k',i',rfl,g0,g1,rfl⟩
 ·simp[Instr.sliceBounds]
 ·simp[Instr.sliceBounds,Ev.eN g0 g1]
 ·simp[Instr.sliceBounds,Ev.eN h0 h1]
 ·simp[Instr.sliceBounds,Ev.eN h0 h1,Ev.eN g0 g1]
theorem zb {b:Bool} {len cap:Nat} {uh ul:Option Value} {l h:Bool × Int} (hh:(uh=none/\h.2=(len:Int))\/∃ k,uh=some (.int k h.2)) (hl:(ul=none/\l.2=0)\/∃ k,ul=some (.int k l.2)) (h0:0<=l.2) (h1:l.2<=h.2) (h2:h.2<=cap) (w:World) :
  (Instr.sliceBounds b len cap ul uh none).run P w = .ok (l.2.toNat,h.2.toNat,cap) w:=by
 refine xz ?_ ?_ w
 ·rcases hh with ⟨e,e'⟩|⟨k,e⟩
  ·exact .inl ⟨e,by omega⟩
  ·exact .inr ⟨k,h.2,e,by omega,by omega,rfl⟩
 ·rcases hl with ⟨e,e'⟩|⟨k,e⟩
  ·exact .inl ⟨e,by omega⟩
  ·exact .inr ⟨k,l.2,e,by omega,by omega,rfl⟩
theorem bE.drop {es:List PV} {n g o:Nat} (k:Nat) (h:bE w I es n g o):bE w I (es.drop k) n g (o+k*n):=bE.of fun i e he=>by
 rw[List.getElem?_drop] at he
 have:=h.get he
 rw[show o+k*n+i*n=o+(k+i)*n by rw[Nat.add_mul]; omega]
 exact this
theorem bE.take {es:List PV} {n g o:Nat} (k:Nat) (h:bE w I es n g o):bE w I (es.take k) n g o:=bE.of fun i e he=>by
 rw[List.getElem?_take] at he
 split at he
 ·exact h.get he
 ·cases he
theorem Av (hO:Ev.eM G.cx) (hR:Rel G I β s a w) {t:TypeId} {x:PV} {u:Value} {lo hi mx:Option Operand} {q:PV->Prop} (h:CW G.cx s t x lo hi mx q) (hx:x.Is w I β u) :
  ∃ z r,q z/\z.Is w I β r/\∀ w',(Instr.sliceAt t u (lo.map a.eval) (hi.map a.eval) (mx.map a.eval)).run G.cx.P w' = .ok r w':=by
 replace h:=aq h
 obtain⟨d,hu,h⟩:=h
 split at h
 ·rename_i n elem
  replace h:=aq h
  obtain⟨m,hm,h⟩:=h
  replace h:=aQ h
  obtain⟨m5,h⟩:=h
  simp only[Bool.and_eq_true] at m5
  replace h:=jO hR h
  obtain⟨l,h,hl⟩:=h
  replace h:=jO hR h
  obtain⟨hh,h,Aw⟩:=h
  split at h<;>try simp only[PV.Is] at hx
  ·obtain⟨p,g,o,hp,ha,rfl⟩:=hx
   replace h:=aQ h
   obtain⟨hc,h⟩:=h
   simp only[Bool.and_eq_true,decide_eq_true_eq] at hc
   obtain⟨⟨⟨⟨⟨_,_⟩,h0⟩,h1⟩,h2⟩,h3⟩:=hc
   refine⟨_,.slice (some ⟨g,o+_,none⟩) _ (n - l.2.toNat),h,by simp only[PV.Is]; exact⟨p,g,o,n - l.2.toNat,hp,ha,rfl,by omega⟩,fun w'=>?_⟩
   have hb:=fun b=>zb (P:=G.cx.P) (b:=b) (len:=n) (cap:=n) (Aw.imp (fun ⟨e,e'⟩=>⟨e,by rw[e']⟩) id) (hl.imp (fun ⟨e,e'⟩=>⟨e,by rw[e']⟩) id) h0 h2 h3 w'
   have bZ:¬ n=l.2.toNat:=by omega
   have e1:hh.2.toNat - l.2.toNat=(hh.2 - l.2).toNat:=by omega
   simp only[Instr.sliceAt,Sem.run_bind,run_underlying (hO.un hu),Result.andThen_ok,Instr.sureAddr,Sem.run_pure,Option.map_none,hb,Ev.cV hO hm]
   simp[bZ,Ev.gk,Nat.add_assoc,e1]
  ·exact h.elim
 ·rename_i elem
  replace h:=aq h
  obtain⟨m,hm,h⟩:=h
  replace h:=jO hR h
  obtain⟨l,h,hl⟩:=h
  have run:∀ (ad:Option Addr) (len cap:Nat) (hh:Bool × Int),((hi.map a.eval=none/\hh.2=(len:Int))\/∃ k,hi.map a.eval=some (.int k hh.2))->0<=l.2->l.2<=hh.2->hh.2<=cap->∃ G0,(∀ w',(Instr.sliceAt t (.slice ad len cap) (lo.map a.eval) (hi.map a.eval) none).run G.cx.P w' = .ok (.slice G0 (hh.2 - l.2).toNat (cap - l.2.toNat)) w')/\(ad=none->G0=none)/\(∀ g o,ad=some ⟨g,o,none⟩->l.2 < cap->G0=some ⟨g,o+l.2.toNat*m,none⟩):=by
   intro ad len cap hh Aw h0 h1 h2
   have hb:=fun b w'=>zb (P:=G.cx.P) (b:=b) (len:=len) (cap:=cap) Aw (hl.imp (fun ⟨e,e'⟩=>⟨e,by rw[e']⟩) id) h0 h1 h2 w'
   have e1:hh.2.toNat - l.2.toNat=(hh.2 - l.2).toNat:=by omega
   cases ad with
   | none =>
    refine⟨none,fun w'=>?_,fun _=>rfl,fun _ _ e=>by cases e⟩
    simp only[Instr.sliceAt,Instr.slice,Sem.run_bind,run_underlying (hO.un hu),Result.andThen_ok,Sem.run_pure,Option.map_none,hb,Ev.cV hO hm]
    simp[e1]
   | some ad =>
    by_cases ur:cap=l.2.toNat
    ·refine⟨some ad,fun w'=>?_,(fun e=>by cases e),fun g o e bG=>by omega⟩
     simp only[Instr.sliceAt,Instr.slice,Sem.run_bind,run_underlying (hO.un hu),Result.andThen_ok,Sem.run_pure,Option.map_none,hb,Ev.cV hO hm]
     simp[e1,ur]
    ·refine⟨some (ad.add (l.2.toNat*m)),fun w'=>?_,(fun e=>by cases e),fun g o e bG=>by cases e; rw[Ev.gk]⟩
     simp only[Instr.sliceAt,Instr.slice,Sem.run_bind,run_underlying (hO.un hu),Result.andThen_ok,Sem.run_pure,Option.map_none,hb,Ev.cV hO hm]
     simp[e1,ur]
  split at h<;>try simp only[PV.Is] at hx
  ·subst hx
   replace h:=jO hR h
   obtain⟨hh,⟨h0,h1,h⟩,Aw⟩:=h
   refine⟨_,.slice none 0 0,h,by simp only[PV.Is],fun w'=>?_⟩
   obtain⟨G0,hr,hn,_⟩:=run none 0 0 hh (Aw.imp (fun ⟨e,e'⟩=>⟨e,by rw[e']; rfl⟩) id) (by omega) (by omega) (by omega)
   rw[hn rfl] at hr
   rw[Option.map_none,hr,h0,h1]; rfl
  ·rename_i b off len
   obtain⟨p,g,o,cap,hp,ha,rfl,hle⟩:=hx
   replace h:=jO hR h
   obtain⟨hh,h,Aw⟩:=h
   replace h:=aQ h
   obtain⟨hc,h⟩:=h
   simp only[Bool.and_eq_true,decide_eq_true_eq] at hc
   obtain⟨⟨⟨⟨⟨_,_⟩,h0⟩,h1⟩,h2⟩,h3⟩:=hc
   refine⟨_,.slice (some ⟨g,o+(off+l.2.toNat*m),none⟩) (hh.2 - l.2).toNat (cap - l.2.toNat),h,by simp only[PV.Is]; exact⟨p,g,o,cap - l.2.toNat,hp,ha,rfl,by omega⟩,fun w'=>?_⟩
   obtain⟨G0,hr,_,hs⟩:=run (some ⟨g,o+off,none⟩) len cap hh (Aw.imp (fun ⟨e,e'⟩=>⟨e,by rw[e']⟩) id) h0 h2 (by omega)
   rw[Option.map_none,hr,hs g (o+off) rfl (by omega)]
   simp only[Nat.add_assoc]
  ·rename_i n es
   obtain⟨ad,cap,rfl,hle,pn,h4,h5⟩:=hx
   replace h:=jO hR h
   obtain⟨hh,h,Aw⟩:=h
   replace h:=aQ h
   obtain⟨hc,h0,h1,h2,h⟩:=h
   simp only[Bool.and_eq_true] at hc
   have We:n=m:=Nat.eq_of_beq_eq_true hc.1
   have oA:0 < m:=Nat.le_of_ble_eq_true hc.2
   have hlen:((es.drop l.2.toNat).take (hh.2 - l.2).toNat).length=(hh.2 - l.2).toNat:=by rw[List.length_take,List.length_drop]; omega
   obtain⟨G0,uu,hn,hs⟩:=run ad es.length cap hh (Aw.imp (fun ⟨e,e'⟩=>⟨e,by rw[e']⟩) id) h0 h1 (by omega)
   refine⟨_,_,h,?_,fun w'=>by rw[Option.map_none,uu]⟩
   simp only[PV.Is,hlen]
   refine⟨G0,cap - l.2.toNat,rfl,by omega,by omega,fun g o e=>?_,fun bZ=>?_⟩
   ·by_cases hz:(hh.2 - l.2).toNat=0
    ·rw[hz,List.take_zero]; simp only[bE]
    ·obtain⟨g',o',KN,hg,_⟩:=h5 (by omega)
     have:=hs g' o' KN (by omega)
     rw[this] at e
     cases e
     rw[← We]
     exact ((h4 _ _ KN).drop _).take _
   ·obtain⟨g',o',KN,hg,jy⟩:=h5 (by omega)
    exact⟨g',_,hs g' o' KN (by omega),hg,jy⟩
  ·rename_i b
   obtain⟨p,hp,rfl⟩:=hx
   replace h:=aq h
   obtain⟨k,hb,h⟩:=h
   split at h
   ·rename_i hk
    replace h:=aQ h
    obtain⟨hc,h⟩:=h
    simp only[Bool.and_eq_true] at hc
    have eI:k.size=m:=Nat.eq_of_beq_eq_true hc.1.2
    obtain⟨g,arr,fr,ha,hw,_,_,_,hlen,hle,_,_,m5⟩:=eD hR.heap hb hc.1.1 hk hp
    rw[ki,Nat.zero_add] at h
    have hq:k.cs.length / m=p.len:=by rw[hlen,eI]; exact Nat.mul_div_cancel _ (by omega)
    rw[hq] at h
    replace h:=jO hR h
    obtain⟨hh,h,Aw⟩:=h
    replace h:=aQ h
    obtain⟨kG,h⟩:=h
    simp only[Bool.and_eq_true,decide_eq_true_eq] at kG
    obtain⟨⟨⟨⟨⟨_,_⟩,h0⟩,h1⟩,h2⟩,h3⟩:=kG
    refine⟨_,.slice (some ⟨g,0+l.2.toNat*m,none⟩) (hh.2 - l.2).toNat (p.cap - l.2.toNat),h,by simp only[PV.Is]; exact⟨p,g,0,p.cap - l.2.toNat,hp,ha,rfl,by omega⟩,fun w'=>?_⟩
    obtain⟨G0,hr,_,hs⟩:=run (some ⟨g,0,none⟩) p.len p.cap hh (Aw.imp (fun ⟨e,e'⟩=>⟨e,by rw[e']⟩) id) h0 h2 (by omega)
    rw[hw,Option.map_none,hr,hs g 0 rfl (by omega)]
   ·rename_i hk
    replace h:=aQ h
    obtain⟨hc,h⟩:=h
    simp only[Bool.and_eq_true] at hc
    have eI:k.size=m:=Nat.eq_of_beq_eq_true hc.1.2
    obtain⟨Gr,hlen,hle,pn,lf⟩:=ct hR.heap hb hc.1.1 hk hp
    replace h:=jO hR h
    obtain⟨hh,⟨i,j,hi,hj,QN,QO,Y_,h⟩,Aw⟩:=h
    rcases lf with ⟨_,pk,_⟩|⟨g,arr,fr,ha,hw,fS,kN,dd,has⟩
    ·exact absurd Y_ (by omega)
    ·refine⟨_,.slice (some ⟨g,0+i*m,none⟩) (j - i) (p.cap - i),h,by simp only[PV.Is]; exact⟨p,g,0,p.cap - i,hp,ha,rfl,by omega⟩,fun w'=>?_⟩
     obtain⟨G0,hr,_,hs⟩:=run (some ⟨g,0,none⟩) p.len p.cap hh (Aw.imp (fun ⟨e,e'⟩=>⟨e,by rw[e',hlen]⟩) id) (by omega) (by omega) (by omega)
     rw[hw,Option.map_none,hr,hs g 0 rfl (by omega),show l.2.toNat=i by omega,show (hh.2 - l.2).toNat=j - i by omega]
   ·exact h.elim
  ·exact h.elim
 ·exact h.elim
theorem G1 (hR:aD I β s.st w) {x:PV} {u:Value} {q:PV->Prop} (h:KD s.st x q) (hx:x.Is w I β u):∃ z,q z/\∃ (ad:Option Addr) (n c:Nat),u = .slice ad n c/\z.Is w I β (.int .i64 n):=by
 unfold KD at h
 simp only[ki,Nat.zero_add,ak.xm] at h
 split at h<;>try simp only[PV.Is] at hx
 ·exact⟨_,h,_,_,_,hx,Is.lit⟩
 ·obtain⟨ad,cap,rfl,_,hm,_⟩:=hx
  exact⟨_,h hm,_,_,_,rfl,Is.int⟩
 ·obtain⟨p,g,o,cap,_,_,rfl,_⟩:=hx
  exact⟨_,h,_,_,_,rfl,Is.lit⟩
 ·obtain⟨p,hp,rfl⟩:=hx
  replace h:=aq h
  obtain⟨b,hb,h⟩:=h
  replace h:=aQ h
  obtain⟨hl,h⟩:=h
  split at h
  ·rename_i hk
   obtain⟨g,arr,fr,_,hw,_,_,_,hlen,_,_,_,m5⟩:=eD hR hb hl hk hp
   refine⟨_,h,_,_,_,hw,?_⟩
   rw[hlen,Nat.mul_div_cancel _ m5]
   exact Is.lit
  ·rename_i hk
   obtain⟨_,hlen,hle,hm,lf⟩:=ct hR hb hl hk hp
   have h:=h (by omega)
   rcases lf with ⟨_,hc,hw⟩|⟨g,arr,fr,_,hw,_⟩
   ·exact⟨_,h,_,_,_,hw,by rw[show b.cs.length=0 by omega]; exact Is.int⟩
   ·exact⟨_,h,_,_,_,hw,by rw[hlen]; exact Is.int⟩
  ·exact h.elim
 ·exact h.elim
theorem nT (hR:Rel G I β s a w):∀ {os:List Operand} {q:List PV->Prop},nR.lP s os q->∃ l,q l/\a_ w I l β (os.map a.eval)
 | [],q,h=>⟨[],h,by simp only[List.map_nil,a_]⟩
 | o::os,q,h=>by
  replace h:=aO.bL hR h
  obtain⟨x,h,hx⟩:=h
  have key:nR.lP s os fun xs=>q (x::xs):=by cases x<;>first|exact h.elim|exact h
  obtain⟨l,h,hl⟩:=nT hR key
  exact⟨_,h,by simp only[List.map_cons,a_]; exact⟨hx,hl⟩⟩
set_option maxHeartbeats 1000000 in
theorem uJ (hO:Ev.eM G.cx) (hR:Rel G I β s a w) {o:Oper} {q:PV->Prop} (h:nR G.cx s o.op q) :
  ∃ x r,q x/\x.Is w I β r/\∀ w',(execOp a.eval o).run G.cx.P w' = .ok (.value r) w':=by
 obtain⟨dst,op,ty,pos,after,guard⟩:=o
 simp only at h
 unfold nR at h
 split at h
 ·
  replace h:=aO.bL hR h
  obtain⟨x,h,hx⟩:=h
  exact⟨x,_,h,hx,fun w'=>rfl⟩
 ·
  replace h:=aO.bL hR h
  obtain⟨x,h,hx⟩:=h
  exact⟨x,_,h,hx,fun w'=>rfl⟩
 ·
  rename_i c x y
  have bx:∀ b,a.eval c = .bool b->∀ w',(execOp a.eval ⟨dst,.pick c x y,ty,pos,after,guard⟩).run G.cx.P w' = .ok (.value (if b then a.eval x else a.eval y)) w':=fun b hb w'=>by
   cases b<;>simp[execOp,hb,asBool]
  replace h:=aO.bL hR h
  obtain⟨xc,h,hc⟩:=h
  split at h<;>try simp only[PV.Is] at hc
  ·replace h:=aO.bL hR h
   obtain⟨z,h,hz⟩:=h
   exact⟨z,_,h,hz,fun w'=>by rw[bx _ hc]; rfl⟩
  ·replace h:=aO.bL hR h
   obtain⟨z,h,hz⟩:=h
   exact⟨z,_,h,hz,fun w'=>by rw[bx _ hc]; rfl⟩
  ·rename_i p
   by_cases hp:p
   ·obtain⟨z,h,hz⟩:=aO.bL hR (h.1 hp)
    exact⟨z,_,h,hz,fun w'=>by rw[bx _ hc,bB hp]; rfl⟩
   ·obtain⟨z,h,hz⟩:=aO.bL hR (h.2 hp)
    exact⟨z,_,h,hz,fun w'=>by rw[bx _ hc,br hp]; rfl⟩
  ·exact h.elim
 ·
  replace h:=aO.bL hR h
  obtain⟨x,h,hx⟩:=h
  replace h:=aO.bL hR h
  obtain⟨y,h,hy⟩:=h
  obtain⟨z,r,h,hz,hg,hr⟩:=GZ hO hR.heap h hx hy
  exact⟨z,r,h,hz,fun w'=>by simp[execOp,hg,hr]⟩
 ·
  replace h:=aO.bL hR h
  obtain⟨x,h,hx⟩:=h
  obtain⟨z,r,h,hz,hr⟩:=KJ (P:=G.cx.P) h hx
  exact⟨z,r,h,hz,fun w'=>by simp[execOp,hr]⟩
 ·
  replace h:=aO.bL hR h
  obtain⟨x,h,hx⟩:=h
  obtain⟨z,r,h,hz,hr⟩:=C6 hO h hx
  exact⟨z,r,h,hz,fun w'=>by simp[execOp,hr]⟩
 ·
  rename_i o
  replace h:=aO.bL hR h
  obtain⟨x,h,hx⟩:=h
  have key:∀ {ad:Addr},a.eval o = .pointer (some ad)->∀ w',(execOp a.eval ⟨dst,.nilCheck o,ty,pos,after,guard⟩).run G.cx.P w' = .ok (.value (a.eval o)) w':=fun he w'=>by simp[execOp,he]
  split at h<;>first|exact h.elim|(have dp:=hx; simp only[PV.Is] at dp)
  ·obtain⟨p,g,o',_,_,he⟩:=dp; exact⟨_,_,h,hx,key he⟩
  ·obtain⟨p,g,o',_,_,he⟩:=dp; exact⟨_,_,h,hx,key he⟩
  ·obtain⟨p,g,o',_,_,he⟩:=dp; exact⟨_,_,h,hx,key he⟩
  ·obtain⟨g,o',he,_⟩:=dp; exact⟨_,_,h,hx,key he⟩
  ·exact⟨_,_,h,hx,key dp⟩
  ·exact⟨_,_,h,hx,key dp⟩
 ·
  obtain⟨x,r,h,hx,hr⟩:=At hO hR h
  exact⟨x,r,h,hx,fun w'=>by simp[execOp,hr]⟩
 ·
  replace h:=aO.bL hR h
  obtain⟨x,h,hx⟩:=h
  obtain⟨z,r,h,hz,hr⟩:=qP hO h hx
  exact⟨z,r,h,hz,fun w'=>by simp[execOp,hr]⟩
 ·
  rename_i f
  replace h:=aq h
  obtain⟨d,hu,h⟩:=h
  replace h:=aO.bL hR h
  obtain⟨x,h,hx⟩:=h
  split at h
  ·rename_i fs cs
   replace h:=aq h
   obtain⟨fd,V_,h⟩:=h
   simp only[PV.Is] at hx
   obtain⟨vs,he,hc⟩:=hx
   obtain⟨z,r,h,hz,hr⟩:=y8 hO h hc
   have KM:fs[f]?=some fd:=by simpa using V_
   exact⟨z,r,h,hz,fun w'=>by simp[execOp,Instr.field,run_underlying (hO.un hu),KM,he,asAgg,hr]⟩
  ·exact h.elim
 ·
  replace h:=aO.bL hR h
  obtain⟨x,h,hx⟩:=h
  replace h:=aO.bL hR h
  obtain⟨y,h,hy⟩:=h
  obtain⟨z,r,h,hz,hr⟩:=qQ hO hR.heap h hx hy
  exact⟨z,r,h,hz,fun w'=>by simp[execOp,hr]⟩
 ·
  replace h:=aO.bL hR h
  obtain⟨x,h,hx⟩:=h
  replace h:=aO.bL hR h
  obtain⟨y,h,hy⟩:=h
  obtain⟨z,r,h,hz,hr⟩:=Au hO h hx hy
  exact⟨z,r,h,hz,fun w'=>by simp[execOp,hr]⟩
 ·
  rename_i i
  replace h:=aO.bL hR h
  obtain⟨x,h,hx⟩:=h
  split at h
  ·replace h:=aq h
   obtain⟨z,hz,h⟩:=h
   simp only[PV.Is] at hx
   obtain⟨vs,he,hc⟩:=hx
   obtain⟨r,hr,Wc⟩:=hc.get hz
   have uu:vs[i]?=some r:=by simpa using hr
   exact⟨z,r,h,Wc,fun w'=>by simp[execOp,Instr.extract,he,uu]⟩
  ·exact h.elim
 ·
  replace h:=aO.bL hR h
  obtain⟨x,h,hx⟩:=h
  obtain⟨z,r,h,hz,hr⟩:=Av hO hR h hx
  exact⟨z,r,h,hz,fun w'=>by simp[execOp,hr]⟩
 ·
  rename_i f kF
  replace h:=nT hR h
  obtain⟨l,h,hl⟩:=h
  refine⟨_,.func (.func f) #[] ⟨kF.map a.eval⟩,h,by simp only[PV.Is]; exact⟨_,rfl,hl⟩,fun w'=>?_⟩
  simp[execOp,Instr.makeFunc]
 ·
  rename_i o t
  replace h:=aq h
  obtain⟨d,hu,h⟩:=h
  replace h:=aO.bL hR h
  obtain⟨x,h,hx⟩:=h
  have bx:∀ {r:Value},(∀ w',(Builtin.len_ #[t] ty #[a.eval o]).run G.cx.P w' = .ok r w')->∀ w',(execOp a.eval ⟨dst,.call { callee:=.builtin .len,args:=#[o],argTypes:=#[t] },ty,pos,after,guard⟩).run G.cx.P w' = .ok (.value r) w':=fun hr w'=>by
   simp[execOp,resolve,invoke,builtin,hr]
  split at h
  ·obtain⟨z,h,ad,n,c,he,hz⟩:=G1 hR.heap h hx
   exact⟨z,_,h,hz,bx fun w'=>by simp[Builtin.len_,run_underlying (hO.un hu),he,goInt]⟩
  ·exact⟨_,_,h,Is.lit,bx fun w'=>by simp[Builtin.len_,run_underlying (hO.un hu),goInt]⟩
  ·split at h
   ·simp only[PV.Is] at hx
    obtain⟨he,_⟩:=hx
    exact⟨_,_,h,Is.lit,bx fun w'=>by simp[Builtin.len_,run_underlying (hO.un hu),he,goInt]⟩
   ·exact h.elim
  ·exact h.elim
 ·
  rename_i ox oy ts
  replace h:=aO.bL hR h
  obtain⟨x,h,hx⟩:=h
  replace h:=aO.bL hR h
  obtain⟨y,h,hy⟩:=h
  have key:∀ {k k':IntKind} {m n:Int},a.eval ox = .int k m->a.eval oy = .int k' n->∀ w',(execOp a.eval ⟨dst,.call { callee:=.builtin .min,args:=⟨[ox,oy]⟩,argTypes:=ts },ty,pos,after,guard⟩).run G.cx.P w' = .ok (.value (.int k (min m n))) w':=fun h1 h2 w'=>by
   rename_i m n
   simp[execOp,resolve,invoke,builtin,Builtin.min_,h1,h2,Builtin.min2]
   by_cases bG:n < m<;>simp[bG]<;>omega
  unfold oQ at h
  split at h<;>first|exact h.elim|(simp only[PV.Is] at hx hy)
  ·exact⟨_,_,h,Is.lit,key hx hy⟩
  ·exact⟨_,_,h,Is.int,key hx hy⟩
  ·exact⟨_,_,h,Is.int,key hx hy⟩
  ·exact⟨_,_,h,Is.int,key hx hy⟩
 ·
  rename_i ox oy ts
  replace h:=aO.bL hR h
  obtain⟨x,h,hx⟩:=h
  replace h:=aO.bL hR h
  obtain⟨y,h,hy⟩:=h
  have key:∀ {k k':IntKind} {m n:Int},a.eval ox = .int k m->a.eval oy = .int k' n->∀ w',(execOp a.eval ⟨dst,.call { callee:=.builtin .max,args:=⟨[ox,oy]⟩,argTypes:=ts },ty,pos,after,guard⟩).run G.cx.P w' = .ok (.value (.int k (max m n))) w':=fun h1 h2 w'=>by
   rename_i m n
   simp[execOp,resolve,invoke,builtin,Builtin.max_,h1,h2,Builtin.max2]
   by_cases bG:m < n<;>simp[bG]<;>omega
  unfold oQ at h
  split at h<;>first|exact h.elim|(simp only[PV.Is] at hx hy)
  ·exact⟨_,_,h,Is.lit,key hx hy⟩
  ·exact⟨_,_,h,Is.int,key hx hy⟩
  ·exact⟨_,_,h,Is.int,key hx hy⟩
  ·exact⟨_,_,h,Is.int,key hx hy⟩
 ·exact h.elim
end
end Go.Proofs.YtnbhdacpogplgaaGreatDoor.Pw

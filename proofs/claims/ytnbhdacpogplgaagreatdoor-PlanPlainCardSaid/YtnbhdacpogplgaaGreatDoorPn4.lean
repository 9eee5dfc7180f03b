/- What this claim is proved with: no condition. -/
import Derived.Test.YtnbhdacpogplgaaGreatDoorPn3
import Derived.ChangeKeysEq
set_option linter.unusedVariables false
set_option linter.unusedSimpArgs false
namespace Go.Proofs.YtnbhdacpogplgaaGreatDoor.Pw
open Go Go.RowKit
theorem an {α:Type} {o:Option α} {k:α->Prop} (h:aP o k):∃ x,o=some x/\k x:=by
 cases o with
 | none=>exact h.elim
 | some x=>exact⟨x,rfl,h⟩
theorem aK {b:Bool} {p:Prop} (h:bif b then p else False):b=true/\p:=by
 cases b with
 | true=>exact⟨rfl,h⟩
 | false=>exact h.elim
theorem B4 {b:Bool} {p:Prop} (h:bif b then False else p):b=false/\p:=by
 cases b with
 | true=>exact h.elim
 | false=>exact⟨rfl,h⟩
theorem Fs {x:PV} {q:PV->Prop} (h:PW x q):q x:=by cases x<;>exact h
theorem bz:∀ {cs:List PV} {q:List PV->Prop},cL cs q->q cs
 | [],_,h=>h
 | c::cs,q,h=>by
  have:=bz (Fs h)
  exact this
theorem tp {x:PV} {q:PV->Prop} (h:Pf x q):q x:=by
 cases x<;>first|exact h|exact bz h
theorem oA:∀ {cs:List PV} {q:List PV->Prop},tj cs q->q cs
 | [],_,h=>h
 | c::cs,q,h=>by
  have:=oA (tp h)
  exact this
theorem yL {x:PV} {q:PV->Prop} (h:fc x q):q x:=by
 cases x<;>first|exact h|exact bz h|exact oA h
section
variable {w:World} {I:Nat->Prop} {β:au} {cx:Ev.Cx} {G:Gx} {P:Program}
theorem Is.int {k:IntKind} {n:Int}:(PV.int k n).Is w I β (.int k n):=by simp only[PV.Is]
theorem Is.lit {k:IntKind} {n:Int}:(PV.lit k n).Is w I β (.int k n):=by simp only[PV.Is]
theorem Is.tt:PV.tt.Is w I β (.bool true):=by simp only[PV.Is]
theorem Is.ff:PV.ff.Is w I β (.bool false):=by simp only[PV.Is]
theorem Is.bool {p:Prop}:(PV.bool p).Is w I β (.bool (pb p)):=by simp only[PV.Is]
theorem oB {v:Value} {q:PV->Prop} (h:eL v q):∃ x,q x/\x.Is w I β v/\x.gP=true:=by
 unfold eL at h
 split at h
 ·exact⟨_,h,by simp only[PV.Is],rfl⟩
 ·exact⟨_,h,by simp only[PV.Is],rfl⟩
 ·exact⟨_,h,by simp only[PV.Is],rfl⟩
 ·exact⟨_,h,by simp only[PV.Is],rfl⟩
 ·exact⟨_,h,by simp only[PV.Is]; exact⟨#[],rfl,by simp only[aU]⟩,rfl⟩
 ·obtain⟨hf,h⟩:=aK h
  exact⟨_,h,by simp only[PV.Is]; exact⟨trivial,hf⟩,rfl⟩
theorem oC:∀ {vs:List Value} {q:List PV->Prop},tk eL vs q->∃ xs,q xs/\aU w I xs β vs
 | [],q,h=>⟨[],h,by simp only[aU]⟩
 | v::vs,q,h=>by
  obtain⟨x,h,hx,_⟩:=oB (w:=w) (I:=I) (β:=β) h
  obtain⟨xs,h,kx⟩:=oC h
  exact⟨x::xs,h,by simp only[aU]; exact⟨hx,kx⟩⟩
theorem qK {v:Value} {q:PV->Prop} (h:k9 v q):∃ x,q x/\x.Is w I β v/\∀ vs,x≠.tup vs:=by
 unfold k9 at h
 split at h
 ·rename_i cs
  obtain⟨xs,h,kx⟩:=oC (w:=w) (I:=I) (β:=β) h
  exact⟨_,h,by simp only[PV.Is]; exact⟨⟨cs⟩,rfl,kx⟩,fun _ e=>by cases e⟩
 ·obtain⟨x,h,hx,h1⟩:=oB (w:=w) (I:=I) (β:=β) h
  exact⟨x,h,hx,fun vs e=>by subst e; cases h1⟩
theorem PV.jl {x:PV} {b:Bool} {k:IntKind} {n:Int} {v:Value} (h:x.num=some (b,k,n)) (hx:x.Is w I β v):v = .int k n:=by
 cases x<;>simp only[PV.num] at h<;>cases h<;>simpa only [PV.Is] using hx
theorem PV.u4 {x:PV} {p:Prop} {v:Value} (h:x.bl=some p) (hx:x.Is w I β v):v = .bool (pb p):=by
 cases x<;>simp only[PV.bl] at h<;>cases h<;>simp only[PV.Is] at hx
 ·rw[hx,bo trivial]
 ·rw[hx,bg id]
 ·exact hx
theorem lW {k:IntKind} {z:Int} {q:PV->Prop} (h:qJ k z q):∃ x,q x/\x.Is w I β (.int k (k.wrap z)):=by
 rcases h with ⟨⟨h1,h2⟩,h⟩|h
 ·exact⟨_,h,by rw[Ev.uS k z h1 h2]; exact Is.int⟩
 ·exact⟨_,h,Is.int⟩
theorem yM {b:Bool} {q:PV->Prop} (h:tf b q):∃ x,q x/\x.Is w I β (.bool b):=by
 cases b with
 | true=>exact⟨_,h,Is.tt⟩
 | false=>exact⟨_,h,Is.ff⟩
theorem LY {p:Prop} [Decidable p] {q:PV->Prop} (h:q (.bool p)):∃ x,q x/\x.Is w I β (.bool (decide p)):=⟨_,h,by rw[← yz]; exact Is.bool⟩
theorem qL {op:BinOp} {t:TypeId} {k:IntKind} {a b:Int} (w:World) :
  (binOp .eql t (.int k a) (.int k b)).run P w = .ok (.bool (decide (a=b))) w/\(binOp .neq t (.int k a) (.int k b)).run P w = .ok (.bool (!decide (a=b))) w/\(binOp .lss t (.int k a) (.int k b)).run P w = .ok (.bool (decide (a < b))) w /\
  (binOp .leq t (.int k a) (.int k b)).run P w = .ok (.bool (decide (a<=b))) w/\(binOp .gtr t (.int k a) (.int k b)).run P w = .ok (.bool (decide (b < a))) w/\(binOp .geq t (.int k a) (.int k b)).run P w = .ok (.bool (decide (b<=a))) w:=by
 refine⟨by simp only[binOp_eql]; rfl,?_,by simp only[binOp_lss]; rfl,by simp only[binOp_leq]; rfl,by simp only[binOp_gtr]; rfl,by simp only[binOp_geq]; rfl⟩
 simp only[binOp_neq]
 show Result.ok (Value.bool (a != b)) w=_
 congr 2
theorem pE {op:BinOp} {t:TypeId} {k:IntKind} {a b:Int} {q:PV->Prop} (h:Fj op k a b q):∃ x v,q x/\x.Is w I β v/\∀ w,(binOp op t (.int k a) (.int k b)).run P w = .ok v w:=by
 have cmp:=fun w=>qL (P:=P) (op:=op) (t:=t) (k:=k) (a:=a) (b:=b) w
 have out:∀ {z},qJ k z q->(∀ w,(binOp op t (.int k a) (.int k b)).run P w = .ok (.int k (k.wrap z)) w)->∃ x v,q x/\x.Is w I β v/\∀ w,(binOp op t (.int k a) (.int k b)).run P w = .ok v w:=fun h hr=>by
  obtain⟨x,h,hx⟩:=lW (w:=w) (I:=I) (β:=β) h
  exact⟨x,_,h,hx,hr⟩
 have bl:∀ {p:Prop} [Decidable p],q (.bool p)->(∀ w,(binOp op t (.int k a) (.int k b)).run P w = .ok (.bool (decide p)) w)->∃ x v,q x/\x.Is w I β v/\∀ w,(binOp op t (.int k a) (.int k b)).run P w = .ok v w:=fun h hr=>by
  obtain⟨x,h,hx⟩:=LY (w:=w) (I:=I) (β:=β) h
  exact⟨x,_,h,hx,hr⟩
 cases op<;>simp only[Fj] at h
 case add=>exact out h fun w=>by rw[binOp_add]; rfl
 case sub=>exact out h fun w=>by rw[binOp_sub]; rfl
 case mul=>exact out h fun w=>by rw[binOp_mul]; rfl
 case quo =>
  obtain⟨h0,h⟩:=h
  have hr:∀ w,(binOp .quo t (.int k a) (.int k b)).run P w = .ok (.int k (k.wrap (a.tdiv b))) w:=fun w=>by rw[binOp_quo]; simp[Op.intDiv,h0]
  rcases h with ⟨ha,hk,hb,h⟩|h
  ·refine⟨_,_,h,?_,hr⟩
   have e:a.tdiv b=a / b:=Int.tdiv_eq_ediv_of_nonneg ha
   have h1:0<=a / b:=Int.ediv_nonneg ha (by omega)
   have h2:a / b<=a:=Int.ediv_le_self b ha
   rw[e,Ev.uS k _ (by (have:Ev.gN k<=0:=by cases k<;>simp[Ev.gN,IntKind.signed,IntKind.bits]); omega) (by omega)]
   exact Is.int
  ·exact⟨_,_,h,Is.int,hr⟩
 case rem =>
  obtain⟨h0,h⟩:=h
  have hr:∀ w,(binOp .rem t (.int k a) (.int k b)).run P w = .ok (.int k (a.tmod b)) w:=fun w=>by rw[binOp_rem]; simp[Op.intDiv,h0]
  rcases h with ⟨ha,hb,h⟩|h
  ·refine⟨_,_,h,?_,hr⟩
   rw[Int.tmod_eq_emod_of_nonneg ha]
   exact Is.int
  ·exact⟨_,_,h,Is.int,hr⟩
 case and=>exact⟨_,_,h,Is.int,fun w=>by rw[binOp_and,intBits_and]; rfl⟩
 case or=>exact⟨_,_,h,Is.int,fun w=>by rw[binOp_or,intBits_or]; rfl⟩
 case xor=>exact⟨_,_,h,Is.int,fun w=>by rw[binOp_xor,intBits_xor]; rfl⟩
 case andNot=>exact⟨_,_,h,Is.int,fun w=>by rw[binOp_andNot,intBits_andNot]; rfl⟩
 case eql=>exact bl h fun w=>(cmp w).1
 case neq=>exact bl h fun w=>by rw[(cmp w).2.1]; congr 2; by_cases hh:a=b<;>simp[hh]
 case lss=>exact bl h fun w=>(cmp w).2.2.1
 case leq=>exact bl h fun w=>(cmp w).2.2.2.1
 case gtr=>exact bl h fun w=>(cmp w).2.2.2.2.1
 case geq=>exact bl h fun w=>(cmp w).2.2.2.2.2
theorem B5 {op:BinOp} {t:TypeId} {k:IntKind} {a b:Int} {q:PV->Prop} (h:Fk op k a b q):∃ x v,q x/\x.Is w I β v/\∀ w,(binOp op t (.int k a) (.int k b)).run P w = .ok v w:=by
 have cmp:=fun w=>qL (P:=P) (op:=op) (t:=t) (k:=k) (a:=a) (b:=b) w
 have bl:∀ {b':Bool},tf b' q->(∀ w,(binOp op t (.int k a) (.int k b)).run P w = .ok (.bool b') w)->∃ x v,q x/\x.Is w I β v/\∀ w,(binOp op t (.int k a) (.int k b)).run P w = .ok v w:=fun h hr=>by
  obtain⟨x,h,hx⟩:=yM (w:=w) (I:=I) (β:=β) h
  exact⟨x,_,h,hx,hr⟩
 cases op<;>simp only[Fk] at h
 case add=>exact⟨_,_,h,Is.lit,fun w=>by rw[binOp_add]; rfl⟩
 case sub=>exact⟨_,_,h,Is.lit,fun w=>by rw[binOp_sub]; rfl⟩
 case mul=>exact⟨_,_,h,Is.lit,fun w=>by rw[binOp_mul]; rfl⟩
 case quo =>
  cases h0:decide (b=0)<;>rw[h0] at h
  ·exact⟨_,_,h,Is.lit,fun w=>by rw[binOp_quo]; simp[Op.intDiv,of_decide_eq_false h0]⟩
  ·exact h.elim
 case rem =>
  cases h0:decide (b=0)<;>rw[h0] at h
  ·exact⟨_,_,h,Is.lit,fun w=>by rw[binOp_rem]; simp[Op.intDiv,of_decide_eq_false h0]⟩
  ·exact h.elim
 case and=>exact⟨_,_,h,Is.lit,fun w=>by rw[binOp_and,intBits_and]; rfl⟩
 case or=>exact⟨_,_,h,Is.lit,fun w=>by rw[binOp_or,intBits_or]; rfl⟩
 case xor=>exact⟨_,_,h,Is.lit,fun w=>by rw[binOp_xor,intBits_xor]; rfl⟩
 case andNot=>exact⟨_,_,h,Is.lit,fun w=>by rw[binOp_andNot,intBits_andNot]; rfl⟩
 case eql=>exact bl h fun w=>(cmp w).1
 case neq=>exact bl h fun w=>(cmp w).2.1
 case lss=>exact bl h fun w=>(cmp w).2.2.1
 case leq=>exact bl h fun w=>(cmp w).2.2.2.1
 case gtr=>exact bl h fun w=>(cmp w).2.2.2.2.1
 case geq=>exact bl h fun w=>(cmp w).2.2.2.2.2
theorem qM {op:BinOp} {st:Bool} {t:TypeId} {k k':IntKind} {a b:Int} {q:PV->Prop} (h:shift op st k a b q):∃ x v,q x/\x.Is w I β v/\∀ w,(binOp op t (.int k a) (.int k' b)).run P w = .ok v w:=by
 have hl:0<=b->∀ w,(binOp .shl t (.int k a) (.int k' b)).run P w = .ok (.int k (k.wrap (a*Ev.aC k b))) w:=fun h0 w=>by
  rw[binOp_shl]
  simp only[Op.shift,if_neg (by omega:¬ b < 0),Ev.aC]
  simp
 have hr:0<=b->∀ w,(binOp .shr t (.int k a) (.int k' b)).run P w = .ok (.int k (a / Ev.aC k b)) w:=fun h0 w=>by
  rw[binOp_shr]
  simp only[Op.shift,if_neg (by omega:¬ b < 0),Ev.aC,Ev.fdiv_pow]
  rfl
 unfold shift at h
 split at h
 ·obtain⟨h0,h⟩:=aK h
  exact⟨_,_,h,Is.lit,hl (of_decide_eq_true h0)⟩
 ·obtain⟨h0,h⟩:=aK h
  exact⟨_,_,h,Is.lit,hr (of_decide_eq_true h0)⟩
 ·obtain⟨h0,h⟩:=h
  obtain⟨x,h,hx⟩:=lW (w:=w) (I:=I) (β:=β) h
  exact⟨x,_,h,hx,hl h0⟩
 ·obtain⟨h0,h⟩:=h
  exact⟨_,_,h,Is.int,hr h0⟩
 ·exact h.elim
theorem B6 {op:BinOp} {sx sy:Bool} {t:TypeId} {k k':IntKind} {a b:Int} {q:PV->Prop} (h:Fl op sx sy k k' a b q):∃ x v,q x/\x.Is w I β v/\∀ w,(binOp op t (.int k a) (.int k' b)).run P w = .ok v w:=by
 unfold Fl at h
 split at h
 ·exact qM h
 ·exact qM h
 ·obtain⟨hk,h'⟩:=aK h
  have bH:=of_decide_eq_true hk
  subst bH
  clear h hk
  cases sx<;>cases sy
  ·exact pE h'
  ·exact pE h'
  ·exact pE h'
  ·exact B5 h'
theorem tq {op:BinOp} {t:TypeId} {p:Prop} {q:PV->Prop} {u v:Value} (h:LW op p q) (he:op = .eql->∀ w,(binOp .eql t u v).run P w = .ok (.bool (pb p)) w) (hn:op = .neq->∀ w,(binOp .neq t u v).run P w = .ok (.bool (!pb p)) w) :
  ∃ x r,q x/\x.Is w I β r/\∀ w,(binOp op t u v).run P w = .ok r w:=by
 cases op<;>simp only[LW] at h
 case eql=>exact⟨_,_,h,Is.bool,he rfl⟩
 case neq =>
  refine⟨_,_,h,Is.bool,fun w=>?_⟩
  rw[hn rfl w]
  congr 2
  by_cases hp:p
  ·rw[bo hp,bg (fun h=>h hp)]; rfl
  ·rw[bg hp,bo hp]; rfl
theorem pF {op:BinOp} {t:TypeId} {b:Bool} {q:PV->Prop} {u v:Value} (h:tl op b q) (he:op = .eql->∀ w,(binOp .eql t u v).run P w = .ok (.bool b) w) (hn:op = .neq->∀ w,(binOp .neq t u v).run P w = .ok (.bool (!b)) w) :
  ∃ x r,q x/\x.Is w I β r/\∀ w,(binOp op t u v).run P w = .ok r w:=by
 cases op<;>simp only[tl] at h
 case eql =>
  obtain⟨x,h,hx⟩:=yM (w:=w) (I:=I) (β:=β) h
  exact⟨x,_,h,hx,he rfl⟩
 case neq =>
  obtain⟨x,h,hx⟩:=yM (w:=w) (I:=I) (β:=β) h
  exact⟨x,_,h,hx,hn rfl⟩
theorem gR (hO:Ev.dw cx) {t:TypeId} {cs:List PV} {off:Nat} {x:PV} {vs:Array Value} (h:la cx t cs off=some x) (hc:aU w I cs β vs.toList) :
  ∃ v,x.Is w I β v/\∀ w',(Go.part t vs off).run cx.P w' = .ok v w':=by
 unfold la at h
 split at h
 ·rename_i n ha hn
  split at h
  ·cases h
   refine⟨.agg (vs.extract off (off+n)),?_,fun w'=>?_⟩
   ·simp only[PV.Is]
    refine⟨_,rfl,?_⟩
    have:=(hc.drop off).take n
    rw[show (vs.extract off (off+n)).toList=(vs.toList.drop off).take n by simp]
    exact this
   ·simp[Go.part,Ev.eE hO ha,Ev.cn hO hn]
  ·cases h
 ·rename_i ha
  obtain⟨v,hv,hi⟩:=hc.get h
  refine⟨v,hi,fun w'=>?_⟩
  have Ui:vs[off]?=some v:=by simpa using hv
  simp[Go.part,Ev.eE hO ha,Ui]
 ·cases h
end
section
variable {w:World} {I:Nat->Prop} {β:au} {cx:Ev.Cx} {G:Gx} {P:Program} {s:aL} {a:Act}
theorem u5 (hO:Ev.dw cx) {t:TypeId} {cs:List PV} {off:Nat} {q:PV->Prop} {vs:Array Value} (h:part cx t cs off q) (hc:aU w I cs β vs.toList) :
  ∃ x v,q x/\x.Is w I β v/\∀ w',(Go.part t vs off).run cx.P w' = .ok v w':=by
 replace h:=an h
 obtain⟨x,hx,h⟩:=h
 obtain⟨v,h1,h2⟩:=gR hO hx hc
 exact⟨x,v,tp h,h1,h2⟩
theorem yN {p q:Prop}:pb (p/\q)=(pb p && pb q):=by
 by_cases hp:p<;>by_cases hq:q
 ·rw[bo ⟨hp,hq⟩,bo hp,bo hq]; rfl
 ·rw[bg fun h=>hq h.2,bo hp,bg hq]; rfl
 ·rw[bg fun h=>hp h.1,bg hp]; rfl
 ·rw[bg fun h=>hp h.1,bg hp]; rfl
theorem pG {p q:Prop}:pb (p↔q)=(pb p == pb q):=by
 by_cases hp:p<;>by_cases hq:q
 ·rw[bo ⟨fun _=>hq,fun _=>hp⟩,bo hp,bo hq]; rfl
 ·rw[bg fun h=>hq (h.1 hp),bo hp,bg hq]; rfl
 ·rw[bg fun h=>hp (h.2 hq),bg hp,bo hq]; rfl
 ·rw[bo ⟨fun h=>absurd h hp,fun h=>absurd h hq⟩,bg hp,bg hq]; rfl
theorem u6 (hO:Ev.dw cx) {r:TypeId->PV->PV->Option Prop} {d:Nat} {xs ys:List PV} {us vs:Array Value} (hx:aU w I xs β us.toList) (hy:aU w I ys β vs.toList)
  (hr:∀ t a b p u v,r t a b=some p->a.Is w I β u->b.Is w I β v->∀ w',(Op.equalIn d t u v).run cx.P w' = .ok (pb p) w') :
  ∀ {fs:List Field} {p:Prop},(fs.all fun f=>decide (f.name≠"_"))=true->qD r cx xs ys fs=some p->∀ w',(Op.eqFields d us vs fs).run cx.P w' = .ok (pb p) w'
 | [],p,_,h,w'=>by
  simp only[qD,Option.some.injEq] at h
  subst h
  rw[bo trivial]; rfl
 | f::fs,p,hn,h,w'=>by
  rw[List.all_cons,Bool.and_eq_true] at hn
  unfold qD at h
  split at h
  ·rename_i a b ha hb
   split at h
   ·rename_i e1 e2 h1 h2
    cases h
    obtain⟨u,hu,ru⟩:=gR hO ha hx
    obtain⟨v,hv,rv⟩:=gR hO hb hy
    have PZ:=hr _ _ _ _ _ _ h1 hu hv
    have P0:=u6 hO hx hy hr hn.2 h2
    have bR:f.name≠"_":=by simpa using hn.1
    simp only[Op.eqFields,if_pos bR,Sem.run_bind,ru,rv,PZ,Result.andThen_ok,Sem.run_ite,P0,Sem.run_pure,yN]
    cases pb e1<;>simp
   ·cases h
  ·cases h
theorem mo (hO:Ev.dw cx) {r:TypeId->PV->PV->Option Prop} {d c:Nat} {e:TypeId} {xs ys:List PV} {us vs:Array Value} (hx:aU w I xs β us.toList) (hy:aU w I ys β vs.toList)
  (hr:∀ t a b p u v,r t a b=some p->a.Is w I β u->b.Is w I β v->∀ w',(Op.equalIn d t u v).run cx.P w' = .ok (pb p) w') :
  ∀ (k i:Nat) {p:Prop},jH r cx e c xs ys k (i*c)=some p->∀ w',(Op.eqItems d e c us vs (List.range' i k)).run cx.P w' = .ok (pb p) w'
 | 0,i,p,h,w'=>by
  simp only[jH,Option.some.injEq] at h
  subst h
  rw[bo trivial]; rfl
 | k+1,i,p,h,w'=>by
  unfold jH at h
  split at h
  ·rename_i a b ha hb
   split at h
   ·rename_i e1 e2 h1 h2
    cases h
    obtain⟨u,hu,ru⟩:=gR hO ha hx
    obtain⟨v,hv,rv⟩:=gR hO hb hy
    have PZ:=hr _ _ _ _ _ _ h1 hu hv
    have P0:=mo hO hx hy hr k (i+1) (by rw[Nat.succ_mul]; exact h2)
    simp only[List.range'_succ,Op.eqItems,Sem.run_bind,ru,rv,PZ,Result.andThen_ok,Sem.run_ite,P0,Sem.run_pure,yN]
    cases pb e1<;>simp
   ·cases h
  ·cases h
theorem pH (hO:Ev.dw cx):∀ (n d:Nat),n<=d->∀ (t:TypeId) (a b:PV) (p:Prop) (u v:Value),BD cx n t a b=some p->a.Is w I β u->b.Is w I β v ->
  ∀ w',(Op.equalIn d t u v).run cx.P w' = .ok (pb p) w'
 | 0,_,_,_,_,_,_,_,_,h,_,_=>by simp[BD] at h
 | n+1,0,hd,_,_,_,_,_,_,_,_,_=>by omega
 | n+1,d+1,hd,t,a,b,p,u,v,h,ha,hb=>by
  intro w'
  unfold BD at h
  split at h
  ·rename_i k hu
   split at h
   ·rename_i b1 k1 x b2 k2 y P1 LZ
    split at h
    ·rename_i hk
     simp only[decide_eq_true_eq] at hk
     subst hk
     cases h
     rw[PV.jl P1 ha,PV.jl LZ hb,run_equalIn_int w' d t k1 k x y (hO.un hu),yz]; rfl
    ·cases h
   ·cases h
  ·rename_i hu
   split at h
   ·rename_i p1 p2 P1 LZ
    cases h
    rw[PV.u4 P1 ha,PV.u4 LZ hb,run_equalIn_bool' w' d t _ _ (hO.un hu),pG]
   ·cases h
  ·rename_i fs hu
   split at h
   ·rename_i xs ys
    split at h
    ·rename_i hc
     simp only[PV.Is] at ha hb
     obtain⟨us,rfl,L0⟩:=ha
     obtain⟨vs,rfl,Lf⟩:=hb
     obtain⟨t',s7,L1⟩:=List.any_eq_true.1 hc
     have:t=t':=Nat.eq_of_beq_eq_true L1
     subst this
     obtain⟨_,L2,Ft⟩:=hO.eq _ s7
     have Fu:cx.P.fieldsOf t=fs:=by unfold Program.fieldsOf; rw[hO.un hu]
     rw[run_equalIn_struct w' d t us vs (by rw[Fu]; exact hO.un hu) L2,Fu]
     exact u6 (d:=d) hO L0 Lf (fun t a b e u v h ha hb=>pH hO n d (by omega) t a b e u v h ha hb) (by rw[← Fu]; exact Ft) h w'
    ·cases h
   ·cases h
  ·rename_i len elem hu
   split at h
   ·rename_i xs ys
    split at h
    ·rename_i c hc
     simp only[PV.Is] at ha hb
     obtain⟨us,rfl,L0⟩:=ha
     obtain⟨vs,rfl,Lf⟩:=hb
     obtain⟨i,hi,Uj⟩:=Ev.gO hO hc
     have iS:cx.P.cellsOf elem=c:=by unfold Program.cellsOf; rw[hi]; exact Uj
     rw[run_equalIn_array w' d us vs (hO.un hu) hi,iS,List.range_eq_range']
     exact mo (d:=d) hO L0 Lf (fun t a b e u v h ha hb=>pH hO n d (by omega) t a b e u v h ha hb) len 0 (by rw[Nat.zero_mul]; exact h) w'
    ·cases h
   ·cases h
  ·cases h
theorem dk {st:List aj} (hR:aB I β st w) {l:Nat} {b:aj} {p:k_} (hb:st[l]?=some b) (hl:b.live=true) (hk:b.k = .arr) (hp:β l=some p):∃ g arr fr,p.a=some (g,0)/\p.whole = .slice (some ⟨g,0,none⟩) p.len p.cap/\w.heap[g]?=some (.cells arr b.ty fr)/\aO w I β b.cs arr 0/\Own I β st l g fr b/\b.cs.length=p.len*b.size/\p.len<=p.cap/\p.cap<=maxLen/\arr.size=p.cap*b.size/\0 < b.size:=by
 obtain⟨q,hq,h⟩:=hR.dX l b hb hl
 rw[hp] at hq
 cases hq
 rw[hk] at h
 obtain⟨g,arr,fr,ha,h⟩:=h
 exact⟨g,arr,fr,ha,by unfold k_.whole; rw[ha],h⟩
theorem bT {st:List aj} (hR:aB I β st w) {l:Nat} {b:aj} {p:k_} (hb:st[l]?=some b) (hl:b.live=true) (hk:b.k = .dyn) (hp:β l=some p):0 < b.size/\b.cs.length=p.len/\p.len<=p.cap/\p.cap<=maxLen/\((p.a=none/\p.cap=0/\p.whole = .slice none 0 0)\/∃ g arr fr,p.a=some (g,0)/\p.whole = .slice (some ⟨g,0,none⟩) p.len p.cap/\w.heap[g]?=some (.cells arr b.ty fr)/\bp w I b.cs b.size g 0/\Own I β st l g fr b/\arr.size=p.cap*b.size):=by
 obtain⟨q,hq,h⟩:=hR.dX l b hb hl
 rw[hp] at hq
 cases hq
 rw[hk] at h
 obtain⟨⟨h1,h2,h3,h4⟩,h⟩:=h
 refine⟨h1,h2,h3,h4,?_⟩
 rcases h with ⟨ha,hc⟩|⟨g,arr,fr,ha,h⟩
 ·exact .inl ⟨ha,hc,by unfold k_.whole; rw[ha]⟩
 ·exact .inr ⟨g,arr,fr,ha,by unfold k_.whole; rw[ha],h⟩
theorem yO (hO:Ev.dw cx) (hR:aB I β s.st w) {op:BinOp} {t e:TypeId} {x:PV} {u:Value} {q:PV->Prop} (hu:cx.jd t=some (.slice e)) (h:yC s.st op x q) (hx:x.Is w I β u) :
  ∃ y v,q y/\y.Is w I β v/\(∀ f g:Operand,eqGuard op t f g u (.slice none 0 0)=pure ())/\∀ w',(binOp op t u (.slice none 0 0)).run cx.P w' = .ok v w':=by
 have gen:∀ {ad:Option Addr} {n c:Nat},u = .slice ad n c->tl op ad.isNone q->∃ y v,q y/\y.Is w I β v/\(∀ f g:Operand,eqGuard op t f g u (.slice none 0 0)=pure ())/\∀ w',(binOp op t u (.slice none 0 0)).run cx.P w' = .ok v w':=by
  intro ad n c tu h
  subst tu
  obtain⟨y,v,h1,h2,h3⟩:=pF (P:=cx.P) (t:=t) (u:=.slice ad n c) (v:=.slice none 0 0) (w:=w) (I:=I) (β:=β) h (fun _ w'=>by simp only[binOp]; simp[Op.equal,Op.maxDepth,Lib.run_equalIn_slice_nil w' 9999 t e ad n c 0 0 (hO.un hu)]) (fun _ w'=>run_neq_slice_nil_any w' t e _ _ _ _ _ (hO.un hu))
  exact⟨y,v,h1,h2,fun f g=>eqGuard_at_slice _ _ _ _ _ _ _ _,h3⟩
 unfold yC at h
 split at h
 ·simp only[PV.Is] at hx
  exact gen hx h
 ·simp only[PV.Is] at hx
  obtain⟨p,g,o,cap,_,_,rfl,_⟩:=hx
  exact gen rfl h
 ·rename_i l
  replace h:=an h
  obtain⟨b,hb,h⟩:=h
  replace h:=aK h
  obtain⟨hl,h⟩:=h
  simp only[PV.Is] at hx
  obtain⟨p,hp,rfl⟩:=hx
  split at h
  ·rename_i hk
   obtain⟨g,arr,fr,_,hw,_⟩:=dk hR hb hl hk hp
   exact gen hw h
  ·rename_i hk
   obtain⟨_,h1,h2,_,h3⟩:=bT hR hb hl hk hp
   rcases h with ⟨bR,h⟩|⟨ht,hf⟩
   ·rcases h3 with ⟨_,hc,_⟩|⟨g,arr,fr,_,hw,_⟩
    ·omega
    ·exact gen hw h
   ·rcases h3 with ⟨_,hc,hw⟩|⟨g,arr,fr,_,hw,_⟩
    ·exact gen hw ht
    ·exact gen hw hf
  ·exact h.elim
 ·rename_i es
  simp only[PV.Is] at hx
  obtain⟨ad,cap,rfl,_,_,_,h4⟩:=hx
  rcases h with ⟨bR,h⟩|⟨ht,hf⟩
  ·obtain⟨g,o,rfl,_⟩:=h4 bR
   exact gen rfl h
  ·cases ad with
   | none=>exact gen rfl ht
   | some a=>exact gen rfl hf
 ·exact h.elim
theorem B7 (hO:Ev.dw cx) (hR:aB I β s.st w) {op:BinOp} {t:TypeId} {x y:PV} {u v:Value} {q:PV->Prop} (h:Fm cx s.st op t x y q) (hx:x.Is w I β u) (hy:y.Is w I β v) :
  ∃ z r,q z/\z.Is w I β r/\(∀ (f g:Operand) (w':World),(eqGuard op t f g u v).run cx.P w' = .ok () w')/\∀ w',(binOp op t u v).run cx.P w' = .ok r w':=by
 have oD:∀ {u v:Value},(∀ f g:Operand,eqGuard op t f g u v=pure ())->∀ (f g:Operand) (w':World),(eqGuard op t f g u v).run cx.P w' = .ok () w':=fun h f g w'=>by rw[h]; rfl
 unfold Fm at h
 split at h
 ·rename_i sx k a Sx
  replace h:=an h
  obtain⟨⟨sy,k',b⟩,Uk,h⟩:=h
  rw[PV.jl Sx hx,PV.jl Uk hy]
  obtain⟨z,r,h1,h2,h3⟩:=B6 (P:=cx.P) (t:=t) (w:=w) (I:=I) (β:=β) h
  exact⟨z,r,h1,h2,oD fun f g=>eqGuard_at_int _ _ _ _ _ _ _,h3⟩
 ·replace h:=an h
  obtain⟨d,hu,h⟩:=h
  split at h
  ·replace h:=an h
   obtain⟨p,hp,h⟩:=h
   replace h:=an h
   obtain⟨p',cE,h⟩:=h
   rw[PV.u4 hp hx,PV.u4 cE hy]
   obtain⟨z,r,h1,h2,h3⟩:=tq (P:=cx.P) (t:=t) (u:=.bool (pb p)) (v:=.bool (pb p')) (w:=w) (I:=I) (β:=β) h
    (fun _ w'=>by rw[Ev.BY rfl (run_equal_bool w' t _ _ (hO.un hu)),pG]) (fun _ w'=>by rw[Ev.BZ rfl (run_equal_bool w' t _ _ (hO.un hu)),pG])
   exact⟨z,r,h1,h2,oD fun f g=>eqGuard_at_bool _ _ _ _ _ _,h3⟩
  ·split at h
   ·simp only[PV.Is] at hx hy
    obtain⟨rfl,_⟩:=hx
    obtain⟨rfl,_⟩:=hy
    obtain⟨z,r,h1,h2,h3⟩:=pF (P:=cx.P) (t:=t) (u:=.string _) (v:=.string _) (w:=w) (I:=I) (β:=β) h (fun _ w'=>rfl) (fun _ w'=>rfl)
    exact⟨z,r,h1,h2,oD fun f g=>eqGuard_at_string _ _ _ _ _ _,h3⟩
   ·exact h.elim
  ·split at h
   ·simp only[PV.Is] at hy
    subst hy
    obtain⟨z,r,h1,h2,h3,h4⟩:=yO hO hR hu h hx
    exact⟨z,r,h1,h2,oD h3,h4⟩
   ·exact h.elim
  ·rename_i e
   have Pg:cx.P.underlying t=some (.pointer (cx.P.pointee t)):=by have:=hO.un hu; rw[this]; simp[Program.pointee,this]
   split at h
   ·simp only[PV.Is] at hx hy
    obtain⟨rfl,_⟩:=hx
    obtain⟨rfl,_⟩:=hy
    obtain⟨z,r,h1,h2,h3⟩:=pF (P:=cx.P) (t:=t) (u:=.pointer none) (v:=.pointer none) (w:=w) (I:=I) (β:=β) h (fun _ w'=>by rw[run_eql_pointer_nil w' t _ Pg]; rfl) (fun _ w'=>by rw[run_neq_pointer_nil w' t _ Pg]; rfl)
    exact⟨z,r,h1,h2,oD fun f g=>eqGuard_at_pointer _ _ _ _ _ _,h3⟩
   ·simp only[PV.Is] at hx hy
    obtain⟨rfl,_⟩:=hy
    obtain⟨p,g,o,_,_,rfl⟩:=hx
    obtain⟨z,r,h1,h2,h3⟩:=pF (P:=cx.P) (t:=t) (u:=.pointer (some ⟨g,o+_,none⟩)) (v:=.pointer none) (w:=w) (I:=I) (β:=β) h (fun _ w'=>by rw[run_eql_pointer_nil w' t _ Pg]; rfl) (fun _ w'=>by rw[run_neq_pointer_nil w' t _ Pg]; rfl)
    exact⟨z,r,h1,h2,oD fun f g=>eqGuard_at_pointer _ _ _ _ _ _,h3⟩
   ·exact h.elim
  ·split at h
   ·rename_i xs ys
    replace h:=aK h
    obtain⟨hc,h⟩:=h
    replace h:=an h
    obtain⟨p,hp,h⟩:=h
    obtain⟨t',s7,L1⟩:=List.any_eq_true.1 hc
    have:t=t':=Nat.eq_of_beq_eq_true L1
    subst this
    obtain⟨tv,_,_⟩:=hO.eq _ s7
    have he:=pH hO 6 10000 (by decide) t _ _ _ u v hp hx hy
    simp only[PV.Is] at hx hy
    obtain⟨us,rfl,_⟩:=hx
    obtain⟨vs,rfl,_⟩:=hy
    obtain⟨z,r,h1,h2,h3⟩:=tq (P:=cx.P) (t:=t) (u:=.agg us) (v:=.agg vs) (w:=w) (I:=I) (β:=β) h (fun _ w'=>by rw[run_eql_struct,he]; rfl) (fun _ w'=>by rw[run_neq_struct,he]; rfl)
    exact⟨z,r,h1,h2,fun f g w'=>run_eqGuard_agg w' op t f g us vs tv,h3⟩
   ·exact h.elim
  ·split at h
   ·rename_i xs ys
    replace h:=aK h
    obtain⟨hc,h⟩:=h
    replace h:=an h
    obtain⟨p,hp,h⟩:=h
    obtain⟨t',s7,L1⟩:=List.any_eq_true.1 hc
    have:t=t':=Nat.eq_of_beq_eq_true L1
    subst this
    obtain⟨tv,_,_⟩:=hO.eq _ s7
    have he:=pH hO 6 10000 (by decide) t _ _ _ u v hp hx hy
    simp only[PV.Is] at hx hy
    obtain⟨us,rfl,_⟩:=hx
    obtain⟨vs,rfl,_⟩:=hy
    obtain⟨z,r,h1,h2,h3⟩:=tq (P:=cx.P) (t:=t) (u:=.agg us) (v:=.agg vs) (w:=w) (I:=I) (β:=β) h (fun _ w'=>by rw[run_eql_struct,he]; rfl) (fun _ w'=>by rw[run_neq_struct,he]; rfl)
    exact⟨z,r,h1,h2,fun f g w'=>run_eqGuard_agg w' op t f g us vs tv,h3⟩
   ·exact h.elim
  ·exact h.elim
theorem Fv {op:UnOp} {x:PV} {u:Value} {q:PV->Prop} (h:PX op x q) (hx:x.Is w I β u):∃ z r,q z/\z.Is w I β r/\∀ w',(Op.unary op u).run P w' = .ok r w':=by
 unfold PX at h
 split at h<;>try simp only[PV.Is] at hx
 ·subst hx
  refine⟨_,_,h,Is.lit,fun w'=>?_⟩
  rename_i k a
  rw[show -a=0 - a by omega]; rfl
 ·subst hx
  obtain⟨z,h,hz⟩:=lW (w:=w) (I:=I) (β:=β) h
  refine⟨z,_,h,hz,fun w'=>?_⟩
  rename_i k a _
  rw[show -a=0 - a by omega]; rfl
 ·subst hx; exact⟨_,_,h,Is.lit,fun w'=>rfl⟩
 ·subst hx; exact⟨_,_,h,Is.int,fun w'=>rfl⟩
 ·subst hx; exact⟨_,_,h,Is.ff,fun w'=>rfl⟩
 ·subst hx; exact⟨_,_,h,Is.tt,fun w'=>rfl⟩
 ·subst hx
  rename_i p
  refine⟨_,_,h,Is.bool,fun w'=>?_⟩
  by_cases hp:p
  ·rw[bo hp,bg fun h=>h hp]; rfl
  ·rw[bg hp,bo hp]; rfl
 ·exact h.elim
theorem yP (hO:Ev.dw cx) {src dst:TypeId} {x:PV} {u:Value} {q:PV->Prop} (h:En cx src dst x q) (hx:x.Is w I β u):∃ z r,q z/\z.Is w I β r/\∀ w',(convert src dst u).run cx.P w' = .ok r w':=by
 replace h:=an h
 obtain⟨d1,hs,h⟩:=h
 replace h:=an h
 obtain⟨d2,hd,h⟩:=h
 split at h<;>try simp only[PV.Is] at hx
 ·subst hx
  exact⟨_,_,h,Is.lit,fun w'=>by simp[convert,run_underlying (hO.un hs),run_underlying (hO.un hd),Conv.intToInt]⟩
 ·subst hx
  obtain⟨z,h,hz⟩:=lW (w:=w) (I:=I) (β:=β) h
  exact⟨z,_,h,hz,fun w'=>by simp[convert,run_underlying (hO.un hs),run_underlying (hO.un hd),Conv.intToInt]⟩
 ·exact h.elim
theorem fK (hO:Ev.dw cx) {t:TypeId} {q:List PV->Prop} (h:ku cx t q):∃ z i v,q z/\cx.P.info? t=some i/\i.zero=some v/\aU w I z β v.cells.toList:=by
 replace h:=an h
 obtain⟨v,hv,h⟩:=h
 replace h:=qK (w:=w) (I:=I) (β:=β) h
 obtain⟨x,h,hx,hn⟩:=h
 rw[Option.bind_eq_some_iff] at hv
 obtain⟨ti,PQ,hz⟩:=hv
 obtain⟨i,hi,_,h2⟩:=hO.inf _ (Ev.gh PQ)
 exact⟨_,i,v,h,hi,h2.trans hz,hx.gQ hn⟩
theorem aL.bw (hR:Rel G I β s a w) {o:Operand} {q:PV->Prop} (h:s.ev o q):∃ x,q x/\x.Is w I β (a.eval o):=by
 cases o with
 | tmp t =>
  replace h:=an h
  obtain⟨x,hx,h⟩:=h
  obtain⟨v,hv,hi⟩:=hR.get t x hx
  exact⟨x,h,by simp only[Act.eval,Array.getD_eq_getD_getElem?,hv,Option.getD_some]; exact hi⟩
 | const v =>
  replace h:=qK (w:=w) (I:=I) (β:=β) h
  obtain⟨x,h,hx,_⟩:=h
  exact⟨x,h,hx⟩
 | global g=>exact⟨_,h,by simp only[PV.Is,Act.eval]⟩
 | func f=>exact⟨_,h,by simp only[PV.Is,Act.eval]; exact⟨#[],rfl,by simp only[aU]⟩⟩
def pI (w:World) (I:Nat->Prop) (β:au):List (Nat × PV)->List (Nat × Value)->Prop
 | [],[]=>True
 | p::ps,v::vs=>(p.1=v.1/\p.2.Is w I β v.2/\∀ ts,p.2≠.tup ts)/\pI w I β ps vs
 | _,_=>False
theorem ky (hR:Rel G I β s a w):∀ {ps:List (Nat × Operand)} {q:List (Nat × PV)->Prop},mj s ps q->∃ l,q l/\pI w I β l (ps.map fun p=>(p.1,a.eval p.2))
 | [],q,h=>⟨[],h,trivial⟩
 | (i,o)::ps,q,h=>by
  replace h:=aL.bw hR h
  obtain⟨x,h,hx⟩:=h
  have key:(∀ ts,x≠.tup ts)/\mj s ps fun l=>q ((i,x)::l):=by
   cases x<;>first|exact h.elim|exact⟨(fun _ e=>by cases e),h⟩
  obtain⟨l,h,hl⟩:=ky hR key.2
  exact⟨_,h,⟨rfl,hx,key.1⟩,hl⟩
theorem jK {place:Nat->Option (Nat × Nat)} {q:List PV->Prop}:∀ {ps:List (Nat × PV)} {cells:List PV},ov place cells ps q->∃ cs,ou place cells ps=some cs/\q cs
 | [],cells,h=>⟨cells,rfl,h⟩
 | (i,v)::rest,cells,h=>by
  unfold ov at h
  unfold ou
  split at h
  ·exact h.elim
  ·rename_i off size hp
   obtain⟨hc,h⟩:=aK h
   obtain⟨cs,h1,h2⟩:=jK (bz h)
   refine⟨cs,?_,h2⟩
   simp only[hc,if_true]
   exact h1
theorem jL {place:Nat->Option (Nat × Nat)}:∀ {ps:List (Nat × PV)} {vs:List (Nat × Value)} {cells r:List PV} {A:Array Value},ou place cells ps=some r->aU w I cells β A.toList->pI w I β ps vs ->
  ∃ B,Instr.fill place A vs=some B/\aU w I r β B.toList
 | [],[],cells,r,A,h,hc,_=>by simp only[ou,Option.some.injEq] at h; subst h; exact⟨A,rfl,hc⟩
 | (i,x)::ps,(j,v)::vs,cells,r,A,h,hc,Ph=>by
  obtain⟨⟨P2,hx,tw⟩,yQ⟩:=Ph
  simp only at P2 hx tw
  subst P2
  unfold ou at h
  cases mq:place i with
  | none=>rw[mq] at h; cases h
  | some os =>
   obtain⟨off,size⟩:=os
   rw[mq] at h
   simp only at h
   split at h
   ·rename_i yR
    simp only[Bool.and_eq_true] at yR
    have h1:x.cells.length=size:=Nat.eq_of_beq_eq_true yR.1
    have h2:off+size<=cells.length:=Nat.le_of_ble_eq_true yR.2
    have Er:=hx.gQ tw
    have hl:=Er.length
    have qv:=hc.length
    simp only[Array.length_toList] at hl qv
    unfold Instr.fill
    rw[mq]
    simp only
    rw[if_neg (by simp; omega)]
    have key:=Ev.oq off v.cells.toList 0 A (by simp; omega)
    have tx:(v.cells.zipIdx.foldl (fun (cs:Array Value) (x:Value × Nat)=>cs.setIfInBounds (off+x.2) x.1) A).toList=A.toList.take off++v.cells.toList++A.toList.drop (off+size):=by
     rw[← Array.foldl_toList,Array.toList_zipIdx]
     rw[key]; simp; congr 2; omega
    refine jL h ?_ yQ
    rw[tx]
    exact ((hc.take off).append Er).append (hc.drop (off+size))
   ·cases h
 | [],_::_,_,_,_,_,_,h=>h.elim
 | _::_,[],_,_,_,_,_,h=>h.elim
theorem wk (hO:Ev.dw cx) (hR:Rel G I β s a w) {t:TypeId} {parts:Array (Nat × Operand)} {q:PV->Prop} (h:yD cx s t parts.toList q) :
  ∃ x r,q x/\x.Is w I β r/\∀ w',(Instr.build t (parts.map fun (i,y)=>(i,a.eval y))).run cx.P w' = .ok r w':=by
 replace h:=fK (w:=w) (I:=I) (β:=β) hO h
 obtain⟨z,i,v,h,hi,BG,tz⟩:=h
 replace h:=ky hR h
 obtain⟨ps,h,Ph⟩:=h
 replace h:=an h
 obtain⟨d,hu,h⟩:=h
 split at h
 ·rename_i fs
  replace h:=an h
  obtain⟨pl,mq,h⟩:=h
  replace h:=jK h
  obtain⟨l,hl,h⟩:=h
  obtain⟨B,hB,L3⟩:=jL hl tz Ph
  refine⟨_,.agg B,bz h,by simp only[PV.Is]; exact⟨B,rfl,L3⟩,fun w'=>run_build w' t _ B ?_⟩
  unfold Program.built
  simp only[hi,hO.un hu,BG,Ev.ot hO mq]
  rw[← hB]; simp
 ·rename_i n elem
  replace h:=an h
  obtain⟨sz,dK,h⟩:=h
  replace h:=jK h
  obtain⟨l,hl,h⟩:=h
  obtain⟨B,hB,L3⟩:=jL hl tz Ph
  obtain⟨ie,Ul,P4⟩:=Ev.gO hO dK
  refine⟨_,.agg B,bz h,by simp only[PV.Is]; exact⟨B,rfl,L3⟩,fun w'=>run_build w' t _ B ?_⟩
  unfold Program.built
  simp only[hi,hO.un hu,BG,Ul,P4]
  rw[← hB]; simp
 ·exact h.elim
theorem nQ (hO:Ev.dw cx) {t:TypeId} {x:PV} {f:Nat} {u:Value} {q:PV->Prop} (h:ml cx t x f q) (hx:x.Is w I β u):∃ z r,q z/\z.Is w I β r/\∀ w',(Instr.fieldAt t u f).run cx.P w' = .ok r w':=by
 replace h:=an h
 obtain⟨d,hu,h⟩:=h
 split at h
 ·rename_i fs
  replace h:=an h
  obtain⟨fd,P5,h⟩:=h
  replace h:=an h
  obtain⟨n,hn,h⟩:=h
  replace h:=B4 h
  obtain⟨gC,h⟩:=h
  ·have Fw:n≠0:=fun e=>by subst e; cases gC
   have Fx:fs[f]?=some fd:=by simpa using P5
   have bm:∀ (b o:Nat) w',(Instr.fieldAt t (.pointer (some ⟨b,o,none⟩)) f).run cx.P w' = .ok (.pointer (some ⟨b,o+fd.offset,none⟩)) w':=fun b o w'=>by
    simp[Instr.fieldAt,run_underlying (hO.un hu),Fx,Instr.sureAddr,fieldPlace,Ev.cn hO hn,Fw,Ev.eM]
   split at h<;>try simp only[PV.Is] at hx
   ·obtain⟨p,g,o,hp,ha,rfl⟩:=hx
    exact⟨_,_,h,by simp only[PV.Is]; exact⟨p,g,o,hp,ha,rfl⟩,fun w'=>by rw[bm]; simp only[Nat.add_assoc]⟩
   ·obtain⟨p,g,o,hp,ha,rfl⟩:=hx
    exact⟨_,_,h,by simp only[PV.Is]; exact⟨p,g,o,hp,ha,rfl⟩,fun w'=>by rw[bm]; congr 4; omega⟩
   ·obtain⟨p,g,o,hp,ha,rfl⟩:=hx
    exact⟨_,_,h,by simp only[PV.Is]; exact⟨p,g,o,hp,ha,rfl⟩,fun w'=>by rw[bm]; congr 4; omega⟩
   ·obtain⟨g,o,rfl,hg,hc⟩:=hx
    exact⟨_,_,h,by simp only[PV.Is]; exact⟨g,o,rfl,hg,hc⟩,fun w'=>by rw[bm]; simp only[Nat.add_assoc]⟩
   ·subst hx
    exact⟨_,_,h,by simp only[PV.Is]; exact rfl,fun w'=>by rw[bm]⟩
   ·subst hx
    exact⟨_,_,h,by simp only[PV.Is]; exact rfl,fun w'=>by rw[bm]; congr 4; omega⟩
   ·exact h.elim
 ·exact h.elim
theorem dM {st:Bool} {i:Int} {len:Nat} {f:Nat->Prop} {g:Prop} (h:within st i len f g):0<=i/\i < len/\(f i.toNat\/g):=by
 cases st with
 | true =>
  replace h:=aK h
  obtain⟨hb,h⟩:=h
  simp only[Bool.and_eq_true,decide_eq_true_eq] at hb
  exact⟨hb.1,hb.2,.inl h⟩
 | false=>exact⟨h.1,h.2.1,.inr h.2.2⟩
theorem yS {es:List PV} {i:Int} {q:PV->Prop} (h:Eo es i q):∃ e,0<=i/\i < es.length/\es[i.toNat]?=some e/\q e:=by
 obtain⟨α,l,enc,rfl,h0,h1,h⟩:=h
 have bA:i.toNat < l.length:=by omega
 exact⟨_,h0,by simpa using h1,by rw[List.getElem?_map,List.getElem?_eq_getElem bA]; rfl,h _ (List.getElem?_eq_getElem bA)⟩
theorem nR (hO:Ev.dw cx) (hR:aB I β s.st w) {t:TypeId} {x i:PV} {u v:Value} {q:PV->Prop} (h:mn cx s.st t x i q) (hx:x.Is w I β u) (hi:i.Is w I β v) :
  ∃ z r,q z/\z.Is w I β r/\∀ w',(Instr.indexAt t u v).run cx.P w' = .ok r w':=by
 replace h:=an h
 obtain⟨⟨st,k,n⟩,hn,h⟩:=h
 obtain rfl:=PV.jl hn hi
 replace h:=an h
 obtain⟨d,hu,h⟩:=h
 try simp only at h
 split at h
 ·rename_i len elem
  replace h:=an h
  obtain⟨size,hs,h⟩:=h
  have bm:∀ (b o:Nat),0<=n->n < len->∀ w',(Instr.indexAt t (.pointer (some ⟨b,o,none⟩)) (.int k n)).run cx.P w' = .ok (.pointer (some ⟨b,o+n.toNat*size,none⟩)) w':=fun b o h0 h1 w'=>by
   simp[Instr.indexAt,Instr.sureAddr,asIntOf,run_underlying (hO.un hu),h0,h1,Ev.cn hO hs,Ev.eM]
  split at h<;>try simp only[PV.Is] at hx
  ·obtain⟨p,g,o,hp,ha,rfl⟩:=hx
   replace h:=dM h
   obtain⟨h0,h1,h|h⟩:=h
   ·exact⟨_,_,h,by simp only[PV.Is]; exact⟨p,g,o,hp,ha,rfl⟩,fun w'=>by rw[bm _ _ h0 h1]; simp only[Nat.add_assoc]⟩
   ·exact⟨_,_,h,by simp only[PV.Is]; exact⟨p,g,o,hp,ha,rfl⟩,fun w'=>by rw[bm _ _ h0 h1]; simp only[Nat.add_assoc]⟩
  ·subst hx
   replace h:=dM h
   obtain⟨h0,h1,h|h⟩:=h
   ·exact⟨_,_,h,by simp only[PV.Is]; exact rfl,fun w'=>by rw[bm _ _ h0 h1]⟩
   ·exact⟨_,_,h,by simp only[PV.Is]; exact rfl,fun w'=>by rw[bm _ _ h0 h1]⟩
  ·obtain⟨g,o,rfl,hg,hc⟩:=hx
   replace h:=dM h
   obtain⟨h0,h1,h|h⟩:=h
   ·exact⟨_,_,h,by simp only[PV.Is]; exact⟨g,o,rfl,hg,hc⟩,fun w'=>by rw[bm _ _ h0 h1]; simp only[Nat.add_assoc]⟩
   ·exact h.elim
  ·exact h.elim
 ·rename_i elem
  replace h:=an h
  obtain⟨size,hs,h⟩:=h
  have bm:∀ (b o len cap:Nat),0<=n->n < len->∀ w',(Instr.indexAt t (.slice (some ⟨b,o,none⟩) len cap) (.int k n)).run cx.P w' = .ok (.pointer (some ⟨b,o+n.toNat*size,none⟩)) w':=fun b o len cap h0 h1 w'=>by
   simp[Instr.indexAt,asIntOf,run_underlying (hO.un hu),h0,h1,Ev.cn hO hs,Ev.eM]
  split at h<;>try simp only[PV.Is] at hx
  ·rename_i m es
   replace h:=aK h
   obtain⟨hm,h⟩:=h
   have Um:m=size:=Nat.eq_of_beq_eq_true hm
   replace h:=yS h
   obtain⟨e,h0,h1,he,h⟩:=h
   obtain⟨ad,cap,rfl,_,_,h2,h3⟩:=hx
   obtain⟨g,o,rfl,hg,_⟩:=h3 (by omega)
   have B8:=(h2 g o rfl).get he
   exact⟨_,_,bz h,by simp only[PV.Is]; exact⟨g,o+n.toNat*m,rfl,hg,B8.2⟩,fun w'=>by rw[bm _ _ _ _ h0 h1,Um]; rfl⟩
  ·obtain⟨p,g,o,cap,hp,ha,rfl,_⟩:=hx
   cases hd:Ep s.st _ with
   | true =>
    rw[hd] at h
    obtain⟨py,h⟩:=aK (show bif true then _ else _ from h) |>.2 |> aK
    have py:=Nat.eq_of_beq_eq_true py
    subst py
    replace h:=dM h
    obtain⟨h0,h1,h|h⟩:=h
    ·exact⟨_,_,h,by simp only[PV.Is]; exact⟨p,g,o,hp,ha,rfl⟩,fun w'=>by rw[bm _ _ _ _ h0 h1]; simp only[Nat.add_assoc,Nat.mul_one,Nat.add_zero]⟩
    ·exact⟨_,_,h,by simp only[PV.Is]; exact⟨p,g,o,hp,ha,rfl⟩,fun w'=>by rw[bm _ _ _ _ h0 h1]; simp only[Nat.add_assoc,Nat.mul_one,Nat.add_zero]⟩
   | false =>
    rw[hd,cond_false] at h
    replace h:=dM h
    obtain⟨h0,h1,h|h⟩:=h
    ·exact⟨_,_,h,by simp only[PV.Is]; exact⟨p,g,o,hp,ha,rfl⟩,fun w'=>by rw[bm _ _ _ _ h0 h1]; simp only[Nat.add_assoc]⟩
    ·exact⟨_,_,h,by simp only[PV.Is]; exact⟨p,g,o,hp,ha,rfl⟩,fun w'=>by rw[bm _ _ _ _ h0 h1]; simp only[Nat.add_assoc]⟩
  ·rename_i l
   replace h:=an h
   obtain⟨b,hb,h⟩:=h
   replace h:=aK h
   obtain⟨hc,h⟩:=h
   simp only[Bool.and_eq_true] at hc
   have dK:b.size=size:=Nat.eq_of_beq_eq_true hc.1.2
   obtain⟨p,hp,rfl⟩:=hx
   split at h
   ·rename_i hk
    obtain⟨g,arr,fr,ha,hw,_,_,_,hlen,_,_,_,tA⟩:=dk hR hb hc.1.1 hk hp
    rw[hw]
    rw[iv,Nat.zero_add] at h
    have hq:b.cs.length / size=p.len:=by rw[hlen,dK]; exact Nat.mul_div_cancel _ (by omega)
    rw[hq] at h
    replace h:=dM h
    obtain⟨h0,h1,h|h⟩:=h
    ·exact⟨_,_,h,by simp only[PV.Is]; exact⟨p,g,0,hp,ha,rfl⟩,fun w'=>by rw[bm _ _ _ _ h0 h1]⟩
    ·exact⟨_,_,h,by simp only[PV.Is]; exact⟨p,g,0,hp,ha,rfl⟩,fun w'=>by rw[bm _ _ _ _ h0 h1]; congr 4; omega⟩
   ·rename_i hk
    obtain⟨h0,h1,h⟩:=h
    obtain⟨_,hlen,hle,_,jm⟩:=bT hR hb hc.1.1 hk hp
    rcases jm with ⟨_,qN,_⟩|⟨g,arr,fr,ha,hw,_⟩
    ·omega
    ·rw[hw]
     exact⟨_,_,h,by simp only[PV.Is]; exact⟨p,g,0,hp,ha,rfl⟩,fun w'=>by rw[bm _ _ _ _ h0 (by omega)]; congr 4⟩
   ·exact h.elim
  ·exact h.elim
 ·exact h.elim
theorem wm (hO:Ev.dw cx) {t:TypeId} {x i:PV} {u v:Value} {q:PV->Prop} (h:yE cx t x i q) (hx:x.Is w I β u) (hi:i.Is w I β v) :
  ∃ z r,q z/\z.Is w I β r/\∀ w',(Instr.index t u v).run cx.P w' = .ok r w':=by
 replace h:=an h
 obtain⟨⟨st,k,n⟩,hn,h⟩:=h
 obtain rfl:=PV.jl hn hi
 replace h:=an h
 obtain⟨d,hu,h⟩:=h
 try simp only at h
 split at h<;>try simp only[PV.Is] at hx
 ·rename_i len elem cs
  obtain⟨vs,rfl,hc⟩:=hx
  replace h:=an h
  obtain⟨size,hs,h⟩:=h
  replace h:=dM h
  obtain⟨h0,h1,h⟩:=h
  have bm:∀ w',(Instr.index t (.agg vs) (.int k n)).run cx.P w'=(Go.part elem vs (n.toNat*size)).run cx.P w':=fun w'=>by
   simp[Instr.index,asIntOf,run_underlying (hO.un hu),h0,h1,Ev.cn hO hs]
  rcases h with h|h
  ·obtain⟨z,r,h2,h3,h4⟩:=u5 hO h hc
   exact⟨z,r,h2,h3,fun w'=>by rw[bm,h4]⟩
  ·replace h:=an h
   obtain⟨ag,BH,h⟩:=h
   replace h:=aK h
   obtain⟨hb,h⟩:=h
   simp only[Bool.and_eq_true,Bool.not_eq_true'] at hb
   obtain⟨⟨P',lG⟩,qv⟩:=hb
   subst P'
   have P_:=Nat.eq_of_beq_eq_true lG
   have Un:=Nat.eq_of_beq_eq_true qv
   subst P_
   have bA:n.toNat < cs.length:=by omega
   obtain⟨r,hr,Qa⟩:=hc.get (List.getElem?_eq_getElem bA)
   have qw:vs[n.toNat]?=some r:=by simpa using hr
   exact⟨_,r,h _ (List.getElem?_eq_getElem bA),Qa,fun w'=>by rw[bm]; simp[Go.part,Ev.eE hO BH,qw]⟩
 ·rename_i sb
  obtain⟨rfl,_⟩:=hx
  obtain⟨h0,h1,h⟩:=h
  have bA:n.toNat < sb.size:=by omega
  refine⟨_,_,h,Is.int,fun w'=>?_⟩
  rw[run_index_string w' t sb k _ (hO.un hu),dif_pos ⟨h0,h1⟩]
  have:sb.data.toList[n.toNat]?=some (sb[n.toNat]'bA):=by
   rw[Array.getElem?_toList,Array.getElem?_eq_getElem bA]; rfl
  rw[List.getElem?_map,this]; rfl
 ·exact h.elim
end
section
variable {w w':World} {I I':Nat->Prop} {β aG:au} {cx:Ev.Cx} {G:Gx} {P:Program} {s:aL} {a:Act}
theorem gS (hR:Rel G I β s a w) {o:Option Operand} {d:Bool × Int} {q:Bool × Int->Prop} (h:B2 s o d q):∃ z,q z/\((o.map a.eval=none/\z=d)\/∃ k,o.map a.eval=some (.int k z.2)):=by
 cases o with
 | none=>exact⟨d,h,.inl ⟨rfl,rfl⟩⟩
 | some o =>
  replace h:=aL.bw hR h
  obtain⟨x,h,hx⟩:=h
  replace h:=an h
  obtain⟨⟨st,k,n⟩,hn,h⟩:=h
  exact⟨(st,n),h,.inr ⟨k,by simp only[Option.map_some,PV.jl hn hx]⟩⟩
theorem tB {b:Bool} {len cap H L:Nat} {uh ul:Option Value} (hh:(uh=none/\H=len)\/∃ k i,uh=some (.int k i)/\0<=i/\i<=cap/\H=i.toNat) (hl:(ul=none/\L=0)\/∃ k i,ul=some (.int k i)/\0<=i/\i<=H/\L=i.toNat) (w:World) :
  (Instr.sliceBounds b len cap ul uh none).run P w = .ok (L,H,cap) w:=by
 rcases hh with ⟨rfl,rfl⟩|⟨k,i,rfl,h0,h1,rfl⟩<;>rcases hl with ⟨rfl,rfl⟩|⟨k',i',rfl,g0,g1,rfl⟩
 ·simp[Instr.sliceBounds]
 ·simp[Instr.sliceBounds,Ev.dx g0 g1]
 ·simp[Instr.sliceBounds,Ev.dx h0 h1]
 ·simp[Instr.sliceBounds,Ev.dx h0 h1,Ev.dx g0 g1]
theorem u7 {b:Bool} {len cap:Nat} {uh ul:Option Value} {l h:Bool × Int} (hh:(uh=none/\h.2=(len:Int))\/∃ k,uh=some (.int k h.2)) (hl:(ul=none/\l.2=0)\/∃ k,ul=some (.int k l.2)) (h0:0<=l.2) (h1:l.2<=h.2) (h2:h.2<=cap) (w:World) :
  (Instr.sliceBounds b len cap ul uh none).run P w = .ok (l.2.toNat,h.2.toNat,cap) w:=by
 refine tB ?_ ?_ w
 ·rcases hh with ⟨e,e'⟩|⟨k,e⟩
  ·exact .inl ⟨e,by omega⟩
  ·exact .inr ⟨k,h.2,e,by omega,by omega,rfl⟩
 ·rcases hl with ⟨e,e'⟩|⟨k,e⟩
  ·exact .inl ⟨e,by omega⟩
  ·exact .inr ⟨k,l.2,e,by omega,by omega,rfl⟩
theorem bp.drop {es:List PV} {n g o:Nat} (k:Nat) (h:bp w I es n g o):bp w I (es.drop k) n g (o+k*n):=bp.of fun i e he=>by
 rw[List.getElem?_drop] at he
 have:=h.get he
 rw[show o+k*n+i*n=o+(k+i)*n by rw[Nat.add_mul]; omega]
 exact this
theorem bp.take {es:List PV} {n g o:Nat} (k:Nat) (h:bp w I es n g o):bp w I (es.take k) n g o:=bp.of fun i e he=>by
 rw[List.getElem?_take] at he
 split at he
 ·exact h.get he
 ·cases he
theorem wq (hO:Ev.dw G.cx) (hR:Rel G I β s a w) {t:TypeId} {x:PV} {u:Value} {lo hi mx:Option Operand} {q:PV->Prop} (h:yF G.cx s t x lo hi mx q) (hx:x.Is w I β u) :
  ∃ z r,q z/\z.Is w I β r/\∀ w',(Instr.sliceAt t u (lo.map a.eval) (hi.map a.eval) (mx.map a.eval)).run G.cx.P w' = .ok r w':=by
 replace h:=an h
 obtain⟨d,hu,h⟩:=h
 split at h
 ·rename_i n elem
  replace h:=an h
  obtain⟨m,hm,h⟩:=h
  replace h:=aK h
  obtain⟨tA,h⟩:=h
  simp only[Bool.and_eq_true] at tA
  replace h:=gS hR h
  obtain⟨l,h,hl⟩:=h
  replace h:=gS hR h
  obtain⟨hh,h,wu⟩:=h
  split at h<;>try simp only[PV.Is] at hx
  ·obtain⟨p,g,o,hp,ha,rfl⟩:=hx
   replace h:=aK h
   obtain⟨hc,h⟩:=h
   simp only[Bool.and_eq_true,decide_eq_true_eq] at hc
   obtain⟨⟨⟨⟨⟨_,_⟩,h0⟩,h1⟩,h2⟩,h3⟩:=hc
   refine⟨_,.slice (some ⟨g,o+_,none⟩) _ (n - l.2.toNat),h,by simp only[PV.Is]; exact⟨p,g,o,n - l.2.toNat,hp,ha,rfl,by omega⟩,fun w'=>?_⟩
   have hb:=fun b=>u7 (P:=G.cx.P) (b:=b) (len:=n) (cap:=n) (wu.imp (fun ⟨e,e'⟩=>⟨e,by rw[e']⟩) id) (hl.imp (fun ⟨e,e'⟩=>⟨e,by rw[e']⟩) id) h0 h2 h3 w'
   have bR:¬ n=l.2.toNat:=by omega
   have e1:hh.2.toNat - l.2.toNat=(hh.2 - l.2).toNat:=by omega
   simp only[Instr.sliceAt,Sem.run_bind,run_underlying (hO.un hu),Result.andThen_ok,Instr.sureAddr,Sem.run_pure,Option.map_none,hb,Ev.cn hO hm]
   simp[bR,Ev.eM,Nat.add_assoc,e1]
  ·exact h.elim
 ·rename_i elem
  replace h:=an h
  obtain⟨m,hm,h⟩:=h
  replace h:=gS hR h
  obtain⟨l,h,hl⟩:=h
  have run:∀ (ad:Option Addr) (len cap:Nat) (hh:Bool × Int),((hi.map a.eval=none/\hh.2=(len:Int))\/∃ k,hi.map a.eval=some (.int k hh.2))->0<=l.2->l.2<=hh.2->hh.2<=cap->∃ B9,(∀ w',(Instr.sliceAt t (.slice ad len cap) (lo.map a.eval) (hi.map a.eval) none).run G.cx.P w' = .ok (.slice B9 (hh.2 - l.2).toNat (cap - l.2.toNat)) w')/\(ad=none->B9=none)/\(∀ g o,ad=some ⟨g,o,none⟩->l.2 < cap->B9=some ⟨g,o+l.2.toNat*m,none⟩):=by
   intro ad len cap hh wu h0 h1 h2
   have hb:=fun b w'=>u7 (P:=G.cx.P) (b:=b) (len:=len) (cap:=cap) wu (hl.imp (fun ⟨e,e'⟩=>⟨e,by rw[e']⟩) id) h0 h1 h2 w'
   have e1:hh.2.toNat - l.2.toNat=(hh.2 - l.2).toNat:=by omega
   cases ad with
   | none =>
    refine⟨none,fun w'=>?_,fun _=>rfl,fun _ _ e=>by cases e⟩
    simp only[Instr.sliceAt,Instr.slice,Sem.run_bind,run_underlying (hO.un hu),Result.andThen_ok,Sem.run_pure,Option.map_none,hb,Ev.cn hO hm]
    simp[e1]
   | some ad =>
    by_cases qv:cap=l.2.toNat
    ·refine⟨some ad,fun w'=>?_,(fun e=>by cases e),fun g o e bA=>by omega⟩
     simp only[Instr.sliceAt,Instr.slice,Sem.run_bind,run_underlying (hO.un hu),Result.andThen_ok,Sem.run_pure,Option.map_none,hb,Ev.cn hO hm]
     simp[e1,qv]
    ·refine⟨some (ad.add (l.2.toNat*m)),fun w'=>?_,(fun e=>by cases e),fun g o e bA=>by cases e; rw[Ev.eM]⟩
     simp only[Instr.sliceAt,Instr.slice,Sem.run_bind,run_underlying (hO.un hu),Result.andThen_ok,Sem.run_pure,Option.map_none,hb,Ev.cn hO hm]
     simp[e1,qv]
  split at h<;>try simp only[PV.Is] at hx
  ·subst hx
   replace h:=gS hR h
   obtain⟨hh,⟨h0,h1,h⟩,wu⟩:=h
   refine⟨_,.slice none 0 0,h,by simp only[PV.Is],fun w'=>?_⟩
   obtain⟨B9,hr,hn,_⟩:=run none 0 0 hh (wu.imp (fun ⟨e,e'⟩=>⟨e,by rw[e']; rfl⟩) id) (by omega) (by omega) (by omega)
   rw[hn rfl] at hr
   rw[Option.map_none,hr,h0,h1]; rfl
  ·rename_i b off len
   obtain⟨p,g,o,cap,hp,ha,rfl,hle⟩:=hx
   replace h:=gS hR h
   obtain⟨hh,h,wu⟩:=h
   replace h:=aK h
   obtain⟨hc,h⟩:=h
   simp only[Bool.and_eq_true,decide_eq_true_eq] at hc
   obtain⟨⟨⟨⟨⟨_,_⟩,h0⟩,h1⟩,h2⟩,h3⟩:=hc
   refine⟨_,.slice (some ⟨g,o+(off+l.2.toNat*m),none⟩) (hh.2 - l.2).toNat (cap - l.2.toNat),h,by simp only[PV.Is]; exact⟨p,g,o,cap - l.2.toNat,hp,ha,rfl,by omega⟩,fun w'=>?_⟩
   obtain⟨B9,hr,_,hs⟩:=run (some ⟨g,o+off,none⟩) len cap hh (wu.imp (fun ⟨e,e'⟩=>⟨e,by rw[e']⟩) id) h0 h2 (by omega)
   rw[Option.map_none,hr,hs g (o+off) rfl (by omega)]
   simp only[Nat.add_assoc]
  ·rename_i n es
   obtain⟨ad,cap,rfl,hle,mr,h4,h5⟩:=hx
   replace h:=gS hR h
   obtain⟨hh,h,wu⟩:=h
   replace h:=aK h
   obtain⟨hc,h0,h1,h2,h⟩:=h
   simp only[Bool.and_eq_true] at hc
   have Qb:n=m:=Nat.eq_of_beq_eq_true hc.1
   have lH:0 < m:=Nat.le_of_ble_eq_true hc.2
   have hlen:((es.drop l.2.toNat).take (hh.2 - l.2).toNat).length=(hh.2 - l.2).toNat:=by rw[List.length_take,List.length_drop]; omega
   obtain⟨B9,qw,hn,hs⟩:=run ad es.length cap hh (wu.imp (fun ⟨e,e'⟩=>⟨e,by rw[e']⟩) id) h0 h1 (by omega)
   refine⟨_,_,h,?_,fun w'=>by rw[Option.map_none,qw]⟩
   simp only[PV.Is,hlen]
   refine⟨B9,cap - l.2.toNat,rfl,by omega,by omega,fun g o e=>?_,fun bR=>?_⟩
   ·by_cases hz:(hh.2 - l.2).toNat=0
    ·rw[hz,List.take_zero]; simp only[bp]
    ·obtain⟨g',o',Fy,hg,_⟩:=h5 (by omega)
     have:=hs g' o' Fy (by omega)
     rw[this] at e
     cases e
     rw[← Qb]
     exact ((h4 _ _ Fy).drop _).take _
   ·obtain⟨g',o',Fy,hg,gC⟩:=h5 (by omega)
    exact⟨g',_,hs g' o' Fy (by omega),hg,gC⟩
  ·rename_i b
   obtain⟨p,hp,rfl⟩:=hx
   replace h:=an h
   obtain⟨k,hb,h⟩:=h
   split at h
   ·rename_i hk
    replace h:=aK h
    obtain⟨hc,h⟩:=h
    simp only[Bool.and_eq_true] at hc
    have dK:k.size=m:=Nat.eq_of_beq_eq_true hc.1.2
    obtain⟨g,arr,fr,ha,hw,_,_,_,hlen,hle,_,_,tA⟩:=dk hR.heap hb hc.1.1 hk hp
    rw[iv,Nat.zero_add] at h
    have hq:k.cs.length / m=p.len:=by rw[hlen,dK]; exact Nat.mul_div_cancel _ (by omega)
    rw[hq] at h
    replace h:=gS hR h
    obtain⟨hh,h,wu⟩:=h
    replace h:=aK h
    obtain⟨iN,h⟩:=h
    simp only[Bool.and_eq_true,decide_eq_true_eq] at iN
    obtain⟨⟨⟨⟨⟨_,_⟩,h0⟩,h1⟩,h2⟩,h3⟩:=iN
    refine⟨_,.slice (some ⟨g,0+l.2.toNat*m,none⟩) (hh.2 - l.2).toNat (p.cap - l.2.toNat),h,by simp only[PV.Is]; exact⟨p,g,0,p.cap - l.2.toNat,hp,ha,rfl,by omega⟩,fun w'=>?_⟩
    obtain⟨B9,hr,_,hs⟩:=run (some ⟨g,0,none⟩) p.len p.cap hh (wu.imp (fun ⟨e,e'⟩=>⟨e,by rw[e']⟩) id) h0 h2 (by omega)
    rw[hw,Option.map_none,hr,hs g 0 rfl (by omega)]
   ·rename_i hk
    replace h:=aK h
    obtain⟨hc,h⟩:=h
    simp only[Bool.and_eq_true] at hc
    have dK:k.size=m:=Nat.eq_of_beq_eq_true hc.1.2
    obtain⟨BI,hlen,hle,mr,jm⟩:=bT hR.heap hb hc.1.1 hk hp
    replace h:=gS hR h
    obtain⟨hh,⟨i,j,hi,hj,P2,Pj,Sy,h⟩,wu⟩:=h
    rcases jm with ⟨_,qN,_⟩|⟨g,arr,fr,ha,hw,eh,jM,cB,has⟩
    ·exact absurd Sy (by omega)
    ·refine⟨_,.slice (some ⟨g,0+i*m,none⟩) (j - i) (p.cap - i),h,by simp only[PV.Is]; exact⟨p,g,0,p.cap - i,hp,ha,rfl,by omega⟩,fun w'=>?_⟩
     obtain⟨B9,hr,_,hs⟩:=run (some ⟨g,0,none⟩) p.len p.cap hh (wu.imp (fun ⟨e,e'⟩=>⟨e,by rw[e',hlen]⟩) id) (by omega) (by omega) (by omega)
     rw[hw,Option.map_none,hr,hs g 0 rfl (by omega),show l.2.toNat=i by omega,show (hh.2 - l.2).toNat=j - i by omega]
   ·exact h.elim
  ·exact h.elim
 ·exact h.elim
theorem B_ (hR:aB I β s.st w) {x:PV} {u:Value} {q:PV->Prop} (h:Fo s.st x q) (hx:x.Is w I β u):∃ z,q z/\∃ (ad:Option Addr) (n c:Nat),u = .slice ad n c/\z.Is w I β (.int .i64 n):=by
 unfold Fo at h
 simp only[iv,Nat.zero_add,aj.th] at h
 split at h<;>try simp only[PV.Is] at hx
 ·exact⟨_,h,_,_,_,hx,Is.lit⟩
 ·obtain⟨ad,cap,rfl,_,hm,_⟩:=hx
  exact⟨_,h hm,_,_,_,rfl,Is.int⟩
 ·obtain⟨p,g,o,cap,_,_,rfl,_⟩:=hx
  exact⟨_,h,_,_,_,rfl,Is.lit⟩
 ·obtain⟨p,hp,rfl⟩:=hx
  replace h:=an h
  obtain⟨b,hb,h⟩:=h
  replace h:=aK h
  obtain⟨hl,h⟩:=h
  split at h
  ·rename_i hk
   obtain⟨g,arr,fr,_,hw,_,_,_,hlen,_,_,_,tA⟩:=dk hR hb hl hk hp
   refine⟨_,h,_,_,_,hw,?_⟩
   rw[hlen,Nat.mul_div_cancel _ tA]
   exact Is.lit
  ·rename_i hk
   obtain⟨_,hlen,hle,hm,jm⟩:=bT hR hb hl hk hp
   have h:=h (by omega)
   rcases jm with ⟨_,hc,hw⟩|⟨g,arr,fr,_,hw,_⟩
   ·exact⟨_,h,_,_,_,hw,by rw[show b.cs.length=0 by omega]; exact Is.int⟩
   ·exact⟨_,h,_,_,_,hw,by rw[hlen]; exact Is.int⟩
  ·exact h.elim
 ·exact h.elim
theorem lg (hR:Rel G I β s a w):∀ {os:List Operand} {q:List PV->Prop},lb.jI s os q->∃ l,q l/\aU w I l β (os.map a.eval)
 | [],q,h=>⟨[],h,by simp only[List.map_nil,aU]⟩
 | o::os,q,h=>by
  replace h:=aL.bw hR h
  obtain⟨x,h,hx⟩:=h
  have key:lb.jI s os fun xs=>q (x::xs):=by cases x<;>first|exact h.elim|exact h
  obtain⟨l,h,hl⟩:=lg hR key
  exact⟨_,h,by simp only[List.map_cons,aU]; exact⟨hx,hl⟩⟩
set_option maxHeartbeats 1000000 in
theorem qO (hO:Ev.dw G.cx) (hR:Rel G I β s a w) {o:Oper} {q:PV->Prop} (h:lb G.cx s o.op q) :
  ∃ x r,q x/\x.Is w I β r/\∀ w',(execOp a.eval o).run G.cx.P w' = .ok (.value r) w':=by
 obtain⟨dst,op,ty,pos,after,guard⟩:=o
 simp only at h
 unfold lb at h
 split at h
 ·
  replace h:=aL.bw hR h
  obtain⟨x,h,hx⟩:=h
  exact⟨x,_,h,hx,fun w'=>rfl⟩
 ·
  replace h:=aL.bw hR h
  obtain⟨x,h,hx⟩:=h
  exact⟨x,_,h,hx,fun w'=>rfl⟩
 ·
  rename_i c x y
  have bm:∀ b,a.eval c = .bool b->∀ w',(execOp a.eval ⟨dst,.pick c x y,ty,pos,after,guard⟩).run G.cx.P w' = .ok (.value (if b then a.eval x else a.eval y)) w':=fun b hb w'=>by
   cases b<;>simp[execOp,hb,asBool]
  replace h:=aL.bw hR h
  obtain⟨xc,h,hc⟩:=h
  split at h<;>try simp only[PV.Is] at hc
  ·replace h:=aL.bw hR h
   obtain⟨z,h,hz⟩:=h
   exact⟨z,_,h,hz,fun w'=>by rw[bm _ hc]; rfl⟩
  ·replace h:=aL.bw hR h
   obtain⟨z,h,hz⟩:=h
   exact⟨z,_,h,hz,fun w'=>by rw[bm _ hc]; rfl⟩
  ·rename_i p
   by_cases hp:p
   ·obtain⟨z,h,hz⟩:=aL.bw hR (h.1 hp)
    exact⟨z,_,h,hz,fun w'=>by rw[bm _ hc,bo hp]; rfl⟩
   ·obtain⟨z,h,hz⟩:=aL.bw hR (h.2 hp)
    exact⟨z,_,h,hz,fun w'=>by rw[bm _ hc,bg hp]; rfl⟩
  ·exact h.elim
 ·
  replace h:=aL.bw hR h
  obtain⟨x,h,hx⟩:=h
  replace h:=aL.bw hR h
  obtain⟨y,h,hy⟩:=h
  obtain⟨z,r,h,hz,hg,hr⟩:=B7 hO hR.heap h hx hy
  exact⟨z,r,h,hz,fun w'=>by simp[execOp,hg,hr]⟩
 ·
  replace h:=aL.bw hR h
  obtain⟨x,h,hx⟩:=h
  obtain⟨z,r,h,hz,hr⟩:=Fv (P:=G.cx.P) h hx
  exact⟨z,r,h,hz,fun w'=>by simp[execOp,hr]⟩
 ·
  replace h:=aL.bw hR h
  obtain⟨x,h,hx⟩:=h
  obtain⟨z,r,h,hz,hr⟩:=yP hO h hx
  exact⟨z,r,h,hz,fun w'=>by simp[execOp,hr]⟩
 ·
  rename_i o
  replace h:=aL.bw hR h
  obtain⟨x,h,hx⟩:=h
  have key:∀ {ad:Addr},a.eval o = .pointer (some ad)->∀ w',(execOp a.eval ⟨dst,.nilCheck o,ty,pos,after,guard⟩).run G.cx.P w' = .ok (.value (a.eval o)) w':=fun he w'=>by simp[execOp,he]
  split at h<;>first|exact h.elim|(have fh:=hx; simp only[PV.Is] at fh)
  ·obtain⟨p,g,o',_,_,he⟩:=fh; exact⟨_,_,h,hx,key he⟩
  ·obtain⟨p,g,o',_,_,he⟩:=fh; exact⟨_,_,h,hx,key he⟩
  ·obtain⟨p,g,o',_,_,he⟩:=fh; exact⟨_,_,h,hx,key he⟩
  ·obtain⟨g,o',he,_⟩:=fh; exact⟨_,_,h,hx,key he⟩
  ·exact⟨_,_,h,hx,key fh⟩
  ·exact⟨_,_,h,hx,key fh⟩
 ·
  obtain⟨x,r,h,hx,hr⟩:=wk hO hR h
  exact⟨x,r,h,hx,fun w'=>by simp[execOp,hr]⟩
 ·
  replace h:=aL.bw hR h
  obtain⟨x,h,hx⟩:=h
  obtain⟨z,r,h,hz,hr⟩:=nQ hO h hx
  exact⟨z,r,h,hz,fun w'=>by simp[execOp,hr]⟩
 ·
  rename_i f
  replace h:=an h
  obtain⟨d,hu,h⟩:=h
  replace h:=aL.bw hR h
  obtain⟨x,h,hx⟩:=h
  split at h
  ·rename_i fs cs
   replace h:=an h
   obtain⟨fd,P5,h⟩:=h
   simp only[PV.Is] at hx
   obtain⟨vs,he,hc⟩:=hx
   obtain⟨z,r,h,hz,hr⟩:=u5 hO h hc
   have Fx:fs[f]?=some fd:=by simpa using P5
   exact⟨z,r,h,hz,fun w'=>by simp[execOp,Instr.field,run_underlying (hO.un hu),Fx,he,asAgg,hr]⟩
  ·exact h.elim
 ·
  replace h:=aL.bw hR h
  obtain⟨x,h,hx⟩:=h
  replace h:=aL.bw hR h
  obtain⟨y,h,hy⟩:=h
  obtain⟨z,r,h,hz,hr⟩:=nR hO hR.heap h hx hy
  exact⟨z,r,h,hz,fun w'=>by simp[execOp,hr]⟩
 ·
  replace h:=aL.bw hR h
  obtain⟨x,h,hx⟩:=h
  replace h:=aL.bw hR h
  obtain⟨y,h,hy⟩:=h
  obtain⟨z,r,h,hz,hr⟩:=wm hO h hx hy
  exact⟨z,r,h,hz,fun w'=>by simp[execOp,hr]⟩
 ·
  rename_i i
  replace h:=aL.bw hR h
  obtain⟨x,h,hx⟩:=h
  split at h
  ·replace h:=an h
   obtain⟨z,hz,h⟩:=h
   simp only[PV.Is] at hx
   obtain⟨vs,he,hc⟩:=hx
   obtain⟨r,hr,Qa⟩:=hc.get hz
   have qw:vs[i]?=some r:=by simpa using hr
   exact⟨z,r,h,Qa,fun w'=>by simp[execOp,Instr.extract,he,qw]⟩
  ·exact h.elim
 ·
  replace h:=aL.bw hR h
  obtain⟨x,h,hx⟩:=h
  obtain⟨z,r,h,hz,hr⟩:=wq hO hR h hx
  exact⟨z,r,h,hz,fun w'=>by simp[execOp,hr]⟩
 ·
  rename_i f iM
  replace h:=lg hR h
  obtain⟨l,h,hl⟩:=h
  refine⟨_,.func (.func f) #[] ⟨iM.map a.eval⟩,h,by simp only[PV.Is]; exact⟨_,rfl,hl⟩,fun w'=>?_⟩
  simp[execOp,Instr.makeFunc]
 ·
  rename_i o t
  replace h:=an h
  obtain⟨d,hu,h⟩:=h
  replace h:=aL.bw hR h
  obtain⟨x,h,hx⟩:=h
  have bm:∀ {r:Value},(∀ w',(Builtin.len_ #[t] ty #[a.eval o]).run G.cx.P w' = .ok r w')->∀ w',(execOp a.eval ⟨dst,.call { callee:=.builtin .len,args:=#[o],argTypes:=#[t] },ty,pos,after,guard⟩).run G.cx.P w' = .ok (.value r) w':=fun hr w'=>by
   simp[execOp,resolve,invoke,builtin,hr]
  split at h
  ·obtain⟨z,h,ad,n,c,he,hz⟩:=B_ hR.heap h hx
   exact⟨z,_,h,hz,bm fun w'=>by simp[Builtin.len_,run_underlying (hO.un hu),he,goInt]⟩
  ·exact⟨_,_,h,Is.lit,bm fun w'=>by simp[Builtin.len_,run_underlying (hO.un hu),goInt]⟩
  ·split at h
   ·simp only[PV.Is] at hx
    obtain⟨he,_⟩:=hx
    exact⟨_,_,h,Is.lit,bm fun w'=>by simp[Builtin.len_,run_underlying (hO.un hu),he,goInt]⟩
   ·exact h.elim
  ·exact h.elim
 ·
  rename_i ox oy ts
  replace h:=aL.bw hR h
  obtain⟨x,h,hx⟩:=h
  replace h:=aL.bw hR h
  obtain⟨y,h,hy⟩:=h
  have key:∀ {k k':IntKind} {m n:Int},a.eval ox = .int k m->a.eval oy = .int k' n->∀ w',(execOp a.eval ⟨dst,.call { callee:=.builtin .min,args:=⟨[ox,oy]⟩,argTypes:=ts },ty,pos,after,guard⟩).run G.cx.P w' = .ok (.value (.int k (min m n))) w':=fun h1 h2 w'=>by
   rename_i m n
   simp[execOp,resolve,invoke,builtin,Builtin.min_,h1,h2,Builtin.min2]
   by_cases bA:n < m<;>simp[bA]<;>omega
  unfold lV at h
  split at h<;>first|exact h.elim|(simp only[PV.Is] at hx hy)
  ·exact⟨_,_,h,Is.lit,key hx hy⟩
  ·exact⟨_,_,h,Is.int,key hx hy⟩
  ·exact⟨_,_,h,Is.int,key hx hy⟩
  ·exact⟨_,_,h,Is.int,key hx hy⟩
 ·
  rename_i ox oy ts
  replace h:=aL.bw hR h
  obtain⟨x,h,hx⟩:=h
  replace h:=aL.bw hR h
  obtain⟨y,h,hy⟩:=h
  have key:∀ {k k':IntKind} {m n:Int},a.eval ox = .int k m->a.eval oy = .int k' n->∀ w',(execOp a.eval ⟨dst,.call { callee:=.builtin .max,args:=⟨[ox,oy]⟩,argTypes:=ts },ty,pos,after,guard⟩).run G.cx.P w' = .ok (.value (.int k (max m n))) w':=fun h1 h2 w'=>by
   rename_i m n
   simp[execOp,resolve,invoke,builtin,Builtin.max_,h1,h2,Builtin.max2]
   by_cases bA:m < n<;>simp[bA]<;>omega
  unfold lV at h
  split at h<;>first|exact h.elim|(simp only[PV.Is] at hx hy)
  ·exact⟨_,_,h,Is.lit,key hx hy⟩
  ·exact⟨_,_,h,Is.int,key hx hy⟩
  ·exact⟨_,_,h,Is.int,key hx hy⟩
  ·exact⟨_,_,h,Is.int,key hx hy⟩
 ·exact h.elim
end
end Go.Proofs.YtnbhdacpogplgaaGreatDoor.Pw

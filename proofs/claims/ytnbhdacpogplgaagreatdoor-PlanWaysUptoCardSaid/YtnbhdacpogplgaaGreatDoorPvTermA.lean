/- What this claim is proved with: no condition. -/
import Derived.Test.YtnbhdacpogplgaaGreatDoorChecked
import Derived.Test.YtnbhdacpogplgaaGreatDoorPvBase
import Derived.RegionTactic
import Derived.Deep.RegionHeld3
import Derived.Deep.RegionLaw
import Derived.Deep.AppendLies
import Derived.Deep.DeepCutAuto
set_option linter.unusedVariables false
set_option linter.unusedSimpArgs false
namespace Go.Proofs.YtnbhdacpogplgaaGreatDoor
open Go Go.RowKit
inductive T where
 | leaf (op n:Int)|one (op n:Int) (a:T)|two (op n:Int) (a b:T)
 deriving Inhabited
namespace T
def op:T->Int
 | .leaf o _=>o|.one o _ _=>o|.two o _ _ _=>o
def num:T->Int
 | .leaf _ n=>n|.one _ n _=>n|.two _ n _ _=>n
def kids:T->Nat
 | .leaf ..=>0|.one ..=>1|.two ..=>2
def size:T->Nat
 | .leaf ..=>1|.one _ _ a=>1+a.size|.two _ _ a b=>1+a.size+b.size
def val (t:T) (s:Value):Value:=.agg #[.int .i64 t.op,.int .u32 t.num,s]
def uU (w:World):T->Value->List Nat->Prop
 | .leaf _ _,s,bl=>s = .slice none 0 0/\bl = []
 | .one _ _ a,s,bl=>∃ g cap cur fr sa qk,s = .slice (some ⟨g,0,none⟩) 1 cap/\1<=cap/\w.heap[g]?=some (.cells cur 27 fr)/\cur[0]?=some (.int .i64 a.op)/\cur[1]?=some (.int .u32 a.num)/\cur[2]?=some sa/\a.uU w sa qk/\bl=g::qk
 | .two _ _ a b,s,bl=>∃ g cap cur fr sa qk sb E7,s = .slice (some ⟨g,0,none⟩) 2 cap/\2<=cap/\w.heap[g]?=some (.cells cur 27 fr)/\cur[0]?=some (.int .i64 a.op)/\cur[1]?=some (.int .u32 a.num)/\cur[2]?=some sa/\cur[3]?=some (.int .i64 b.op)/\cur[4]?=some (.int .u32 b.num)/\cur[5]?=some sb/\a.uU w sa qk/\b.uU w sb E7/\bl=g::(qk++E7)
theorem uU.pj {w w':World}:∀ {t:T} {s:Value} {bl:List Nat},t.uU w s bl->(∀ b∈bl,w'.heap[b]?=w.heap[b]?)->t.uU w' s bl
 | .leaf _ _,_,_,h,_=>h
 | .one _ _ a,s,bl,⟨g,cap,cur,fr,sa,qk,h1,h2,h3,h4,h5,h6,h7,h8⟩,hk=>by
  subst h8
  exact⟨g,cap,cur,fr,sa,qk,h1,h2,(hk g (by simp)).trans h3,h4,h5,h6,h7.pj fun b hb=>hk b (by simp[hb]),rfl⟩
 | .two _ _ a b,s,bl,⟨g,cap,cur,fr,sa,qk,sb,E7,h1,h2,h3,h4,h5,h6,h7,h8,h9,cS,h11,h12⟩,hk=>by
  subst h12
  exact⟨g,cap,cur,fr,sa,qk,sb,E7,h1,h2,(hk g (by simp)).trans h3,h4,h5,h6,h7,h8,h9,cS.pj fun c hc=>hk c (by simp[hc]),h11.pj fun c hc=>hk c (by simp[hc]),rfl⟩
theorem uU.one {w:World} {t:T} {s:Value} {bl:List Nat} (h:t.uU w s bl):s.oneCell'=true:=by
 cases t with
 | leaf=>obtain⟨rfl,_⟩:=h; rfl
 | one=>obtain⟨g,cap,cur,fr,sa,qk,rfl,_⟩:=h; rfl
 | two=>obtain⟨g,cap,cur,fr,sa,qk,sb,E7,rfl,_⟩:=h; rfl
theorem uU.form {w:World} {t:T} {s:Value} {bl:List Nat} (h:t.uU w s bl):∃ p c,s = .slice p t.kids c:=by
 cases t with
 | leaf=>obtain⟨rfl,_⟩:=h; exact⟨_,_,rfl⟩
 | one=>obtain⟨g,cap,cur,fr,sa,qk,rfl,_⟩:=h; exact⟨_,_,rfl⟩
 | two=>obtain⟨g,cap,cur,fr,sa,qk,sb,E7,rfl,_⟩:=h; exact⟨_,_,rfl⟩
end T
theorem T.uU.mk_one {w1 wf:World} {base g cp:Nat} {o n:Int} {a:T} {sa:Value} {qk:List Nat} (dj:w1.ownsRow base 27 3 (.slice (some ⟨g,0,none⟩) 1 cp) 1 [.int .i64 a.op,.int .u32 a.num,sa]) (hg:wf.heap[g]?=w1.heap[g]?) (ha:a.uU wf sa qk):(T.one o n a).uU wf (.slice (some ⟨g,0,none⟩) 1 cp) (g::qk):=by
 obtain⟨_,h⟩:=dj
 rcases h with ⟨h,_⟩|⟨g',cap,cur,hv,_,hh,hn,_,hs,ht⟩
 ·cases h
 ·cases hv
  have e:∀ i,i < 3->cur[i]? = [Value.int .i64 a.op,.int .u32 a.num,sa][i]?:=fun i hi=>by
   rw[← ht,List.getElem?_take,if_pos (by omega)]; simp
  exact⟨g,cp,cur,(0,0),sa,qk,rfl,hn,hg.trans hh,e 0 (by omega),e 1 (by omega),e 2 (by omega),ha,rfl⟩
theorem T.uU.mk_two {w1 wf:World} {base g cp:Nat} {o n:Int} {a b:T} {sa sb:Value} {qk E7:List Nat} (dj:w1.ownsRow base 27 3 (.slice (some ⟨g,0,none⟩) 2 cp) 2 [.int .i64 a.op,.int .u32 a.num,sa,.int .i64 b.op,.int .u32 b.num,sb]) (hg:wf.heap[g]?=w1.heap[g]?) (ha:a.uU wf sa qk) (hb:b.uU wf sb E7):(T.two o n a b).uU wf (.slice (some ⟨g,0,none⟩) 2 cp) (g::(qk++E7)):=by
 obtain⟨_,h⟩:=dj
 rcases h with ⟨h,_⟩|⟨g',cap,cur,hv,_,hh,hn,_,hs,ht⟩
 ·cases h
 ·cases hv
  have e:∀ i,i < 6->cur[i]? = [Value.int .i64 a.op,.int .u32 a.num,sa,.int .i64 b.op,.int .u32 b.num,sb][i]?:=fun i hi=>by
   rw[← ht,List.getElem?_take,if_pos (by omega)]; simp
  exact⟨g,cp,cur,(0,0),sa,qk,sb,E7,rfl,hn,hg.trans hh,e 0 (by omega),e 1 (by omega),e 2 (by omega),e 3 (by omega),e 4 (by omega),e 5 (by omega),ha,hb,rfl⟩
theorem T.uU.cells1 {w:World} {o n:Int} {a:T} {s:Value} {bl:List Nat} (h:(T.one o n a).uU w s bl):∃ g cap p c qk,s = .slice (some ⟨g,0,none⟩) 1 cap/\1<=cap/\g < w.heap.size/\w.cell? ⟨g,0,none⟩=some (.int .i64 a.op)/\w.cell? ⟨g,1,none⟩=some (.int .u32 a.num)/\w.cell? ⟨g,2,none⟩=some (.slice p a.kids c) /\
  a.uU w (.slice p a.kids c) qk/\∀ b∈qk,b∈bl:=by
 obtain⟨g,cap,cur,fr,sa,qk,rfl,Zd,hh,h0,h1,h2,ha,rfl⟩:=h
 obtain⟨p,c,rfl⟩:=ha.form
 have c0:w.cell? ⟨g,0,none⟩=some (.int .i64 a.op):=by rw[cell_of_row w g 0 cur _ fr hh,h0]
 exact⟨g,cap,p,c,qk,rfl,Zd,World.block_lt_of_cell? w ⟨g,0,none⟩ c0,c0,by rw[cell_of_row w g 1 cur _ fr hh,h1],by rw[cell_of_row w g 2 cur _ fr hh,h2],ha,fun b hb=>by simp[hb]⟩
theorem T.uU.cells2 {w:World} {o n:Int} {a b:T} {s:Value} {bl:List Nat} (h:(T.two o n a b).uU w s bl):∃ g cap p c q d qk E7,s = .slice (some ⟨g,0,none⟩) 2 cap/\2<=cap/\g < w.heap.size/\(w.cell? ⟨g,0,none⟩=some (.int .i64 a.op)/\w.cell? ⟨g,1,none⟩=some (.int .u32 a.num)/\w.cell? ⟨g,2,none⟩=some (.slice p a.kids c)) /\
  (w.cell? ⟨g,3,none⟩=some (.int .i64 b.op)/\w.cell? ⟨g,4,none⟩=some (.int .u32 b.num)/\w.cell? ⟨g,5,none⟩=some (.slice q b.kids d))/\a.uU w (.slice p a.kids c) qk/\b.uU w (.slice q b.kids d) E7/\(∀ b∈qk,b∈bl)/\∀ b∈E7,b∈bl:=by
 obtain⟨g,cap,cur,fr,sa,qk,sb,E7,rfl,Zd,hh,h0,h1,h2,h3,h4,h5,ha,hb,rfl⟩:=h
 obtain⟨p,c,rfl⟩:=ha.form
 obtain⟨q,d,rfl⟩:=hb.form
 have c0:w.cell? ⟨g,0,none⟩=some (.int .i64 a.op):=by rw[cell_of_row w g 0 cur _ fr hh,h0]
 exact⟨g,cap,p,c,q,d,qk,E7,rfl,Zd,World.block_lt_of_cell? w ⟨g,0,none⟩ c0,⟨c0,by rw[cell_of_row w g 1 cur _ fr hh,h1],by rw[cell_of_row w g 2 cur _ fr hh,h2]⟩,⟨by rw[cell_of_row w g 3 cur _ fr hh,h3],by rw[cell_of_row w g 4 cur _ fr hh,h4],by rw[cell_of_row w g 5 cur _ fr hh,h5]⟩,ha,hb,fun b hb=>by simp[hb],fun b hb=>by simp[hb]⟩
end Go.Proofs.YtnbhdacpogplgaaGreatDoor

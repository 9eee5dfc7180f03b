/- What this claim is proved with: no condition. -/
import Derived.Test.YtnbngokbamifbaaGreatDoorNr7
import Derived.Test.YtnbngokbamifbaaGreatDoorNr2
set_option linter.unusedVariables false
set_option linter.unusedSimpArgs false
namespace Go.Proofs.YtnbngokbamifbaaGreatDoor.Pw
open Go Go.RowKit
def z9 (x y:PV):Prop:=match x,y with
 | .lit k a,.lit l b=>if decide (k=l) then a=b else False
 | .lit k a,.int l b=>if decide (k=l) then a=b else False
 | .int k a,.lit l b=>if decide (k=l) then a=b else False
 | .int k a,.int l b=>if decide (k=l) then a=b else False
 | .tt,.tt=>True|.ff,.ff=>True
 | .tt,.bool p=>p|.ff,.bool p=>¬ p
 | .bool p,.tt=>p|.bool p,.ff=>¬ p
 | .bool p,.bool q=>p↔q
 | .val v,.val u=>v=u
 | .nil,.nil=>True
 | .nil,.sl _ es=>es = []
 | .sl n es,.sl m fs=>if Nat.beq n m then es=fs else False
 | .wref l,.wref m=>if Nat.beq l m then True else False
 | .mref l,.mref m=>if Nat.beq l m then True else False
 | .ref l o n,.ref l' o' n'=>if Nat.beq l l' && Nat.beq o o' && Nat.beq n n' then True else False
 | .ptr l o,.ptr l' o'=>if Nat.beq l l' && Nat.beq o o' then True else False
 | .pti l o i n,.pti l' o' i' n'=>if Nat.beq l l' && Nat.beq o o' && Nat.beq n n' then i=i' else False
 | .dpt l i n o,.dpt l' i' n' o'=>if Nat.beq l l' && Nat.beq o o' && Nat.beq n n' then i=i' else False
 | .ep cs o,.ep ds o'=>if Nat.beq o o' then cs=ds else False
 | .gp g o,.gp g' o'=>if Nat.beq g g' && Nat.beq o o' then True else False
 | .gpi g o i n,.gpi g' o' i' n'=>if Nat.beq g g' && Nat.beq o o' && Nat.beq n n' then i=i' else False
 | _,_=>False
def pa (r:PV->PV->Prop):List PV->List PV->Prop
 | [],[]=>True
 | x::xs,y::ys=>r x y/\pa r xs ys
 | _,_=>False
def leA (x y:PV):Prop:=match x,y with
 | .agg cs,.agg ds=>pa z9 cs ds
 | .clo f cs,.clo g ds=>if Nat.beq f g then pa z9 cs ds else False
 | x,y=>z9 x y
def ki (x y:PV):Prop:=match x,y with
 | .tup cs,.tup ds=>pa leA cs ds
 | x,y=>leA x y
def AD (x y:PV):Prop:=∀ w I β v,x.Is w I β v->y.Is w I β v
theorem AD.refl (x:PV):AD x x:=fun _ _ _ _ h=>h
section
variable {w w':World} {I I':Nat->Prop} {β aN:ay} {G:Gx} {s:aV} {a:Act} {st dY:List au}
theorem jj {c p:Prop} [Decidable c] (h:if c then p else False):c/\p:=by
 split at h
 ·exact⟨‹_›,h⟩
 ·exact h.elim
theorem se {x y:PV} (h:z9 x y):AD x y:=by
 intro w I β v hx
 unfold z9 at h
 split at h<;>first|exact h.elim|(simp only[PV.Is] at hx ⊢)
 ·obtain⟨hk,h⟩:=jj h; rw[hx,of_decide_eq_true hk,h]
 ·obtain⟨hk,h⟩:=jj h; rw[hx,of_decide_eq_true hk,h]
 ·obtain⟨hk,h⟩:=jj h; rw[hx,of_decide_eq_true hk,h]
 ·obtain⟨hk,h⟩:=jj h; rw[hx,of_decide_eq_true hk,h]
 ·exact hx
 ·exact hx
 ·rw[hx,ct h]
 ·rw[hx,b_ h]
 ·rw[hx,ct h]
 ·rw[hx,b_ h]
 ·rw[hx,show pb _=pb _ from congrArg pb (propext h)]
 ·rw[← h]; exact hx
 ·exact hx
 ·subst h; exact⟨none,0,hx,Nat.le_refl _,Nat.zero_le _,(fun _ _ e=>by cases e),fun hn=>absurd rfl hn⟩
 ·obtain⟨hb,h⟩:=jj h; rw[← h,← Nat.eq_of_beq_eq_true hb]; exact hx
 ·obtain⟨hb,h⟩:=jj h; rw[← Nat.eq_of_beq_eq_true hb]; exact hx
 ·obtain⟨hb,h⟩:=jj h; rw[← Nat.eq_of_beq_eq_true hb]; exact hx
 ·obtain⟨hb,h⟩:=jj h
  simp only[Bool.and_eq_true] at hb
  rw[← Nat.eq_of_beq_eq_true hb.1.1,← Nat.eq_of_beq_eq_true hb.1.2,← Nat.eq_of_beq_eq_true hb.2]; exact hx
 ·obtain⟨hb,h⟩:=jj h
  simp only[Bool.and_eq_true] at hb
  rw[← Nat.eq_of_beq_eq_true hb.1,← Nat.eq_of_beq_eq_true hb.2]; exact hx
 ·obtain⟨hb,h⟩:=jj h
  simp only[Bool.and_eq_true] at hb
  rw[← Nat.eq_of_beq_eq_true hb.1.1,← Nat.eq_of_beq_eq_true hb.1.2,← Nat.eq_of_beq_eq_true hb.2,← h]; exact hx
 ·obtain⟨hb,h⟩:=jj h
  simp only[Bool.and_eq_true] at hb
  rw[← Nat.eq_of_beq_eq_true hb.1.1,← Nat.eq_of_beq_eq_true hb.1.2,← Nat.eq_of_beq_eq_true hb.2,← h]; exact hx
 ·obtain⟨hb,h⟩:=jj h; rw[← Nat.eq_of_beq_eq_true hb,← h]; exact hx
 ·obtain⟨hb,h⟩:=jj h
  simp only[Bool.and_eq_true] at hb
  rw[← Nat.eq_of_beq_eq_true hb.1,← Nat.eq_of_beq_eq_true hb.2]; exact hx
 ·obtain⟨hb,h⟩:=jj h
  simp only[Bool.and_eq_true] at hb
  rw[← Nat.eq_of_beq_eq_true hb.1.1,← Nat.eq_of_beq_eq_true hb.1.2,← Nat.eq_of_beq_eq_true hb.2,← h]; exact hx
theorem jx {r:PV->PV->Prop} (hr:∀ x y,r x y->AD x y):∀ {xs ys:List PV} {vs:List Value},pa r xs ys->bJ w I xs β vs->bJ w I ys β vs
 | [],[],_,_,h=>h
 | x::xs,y::ys,v::vs,h,hx=>by
  simp only[bJ] at hx ⊢
  exact⟨hr x y h.1 w I β v hx.1,jx hr h.2 hx.2⟩
 | x::xs,y::ys,[],h,hx=>by simp only[bJ] at hx
 | [],_::_,_,h,_=>h.elim
 | _::_,[],_,h,_=>h.elim
theorem GY {x y:PV} (h:leA x y):AD x y:=by
 unfold leA at h
 split at h
 ·intro w I β v hx
  simp only[PV.Is] at hx ⊢
  obtain⟨vs,rfl,hx⟩:=hx
  exact⟨vs,rfl,jx (fun _ _=>se) h hx⟩
 ·intro w I β v hx
  split at h
  ·rename_i hb
   simp only[PV.Is] at hx ⊢
   obtain⟨vs,rfl,hx⟩:=hx
   exact⟨vs,by rw[Nat.eq_of_beq_eq_true hb],jx (fun _ _=>se) h hx⟩
  ·exact h.elim
 ·exact se h
theorem e9 {x y:PV} (h:ki x y):AD x y:=by
 unfold ki at h
 split at h
 ·intro w I β v hx
  simp only[PV.Is] at hx ⊢
  obtain⟨vs,rfl,hx⟩:=hx
  exact⟨vs,rfl,jx (fun _ _=>GY) h hx⟩
 ·exact GY h
abbrev gS:=List (Option Nat)
def PV.yb (π:gS) (x:PV):Option PV:=match x with
 | .wref l=>(match π[l]? with
  | some (some m)=>some (.wref m)
  | some none=>some .nil
  | none=>none)
 | .mref l=>(match π[l]? with
  | some (some m)=>some (.mref m)
  | _=>none)
 | .ref l o n=>(match π[l]? with
  | some (some m)=>some (.ref m o n)
  | _=>none)
 | .ptr l o=>(match π[l]? with
  | some (some m)=>some (.ptr m o)
  | _=>none)
 | .pti l o i n=>(match π[l]? with
  | some (some m)=>some (.pti m o i n)
  | _=>none)
 | .dpt l i n o=>(match π[l]? with
  | some (some m)=>some (.dpt m i n o)
  | _=>none)
 | .agg _|.tup _|.clo ..=>none
 | x=>some x
def gl (π:gS):List PV->Option (List PV)
 | []=>some []
 | c::cs=>(match c.yb π,gl π cs with
  | some x,some l=>some (x::l)
  | _,_=>none)
def PV.J' (π:gS) (x:PV):Option PV:=match x with
 | .agg cs=>(gl π cs).map .agg
 | .clo f cs=>(gl π cs).map (.clo f)
 | .tup _=>none
 | x=>x.yb π
def iS (β:ay) (π:gS):ay:=fun l=>match π[l]? with
 | some (some m)=>β m
 | some none=>some ⟨none,0,0⟩
 | none=>none
theorem cG {π:gS} {l m:Nat} (h:π[l]?=some (some m)):iS β π l=β m:=by unfold iS; rw[h]
theorem jR {π:gS} {l:Nat} (h:π[l]?=some none):iS β π l=some ⟨none,0,0⟩:=by unfold iS; rw[h]
theorem qZ {π:gS} {x y:PV} {v:Value} (h:x.yb π=some y) (hy:y.Is w I β v):x.Is w I (iS β π) v:=by
 unfold PV.yb at h
 split at h
 ·split at h
  ·rename_i m hm
   cases h
   simp only[PV.Is] at hy ⊢
   rw[cG hm]; exact hy
  ·rename_i hm
   cases h
   simp only[PV.Is] at hy ⊢
   exact⟨_,jR hm,hy⟩
  ·cases h
 ·split at h
  ·rename_i m hm
   cases h
   simp only[PV.Is] at hy ⊢
   rw[cG hm]; exact hy
  ·cases h
 ·split at h
  ·rename_i m hm
   cases h
   simp only[PV.Is] at hy ⊢
   rw[cG hm]; exact hy
  ·cases h
 ·split at h
  ·rename_i m hm
   cases h
   simp only[PV.Is] at hy ⊢
   rw[cG hm]; exact hy
  ·cases h
 ·split at h
  ·rename_i m hm
   cases h
   simp only[PV.Is] at hy ⊢
   rw[cG hm]; exact hy
  ·cases h
 ·split at h
  ·rename_i m hm
   cases h
   simp only[PV.Is] at hy ⊢
   rw[cG hm]; exact hy
  ·cases h
 ·cases h
 ·cases h
 ·cases h
 ·cases h
  refine PV.Is.mono (fun _ h=>h) (fun _ _=>rfl) x β _ v (fun l p hl=>?_) hy
  cases x<;>first|(simp_all [PV.dx]; done)|(rename_i a1 a2 a3 a4 a5 a6 a7 a8 a9; first|exact (a4 _ _ _ _ rfl).elim|exact (a5 _ _ _ _ rfl).elim|exact (a6 _ _ _ _ rfl).elim)
theorem vX {π:gS}:∀ {xs ys:List PV} {vs:List Value},gl π xs=some ys->bJ w I ys β vs->bJ w I xs (iS β π) vs
 | [],ys,vs,h,hy=>by
  simp only[gl,Option.some.injEq] at h
  subst h
  cases vs with
  | nil=>simp only[bJ]
  | cons v vs=>simp only[bJ] at hy
 | x::xs,ys,vs,h,hy=>by
  simp only[gl] at h
  split at h
  ·rename_i y l h1 h2
   cases h
   cases vs with
   | nil=>simp only[bJ] at hy
   | cons v vs =>
    simp only[bJ] at hy ⊢
    exact⟨qZ h1 hy.1,vX h2 hy.2⟩
  ·cases h
theorem GZ {π:gS} {x y:PV} {v:Value} (h:x.J' π=some y) (hy:y.Is w I β v):x.Is w I (iS β π) v:=by
 unfold PV.J' at h
 split at h
 ·rw[Option.map_eq_some_iff] at h
  obtain⟨l,hl,rfl⟩:=h
  simp only[PV.Is] at hy ⊢
  obtain⟨vs,rfl,hy⟩:=hy
  exact⟨vs,rfl,vX hl hy⟩
 ·rw[Option.map_eq_some_iff] at h
  obtain⟨l,hl,rfl⟩:=h
  simp only[PV.Is] at hy ⊢
  obtain⟨vs,rfl,hy⟩:=hy
  exact⟨vs,rfl,vX hl hy⟩
 ·cases h
 ·exact qZ h hy
def TM.ki (π:gS):TM->TM->Prop
 | _,.nil=>True
 | .nil,.node v l r=>(match v with
  | none=>True
  | some _=>False)/\TM.ki π .nil l/\TM.ki π .nil r
 | .node v l r,.node v' l' r'=>(match v' with
  | none=>True
  | some y=>bD v fun x=>bD (y.J' π) fun y=>Pw.ki x y)/\TM.ki π l l'/\TM.ki π r r'
def Md.beq:Md->Md->Bool
 | .w,.w=>true|.p,.p=>true|.r,.r=>true
 | _,_=>false
def BK.beq:BK->BK->Bool
 | .loc,.loc=>true|.arr,.arr=>true|.dyn,.dyn=>true|.mp,.mp=>true
 | _,_=>false
def Xn (cx:Ev.Cx) (π:gS) (b b':au):Prop:=bif Nat.beq b.ty b'.ty && Nat.beq b.size b'.size && Md.beq b.m b'.m && b.live then (match b.k,b'.k with
 | .loc,.loc=>bD (gl π b'.cs) fun cs=>pa z9 b.cs cs
 | .arr,.arr=>bD (gl π b'.cs) fun cs=>pa z9 b.cs cs
 | .dyn,.dyn=>b.cs=b'.cs
 | .mp,.mp=>b.cs=b'.cs
 | .arr,.dyn=>bD (Ev.gG cx b.ty) fun ag=>bif ag || Nat.beq b.size 1 then b.szK fun n=>bD (gg ag n (.stat b.cs)) fun es=>es=b'.cs else False
 | _,_=>False) else False
def stK (cx:Ev.Cx) (π:gS) (st:List au):List au->gS->Prop
 | [],[]=>True
 | b'::r,some m::π'=>(match b'.live with
  | true=>bD st[m]? fun b=>Xn cx π b b'
  | false=>True)/\stK cx π st r π'
 | b'::r,none::π'=>(match b'.k,b'.cs with
  | .dyn,[]=>bif Nat.blt 0 b'.size then True else False
  | _,_=>False)/\stK cx π st r π'
 | _,_=>False
def sg:gS->Bool
 | []=>true
 | none::π=>sg π
 | some m::π=>!(π.any fun x=>match x with
  | some k=>Nat.beq m k
  | none=>false) && sg π
def oA (rl:List Nat):Nat->Nat->gS->Bool
 | 0,_,_=>true
 | n+1,l,some m::π=>(Nat.beq l m || kt l rl) && oA rl n (l+1) π
 | n+1,l,none::π=>kt l rl && oA rl n (l+1) π
 | _+1,_,[]=>false
def ee (cx:Ev.Cx) (π:gS) (s s':aV):Prop :=
 s'.n=s.n/\s'.base=s.base/\s'.rl=s.rl/\(bif sg π && oA s.rl s.base 0 π then True else False)/\stK cx π s.st s'.st π/\TM.ki π s.t s'.t
theorem TM.e9 {π:gS}:∀ {t t':TM} {n:Nat} {y:PV},TM.ki π t t'->t'.get n=some y->∃ x z,t.get n=some x/\y.J' π=some z/\Pw.ki x z
 | _,.nil,n,y,_,hy=>by cases hy
 | .nil,.node v l r,n,y,h,hy=>by
  exfalso
  have key:∀ (t':TM),TM.ki π .nil t'->∀ n y,t'.get n=some y->False:=by
   intro t'
   induction t' with
   | nil=>intro _ n y hy; cases hy
   | node v l r ihl ihr =>
    intro h n y hy
    obtain⟨h1,h2,h3⟩:=h
    cases v with
    | some _=>exact h1.elim
    | none =>
     simp only[TM.get] at hy
     cases h0:Nat.beq n 0<;>rw[h0] at hy
     ·cases h1:Nat.beq (n % 2) 1<;>rw[h1] at hy
      ·exact ihr h3 _ _ hy
      ·exact ihl h2 _ _ hy
     ·cases hy
  exact key _ h n y hy
 | .node v l r,.node v' l' r',n,y,h,hy=>by
  obtain⟨h1,h2,h3⟩:=h
  simp only[TM.get] at hy ⊢
  cases h0:Nat.beq n 0<;>rw[h0] at hy
  ·cases hp:Nat.beq (n % 2) 1<;>rw[hp] at hy
   ·exact TM.e9 h3 hy
   ·exact TM.e9 h2 hy
  ·cases v' with
   | none=>cases hy
   | some y' =>
    cases hy
    obtain⟨x,hx,h1⟩:=az h1
    obtain⟨z,hz,h1⟩:=az h1
    exact⟨x,z,hx,hz,h1⟩
theorem Md.nF {m n:Md} (h:Md.beq m n=true):m=n:=by cases m<;>cases n<;>first|rfl|cases h
theorem AE {cx:Ev.Cx} {OB:gS} {st:List au}:∀ {dY:List au} {π:gS},stK cx OB st dY π->π.length=dY.length/\∀ (l:Nat) (b':au),dY[l]?=some b'->b'.live=true->(∃ (m:Nat) (b:au),π[l]?=some (some m)/\st[m]?=some b/\Xn cx OB b b')\/(π[l]?=some none/\b'.k = .dyn/\b'.cs = []/\0 < b'.size)
 | [],[],_=>⟨rfl,fun l b' hl=>by simp at hl⟩
 | b0::r,some m::π,h=>by
  obtain⟨h1,h2⟩:=h
  obtain⟨J0,Kj⟩:=AE h2
  refine⟨by simp[J0],fun l b' hl aH=>?_⟩
  cases l with
  | zero =>
   simp at hl; subst hl
   rw[aH] at h1
   obtain⟨b,hb,h1⟩:=az h1
   exact .inl ⟨m,b,rfl,hb,h1⟩
  | succ l=>simpa using Kj l b' (by simpa using hl) aH
 | b0::r,none::π,h=>by
  obtain⟨h1,h2⟩:=h
  obtain⟨J0,Kj⟩:=AE h2
  refine⟨by simp[J0],fun l b' hl aH=>?_⟩
  cases l with
  | zero =>
   simp at hl; subst hl
   split at h1
   ·rename_i hk hc
    obtain⟨hb,_⟩:=bp h1
    exact .inr ⟨rfl,hk,hc,Nat.le_of_ble_eq_true hb⟩
   ·exact h1.elim
  | succ l=>simpa using Kj l b' (by simpa using hl) aH
 | [],_::_,h=>h.elim
 | _::_,[],h=>h.elim
theorem pB:∀ {π:gS},sg π=true->∀ (l l' m:Nat),π[l]?=some (some m)->π[l']?=some (some m)->l=l'
 | [],_,l,_,_,h,_=>by simp at h
 | none::π,hn,l,l',m,h,h'=>by
  cases l with
  | zero=>simp at h
  | succ l=>cases l' with
   | zero=>simp at h'
   | succ l'=>rw[pB (π:=π) hn l l' m (by simpa using h) (by simpa using h')]
 | some k::π,hn,l,l',m,h,h'=>by
  simp only[sg,Bool.and_eq_true,Bool.not_eq_true',List.any_eq_false] at hn
  have no:∀ l,π[l]?=some (some k)->False:=fun l hl=>by
   have:=hn.1 _ (List.mem_of_getElem? hl)
   simp at this
  cases l with
  | zero =>
   simp at h; subst h
   cases l' with
   | zero=>rfl
   | succ l'=>exact (no l' (by simpa using h')).elim
  | succ l =>
   cases l' with
   | zero=>simp at h'; subst h'; exact (no l (by simpa using h)).elim
   | succ l'=>rw[pB (π:=π) hn.2 l l' m (by simpa using h) (by simpa using h')]
theorem pC {rl:List Nat}:∀ {n l:Nat} {π:gS},oA rl n l π=true->n<=π.length
 | 0,_,_,_=>Nat.zero_le _
 | n+1,l,some m::π,h=>by
  simp only[oA,Bool.and_eq_true] at h
  simpa using pC h.2
 | n+1,l,none::π,h=>by
  simp only[oA,Bool.and_eq_true] at h
  simpa using pC h.2
 | _+1,_,[],h=>by cases h
theorem si {rl:List Nat}:∀ {n l:Nat} {π:gS},oA rl n l π=true->∀ i,i < n->(π[i]?=some (some (l+i))\/(l+i)∈rl)
 | 0,_,_,_,i,hi=>by omega
 | n+1,l,some m::π,h,i,hi=>by
  simp only[oA,Bool.and_eq_true,Bool.or_eq_true] at h
  cases i with
  | zero=>exact h.1.imp (fun e=>by rw[← Nat.eq_of_beq_eq_true e]; rfl) dJ.1
  | succ i =>
   have:=si h.2 i (by omega)
   rw[show l+1+i=l+(i+1) by omega] at this
   simpa using this
 | n+1,l,none::π,h,i,hi=>by
  simp only[oA,Bool.and_eq_true] at h
  cases i with
  | zero=>exact .inr (dJ.1 h.1)
  | succ i =>
   have:=si h.2 i (by omega)
   rw[show l+1+i=l+(i+1) by omega] at this
   simpa using this
 | _+1,_,[],h,_,_=>by cases h
end
section
variable {w w':World} {I I':Nat->Prop} {β aN:ay} {G:Gx} {s:aV} {a:Act} {st dY:List au}
theorem iL {cs ds:List PV} {arr:Array Value} {o:Nat} (h:pa z9 cs ds) (hc:bB w I β cs arr o):bB w I β ds arr o:=by
 have key:∀ (cs ds:List PV) (o:Nat),pa z9 cs ds->bB w I β cs arr o->bB w I β ds arr o:=by
  intro cs
  induction cs with
  | nil=>intro ds o h hc; cases ds with
   | nil=>exact hc
   | cons _ _=>exact h.elim
  | cons c cs ih =>
   intro ds o h hc
   cases ds with
   | nil=>exact h.elim
   | cons d ds =>
    intro i x hx
    cases i with
    | zero =>
     simp at hx; subst hx
     obtain⟨v,hv,hi,h1⟩:=hc 0 c rfl
     exact⟨v,hv,se h.1 w I β v hi,h1⟩
    | succ i =>
     have:=ih ds (o+1) h.2 (fun j y hy=>by
      obtain⟨v,hv,h1⟩:=hc (j+1) y (by simpa using hy)
      exact⟨v,by rw[show o+1+j=o+(j+1) by omega]; exact hv,h1⟩) i x (by simpa using hx)
     obtain⟨v,hv,h1⟩:=this
     exact⟨v,by rw[show o+(i+1)=o+1+i by omega]; exact hv,h1⟩
 exact key cs ds o h hc
theorem sj {π:gS} {cs ds:List PV} {arr:Array Value} {o:Nat} (h:gl π ds=some cs) (hc:bB w I β cs arr o):bB w I (iS β π) ds arr o:=by
 have key:∀ (ds cs:List PV) (o:Nat),gl π ds=some cs->bB w I β cs arr o->bB w I (iS β π) ds arr o:=by
  intro ds
  induction ds with
  | nil=>intro cs o _ _ i c hc; simp at hc
  | cons d ds ih =>
   intro cs o h hc
   simp only[gl] at h
   split at h
   ·rename_i y l h1 h2
    cases h
    intro i x hx
    cases i with
    | zero =>
     simp at hx; subst hx
     obtain⟨v,hv,hi,h3⟩:=hc 0 y rfl
     exact⟨v,hv,qZ h1 hi,h3⟩
    | succ i =>
     have:=ih l (o+1) h2 (fun j y hy=>by
      obtain⟨v,hv,h1⟩:=hc (j+1) y (by simpa using hy)
      exact⟨v,by rw[show o+1+j=o+(j+1) by omega]; exact hv,h1⟩) i x (by simpa using hx)
     obtain⟨v,hv,h1⟩:=this
     exact⟨v,by rw[show o+(i+1)=o+1+i by omega]; exact hv,h1⟩
   ·cases h
 exact key ds cs o h hc
theorem mu {r:PV->PV->Prop}:∀ {cs ds:List PV},pa r cs ds->cs.length=ds.length
 | [],[],_=>rfl
 | _::_,_::_,h=>by simp[mu h.2]
 | [],_::_,h=>h.elim
 | _::_,[],h=>h.elim
theorem yc {π:gS}:∀ {ds cs:List PV},gl π ds=some cs->ds.length=cs.length
 | [],cs,h=>by simp only[gl,Option.some.injEq] at h; subst h; rfl
 | d::ds,cs,h=>by
  simp only[gl] at h
  split at h
  ·rename_i y l h1 h2
   cases h; simp[yc h2]
  ·cases h
theorem da (hO:Ev.fY G.cx) {π:gS} {s s':aV} (h:ee G.cx π s s'):Sub G s s':=by
 obtain⟨hn,B_,Oq,FU,z7,ht⟩:=h
 obtain⟨FU,_⟩:=bp FU
 simp only[Bool.and_eq_true] at FU
 obtain⟨FU,DU⟩:=FU
 obtain⟨hπl,oh⟩:=AE z7
 have hinj:=pB FU
 have hbl:=pC DU
 have DU:=si DU
 intro I β a w hR
 have hH:aE I (iS β π) s'.st w:=by
  refine⟨fun l hl=>by unfold iS; rw[List.getElem?_eq_none (by omega)],fun l b' hl aH=>?_⟩
  rcases oh l b' hl aH with ⟨m,b,J_,hb,hk⟩|⟨J_,hk,hc,fA⟩
  ·obtain⟨hc,hk⟩:=bp hk
   simp only[Bool.and_eq_true] at hc
   obtain⟨⟨⟨GO,fA⟩,hm⟩,FV⟩:=hc
   have GO:=Nat.eq_of_beq_eq_true GO
   have fA:=Nat.eq_of_beq_eq_true fA
   have hm:=Md.nF hm
   obtain⟨p,hp,hB⟩:=hR.heap.gA m b hb FV
   have own:∀ {g:Nat} {fr:Nat × Nat},Own I β s.st m g fr b->Own I (iS β π) s'.st l g fr b':=fun ho=>by
    refine⟨fun hr=>?_,fun hr=>ho.2 (by rw[hm]; exact hr)⟩
    obtain⟨h1,h2,h3⟩:=ho.1 (by rw[hm]; exact hr)
    refine⟨h1,h2,fun l2 b2 dt fM bS p2 g2 o2 iv ir=>?_⟩
    rcases oh l2 b2 fM bS with ⟨m2,b3,KP,kv,hk3⟩|⟨KP,_⟩
    ·rw[cG KP] at iv
     obtain⟨hc3,_⟩:=bp hk3
     simp only[Bool.and_eq_true] at hc3
     exact h3 m2 b3 (fun e=>dt (by subst e; exact hinj l2 l _ KP J_)) kv hc3.2 p2 g2 o2 iv ir
    ·rw[jR KP] at iv
     cases iv; cases ir
   refine⟨p,by rw[cG J_]; exact hp,?_⟩
   split at hk
   ·rename_i KQ vY
    rw[KQ] at hB
    rw[vY]
    obtain⟨g,o,arr,ty,fr,h1,h2,h3,ho⟩:=hB
    obtain⟨cs,ja,hk⟩:=az hk
    exact⟨g,o,arr,ty,fr,h1,h2,sj ja (iL hk h3),own ho⟩
   ·rename_i KQ vY
    rw[KQ] at hB
    rw[vY]
    obtain⟨g,arr,fr,h1,h2,h3,ho,h4,h5,h6,h7,h8⟩:=hB
    obtain⟨cs,ja,hk⟩:=az hk
    exact⟨g,arr,fr,h1,by rw[← GO]; exact h2,sj ja (iL hk h3),own ho,by rw[yc ja,← mu hk,← fA]; exact h4,h5,h6,by rw[← fA]; exact h7,by rw[← fA]; exact h8⟩
   ·rename_i KQ vY
    rw[KQ] at hB
    rw[vY]
    obtain⟨⟨h1,h2,h3,h4⟩,hB⟩:=hB
    refine⟨⟨by rw[← fA]; exact h1,by rw[← hk]; exact h2,h3,h4⟩,?_⟩
    rcases hB with h|⟨g,arr,fr,h5,h6,h7,ho,h8⟩
    ·exact .inl h
    ·exact .inr ⟨g,arr,fr,h5,by rw[← GO]; exact h6,by rw[← hk,← fA]; exact h7,own ho,by rw[← fA]; exact h8⟩
   ·rename_i KQ vY
    rw[KQ] at hB
    rw[vY]
    obtain⟨g,h1,h2,ho⟩:=hB
    exact⟨g,h1,by rw[← hk]; exact h2,own ho⟩
   ·rename_i KQ vY
    rw[KQ] at hB
    rw[vY]
    obtain⟨g,arr,fr,h1,h2,h3,ho,h4,h5,h6,h7,h8⟩:=hB
    obtain⟨ag,Ky,hk⟩:=az hk
    obtain⟨G0,hk⟩:=bp hk
    rw[au.Ah] at hk
    obtain⟨es,p9,hk⟩:=az hk
    simp only[Bool.or_eq_true] at G0
    have tO:(arr.toList.take (p.len*b.size)).length=p.len*b.size:=by
     rw[List.length_take,Array.length_toList,h7]
     have:=Nat.mul_le_mul_right b.size h5
     omega
    have rX:qa w I β b.size (.stat b.cs) (arr.toList.take (p.len*b.size)):=by
     refine⟨by rw[tO,h4],fun j c hj=>?_⟩
     obtain⟨u,hu,h9⟩:=h3 j c hj
     have vP:j < p.len*b.size:=by rw[← h4]; exact (List.getElem?_eq_some_iff.1 hj).1
     exact⟨u,by rw[List.getElem?_take,if_pos vP]; simpa using hu,h9⟩
    obtain⟨e1,e2⟩:=gI h8 (G0.imp id Nat.eq_of_beq_eq_true) p9 rX tO
    refine⟨⟨by rw[← fA]; exact h8,by rw[← hk]; exact e1,h5,h6⟩,.inr ⟨g,arr,fr,h1,by rw[← GO]; exact h2,?_,own ho,by rw[← fA]; exact h7⟩⟩
    rw[← hk,← fA]
    refine e2.at (fun j v hj=>?_) (fun _ h=>h) (fun _ _=>rfl)
    have:=om h2 0 (p.len*b.size) j v (by simpa using hj)
    simpa using this
   ·exact hk.elim
  ·refine⟨_,jR J_,?_⟩
   rw[hk]
   exact⟨⟨fA,by rw[hc]; rfl,Nat.le_refl _,Nat.zero_le _⟩,.inl ⟨rfl,rfl⟩⟩
 refine⟨I,iS β π,⟨by rw[hn]; exact hR.small,hR.defers,by rw[hn]; exact hR.size,?_,fun t y hy=>?_,hH,hR.av⟩,⟨⟨rfl,rfl,rfl,Nat.le_refl _,fun _ _ _=>rfl,fun g hg ⟨l,b',p,o,h1,h2,h3,h4,h5⟩=>?_,fun _ h=>h,fun _ _ h=>.inl h⟩,B_,Oq,hn,fun l hl hnr=>?_⟩⟩
 ·rw[B_]
  rw[← hπl]; exact hbl
 ·obtain⟨x,z,hx,hz,hle⟩:=TM.e9 ht hy
  obtain⟨v,hv,hi⟩:=hR.get t x hx
  exact⟨v,hv,GZ hz (e9 hle w I β v hi)⟩
 ·rcases oh l b' h1 h2 with ⟨m,b,J_,hb,hk⟩|⟨J_,_⟩
  ·obtain⟨hc,_⟩:=bp hk
   simp only[Bool.and_eq_true] at hc
   rw[cG J_] at h4
   exact⟨m,b,p,o,hb,hc.2,by rw[Md.nF hc.1.2]; exact h3,h4,h5⟩
  ·rw[jR J_] at h4
   cases h4; cases h5
 ·rcases DU l hl with h|h
  ·rw[Nat.zero_add] at h
   exact cG h
  ·rw[Nat.zero_add] at h; exact absurd h hnr
def frO (v:Option PV) (q:Option PV->Prop):Prop:=match v with
 | none=>q none
 | some x=>fc x fun x=>q (some x)
def OC:TM->(TM->Prop)->Prop
 | .nil,q=>q .nil
 | .node v l r,q=>frO v fun v=>OC l fun l=>OC r fun r=>q (.node v l r)
def Xo (b:au) (q:au->Prop):Prop:=match b with
 | ⟨.loc,ty,n,m,live,cs⟩=>eT cs fun cs=>q ⟨.loc,ty,n,m,live,cs⟩
 | ⟨.arr,ty,n,m,live,cs⟩=>eT cs fun cs=>q ⟨.arr,ty,n,m,live,cs⟩
 | ⟨.dyn,ty,n,m,live,cs⟩=>q ⟨.dyn,ty,n,m,live,cs⟩
 | ⟨.mp,ty,n,m,live,cs⟩=>q ⟨.mp,ty,n,m,live,cs⟩
def yd:List au->(List au->Prop)->Prop
 | [],q=>q []
 | b::st,q=>Xo b fun b=>yd st fun st=>q (b::st)
def V6 (s:aV) (q:aV->Prop):Prop:=match s with
 | ⟨n,t,st,b,rl⟩=>OC t fun t=>yd st fun st=>q ⟨n,t,st,b,rl⟩
theorem AF:∀ {t:TM} {q:TM->Prop},OC t q->q t
 | .nil,_,h=>h
 | .node v l r,q,h=>by
  have h1:OC l fun l=>OC r fun r=>q (.node v l r):=by
   cases v with
   | none=>exact h
   | some x=>exact Gt (x:=x) (q:=fun x=>OC l fun l=>OC r fun r=>q (.node (some x) l r)) h
  have h2:=AF h1
  exact AF (q:=fun r=>q (.node v l r)) h2
theorem AG {b:au} {q:au->Prop} (h:Xo b q):q b:=by
 obtain⟨k,ty,n,m,live,cs⟩:=b
 cases k
 ·exact cO (q:=fun cs=>q ⟨.loc,ty,n,m,live,cs⟩) h
 ·exact cO (q:=fun cs=>q ⟨.arr,ty,n,m,live,cs⟩) h
 ·exact h
 ·exact h
theorem oB:∀ {st:List au} {q:List au->Prop},yd st q->q st
 | [],_,h=>h
 | b::st,q,h=>oB (q:=fun st=>q (b::st)) (AG h)
theorem sk {q:aV->Prop} (h:V6 s q):q s:=by
 obtain⟨n,t,st,b,rl⟩:=s
 have h1:=AF h
 exact oB (q:=fun st=>q ⟨n,t,st,b,rl⟩) h1
def TM.DV (v:Option PV):Nat->TM->Nat->TM
 | 0,t,_=>t
 | f+1,.nil,n=>bif Nat.beq n 0 then .node v .nil .nil else bif Nat.beq (n % 2) 1 then .node none (TM.DV v f .nil ((n - 1) / 2)) .nil else .node none .nil (TM.DV v f .nil ((n - 1) / 2))
 | f+1,.node u l r,n=>bif Nat.beq n 0 then .node v l r else bif Nat.beq (n % 2) 1 then .node u (TM.DV v f l ((n - 1) / 2)) r else .node u l (TM.DV v f r ((n - 1) / 2))
def OD:List Oper->List Nat
 | []=>[]
 | o::r=>(match o.dst with
  | some d=>[d]
  | none=>[])++OD r
def sn:Code->List Nat
 | .region _ ops _=>OD ops.toList
 | .seq a b=>sn a++sn b
 | .cond _ a b=>sn a++sn b
 | .block _ c=>sn c
 | .loop c=>sn c
 | .scope c=>sn c
 | _=>[]
def sq:List Nat->TM->TM
 | [],t=>t
 | d::ds,t=>sq ds (t.DV none 24 d)
def ig:List (Nat × PV)->TM->TM
 | [],t=>t
 | (d,x)::r,t=>ig r (t.DV (some x) 24 d)
def aV.head (s:aV) (c:Code) (vs:List (Nat × PV)) (st:List au):aV:=match s with
 | ⟨n,t,_,b,rl⟩=>⟨n,ig vs (sq (sn c) t),st,b,rl⟩
def Qi:Nat->List au->gS
 | _,[]=>[]
 | n,_::r=>some n::Qi (n+1) r
theorem SW.loop (hG:nA G) (R:List (Nat × aG)) {α:Type} {c:Code} {Q:X->aV->Prop} (hc:cp R c=true) (vs:α->List (Nat × PV)) (st:α->List au) (μ:α->Nat) (x0:α) (N:Nat) (OB:gS) (h0:ee G.cx OB s (s.head c (vs x0) (st x0)))
  (h:∀ x,V6 (s.head c (vs x) (st x)) (pw G R N c (sd (fun s'=>∃ y π,μ y < μ x/\ee G.cx π s' (s.head c (vs y) (st y))) Q))):SW G (.loop c) Q s :=
 SW.inv hG (fun x=>s.head c (vs x) (st x)) μ (N:=N) hc x0 (da hG.ok h0) (fun x s'=>∃ y π,μ y < μ x/\ee G.cx π s' (s.head c (vs y) (st y))) (fun x s' ⟨y,π,hy,hs⟩=>⟨y,hy,da hG.ok hs⟩) fun x=>sk (h x)
def AH:List PV->Nat->TM->(TM->Prop)->Prop
 | [],_,t,k=>k t
 | x::xs,i,t,k=>fc x fun x=>t.vB (some x) 24 i fun t=>AH xs (i+1) t k
def OE (G:Gx) (s:aV) (r:ResultVar) (q:PV->Prop):Prop:=match r with
 | .tmp t=>bD (s.t.get t) fun x=>(match x with
  | .tup _=>False
  | x=>q x)
 | .cell a t=>bD (s.t.get a) fun x=>uw G s.st t x q
def Ca (G:Gx) (s:aV):List ResultVar->(List PV->Prop)->Prop
 | [],q=>q []
 | r::rs,q=>OE G s r fun x=>Ca G s rs fun xs=>q (x::xs)
def KR (G:Gx) (s:aV) (rs:List ResultVar) (q:PV->Prop):Prop:=match rs with
 | [.tmp t]=>bD (s.t.get t) q
 | rs=>Ca G s rs fun l=>(match l with
  | [x]=>q x
  | l=>q (.tup l))
def DW:Md->Bool
 | .p=>false
 | _=>true
def DX (r:PV->(PV->Prop)->Prop):List PV->(List PV->Prop)->Prop
 | [],q=>q []
 | c::cs,q=>r c fun c=>DX r cs fun cs=>q (c::cs)
def FW (cx:Ev.Cx) (st:List au) (base:Nat):Nat->PV->(PV->Prop)->Prop
 | 0,_,_=>False
 | n+1,x,q=>match x with
  | .wref l=>bif Nat.blt l base then q (.wref l) else bD st[l]? fun b=>bif b.live && DW b.m then (match b.k with
   | .arr=>DX (FW cx st base n) b.cs fun cs=>bD (Ev.gG cx b.ty) fun ag=>bif ag || Nat.beq b.size 1 then b.szK fun n=>bD (gg ag n (.stat cs)) fun es=>q (.sl n es) else False
   | .dyn=>q (.sl b.size b.cs)
   | _=>False) else False
  | .agg cs=>DX (FW cx st base n) cs fun cs=>q (.agg cs)
  | .tup cs=>DX (FW cx st base n) cs fun cs=>q (.tup cs)
  | .clo f cs=>DX (FW cx st base n) cs fun cs=>q (.clo f cs)
  | x=>bif x.dx.all (fun l=>Nat.blt l base) then q x else False
def ye (base:Nat) (b:au):Bool:=match b.k with
 | .dyn=>true
 | .mp=>true
 | _=>b.cs.all fun c=>c.dx.all fun l=>Nat.blt l base
def DY (G:Gx) (rs:List ResultVar) (base:Nat) (K:PV->List au->Prop) (x:X) (s:aV):Prop:=match x with
 | .exit _=>False
 | _=>KR G s rs fun r=>FW G.cx s.st base 8 r fun r=>bif (s.st.take base).all (ye base) then yd (s.st.take base) fun S=>∃ r',AD r r'/\K r' S else False
def Qj (G:Gx) (R:List (Nat × aG)) (N:Nat) (fn:Func) (c:Code) (args:List PV) (S:List au) (rl:List Nat) (K:PV->List au->Prop):Prop :=
 bif Nat.ble args.length fn.ntmps && Nat.ble fn.ntmps 16777215 && !(fn.name == "runtime.NumGoroutine") then
  lD S 0 fun b=>AH args 0 .nil fun t=>pw G R N c (DY G fn.results.toList b K) ⟨fn.ntmps,t,S,b,rl⟩ else False
section
variable {w w':World} {I I':Nat->Prop} {β aN:ay} {G:Gx} {s:aV} {a:Act} {st dY:List au}
theorem oC:∀ {xs:List PV} {i:Nat} {t:TM} {k:TM->Prop},AH xs i t k->∃ t',k t'/\∀ n x,t'.get n=some x->(∃ j,n=i+j/\xs[j]?=some x)\/t.get n=some x
 | [],i,t,k,h=>⟨t,h,fun n x hx=>.inr hx⟩
 | x::xs,i,t,k,h=>by
  obtain⟨t1,h1,ht1⟩:=TM.qY (Gt h)
  obtain⟨t',hk,B4⟩:=oC h1
  refine⟨t',hk,fun n y hy=>?_⟩
  rcases B4 n y hy with ⟨j,hj,hx⟩|hy
  ·exact .inl ⟨j+1,by omega,by simpa using hx⟩
  ·rw[ht1] at hy
   split at hy
   ·rename_i hn
    cases hy
    exact .inl ⟨0,by omega,rfl⟩
   ·exact .inr hy
def KS (a:Act) (rv:ResultVar):Sem Value:=match rv with
 | .tmp t=>pure (a.tmps.getD t Go.undef)
 | .cell b t=>do loadVar t (← asAddr (a.tmps.getD b Go.undef))
theorem G1 (hG:nA G) (hR:Rel G I β s a w) {r:ResultVar} {q:PV->Prop} (h:OE G s r q):∃ x v,q x/\x.Is w I β v/\(KS a r).run G.cx.P w = .ok v w:=by
 cases r with
 | tmp t =>
  obtain⟨x,hx,h⟩:=az h
  obtain⟨v,hv,hi⟩:=hR.get t x hx
  have hq:q x:=by
   split at h
   ·exact h.elim
   ·exact h
  exact⟨x,v,hq,hi,by simp[KS,hv]⟩
 | cell b t =>
  obtain⟨x,hx,h⟩:=az h
  obtain⟨v,hv,hi⟩:=hR.get b x hx
  obtain⟨z,r,g,hz,P3,_,ck⟩:=rT hG.ok hR.heap hR.av h hi
  have ck:=ck w rfl
  refine⟨z,r,hz,P3,?_⟩
  have hptr:∃ ad,v = .pointer (some ad):=by
   unfold uw at h
   split at h<;>try simp only[PV.Is] at hi
   ·obtain⟨_,_,_,_,_,rfl⟩:=hi; exact⟨_,rfl⟩
   ·obtain⟨_,_,_,_,_,rfl⟩:=hi; exact⟨_,rfl⟩
   ·obtain⟨_,_,_,_,_,rfl⟩:=hi; exact⟨_,rfl⟩
   ·obtain⟨_,_,rfl,_⟩:=hi; exact⟨_,rfl⟩
   ·exact⟨_,hi⟩
   ·exact⟨_,hi⟩
   ·exact h.elim
  obtain⟨ad,rfl⟩:=hptr
  simp only[Instr.loadAt,Instr.sureAddr,Sem.run_bind,Sem.run_pure,Result.andThen_ok] at ck
  simp[KS,hv,asAddr,ck]
theorem yf (hG:nA G) (hR:Rel G I β s a w):∀ {rs:List ResultVar} {q:List PV->Prop},Ca G s rs q->∃ xs vs,q xs/\bJ w I xs β vs/\(rs.mapM (KS a)).run G.cx.P w = .ok vs w
 | [],q,h=>⟨[],[],h,by simp only[bJ],rfl⟩
 | r::rs,q,h=>by
  obtain⟨x,v,h,hx,hr⟩:=G1 hG hR h
  obtain⟨xs,vs,h,qU,hrs⟩:=yf hG hR h
  exact⟨x::xs,v::vs,h,by simp only[bJ]; exact⟨hx,qU⟩,by simp[List.mapM_cons,hr,hrs]⟩
theorem Cb (hG:nA G) (hR:Rel G I β s a w) {fn:Func} {q:PV->Prop} (h:KR G s fn.results.toList q):∃ x v,q x/\x.Is w I β v/\(results fn a.tmps).run G.cx.P w = .ok v w:=by
 have key:∀ {q':List PV->Prop},Ca G s fn.results.toList q'->(∀ l,q' l->match l with
   | [x]=>q x
   | l=>q (.tup l))->∃ x v,q x/\x.Is w I β v/\(results fn a.tmps).run G.cx.P w = .ok v w:=by
  intro q' h hq
  obtain⟨xs,vs,h,qU,ck⟩:=yf hG hR h
  have vZ:(results fn a.tmps).run G.cx.P w = .ok (if h:vs.toArray.size=1 then vs.toArray[0] else .tuple vs.toArray) w:=by
   unfold results
   rw[Array.mapM_eq_mapM_toList]
   simp only[Sem.run_bind,Sem.run_map]
   erw [ck]
   rfl
  have hq:=hq xs h
  match xs,vs,qU,hq,vZ with
  | [],[],_,hq,vZ=>exact⟨_,_,hq,by simp only[PV.Is]; exact⟨#[],rfl,by simp only[bJ]⟩,vZ⟩
  | [x],[v],qU,hq,vZ=>exact⟨x,v,hq,by simp only[bJ] at qU; exact qU.1,vZ⟩
  | x::x'::xs,v::v'::vs,qU,hq,vZ=>exact⟨_,_,hq,by simp only[PV.Is]; exact⟨_,rfl,by simpa using qU⟩,by rw[vZ,dif_neg (by simp)]⟩
  | [],_::_,qU,_,_=>simp only[bJ] at qU
  | _::_,[],qU,_,_=>simp only[bJ] at qU
  | [_],_::_::_,qU,_,_=>simp[bJ] at qU
  | _::_::_,[_],qU,_,_=>simp[bJ] at qU
 unfold KR at h
 split at h
 ·rename_i t heq
  obtain⟨x,hx,h⟩:=az h
  obtain⟨v,hv,hi⟩:=hR.get t x hx
  refine⟨x,v,h,hi,?_⟩
  have GJ:fn.results = #[.tmp t]:=by rw[← Array.toList_inj]; simpa using heq
  simp[results,GJ,hv]
 ·refine key h fun l hl=>?_
  split
  ·exact hl
  ·rename_i dt
   split at hl
   ·rename_i x; exact absurd rfl (dt x)
   ·exact hl
end
end
section
variable {w w':World} {I I':Nat->Prop} {β aN:ay} {G:Gx} {s:aV} {a:Act} {st dY:List au}
def sr (I:Nat->Prop) (β:ay) (st:List au) (base:Nat) (g:Nat):Prop:=I g\/∃ l b p o,base<=l/\st[l]?=some b/\b.live=true/\b.m = .w/\β l=some p/\p.a=some (g,o)
def qE (β:ay) (base:Nat):ay:=fun l=>if l < base then β l else none
theorem ss {x:PV} {base:Nat} {v:Value} (h:x.dx.all (fun l=>Nat.blt l base)=true) (hx:x.Is w I β v) (hI:∀ g,I g->I' g):x.Is w I' (qE β base) v :=
 PV.Is.mono hI (fun _ _=>rfl) x β _ v (fun l p hl hp=>by
  rw[List.all_eq_true] at h
  unfold qE
  rw[if_pos (show l < base from Nat.le_of_ble_eq_true (h l hl))]; exact hp) hx
theorem oD {r:PV->(PV->Prop)->Prop} (hr:∀ x q v,r x q->x.Is w I β v->∃ y,q y/\y.Is w I' aN v):∀ {cs:List PV} {vs:List Value} {q:List PV->Prop},DX r cs q->bJ w I cs β vs->∃ ds,q ds/\bJ w I' ds aN vs
 | [],[],q,h,_=>⟨[],h,by simp only[bJ]⟩
 | c::cs,v::vs,q,h,hx=>by
  simp only[bJ] at hx
  obtain⟨y,h,hy⟩:=hr c _ v h hx.1
  obtain⟨ds,h,hd⟩:=oD hr h hx.2
  exact⟨y::ds,h,by simp only[bJ]; exact⟨hy,hd⟩⟩
 | [],_::_,_,_,hx=>by simp only[bJ] at hx
 | _::_,[],_,_,hx=>by simp only[bJ] at hx
theorem G2 {cx:Ev.Cx} (hh:aE I β st w) {base:Nat}:∀ (n:Nat) (x:PV) (q:PV->Prop) (v:Value),FW cx st base n x q->x.Is w I β v->∃ y,q y/\y.Is w (sr I β st base) (qE β base) v
 | 0,_,_,_,h,_=>h.elim
 | n+1,x,q,v,h,hx=>by
  have ih:=G2 (cx:=cx) hh (base:=base) n
  have hI:∀ g,I g->sr I β st base g:=fun g h=>.inl h
  unfold FW at h
  split at h
  ·rename_i l
   cases hl:Nat.blt l base
   case true =>
    rw[hl] at h
    exact⟨_,h,ss (by simp only[PV.dx,List.all_cons,List.all_nil,hl,Bool.and_true]) hx hI⟩
   case false =>
    rw[hl] at h
    have FV:base<=l:=by
     rcases Nat.lt_or_ge l base with h'|h'
     ·have:Nat.blt l base=true:=by unfold Nat.blt; exact Nat.ble_eq_true_of_le h'
      rw[this] at hl; cases hl
     ·exact h'
    obtain⟨b,hb,h⟩:=az h
    obtain⟨hc,h⟩:=bp h
    simp only[Bool.and_eq_true] at hc
    simp only[PV.Is] at hx
    obtain⟨p,hp,rfl⟩:=hx
    have tY:∀ {g o:Nat} {fr:Nat × Nat},p.a=some (g,o)->Own I β st l g fr b->sr I β st base g:=fun {g o fr} ha ho=>by
     cases hm:b.m with
     | w=>exact .inr ⟨l,b,p,o,FV,hb,hc.1,hm,hp,ha⟩
     | p=>rw[hm] at hc; cases hc.2
     | r=>exact .inl (ho.2 hm)
    split at h
    ·rename_i hk
     obtain⟨g,arr,fr,ha,hw,je,qX,fC,hlen,hle,rQ,has,iP⟩:=fT hh hb hc.1 hk hp
     have fA:p.len*b.size<=arr.size:=by rw[has]; exact Nat.mul_le_mul_right _ hle
     have tO:(arr.toList.take (p.len*b.size)).length=p.len*b.size:=by rw[List.length_take,Array.length_toList]; omega
     have nB:bJ w I b.cs β (arr.toList.take (p.len*b.size)):=bJ.of (by rw[tO,hlen]) fun i c hc=>by
      obtain⟨u,hu,hi,_⟩:=qX i c hc
      have vP:i < p.len*b.size:=by rw[← hlen]; exact (List.getElem?_eq_some_iff.1 hc).1
      exact⟨u,by rw[List.getElem?_take,if_pos vP]; simpa using hu,hi⟩
     obtain⟨ds,h,hds⟩:=oD (fun x q v=>ih x q v) h nB
     obtain⟨ag,Ky,h⟩:=az h
     obtain⟨G0,h⟩:=bp h
     rw[au.Ah] at h
     obtain⟨es,p9,h⟩:=az h
     simp only[Bool.or_eq_true] at G0
     have rX:qa w (sr I β st base) (qE β base) b.size (.stat ds) (arr.toList.take (p.len*b.size)):=by
      refine⟨by rw[hds.length],fun j c hj=>?_⟩
      obtain⟨u,hu,hi⟩:=hds.get hj
      refine⟨u,hu,hi,?_⟩
      have vP:j < b.cs.length:=by rw[nB.length,← hds.length]; exact (List.getElem?_eq_some_iff.1 hj).1
      obtain⟨u2,hu2,_,h1⟩:=qX j _ (List.getElem?_eq_getElem vP)
      rw[List.getElem?_take] at hu
      split at hu
      ·have:arr[0+j]?=some u:=by simpa using hu
       rw[this] at hu2; cases hu2; exact h1
      ·cases hu
     obtain⟨e1,e2⟩:=gI iP (G0.imp id Nat.eq_of_beq_eq_true) p9 rX tO
     have G3:cr w (sr I β st base) es b.size g 0:=e2.at (fun j v hj=>by
      have:=om je 0 (p.len*b.size) j v (by simpa using hj)
      simpa using this) (fun _ h=>h) (fun _ _=>rfl)
     refine⟨_,h,?_⟩
     simp only[PV.Is]
     refine⟨some ⟨g,0,none⟩,p.cap,by rw[hw,e1],by omega,by omega,fun g' o' e=>by cases e; exact G3,fun _=>⟨g,0,rfl,tY ha fC,iP⟩⟩
    ·rename_i hk
     obtain⟨iP,hlen,hle,rQ,oe⟩:=dE hh hb hc.1 hk hp
     refine⟨_,h,?_⟩
     simp only[PV.Is]
     rcases oe with ⟨ha,qW,hw⟩|⟨g,arr,fr,ha,hw,je,p9,fC,has⟩
     ·have:b.cs = []:=List.eq_nil_of_length_eq_zero (by omega)
      rw[this,hw]
      exact⟨none,0,rfl,Nat.le_refl _,Nat.zero_le _,(fun _ _ e=>by cases e),fun hn=>absurd rfl hn⟩
     ·exact⟨some ⟨g,0,none⟩,p.cap,by rw[hw,hlen],by omega,by omega,(fun g' o' e=>by cases e; exact cr.mono hI (fun _ _=>rfl) _ _ _ _ rfl p9),fun _=>⟨g,0,rfl,tY ha fC,iP⟩⟩
    ·exact h.elim
  ·simp only[PV.Is] at hx
   obtain⟨vs,rfl,hx⟩:=hx
   obtain⟨ds,h,hd⟩:=oD (fun x q v=>ih x q v) h hx
   exact⟨_,h,by simp only[PV.Is]; exact⟨vs,rfl,hd⟩⟩
  ·simp only[PV.Is] at hx
   obtain⟨vs,rfl,hx⟩:=hx
   obtain⟨ds,h,hd⟩:=oD (fun x q v=>ih x q v) h hx
   exact⟨_,h,by simp only[PV.Is]; exact⟨vs,rfl,hd⟩⟩
  ·simp only[PV.Is] at hx
   obtain⟨vs,rfl,hx⟩:=hx
   obtain⟨ds,h,hd⟩:=oD (fun x q v=>ih x q v) h hx
   exact⟨_,h,by simp only[PV.Is]; exact⟨vs,rfl,hd⟩⟩
  ·obtain⟨hu,h⟩:=bp h
   exact⟨_,h,ss hu hx hI⟩
theorem Spec.intro {f:FuncId} {args:List PV} {S:List au} {rl:List Nat} {K:PV->List au->Prop} (he:Ev.ia G.cx.P f) (h:∀ I β w vals,aE I β S w->dd G I w->bJ w I args β vals ->
  Calls G.cx.P f vals.toArray w fun e w'=>∃ v r S' I' aN,e = .returned v/\K r S'/\r.Is w' I' aN v/\aE I' aN S' w'/\dd G I' w'/\Ext I β S w I' aN S' w'/\S.length<=S'.length/\∀ l,l < S.length->l ∉ rl->aN l=β l):Spec G f args S rl K:=by
 unfold Spec; exact⟨he,h⟩
theorem Spec.run {f:FuncId} {args:List PV} {S:List au} {rl:List Nat} {K:PV->List au->Prop} (h:Spec G f args S rl K):Ev.ia G.cx.P f/\∀ I β w vals,aE I β S w->dd G I w->bJ w I args β vals ->
  Calls G.cx.P f vals.toArray w fun e w'=>∃ v r S' I' aN,e = .returned v/\K r S'/\r.Is w' I' aN v/\aE I' aN S' w'/\dd G I' w'/\Ext I β S w I' aN S' w'/\S.length<=S'.length/\∀ l,l < S.length->l ∉ rl->aN l=β l:=by
 unfold Spec at h; exact h
theorem Spec.mono {f:FuncId} {args:List PV} {S:List au} {rl:List Nat} {K K':PV->List au->Prop} (h:Spec G f args S rl K) (hK:∀ r S',K r S'->K' r S'):Spec G f args S rl K' :=
 Spec.intro h.run.1 fun I β w vals h1 h2 h3=>(h.run.2 I β w vals h1 h2 h3).mono fun e w' ⟨v,r,S',I',aN,h1,h2,h3⟩=>⟨v,r,S',I',aN,h1,hK r S' h2,h3⟩
theorem yg (hG:nA G) {fn:Func} {a':Act} {s' s0:aV} {S:List au} {rl:List Nat} {K:PV->List au->Prop} (V7:s0.st=S) (gw:s0.base=S.length) (sw:s0.rl=rl) (dp:Rel G I' aN s' a' w') (hg:bU I β s0 w I' aN s' w') (hq:DY G fn.results.toList S.length K .fL s'):∃ v,(results fn a'.tmps).run G.cx.P w' = .ok v w'/\∃ v',∃ r S' I' aN,Ending.returned v = .returned v'/\K r S'/\r.Is w' I' aN v'/\aE I' aN S' w'/\dd G I' w'/\Ext I β S w I' aN S' w'/\S.length<=S'.length/\∀ l,l < S.length->l ∉ rl->aN l=β l:=by
 obtain⟨r,v,hq,hr,ck⟩:=Cb hG dp hq
 obtain⟨y,hq,hy⟩:=G2 dp.heap 8 r _ v hq hr
 obtain⟨gx,hq⟩:=bp hq
 obtain⟨r',WS,hK⟩:=oB hq
 rw[List.all_eq_true] at gx
 have B_:s'.base=S.length:=hg.base.trans gw
 have hlen:S.length<=s'.st.length:=by have:=dp.base; rw[B_] at this; exact this
 have hI:∀ g,I' g->sr I' aN s'.st S.length g:=fun g h=>.inl h
 have v5:∀ (l:Nat) (b:au),(s'.st.take S.length)[l]?=some b->l < S.length/\s'.st[l]?=some b:=fun l b hb=>by
  rw[List.getElem?_take] at hb
  split at hb
  ·exact⟨‹_›,hb⟩
  ·cases hb
 have hHe:aE (sr I' aN s'.st S.length) (qE aN S.length) (s'.st.take S.length) w':=by
  refine⟨fun l hl=>?_,fun l b hb aH=>?_⟩
  ·unfold qE
   rw[if_neg (by simp at hl; omega)]
  ·obtain⟨hl,di⟩:=v5 l b hb
   have FV:=gx b (List.mem_of_getElem? hb)
   obtain⟨p,hp,hk⟩:=dp.heap.gA l b di aH
   have own:∀ {g:Nat} {o:Nat} {fr:Nat × Nat},p.a=some (g,o)->Own I' aN s'.st l g fr b->Own (sr I' aN s'.st S.length) (qE aN S.length) (s'.st.take S.length) l g fr b:=fun {g o fr} ha ho=>by
    refine⟨fun hr=>?_,fun hr=>hI g (ho.2 hr)⟩
    obtain⟨h1,h2,h3⟩:=ho.1 hr
    refine⟨h1,fun hE=>?_,fun l2 b2 dt fM bS p2 g2 o2 iv ir=>?_⟩
    ·rcases hE with hE|⟨l2,b2,p2,o2,k1,k2,k3,_,k5,k6⟩
     ·exact h2 hE
     ·exact h3 l2 b2 (by omega) k2 k3 p2 g o2 k5 k6 rfl
    ·obtain⟨hl2',dO⟩:=v5 l2 b2 fM
     unfold qE at iv
     rw[if_pos hl2'] at iv
     exact h3 l2 b2 dt dO bS p2 g2 o2 iv ir
   have cells:b.k.tN=true->∀ {arr:Array Value} {o:Nat},bB w' I' aN b.cs arr o->bB w' (sr I' aN s'.st S.length) (qE aN S.length) b.cs arr o:=fun hk {arr o} hc i c hi=>by
    obtain⟨u,hu,OF,h1⟩:=hc i c hi
    refine⟨u,hu,ss ?_ OF hI,h1⟩
    unfold ye at FV
    cases cP:b.k with
    | dyn=>rw[cP] at hk; cases hk
    | mp=>rw[cP] at hk; cases hk
    | loc=>rw[cP] at FV; rw[List.all_eq_true] at FV; exact FV c (List.mem_of_getElem? hi)
    | arr=>rw[cP] at FV; rw[List.all_eq_true] at FV; exact FV c (List.mem_of_getElem? hi)
   refine⟨p,by unfold qE; rw[if_pos hl]; exact hp,?_⟩
   split at hk
   ·rename_i cP
    obtain⟨g,o,arr,ty,fr,h1,h2,h3,ho⟩:=hk
    exact⟨g,o,arr,ty,fr,h1,h2,cells (by rw[cP]; decide) h3,own h1 ho⟩
   ·rename_i cP
    obtain⟨g,arr,fr,h1,h2,h3,ho,h4⟩:=hk
    exact⟨g,arr,fr,h1,h2,cells (by rw[cP]; decide) h3,own h1 ho,h4⟩
   ·obtain⟨h1,hk⟩:=hk
    refine⟨h1,?_⟩
    rcases hk with h|⟨g,arr,fr,h2,h3,h4,ho,h5⟩
    ·exact .inl h
    ·exact .inr ⟨g,arr,fr,h2,h3,cr.mono hI (fun _ _=>rfl) _ _ _ _ rfl h4,own h2 ho,h5⟩
   ·obtain⟨g,h1,h2,ho⟩:=hk
    exact⟨g,h1,h2,own h1 ho⟩
 have cI:∀ g,sr I' aN s'.st S.length g->g < w'.heap.size:=fun g hg=>by
  rcases hg with hg|⟨l,b,p,o,_,k2,k3,_,k5,k6⟩
  ·exact dp.av.av g hg
  ·exact dp.heap.dH ⟨l,b,p,o,k2,k3,k5,k6⟩
 have hMe:dd G (sr I' aN s'.st S.length) w':=⟨cI,fun g cs hgc=>by
  obtain⟨h1,h2⟩:=dp.av.nY g cs hgc
  exact⟨hI g h1,dc.mono hI (fun _ _=>rfl) cs g 0 rfl h2⟩,dp.av.row⟩
 have hE:=hg.ext
 rw[V7] at hE
 refine⟨v,ck,v,r',_,_,_,rfl,hK,WS _ _ _ _ hy,hHe,hMe,⟨hE.os,hE.tape,hE.output,hE.size,hE.block,fun g GP ⟨l,b,p,o,h1,h2,h3,h4,h5⟩=>?_,fun g hg=>hI g (hE.av g hg),fun g GP tY=>?_⟩,by rw[List.length_take]; omega,fun l hl hr=>?_⟩
 ·obtain⟨hl,hb⟩:=v5 l b h1
  unfold qE at h4
  rw[if_pos hl] at h4
  exact hE.wr g GP ⟨l,b,p,o,hb,h2,h3,h4,h5⟩
 ·rcases tY with tY|⟨l,b,p,o,_,k2,k3,k4,k5,k6⟩
  ·exact hE.new g GP tY
  ·exact .inr (hE.wr g GP ⟨l,b,p,o,k2,k3,k4,k5,k6⟩)
 ·unfold qE
  rw[if_pos hl]
  exact hg.low l (by rw[gw]; exact hl) (by rw[sw]; exact hr)
theorem Spec.enter (hG:nA G) (R:List (Nat × aG)) {f:FuncId} {fn:Func} {c:Code} {args:List PV} {S:List au} {rl:List Nat} {K:PV->List au->Prop} (N:Nat) (hf:G.cx.P.funcs[f]?=some fn) (hb:fn.body=some c) (o_:cp R c=true) (h:Qj G R N fn c args S rl K) (hd:G.Gg = []:=by rfl):Spec G f args S rl K:=by
 obtain⟨hc,h⟩:=bp h
 simp only[Bool.and_eq_true,Bool.not_eq_true'] at hc
 obtain⟨⟨hle,oq⟩,yh⟩:=hc
 have hle:=Nat.le_of_ble_eq_true hle
 have oq:=Nat.le_of_ble_eq_true oq
 replace h:=gR h
 rw[Nat.zero_add] at h
 obtain⟨t,h,ht⟩:=oC h
 refine Spec.intro (Ev.mi hf hb yh) fun I β w vals hH hM hA=>calls_of_wp hf hb ?_
 have hal:=hA.length
 have hR:Rel G I β ⟨fn.ntmps,t,S,S.length,rl⟩ { tmps:=vals.toArray++Array.replicate (fn.ntmps - vals.toArray.size) Go.undef,defers:=[] } w:=by
  refine⟨oq,hd.symm,by simp; omega,Nat.le_refl _,fun n x hx=>?_,hH,hM⟩
  rcases ht n x hx with ⟨j,hj,hx⟩|hx
  ·rw[Nat.zero_add] at hj
   subst hj
   obtain⟨v,hv,hi⟩:=hA.get hx
   have cI:n < vals.length:=(List.getElem?_eq_some_iff.1 hv).1
   exact⟨v,by rw[Array.getElem?_append_left (by simpa using cI)]; simpa using hv,hi⟩
  ·cases hx
 refine wp_mono ((gk hG N c _ _ o_ h).run hR) fun e a' w' hp=>?_
 obtain⟨x,s',I',aN,rfl,hq,dp,hg⟩:=hp.goes
 have oo:DY G fn.results.toList S.length K .fL s'->_:=fun hq=>And.intro (dp.defers.trans hd) (yg hG rfl rfl rfl dp hg hq)
 cases x with
 | fL=>exact oo hq
 | ret=>exact oo hq
 | exit id=>exact hq.elim
end
section
variable {w w':World} {I I':Nat->Prop} {β aN:ay} {G:Gx} {s:aV} {a:Act} {st dY:List au}
def ah (G:Gx) (f:FuncId) (args:List PV) (r:PV):Prop:=Spec G f args [] [] fun r' _=>r'=r
theorem mv {x:PV} {v:Value} (h:x.dx = []) (hx:x.Is w I β v):x.Is w I aN v:=PV.Is.mono (fun _ h=>h) (fun _ _=>rfl) x β aN v (fun l p hl=>by rw[h] at hl; cases hl) hx
theorem kx {xs:List PV} {vs:List Value} (h:dZ xs = []) (hx:bJ w I xs β vs):bJ w I xs aN vs:=bJ.mono (fun _ h=>h) (fun _ _=>rfl) xs β aN vs (fun l p hl=>by rw[h] at hl; cases hl) hx
theorem ah.use {f:FuncId} {args args':List PV} {r:PV} {S:List au} {K:PV->List au->Prop} (h:ah G f args' r) (hle:pa ki args args') (hu:dZ args' = []) (hr:r.dx = []) (hK:K r S):Spec G f args S [] K:=by
 refine Spec.intro h.run.1 fun I β w vals hH hM hA=>?_
 have h0:aE I (fun _=>none) ([]:List au) w:=⟨fun _ _=>rfl,fun l b hl=>by simp at hl⟩
 refine (h.run.2 I (fun _=>none) w vals h0 hM (kx hu (jx (fun _ _=>e9) hle hA))).mono fun e w' ⟨v,r',S',I',aN,he,p6,hi,_,mw,hE,_,_⟩=>?_
 subst p6
 have FR:∀ g,¬ Wr (fun _=>none) ([]:List au) g:=fun g ⟨l,b,p,o,h1,_⟩=>by simp at h1
 have hold:∀ g,g < w.heap.size->w'.heap[g]?=w.heap[g]?:=fun g hg=>hE.block g hg (FR g)
 have G4:∀ g,g < w.heap.size->I' g->I g:=fun g hg h=>(hE.new g hg h).elim id fun h=>absurd h (FR g)
 refine⟨v,r',S,I',β,he,hK,mv hr hi,⟨hH.qS,fun l b hl aH=>?_⟩,mw,⟨hE.os,hE.tape,hE.output,hE.size,fun g hg _=>hold g hg,fun g _ h=>h,hE.av,fun g hg h=>.inl (G4 g hg h)⟩,Nat.le_refl _,fun _ _ _=>rfl⟩
 have hb:=hH.gA l b hl aH
 refine hb.mono hE.av (fun g hg=>hold g (hM.av g hg)) (fun _ _ h=>h) fun p g o hp ha=>?_
 obtain⟨arr,ty,fr,hh,ho⟩:=hb.place hp ha
 have cI:=bR hh
 exact⟨hold g cI,fun hr=>⟨fun hI=>(ho.1 hr).2.1 (G4 g cI hI),(ho.1 hr).2.2⟩⟩
theorem ah.u {P:Nat->Prop} {f:FuncId} {args args':List PV} {r:PV} {S:List au} {K:List Nat->PV->List au->Prop} (h:ah G f args' r) (hK:K [] r S) (hle:pa ki args args':=by repeat' first|exact trivial|exact rfl|exact Iff.rfl|exact Or.inl rfl|refine And.intro ?_ ?_) (hu:dZ args' = []:=by rfl) (hr:r.dx = []:=by rfl):∃ rl:List Nat,(∀ l,l∈rl->P l)/\Spec G f args S rl (K rl):=⟨[],fun _ hl=>(by cases hl),h.use hle hu hr hK⟩
theorem Spec.args {f:FuncId} {args args':List PV} {S:List au} {rl:List Nat} {K:PV->List au->Prop} (h:Spec G f args' S rl K) (hle:pa ki args args'):Spec G f args S rl K :=
 Spec.intro h.run.1 fun I β w vals hH hM hA=>h.run.2 I β w vals hH hM (jx (fun _ _=>e9) hle hA)
theorem ao {r r0:PV} (h:ki r r0):∃ r',AD r r'/\r'=r0:=⟨r0,e9 h,rfl⟩
theorem rA {r r0:PV} (h:ki r r0:=by repeat' first|exact trivial|exact rfl|exact Iff.rfl|exact Or.inl rfl|refine And.intro ?_ ?_):∃ r',AD r r'/\r'=r0:=ao h
theorem ax {z:Int} (h:-9223372036854775808<=z/\z<=9223372036854775807):tS .i64 z:=by unfold tS Ev.kZ Ev.kj; simp only[IntKind.signed,IntKind.bits]; simpa using h
theorem af {z:Int} (h:0<=z/\z<=4294967295):tS .u32 z:=by unfold tS Ev.kZ Ev.kj; simp only[IntKind.signed,IntKind.bits]; simpa using h
theorem bV {z:Int} (h:0<=z/\z<=18446744073709551615):tS .u64 z:=by unfold tS Ev.kZ Ev.kj; simp only[IntKind.signed,IntKind.bits]; simpa using h
theorem cK {z:Int} (h:0<=z/\z<=255):tS .u8 z:=by unfold tS Ev.kZ Ev.kj; simp only[IntKind.signed,IntKind.bits]; simpa using h
theorem li {z:Int} {P Q:Prop} (hP:P) (h:-9223372036854775808<=z/\z<=9223372036854775807:=by omega):(tS .i64 z/\P)\/Q:=.inl ⟨ax h,hP⟩
theorem lu {z:Int} {P Q:Prop} (hP:P) (h:0<=z/\z<=4294967295:=by omega):(tS .u32 z/\P)\/Q:=.inl ⟨af h,hP⟩
end
open Go
noncomputable def bt:List (Nat × Nat):=[(3,Tryz.t3.bytes),(76,Tryz.t76.bytes),(39,Tryz.t39.bytes),(135,Tryz.t135.bytes),(92,Tryz.t92.bytes),(74,Tryz.t74.bytes),(166,Tryz.t166.bytes),(216,Tryz.t216.bytes),(85,Tryz.t85.bytes),(214,Tryz.t214.bytes),(42,Tryz.t42.bytes),(45,Tryz.t45.bytes),(125,Tryz.t125.bytes),(52,Tryz.t52.bytes),(27,Tryz.t27.bytes),(94,Tryz.t94.bytes),(28,Tryz.t28.bytes),(163,Tryz.t163.bytes),(40,Tryz.t40.bytes),(50,Tryz.t50.bytes),(22,Tryz.t22.bytes),(58,Tryz.t58.bytes),(4,Tryz.t4.bytes),(24,Tryz.t24.bytes),(196,Tryz.t196.bytes),(100,Tryz.t100.bytes),(31,Tryz.t31.bytes),(120,Tryz.t120.bytes),(212,Tryz.t212.bytes),(5,Tryz.t5.bytes),(64,Tryz.t64.bytes),(118,Tryz.t118.bytes),(30,Tryz.t30.bytes),(47,Tryz.t47.bytes),(48,Tryz.t48.bytes),(227,Tryz.t227.bytes),(69,Tryz.t69.bytes),(46,Tryz.t46.bytes),(34,Tryz.t34.bytes),(78,Tryz.t78.bytes),(77,Tryz.t77.bytes),(147,Tryz.t147.bytes),(9,Tryz.t9.bytes),(104,Tryz.t104.bytes),(150,Tryz.t150.bytes),(210,Tryz.t210.bytes),(2,Tryz.t2.bytes),(221,Tryz.t221.bytes),(225,Tryz.t225.bytes),(242,Tryz.t242.bytes),(180,Tryz.t180.bytes),(249,Tryz.t249.bytes),(195,Tryz.t195.bytes),(110,Tryz.t110.bytes),(223,Tryz.t223.bytes),(98,Tryz.t98.bytes),(237,Tryz.t237.bytes)]
theorem Xp:∀ p∈bt,∃ i,Tryz.prog.info? p.1=some i/\i.bytes=p.2 :=
 Ev.all_cons ⟨Tryz.t3,by kernel_rfl,rfl⟩ <|
 Ev.all_cons ⟨Tryz.t76,by kernel_rfl,rfl⟩ <|
 Ev.all_cons ⟨Tryz.t39,by kernel_rfl,rfl⟩ <|
 Ev.all_cons ⟨Tryz.t135,by kernel_rfl,rfl⟩ <|
 Ev.all_cons ⟨Tryz.t92,by kernel_rfl,rfl⟩ <|
 Ev.all_cons ⟨Tryz.t74,by kernel_rfl,rfl⟩ <|
 Ev.all_cons ⟨Tryz.t166,by kernel_rfl,rfl⟩ <|
 Ev.all_cons ⟨Tryz.t216,by kernel_rfl,rfl⟩ <|
 Ev.all_cons ⟨Tryz.t85,by kernel_rfl,rfl⟩ <|
 Ev.all_cons ⟨Tryz.t214,by kernel_rfl,rfl⟩ <|
 Ev.all_cons ⟨Tryz.t42,by kernel_rfl,rfl⟩ <|
 Ev.all_cons ⟨Tryz.t45,by kernel_rfl,rfl⟩ <|
 Ev.all_cons ⟨Tryz.t125,by kernel_rfl,rfl⟩ <|
 Ev.all_cons ⟨Tryz.t52,by kernel_rfl,rfl⟩ <|
 Ev.all_cons ⟨Tryz.t27,by kernel_rfl,rfl⟩ <|
 Ev.all_cons ⟨Tryz.t94,by kernel_rfl,rfl⟩ <|
 Ev.all_cons ⟨Tryz.t28,by kernel_rfl,rfl⟩ <|
 Ev.all_cons ⟨Tryz.t163,by kernel_rfl,rfl⟩ <|
 Ev.all_cons ⟨Tryz.t40,by kernel_rfl,rfl⟩ <|
 Ev.all_cons ⟨Tryz.t50,by kernel_rfl,rfl⟩ <|
 Ev.all_cons ⟨Tryz.t22,by kernel_rfl,rfl⟩ <|
 Ev.all_cons ⟨Tryz.t58,by kernel_rfl,rfl⟩ <|
 Ev.all_cons ⟨Tryz.t4,by kernel_rfl,rfl⟩ <|
 Ev.all_cons ⟨Tryz.t24,by kernel_rfl,rfl⟩ <|
 Ev.all_cons ⟨Tryz.t196,by kernel_rfl,rfl⟩ <|
 Ev.all_cons ⟨Tryz.t100,by kernel_rfl,rfl⟩ <|
 Ev.all_cons ⟨Tryz.t31,by kernel_rfl,rfl⟩ <|
 Ev.all_cons ⟨Tryz.t120,by kernel_rfl,rfl⟩ <|
 Ev.all_cons ⟨Tryz.t212,by kernel_rfl,rfl⟩ <|
 Ev.all_cons ⟨Tryz.t5,by kernel_rfl,rfl⟩ <|
 Ev.all_cons ⟨Tryz.t64,by kernel_rfl,rfl⟩ <|
 Ev.all_cons ⟨Tryz.t118,by kernel_rfl,rfl⟩ <|
 Ev.all_cons ⟨Tryz.t30,by kernel_rfl,rfl⟩ <|
 Ev.all_cons ⟨Tryz.t47,by kernel_rfl,rfl⟩ <|
 Ev.all_cons ⟨Tryz.t48,by kernel_rfl,rfl⟩ <|
 Ev.all_cons ⟨Tryz.t227,by kernel_rfl,rfl⟩ <|
 Ev.all_cons ⟨Tryz.t69,by kernel_rfl,rfl⟩ <|
 Ev.all_cons ⟨Tryz.t46,by kernel_rfl,rfl⟩ <|
 Ev.all_cons ⟨Tryz.t34,by kernel_rfl,rfl⟩ <|
 Ev.all_cons ⟨Tryz.t78,by kernel_rfl,rfl⟩ <|
 Ev.all_cons ⟨Tryz.t77,by kernel_rfl,rfl⟩ <|
 Ev.all_cons ⟨Tryz.t147,by kernel_rfl,rfl⟩ <|
 Ev.all_cons ⟨Tryz.t9,by kernel_rfl,rfl⟩ <|
 Ev.all_cons ⟨Tryz.t104,by kernel_rfl,rfl⟩ <|
 Ev.all_cons ⟨Tryz.t150,by kernel_rfl,rfl⟩ <|
 Ev.all_cons ⟨Tryz.t210,by kernel_rfl,rfl⟩ <|
 Ev.all_cons ⟨Tryz.t2,by kernel_rfl,rfl⟩ <|
 Ev.all_cons ⟨Tryz.t221,by kernel_rfl,rfl⟩ <|
 Ev.all_cons ⟨Tryz.t225,by kernel_rfl,rfl⟩ <|
 Ev.all_cons ⟨Tryz.t242,by kernel_rfl,rfl⟩ <|
 Ev.all_cons ⟨Tryz.t180,by kernel_rfl,rfl⟩ <|
 Ev.all_cons ⟨Tryz.t249,by kernel_rfl,rfl⟩ <|
 Ev.all_cons ⟨Tryz.t195,by kernel_rfl,rfl⟩ <|
 Ev.all_cons ⟨Tryz.t110,by kernel_rfl,rfl⟩ <|
 Ev.all_cons ⟨Tryz.t223,by kernel_rfl,rfl⟩ <|
 Ev.all_cons ⟨Tryz.t98,by kernel_rfl,rfl⟩ <|
 Ev.all_cons ⟨Tryz.t237,by kernel_rfl,rfl⟩ <| Ev.all_nil
noncomputable def Xq (nt:List (Nat × List PV)):Gx:={ cx:=Ev.WE [] [],nt:=nt,bt:=bt }
theorem gxOk (nt:List (Nat × List PV)):nA (Xq nt):=⟨Ev.cxOk [] [],Xp⟩
def Qk:List PV:=[.lit .u32 1,.lit .u32 65537,.lit .u32 16777472,.lit .u32 16843009]
def shP:List PV:=[0,1,1,1,2,2,3,3,4,4,4,4,5,5,5,5,5,5,5,5,5,5,5,5,5,5,5,5,6,6,6,7,8,2,2,9,9,8,8,8,10,10,11,12,13,14,15,16,17,17,18,18,18,18,18,18,18,18,18,18,19,19,20,20,20,20,21,21,21,21,21,21,21,21,21,21,22,22,23,23,23,23,24,24,25,25,26,26,27,27,27,27,28,29,30,31,31,28,32,33,34].map (.lit .i64)
noncomputable def gT:Gx:=Xq [(1,Qk),(0,shP)]
theorem ar:nA gT:=gxOk _
end Go.Proofs.YtnbngokbamifbaaGreatDoor.Pw

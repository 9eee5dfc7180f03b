/- What this claim is proved with: no condition. -/
import Derived.Test.YtlgkljpgagfndaaGreatDoorNs7
import Derived.Test.YtlgkljpgagfndaaGreatDoorNs2
set_option linter.unusedVariables false
set_option linter.unusedSimpArgs false
namespace Go.Proofs.YtlgkljpgagfndaaGreatDoor.Pw
open Go Go.RowKit
def vi (x y:PV):Prop:=match x,y with
 | .lit k a,.lit l b=>if decide (k=l) then a=b else False
 | .lit k a,.int l b=>if decide (k=l) then a=b else False
 | .int k a,.lit l b=>if decide (k=l) then a=b else False
 | .int k a,.int l b=>if decide (k=l) then a=b else False
 | .tt,.tt=>True|.ff,.ff=>True
 | .tt,.bool p=>p|.ff,.bool p=>¬ p
 | .bool p,.tt=>p|.bool p,.ff=>¬ p
 | .bool p,.bool q=>p↔q
 | .val v,.val u=>v=u
 | .nil,.nil=>True
 | .nil,.sl _ es=>es = []
 | .sl n es,.sl m fs=>if Nat.beq n m then es=fs else False
 | .wref l,.wref m=>if Nat.beq l m then True else False
 | .mref l,.mref m=>if Nat.beq l m then True else False
 | .ref l o n,.ref l' o' n'=>if Nat.beq l l' && Nat.beq o o' && Nat.beq n n' then True else False
 | .ptr l o,.ptr l' o'=>if Nat.beq l l' && Nat.beq o o' then True else False
 | .pti l o i n,.pti l' o' i' n'=>if Nat.beq l l' && Nat.beq o o' && Nat.beq n n' then i=i' else False
 | .dpt l i n o,.dpt l' i' n' o'=>if Nat.beq l l' && Nat.beq o o' && Nat.beq n n' then i=i' else False
 | .ep cs o,.ep ds o'=>if Nat.beq o o' then cs=ds else False
 | .gp g o,.gp g' o'=>if Nat.beq g g' && Nat.beq o o' then True else False
 | .gpi g o i n,.gpi g' o' i' n'=>if Nat.beq g g' && Nat.beq o o' && Nat.beq n n' then i=i' else False
 | _,_=>False
def lN (r:PV->PV->Prop):List PV->List PV->Prop
 | [],[]=>True
 | x::xs,y::ys=>r x y/\lN r xs ys
 | _,_=>False
def Vp (x y:PV):Prop:=match x,y with
 | .agg cs,.agg ds=>lN vi cs ds
 | .clo f cs,.clo g ds=>if Nat.beq f g then lN vi cs ds else False
 | x,y=>vi x y
def jj (x y:PV):Prop:=match x,y with
 | .tup cs,.tup ds=>lN Vp cs ds
 | x,y=>Vp x y
def xA (x y:PV):Prop:=∀ w I β v,x.Is w I β v->y.Is w I β v
theorem xA.refl (x:PV):xA x x:=fun _ _ _ _ h=>h
section
variable {w w':World} {I I':Nat->Prop} {β aV:aB} {G:Gx} {s:ba} {a:Act} {st dM:List ak}
theorem gU {c p:Prop} [Decidable c] (h:if c then p else False):c/\p:=by
 split at h
 ·exact⟨‹_›,h⟩
 ·exact h.elim
theorem oN {x y:PV} (h:vi x y):xA x y:=by
 intro w I β v hx
 unfold vi at h
 split at h<;>first|exact h.elim|(simp only[PV.Is] at hx ⊢)
 ·obtain⟨hk,h⟩:=gU h; rw[hx,of_decide_eq_true hk,h]
 ·obtain⟨hk,h⟩:=gU h; rw[hx,of_decide_eq_true hk,h]
 ·obtain⟨hk,h⟩:=gU h; rw[hx,of_decide_eq_true hk,h]
 ·obtain⟨hk,h⟩:=gU h; rw[hx,of_decide_eq_true hk,h]
 ·exact hx
 ·exact hx
 ·rw[hx,cg h]
 ·rw[hx,bT h]
 ·rw[hx,cg h]
 ·rw[hx,bT h]
 ·rw[hx,show pb _=pb _ from congrArg pb (propext h)]
 ·rw[← h]; exact hx
 ·exact hx
 ·subst h; exact⟨none,0,hx,Nat.le_refl _,Nat.zero_le _,(fun _ _ e=>by cases e),fun hn=>absurd rfl hn⟩
 ·obtain⟨hb,h⟩:=gU h; rw[← h,← Nat.eq_of_beq_eq_true hb]; exact hx
 ·obtain⟨hb,h⟩:=gU h; rw[← Nat.eq_of_beq_eq_true hb]; exact hx
 ·obtain⟨hb,h⟩:=gU h; rw[← Nat.eq_of_beq_eq_true hb]; exact hx
 ·obtain⟨hb,h⟩:=gU h
  simp only[Bool.and_eq_true] at hb
  rw[← Nat.eq_of_beq_eq_true hb.1.1,← Nat.eq_of_beq_eq_true hb.1.2,← Nat.eq_of_beq_eq_true hb.2]; exact hx
 ·obtain⟨hb,h⟩:=gU h
  simp only[Bool.and_eq_true] at hb
  rw[← Nat.eq_of_beq_eq_true hb.1,← Nat.eq_of_beq_eq_true hb.2]; exact hx
 ·obtain⟨hb,h⟩:=gU h
  simp only[Bool.and_eq_true] at hb
  rw[← Nat.eq_of_beq_eq_true hb.1.1,← Nat.eq_of_beq_eq_true hb.1.2,← Nat.eq_of_beq_eq_true hb.2,← h]; exact hx
 ·obtain⟨hb,h⟩:=gU h
  simp only[Bool.and_eq_true] at hb
  rw[← Nat.eq_of_beq_eq_true hb.1.1,← Nat.eq_of_beq_eq_true hb.1.2,← Nat.eq_of_beq_eq_true hb.2,← h]; exact hx
 ·obtain⟨hb,h⟩:=gU h; rw[← Nat.eq_of_beq_eq_true hb,← h]; exact hx
 ·obtain⟨hb,h⟩:=gU h
  simp only[Bool.and_eq_true] at hb
  rw[← Nat.eq_of_beq_eq_true hb.1,← Nat.eq_of_beq_eq_true hb.2]; exact hx
 ·obtain⟨hb,h⟩:=gU h
  simp only[Bool.and_eq_true] at hb
  rw[← Nat.eq_of_beq_eq_true hb.1.1,← Nat.eq_of_beq_eq_true hb.1.2,← Nat.eq_of_beq_eq_true hb.2,← h]; exact hx
theorem hJ {r:PV->PV->Prop} (hr:∀ x y,r x y->xA x y):∀ {xs ys:List PV} {vs:List Value},lN r xs ys->bB w I xs β vs->bB w I ys β vs
 | [],[],_,_,h=>h
 | x::xs,y::ys,v::vs,h,hx=>by
  simp only[bB] at hx ⊢
  exact⟨hr x y h.1 w I β v hx.1,hJ hr h.2 hx.2⟩
 | x::xs,y::ys,[],h,hx=>by simp only[bB] at hx
 | [],_::_,_,h,_=>h.elim
 | _::_,[],_,h,_=>h.elim
theorem B4 {x y:PV} (h:Vp x y):xA x y:=by
 unfold Vp at h
 split at h
 ·intro w I β v hx
  simp only[PV.Is] at hx ⊢
  obtain⟨vs,rfl,hx⟩:=hx
  exact⟨vs,rfl,hJ (fun _ _=>oN) h hx⟩
 ·intro w I β v hx
  split at h
  ·rename_i hb
   simp only[PV.Is] at hx ⊢
   obtain⟨vs,rfl,hx⟩:=hx
   exact⟨vs,by rw[Nat.eq_of_beq_eq_true hb],hJ (fun _ _=>oN) h hx⟩
  ·exact h.elim
 ·exact oN h
theorem eH {x y:PV} (h:jj x y):xA x y:=by
 unfold jj at h
 split at h
 ·intro w I β v hx
  simp only[PV.Is] at hx ⊢
  obtain⟨vs,rfl,hx⟩:=hx
  exact⟨vs,rfl,hJ (fun _ _=>B4) h hx⟩
 ·exact B4 h
abbrev fH:=List (Option Nat)
def PV.tC (π:fH) (x:PV):Option PV:=match x with
 | .wref l=>(match π[l]? with
  | some (some m)=>some (.wref m)
  | some none=>some .nil
  | none=>none)
 | .mref l=>(match π[l]? with
  | some (some m)=>some (.mref m)
  | _=>none)
 | .ref l o n=>(match π[l]? with
  | some (some m)=>some (.ref m o n)
  | _=>none)
 | .ptr l o=>(match π[l]? with
  | some (some m)=>some (.ptr m o)
  | _=>none)
 | .pti l o i n=>(match π[l]? with
  | some (some m)=>some (.pti m o i n)
  | _=>none)
 | .dpt l i n o=>(match π[l]? with
  | some (some m)=>some (.dpt m i n o)
  | _=>none)
 | .agg _|.tup _|.clo ..=>none
 | x=>some x
def fp (π:fH):List PV->Option (List PV)
 | []=>some []
 | c::cs=>(match c.tC π,fp π cs with
  | some x,some l=>some (x::l)
  | _,_=>none)
def PV.Fg (π:fH) (x:PV):Option PV:=match x with
 | .agg cs=>(fp π cs).map .agg
 | .clo f cs=>(fp π cs).map (.clo f)
 | .tup _=>none
 | x=>x.tC π
def gz (β:aB) (π:fH):aB:=fun l=>match π[l]? with
 | some (some m)=>β m
 | some none=>some ⟨none,0,0⟩
 | none=>none
theorem cm {π:fH} {l m:Nat} (h:π[l]?=some (some m)):gz β π l=β m:=by unfold gz; rw[h]
theorem iv {π:fH} {l:Nat} (h:π[l]?=some none):gz β π l=some ⟨none,0,0⟩:=by unfold gz; rw[h]
theorem nV {π:fH} {x y:PV} {v:Value} (h:x.tC π=some y) (hy:y.Is w I β v):x.Is w I (gz β π) v:=by
 unfold PV.tC at h
 split at h
 ·split at h
  ·rename_i m hm
   cases h
   simp only[PV.Is] at hy ⊢
   rw[cm hm]; exact hy
  ·rename_i hm
   cases h
   simp only[PV.Is] at hy ⊢
   exact⟨_,iv hm,hy⟩
  ·cases h
 ·split at h
  ·rename_i m hm
   cases h
   simp only[PV.Is] at hy ⊢
   rw[cm hm]; exact hy
  ·cases h
 ·split at h
  ·rename_i m hm
   cases h
   simp only[PV.Is] at hy ⊢
   rw[cm hm]; exact hy
  ·cases h
 ·split at h
  ·rename_i m hm
   cases h
   simp only[PV.Is] at hy ⊢
   rw[cm hm]; exact hy
  ·cases h
 ·split at h
  ·rename_i m hm
   cases h
   simp only[PV.Is] at hy ⊢
   rw[cm hm]; exact hy
  ·cases h
 ·split at h
  ·rename_i m hm
   cases h
   simp only[PV.Is] at hy ⊢
   rw[cm hm]; exact hy
  ·cases h
 ·cases h
 ·cases h
 ·cases h
 ·cases h
  refine PV.Is.mono (fun _ h=>h) (fun _ _=>rfl) x β _ v (fun l p hl=>?_) hy
  cases x<;>first|(simp_all [PV.cR]; done)|(rename_i a1 a2 a3 a4 a5 a6 a7 a8 a9; first|exact (a4 _ _ _ _ rfl).elim|exact (a5 _ _ _ _ rfl).elim|exact (a6 _ _ _ _ rfl).elim)
theorem rL {π:fH}:∀ {xs ys:List PV} {vs:List Value},fp π xs=some ys->bB w I ys β vs->bB w I xs (gz β π) vs
 | [],ys,vs,h,hy=>by
  simp only[fp,Option.some.injEq] at h
  subst h
  cases vs with
  | nil=>simp only[bB]
  | cons v vs=>simp only[bB] at hy
 | x::xs,ys,vs,h,hy=>by
  simp only[fp] at h
  split at h
  ·rename_i y l h1 h2
   cases h
   cases vs with
   | nil=>simp only[bB] at hy
   | cons v vs =>
    simp only[bB] at hy ⊢
    exact⟨nV h1 hy.1,rL h2 hy.2⟩
  ·cases h
theorem B5 {π:fH} {x y:PV} {v:Value} (h:x.Fg π=some y) (hy:y.Is w I β v):x.Is w I (gz β π) v:=by
 unfold PV.Fg at h
 split at h
 ·rw[Option.map_eq_some_iff] at h
  obtain⟨l,hl,rfl⟩:=h
  simp only[PV.Is] at hy ⊢
  obtain⟨vs,rfl,hy⟩:=hy
  exact⟨vs,rfl,rL hl hy⟩
 ·rw[Option.map_eq_some_iff] at h
  obtain⟨l,hl,rfl⟩:=h
  simp only[PV.Is] at hy ⊢
  obtain⟨vs,rfl,hy⟩:=hy
  exact⟨vs,rfl,rL hl hy⟩
 ·cases h
 ·exact nV h hy
def TM.jj (π:fH):TM->TM->Prop
 | _,.nil=>True
 | .nil,.node v l r=>(match v with
  | none=>True
  | some _=>False)/\TM.jj π .nil l/\TM.jj π .nil r
 | .node v l r,.node v' l' r'=>(match v' with
  | none=>True
  | some y=>bq v fun x=>bq (y.Fg π) fun y=>Pw.jj x y)/\TM.jj π l l'/\TM.jj π r r'
def Md.beq:Md->Md->Bool
 | .w,.w=>true|.p,.p=>true|.r,.r=>true
 | _,_=>false
def BK.beq:BK->BK->Bool
 | .loc,.loc=>true|.arr,.arr=>true|.dyn,.dyn=>true|.mp,.mp=>true
 | _,_=>false
def RF (cx:Ev.Cx) (π:fH) (b b':ak):Prop:=bif Nat.beq b.ty b'.ty && Nat.beq b.size b'.size && Md.beq b.m b'.m && b.live then (match b.k,b'.k with
 | .loc,.loc=>bq (fp π b'.cs) fun cs=>lN vi b.cs cs
 | .arr,.arr=>bq (fp π b'.cs) fun cs=>lN vi b.cs cs
 | .dyn,.dyn=>b.cs=b'.cs
 | .mp,.mp=>b.cs=b'.cs
 | .arr,.dyn=>bq (Ev.fC cx b.ty) fun ag=>bif ag || Nat.beq b.size 1 then b.Ve fun n=>bq (fj ag n (.stat b.cs)) fun es=>es=b'.cs else False
 | _,_=>False) else False
def Vq (cx:Ev.Cx) (π:fH) (st:List ak):List ak->fH->Prop
 | [],[]=>True
 | b'::r,some m::WR=>(match b'.live with
  | true=>bq st[m]? fun b=>RF cx π b b'
  | false=>True)/\Vq cx π st r WR
 | b'::r,none::WR=>(match b'.k,b'.cs with
  | .dyn,[]=>bif Nat.blt 0 b'.size then True else False
  | _,_=>False)/\Vq cx π st r WR
 | _,_=>False
def oO:fH->Bool
 | []=>true
 | none::π=>oO π
 | some m::π=>!(π.any fun x=>match x with
  | some k=>Nat.beq m k
  | none=>false) && oO π
def lO (rl:List Nat):Nat->Nat->fH->Bool
 | 0,_,_=>true
 | n+1,l,some m::π=>(Nat.beq l m || iL l rl) && lO rl n (l+1) π
 | n+1,l,none::π=>iL l rl && lO rl n (l+1) π
 | _+1,_,[]=>false
def gg (cx:Ev.Cx) (π:fH) (s s':ba):Prop :=
 s'.n=s.n/\s'.base=s.base/\s'.rl=s.rl/\(bif oO π && lO s.rl s.base 0 π then True else False)/\Vq cx π s.st s'.st π/\TM.jj π s.t s'.t
theorem TM.eH {π:fH}:∀ {t t':TM} {n:Nat} {y:PV},TM.jj π t t'->t'.get n=some y->∃ x z,t.get n=some x/\y.Fg π=some z/\Pw.jj x z
 | _,.nil,n,y,_,hy=>by cases hy
 | .nil,.node v l r,n,y,h,hy=>by
  exfalso
  have key:∀ (t':TM),TM.jj π .nil t'->∀ n y,t'.get n=some y->False:=by
   intro t'
   induction t' with
   | nil=>intro _ n y hy; cases hy
   | node v l r ihl ihr =>
    intro h n y hy
    obtain⟨h1,h2,h3⟩:=h
    cases v with
    | some _=>exact h1.elim
    | none =>
     simp only[TM.get] at hy
     cases h0:Nat.beq n 0<;>rw[h0] at hy
     ·cases h1:Nat.beq (n % 2) 1<;>rw[h1] at hy
      ·exact ihr h3 _ _ hy
      ·exact ihl h2 _ _ hy
     ·cases hy
  exact key _ h n y hy
 | .node v l r,.node v' l' r',n,y,h,hy=>by
  obtain⟨h1,h2,h3⟩:=h
  simp only[TM.get] at hy ⊢
  cases h0:Nat.beq n 0<;>rw[h0] at hy
  ·cases hp:Nat.beq (n % 2) 1<;>rw[hp] at hy
   ·exact TM.eH h3 hy
   ·exact TM.eH h2 hy
  ·cases v' with
   | none=>cases hy
   | some y' =>
    cases hy
    obtain⟨x,hx,h1⟩:=ay h1
    obtain⟨z,hz,h1⟩:=ay h1
    exact⟨x,z,hx,hz,h1⟩
theorem Md.kQ {m n:Md} (h:Md.beq m n=true):m=n:=by cases m<;>cases n<;>first|rfl|cases h
theorem vP {cx:Ev.Cx} {JA:fH} {st:List ak}:∀ {dM:List ak} {π:fH},Vq cx JA st dM π->π.length=dM.length/\∀ (l:Nat) (b':ak),dM[l]?=some b'->b'.live=true->(∃ (m:Nat) (b:ak),π[l]?=some (some m)/\st[m]?=some b/\RF cx JA b b')\/(π[l]?=some none/\b'.k = .dyn/\b'.cs = []/\0 < b'.size)
 | [],[],_=>⟨rfl,fun l b' hl=>by simp at hl⟩
 | b0::r,some m::π,h=>by
  obtain⟨h1,h2⟩:=h
  obtain⟨E7,Fk⟩:=vP h2
  refine⟨by simp[E7],fun l b' hl aL=>?_⟩
  cases l with
  | zero =>
   simp at hl; subst hl
   rw[aL] at h1
   obtain⟨b,hb,h1⟩:=ay h1
   exact .inl ⟨m,b,rfl,hb,h1⟩
  | succ l=>simpa using Fk l b' (by simpa using hl) aL
 | b0::r,none::π,h=>by
  obtain⟨h1,h2⟩:=h
  obtain⟨E7,Fk⟩:=vP h2
  refine⟨by simp[E7],fun l b' hl aL=>?_⟩
  cases l with
  | zero =>
   simp at hl; subst hl
   split at h1
   ·rename_i hk hc
    obtain⟨hb,_⟩:=bf h1
    exact .inr ⟨rfl,hk,hc,Nat.le_of_ble_eq_true hb⟩
   ·exact h1.elim
  | succ l=>simpa using Fk l b' (by simpa using hl) aL
 | [],_::_,h=>h.elim
 | _::_,[],h=>h.elim
theorem mJ:∀ {π:fH},oO π=true->∀ (l l' m:Nat),π[l]?=some (some m)->π[l']?=some (some m)->l=l'
 | [],_,l,_,_,h,_=>by simp at h
 | none::π,hn,l,l',m,h,h'=>by
  cases l with
  | zero=>simp at h
  | succ l=>cases l' with
   | zero=>simp at h'
   | succ l'=>rw[mJ (π:=π) hn l l' m (by simpa using h) (by simpa using h')]
 | some k::π,hn,l,l',m,h,h'=>by
  simp only[oO,Bool.and_eq_true,Bool.not_eq_true',List.any_eq_false] at hn
  have no:∀ l,π[l]?=some (some k)->False:=fun l hl=>by
   have:=hn.1 _ (List.mem_of_getElem? hl)
   simp at this
  cases l with
  | zero =>
   simp at h; subst h
   cases l' with
   | zero=>rfl
   | succ l'=>exact (no l' (by simpa using h')).elim
  | succ l =>
   cases l' with
   | zero=>simp at h'; subst h'; exact (no l (by simpa using h)).elim
   | succ l'=>rw[mJ (π:=π) hn.2 l l' m (by simpa using h) (by simpa using h')]
theorem mK {rl:List Nat}:∀ {n l:Nat} {π:fH},lO rl n l π=true->n<=π.length
 | 0,_,_,_=>Nat.zero_le _
 | n+1,l,some m::π,h=>by
  simp only[lO,Bool.and_eq_true] at h
  simpa using mK h.2
 | n+1,l,none::π,h=>by
  simp only[lO,Bool.and_eq_true] at h
  simpa using mK h.2
 | _+1,_,[],h=>by cases h
theorem oP {rl:List Nat}:∀ {n l:Nat} {π:fH},lO rl n l π=true->∀ i,i < n->(π[i]?=some (some (l+i))\/(l+i)∈rl)
 | 0,_,_,_,i,hi=>by omega
 | n+1,l,some m::π,h,i,hi=>by
  simp only[lO,Bool.and_eq_true,Bool.or_eq_true] at h
  cases i with
  | zero=>exact h.1.imp (fun e=>by rw[← Nat.eq_of_beq_eq_true e]; rfl) dn.1
  | succ i =>
   have:=oP h.2 i (by omega)
   rw[show l+1+i=l+(i+1) by omega] at this
   simpa using this
 | n+1,l,none::π,h,i,hi=>by
  simp only[lO,Bool.and_eq_true] at h
  cases i with
  | zero=>exact .inr (dn.1 h.1)
  | succ i =>
   have:=oP h.2 i (by omega)
   rw[show l+1+i=l+(i+1) by omega] at this
   simpa using this
 | _+1,_,[],h,_,_=>by cases h
end
section
variable {w w':World} {I I':Nat->Prop} {β aV:aB} {G:Gx} {s:ba} {a:Act} {st dM:List ak}
theorem gn {cs ds:List PV} {arr:Array Value} {o:Nat} (h:lN vi cs ds) (hc:bp w I β cs arr o):bp w I β ds arr o:=by
 have key:∀ (cs ds:List PV) (o:Nat),lN vi cs ds->bp w I β cs arr o->bp w I β ds arr o:=by
  intro cs
  induction cs with
  | nil=>intro ds o h hc; cases ds with
   | nil=>exact hc
   | cons _ _=>exact h.elim
  | cons c cs ih =>
   intro ds o h hc
   cases ds with
   | nil=>exact h.elim
   | cons d ds =>
    intro i x hx
    cases i with
    | zero =>
     simp at hx; subst hx
     obtain⟨v,hv,hi,h1⟩:=hc 0 c rfl
     exact⟨v,hv,oN h.1 w I β v hi,h1⟩
    | succ i =>
     have:=ih ds (o+1) h.2 (fun j y hy=>by
      obtain⟨v,hv,h1⟩:=hc (j+1) y (by simpa using hy)
      exact⟨v,by rw[show o+1+j=o+(j+1) by omega]; exact hv,h1⟩) i x (by simpa using hx)
     obtain⟨v,hv,h1⟩:=this
     exact⟨v,by rw[show o+(i+1)=o+1+i by omega]; exact hv,h1⟩
 exact key cs ds o h hc
theorem oQ {π:fH} {cs ds:List PV} {arr:Array Value} {o:Nat} (h:fp π ds=some cs) (hc:bp w I β cs arr o):bp w I (gz β π) ds arr o:=by
 have key:∀ (ds cs:List PV) (o:Nat),fp π ds=some cs->bp w I β cs arr o->bp w I (gz β π) ds arr o:=by
  intro ds
  induction ds with
  | nil=>intro cs o _ _ i c hc; simp at hc
  | cons d ds ih =>
   intro cs o h hc
   simp only[fp] at h
   split at h
   ·rename_i y l h1 h2
    cases h
    intro i x hx
    cases i with
    | zero =>
     simp at hx; subst hx
     obtain⟨v,hv,hi,h3⟩:=hc 0 y rfl
     exact⟨v,hv,nV h1 hi,h3⟩
    | succ i =>
     have:=ih l (o+1) h2 (fun j y hy=>by
      obtain⟨v,hv,h1⟩:=hc (j+1) y (by simpa using hy)
      exact⟨v,by rw[show o+1+j=o+(j+1) by omega]; exact hv,h1⟩) i x (by simpa using hx)
     obtain⟨v,hv,h1⟩:=this
     exact⟨v,by rw[show o+(i+1)=o+1+i by omega]; exact hv,h1⟩
   ·cases h
 exact key ds cs o h hc
theorem j7 {r:PV->PV->Prop}:∀ {cs ds:List PV},lN r cs ds->cs.length=ds.length
 | [],[],_=>rfl
 | _::_,_::_,h=>by simp[j7 h.2]
 | [],_::_,h=>h.elim
 | _::_,[],h=>h.elim
theorem tD {π:fH}:∀ {ds cs:List PV},fp π ds=some cs->ds.length=cs.length
 | [],cs,h=>by simp only[fp,Option.some.injEq] at h; subst h; rfl
 | d::ds,cs,h=>by
  simp only[fp] at h
  split at h
  ·rename_i y l h1 h2
   cases h; simp[tD h2]
  ·cases h
theorem eR (hO:Ev.fg G.cx) {π:fH} {s s':ba} (h:gg G.cx π s s'):Sub G s s':=by
 obtain⟨hn,xB,Js,KE,Ku,ht⟩:=h
 obtain⟨KE,_⟩:=bf KE
 simp only[Bool.and_eq_true] at KE
 obtain⟨KE,FY⟩:=KE
 obtain⟨WS,lH⟩:=vP Ku
 have WT:=mJ KE
 have Zg:=mK FY
 have FY:=oP FY
 intro I β a w hR
 have hH:aN I (gz β π) s'.st w:=by
  refine⟨fun l hl=>by unfold gz; rw[List.getElem?_eq_none (by omega)],fun l b' hl aL=>?_⟩
  rcases lH l b' hl aL with ⟨m,b,Fh,hb,hk⟩|⟨Fh,hk,hc,fe⟩
  ·obtain⟨hc,hk⟩:=bf hk
   simp only[Bool.and_eq_true] at hc
   obtain⟨⟨⟨BU,fe⟩,hm⟩,B6⟩:=hc
   have BU:=Nat.eq_of_beq_eq_true BU
   have fe:=Nat.eq_of_beq_eq_true fe
   have hm:=Md.kQ hm
   obtain⟨p,hp,hB⟩:=hR.heap.fR m b hb B6
   have own:∀ {g:Nat} {fr:Nat × Nat},Own I β s.st m g fr b->Own I (gz β π) s'.st l g fr b':=fun ho=>by
    refine⟨fun hr=>?_,fun hr=>ho.2 (by rw[hm]; exact hr)⟩
    obtain⟨h1,h2,h3⟩:=ho.1 (by rw[hm]; exact hr)
    refine⟨h1,h2,fun l2 b2 cZ fv bN p2 g2 o2 f_ fY=>?_⟩
    rcases lH l2 b2 fv bN with ⟨m2,b3,FZ,jk,hk3⟩|⟨FZ,_⟩
    ·rw[cm FZ] at f_
     obtain⟨Vj,_⟩:=bf hk3
     simp only[Bool.and_eq_true] at Vj
     exact h3 m2 b3 (fun e=>cZ (by subst e; exact WT l2 l _ FZ Fh)) jk Vj.2 p2 g2 o2 f_ fY
    ·rw[iv FZ] at f_
     cases f_; cases fY
   refine⟨p,by rw[cm Fh]; exact hp,?_⟩
   split at hk
   ·rename_i F0 rM
    rw[F0] at hB
    rw[rM]
    obtain⟨g,o,arr,ty,fr,h1,h2,h3,ho⟩:=hB
    obtain⟨cs,gb,hk⟩:=ay hk
    exact⟨g,o,arr,ty,fr,h1,h2,oQ gb (gn hk h3),own ho⟩
   ·rename_i F0 rM
    rw[F0] at hB
    rw[rM]
    obtain⟨g,arr,fr,h1,h2,h3,ho,h4,h5,h6,h7,h8⟩:=hB
    obtain⟨cs,gb,hk⟩:=ay hk
    exact⟨g,arr,fr,h1,by rw[← BU]; exact h2,oQ gb (gn hk h3),own ho,by rw[tD gb,← j7 hk,← fe]; exact h4,h5,h6,by rw[← fe]; exact h7,by rw[← fe]; exact h8⟩
   ·rename_i F0 rM
    rw[F0] at hB
    rw[rM]
    obtain⟨⟨h1,h2,h3,h4⟩,hB⟩:=hB
    refine⟨⟨by rw[← fe]; exact h1,by rw[← hk]; exact h2,h3,h4⟩,?_⟩
    rcases hB with h|⟨g,arr,fr,h5,h6,h7,ho,h8⟩
    ·exact .inl h
    ·exact .inr ⟨g,arr,fr,h5,by rw[← BU]; exact h6,by rw[← hk,← fe]; exact h7,own ho,by rw[← fe]; exact h8⟩
   ·rename_i F0 rM
    rw[F0] at hB
    rw[rM]
    obtain⟨g,h1,h2,ho⟩:=hB
    exact⟨g,h1,by rw[← hk]; exact h2,own ho⟩
   ·rename_i F0 rM
    rw[F0] at hB
    rw[rM]
    obtain⟨g,arr,fr,h1,h2,h3,ho,h4,h5,h6,h7,h8⟩:=hB
    obtain⟨ag,FE,hk⟩:=ay hk
    obtain⟨B7,hk⟩:=bf hk
    rw[ak.vp] at hk
    obtain⟨es,ow,hk⟩:=ay hk
    simp only[Bool.or_eq_true] at B7
    have oE:(arr.toList.take (p.len*b.size)).length=p.len*b.size:=by
     rw[List.length_take,Array.length_toList,h7]
     have:=Nat.mul_le_mul_right b.size h5
     omega
    have oG:nh w I β b.size (.stat b.cs) (arr.toList.take (p.len*b.size)):=by
     refine⟨by rw[oE,h4],fun j c hj=>?_⟩
     obtain⟨u,hu,h9⟩:=h3 j c hj
     have yP:j < p.len*b.size:=by rw[← h4]; exact (List.getElem?_eq_some_iff.1 hj).1
     exact⟨u,by rw[List.getElem?_take,if_pos yP]; simpa using hu,h9⟩
    obtain⟨e1,e2⟩:=fE h8 (B7.imp id Nat.eq_of_beq_eq_true) ow oG oE
    refine⟨⟨by rw[← fe]; exact h8,by rw[← hk]; exact e1,h5,h6⟩,.inr ⟨g,arr,fr,h1,by rw[← BU]; exact h2,?_,own ho,by rw[← fe]; exact h7⟩⟩
    rw[← hk,← fe]
    refine e2.at (fun j v hj=>?_) (fun _ h=>h) (fun _ _=>rfl)
    have:=lI h2 0 (p.len*b.size) j v (by simpa using hj)
    simpa using this
   ·exact hk.elim
  ·refine⟨_,iv Fh,?_⟩
   rw[hk]
   exact⟨⟨fe,by rw[hc]; rfl,Nat.le_refl _,Nat.zero_le _⟩,.inl ⟨rfl,rfl⟩⟩
 refine⟨I,gz β π,⟨by rw[hn]; exact hR.small,hR.defers,by rw[hn]; exact hR.size,?_,fun t y hy=>?_,hH,hR.az⟩,⟨⟨rfl,rfl,rfl,Nat.le_refl _,fun _ _ _=>rfl,fun g hg ⟨l,b',p,o,h1,h2,h3,h4,h5⟩=>?_,fun _ h=>h,fun _ _ h=>.inl h⟩,xB,Js,hn,fun l hl hnr=>?_⟩⟩
 ·rw[xB]
  rw[← WS]; exact Zg
 ·obtain⟨x,z,hx,hz,hle⟩:=TM.eH ht hy
  obtain⟨v,hv,hi⟩:=hR.get t x hx
  exact⟨v,hv,B5 hz (eH hle w I β v hi)⟩
 ·rcases lH l b' h1 h2 with ⟨m,b,Fh,hb,hk⟩|⟨Fh,_⟩
  ·obtain⟨hc,_⟩:=bf hk
   simp only[Bool.and_eq_true] at hc
   rw[cm Fh] at h4
   exact⟨m,b,p,o,hb,hc.2,by rw[Md.kQ hc.1.2]; exact h3,h4,h5⟩
  ·rw[iv Fh] at h4
   cases h4; cases h5
 ·rcases FY l hl with h|h
  ·rw[Nat.zero_add] at h
   exact cm h
  ·rw[Nat.zero_add] at h; exact absurd h hnr
def frO (v:Option PV) (q:Option PV->Prop):Prop:=match v with
 | none=>q none
 | some x=>fc x fun x=>q (some x)
def JB:TM->(TM->Prop)->Prop
 | .nil,q=>q .nil
 | .node v l r,q=>frO v fun v=>JB l fun l=>JB r fun r=>q (.node v l r)
def RG (b:ak) (q:ak->Prop):Prop:=match b with
 | ⟨.loc,ty,n,m,live,cs⟩=>ee cs fun cs=>q ⟨.loc,ty,n,m,live,cs⟩
 | ⟨.arr,ty,n,m,live,cs⟩=>ee cs fun cs=>q ⟨.arr,ty,n,m,live,cs⟩
 | ⟨.dyn,ty,n,m,live,cs⟩=>q ⟨.dyn,ty,n,m,live,cs⟩
 | ⟨.mp,ty,n,m,live,cs⟩=>q ⟨.mp,ty,n,m,live,cs⟩
def rN:List ak->(List ak->Prop)->Prop
 | [],q=>q []
 | b::st,q=>RG b fun b=>rN st fun st=>q (b::st)
def QH (s:ba) (q:ba->Prop):Prop:=match s with
 | ⟨n,t,st,b,rl⟩=>JB t fun t=>rN st fun st=>q ⟨n,t,st,b,rl⟩
theorem vQ:∀ {t:TM} {q:TM->Prop},JB t q->q t
 | .nil,_,h=>h
 | .node v l r,q,h=>by
  have h1:JB l fun l=>JB r fun r=>q (.node v l r):=by
   cases v with
   | none=>exact h
   | some x=>exact BB (x:=x) (q:=fun x=>JB l fun l=>JB r fun r=>q (.node (some x) l r)) h
  have h2:=vQ h1
  exact vQ (q:=fun r=>q (.node v l r)) h2
theorem vR {b:ak} {q:ak->Prop} (h:RG b q):q b:=by
 obtain⟨k,ty,n,m,live,cs⟩:=b
 cases k
 ·exact cv (q:=fun cs=>q ⟨.loc,ty,n,m,live,cs⟩) h
 ·exact cv (q:=fun cs=>q ⟨.arr,ty,n,m,live,cs⟩) h
 ·exact h
 ·exact h
theorem lP:∀ {st:List ak} {q:List ak->Prop},rN st q->q st
 | [],_,h=>h
 | b::st,q,h=>lP (q:=fun st=>q (b::st)) (vR h)
theorem oR {q:ba->Prop} (h:QH s q):q s:=by
 obtain⟨n,t,st,b,rl⟩:=s
 have h1:=vQ h
 exact lP (q:=fun st=>q ⟨n,t,st,b,rl⟩) h1
def TM.yT (v:Option PV):Nat->TM->Nat->TM
 | 0,t,_=>t
 | f+1,.nil,n=>bif Nat.beq n 0 then .node v .nil .nil else bif Nat.beq (n % 2) 1 then .node none (TM.yT v f .nil ((n - 1) / 2)) .nil else .node none .nil (TM.yT v f .nil ((n - 1) / 2))
 | f+1,.node u l r,n=>bif Nat.beq n 0 then .node v l r else bif Nat.beq (n % 2) 1 then .node u (TM.yT v f l ((n - 1) / 2)) r else .node u l (TM.yT v f r ((n - 1) / 2))
def JC:List Oper->List Nat
 | []=>[]
 | o::r=>(match o.dst with
  | some d=>[d]
  | none=>[])++JC r
def oS:Code->List Nat
 | .region _ ops _=>JC ops.toList
 | .seq a b=>oS a++oS b
 | .cond _ a b=>oS a++oS b
 | .block _ c=>oS c
 | .loop c=>oS c
 | .scope c=>oS c
 | _=>[]
def oT:List Nat->TM->TM
 | [],t=>t
 | d::ds,t=>oT ds (t.yT none 24 d)
def tE:List (Nat × PV)->TM->TM
 | [],t=>t
 | (d,x)::r,t=>tE r (t.yT (some x) 24 d)
def ba.head (s:ba) (c:Code) (vs:List (Nat × PV)) (st:List ak):ba:=match s with
 | ⟨n,t,_,b,rl⟩=>⟨n,tE vs (oT (oS c) t),st,b,rl⟩
def KF:Nat->List ak->fH
 | _,[]=>[]
 | n,_::r=>some n::KF (n+1) r
theorem SW.loop (hG:nS G) (R:List (Nat × aS)) {α:Type} {c:Code} {Q:X->ba->Prop} (hc:cL R c=true) (vs:α->List (Nat × PV)) (st:α->List ak) (μ:α->Nat) (x0:α) (N:Nat) (JA:fH) (h0:gg G.cx JA s (s.head c (vs x0) (st x0)))
  (h:∀ x,QH (s.head c (vs x) (st x)) (pw G R N c (oM (fun s'=>∃ y π,μ y < μ x/\gg G.cx π s' (s.head c (vs y) (st y))) Q))):SW G (.loop c) Q s :=
 SW.inv hG (fun x=>s.head c (vs x) (st x)) μ (N:=N) hc x0 (eR hG.ok h0) (fun x s'=>∃ y π,μ y < μ x/\gg G.cx π s' (s.head c (vs y) (st y))) (fun x s' ⟨y,π,hy,hs⟩=>⟨y,hy,eR hG.ok hs⟩) fun x=>oR (h x)
def F1:List PV->Nat->TM->(TM->Prop)->Prop
 | [],_,t,k=>k t
 | x::xs,i,t,k=>fc x fun x=>t.ri (some x) 24 i fun t=>F1 xs (i+1) t k
def JD (G:Gx) (s:ba) (r:ResultVar) (q:PV->Prop):Prop:=match r with
 | .tmp t=>bq (s.t.get t) fun x=>(match x with
  | .tup _=>False
  | x=>q x)
 | .cell a t=>bq (s.t.get a) fun x=>qi G s.st t x q
def xC (G:Gx) (s:ba):List ResultVar->(List PV->Prop)->Prop
 | [],q=>q []
 | r::rs,q=>JD G s r fun x=>xC G s rs fun xs=>q (x::xs)
def F2 (G:Gx) (s:ba) (rs:List ResultVar) (q:PV->Prop):Prop:=match rs with
 | [.tmp t]=>bq (s.t.get t) q
 | rs=>xC G s rs fun l=>(match l with
  | [x]=>q x
  | l=>q (.tup l))
def yU:Md->Bool
 | .p=>false
 | _=>true
def yV (r:PV->(PV->Prop)->Prop):List PV->(List PV->Prop)->Prop
 | [],q=>q []
 | c::cs,q=>r c fun c=>yV r cs fun cs=>q (c::cs)
def A' (cx:Ev.Cx) (st:List ak) (base:Nat):Nat->PV->(PV->Prop)->Prop
 | 0,_,_=>False
 | n+1,x,q=>match x with
  | .wref l=>bif Nat.blt l base then q (.wref l) else bq st[l]? fun b=>bif b.live && yU b.m then (match b.k with
   | .arr=>yV (A' cx st base n) b.cs fun cs=>bq (Ev.fC cx b.ty) fun ag=>bif ag || Nat.beq b.size 1 then b.Ve fun n=>bq (fj ag n (.stat cs)) fun es=>q (.sl n es) else False
   | .dyn=>q (.sl b.size b.cs)
   | _=>False) else False
  | .agg cs=>yV (A' cx st base n) cs fun cs=>q (.agg cs)
  | .tup cs=>yV (A' cx st base n) cs fun cs=>q (.tup cs)
  | .clo f cs=>yV (A' cx st base n) cs fun cs=>q (.clo f cs)
  | x=>bif x.cR.all (fun l=>Nat.blt l base) then q x else False
def tF (base:Nat) (b:ak):Bool:=match b.k with
 | .dyn=>true
 | .mp=>true
 | _=>b.cs.all fun c=>c.cR.all fun l=>Nat.blt l base
def KG (G:Gx) (rs:List ResultVar) (base:Nat) (K:PV->List ak->Prop) (x:X) (s:ba):Prop:=match x with
 | .exit _=>False
 | _=>F2 G s rs fun r=>A' G.cx s.st base 8 r fun r=>bif (s.st.take base).all (tF base) then rN (s.st.take base) fun S=>∃ r',xA r r'/\K r' S else False
def KH (G:Gx) (R:List (Nat × aS)) (N:Nat) (fn:Func) (c:Code) (args:List PV) (S:List ak) (rl:List Nat) (K:PV->List ak->Prop):Prop :=
 bif Nat.ble args.length fn.ntmps && Nat.ble fn.ntmps 16777215 && !(fn.name == "runtime.NumGoroutine") then
  kL S 0 fun b=>F1 args 0 .nil fun t=>pw G R N c (KG G fn.results.toList b K) ⟨fn.ntmps,t,S,b,rl⟩ else False
section
variable {w w':World} {I I':Nat->Prop} {β aV:aB} {G:Gx} {s:ba} {a:Act} {st dM:List ak}
theorem rO:∀ {xs:List PV} {i:Nat} {t:TM} {k:TM->Prop},F1 xs i t k->∃ t',k t'/\∀ n x,t'.get n=some x->(∃ j,n=i+j/\xs[j]?=some x)\/t.get n=some x
 | [],i,t,k,h=>⟨t,h,fun n x hx=>.inr hx⟩
 | x::xs,i,t,k,h=>by
  obtain⟨t1,h1,ht1⟩:=TM.nU (BB h)
  obtain⟨t',hk,xo⟩:=rO h1
  refine⟨t',hk,fun n y hy=>?_⟩
  rcases xo n y hy with ⟨j,hj,hx⟩|hy
  ·exact .inl ⟨j+1,by omega,by simpa using hx⟩
  ·rw[ht1] at hy
   split at hy
   ·rename_i hn
    cases hy
    exact .inl ⟨0,by omega,rfl⟩
   ·exact .inr hy
def F3 (a:Act) (rv:ResultVar):Sem Value:=match rv with
 | .tmp t=>pure (a.tmps.getD t Go.undef)
 | .cell b t=>do loadVar t (← asAddr (a.tmps.getD b Go.undef))
theorem B8 (hG:nS G) (hR:Rel G I β s a w) {r:ResultVar} {q:PV->Prop} (h:JD G s r q):∃ x v,q x/\x.Is w I β v/\(F3 a r).run G.cx.P w = .ok v w:=by
 cases r with
 | tmp t =>
  obtain⟨x,hx,h⟩:=ay h
  obtain⟨v,hv,hi⟩:=hR.get t x hx
  have hq:q x:=by
   split at h
   ·exact h.elim
   ·exact h
  exact⟨x,v,hq,hi,by simp[F3,hv]⟩
 | cell b t =>
  obtain⟨x,hx,h⟩:=ay h
  obtain⟨v,hv,hi⟩:=hR.get b x hx
  obtain⟨z,r,g,hz,Kq,_,cf⟩:=oA hG.ok hR.heap hR.az h hi
  have cf:=cf w rfl
  refine⟨z,r,hz,Kq,?_⟩
  have WU:∃ ad,v = .pointer (some ad):=by
   unfold qi at h
   split at h<;>try simp only[PV.Is] at hi
   ·obtain⟨_,_,_,_,_,rfl⟩:=hi; exact⟨_,rfl⟩
   ·obtain⟨_,_,_,_,_,rfl⟩:=hi; exact⟨_,rfl⟩
   ·obtain⟨_,_,_,_,_,rfl⟩:=hi; exact⟨_,rfl⟩
   ·obtain⟨_,_,rfl,_⟩:=hi; exact⟨_,rfl⟩
   ·exact⟨_,hi⟩
   ·exact⟨_,hi⟩
   ·exact h.elim
  obtain⟨ad,rfl⟩:=WU
  simp only[Instr.loadAt,Instr.sureAddr,Sem.run_bind,Sem.run_pure,Result.andThen_ok] at cf
  simp[F3,hv,asAddr,cf]
theorem tG (hG:nS G) (hR:Rel G I β s a w):∀ {rs:List ResultVar} {q:List PV->Prop},xC G s rs q->∃ xs vs,q xs/\bB w I xs β vs/\(rs.mapM (F3 a)).run G.cx.P w = .ok vs w
 | [],q,h=>⟨[],[],h,by simp only[bB],rfl⟩
 | r::rs,q,h=>by
  obtain⟨x,v,h,hx,hr⟩:=B8 hG hR h
  obtain⟨xs,vs,h,nQ,hrs⟩:=tG hG hR h
  exact⟨x::xs,v::vs,h,by simp only[bB]; exact⟨hx,nQ⟩,by simp[List.mapM_cons,hr,hrs]⟩
theorem xD (hG:nS G) (hR:Rel G I β s a w) {fn:Func} {q:PV->Prop} (h:F2 G s fn.results.toList q):∃ x v,q x/\x.Is w I β v/\(results fn a.tmps).run G.cx.P w = .ok v w:=by
 have key:∀ {q':List PV->Prop},xC G s fn.results.toList q'->(∀ l,q' l->match l with
   | [x]=>q x
   | l=>q (.tup l))->∃ x v,q x/\x.Is w I β v/\(results fn a.tmps).run G.cx.P w = .ok v w:=by
  intro q' h hq
  obtain⟨xs,vs,h,nQ,cf⟩:=tG hG hR h
  have rP:(results fn a.tmps).run G.cx.P w = .ok (if h:vs.toArray.size=1 then vs.toArray[0] else .tuple vs.toArray) w:=by
   unfold results
   rw[Array.mapM_eq_mapM_toList]
   simp only[Sem.run_bind,Sem.run_map]
   erw [cf]
   rfl
  have hq:=hq xs h
  match xs,vs,nQ,hq,rP with
  | [],[],_,hq,rP=>exact⟨_,_,hq,by simp only[PV.Is]; exact⟨#[],rfl,by simp only[bB]⟩,rP⟩
  | [x],[v],nQ,hq,rP=>exact⟨x,v,hq,by simp only[bB] at nQ; exact nQ.1,rP⟩
  | x::x'::xs,v::v'::vs,nQ,hq,rP=>exact⟨_,_,hq,by simp only[PV.Is]; exact⟨_,rfl,by simpa using nQ⟩,by rw[rP,dif_neg (by simp)]⟩
  | [],_::_,nQ,_,_=>simp only[bB] at nQ
  | _::_,[],nQ,_,_=>simp only[bB] at nQ
  | [_],_::_::_,nQ,_,_=>simp[bB] at nQ
  | _::_::_,[_],nQ,_,_=>simp[bB] at nQ
 unfold F2 at h
 split at h
 ·rename_i t heq
  obtain⟨x,hx,h⟩:=ay h
  obtain⟨v,hv,hi⟩:=hR.get t x hx
  refine⟨x,v,h,hi,?_⟩
  have xr:fn.results = #[.tmp t]:=by rw[← Array.toList_inj]; simpa using heq
  simp[results,xr,hv]
 ·refine key h fun l hl=>?_
  split
  ·exact hl
  ·rename_i cZ
   split at hl
   ·rename_i x; exact absurd rfl (cZ x)
   ·exact hl
end
end
section
variable {w w':World} {I I':Nat->Prop} {β aV:aB} {G:Gx} {s:ba} {a:Act} {st dM:List ak}
def oU (I:Nat->Prop) (β:aB) (st:List ak) (base:Nat) (g:Nat):Prop:=I g\/∃ l b p o,base<=l/\st[l]?=some b/\b.live=true/\b.m = .w/\β l=some p/\p.a=some (g,o)
def nE (β:aB) (base:Nat):aB:=fun l=>if l < base then β l else none
theorem oV {x:PV} {base:Nat} {v:Value} (h:x.cR.all (fun l=>Nat.blt l base)=true) (hx:x.Is w I β v) (hI:∀ g,I g->I' g):x.Is w I' (nE β base) v :=
 PV.Is.mono hI (fun _ _=>rfl) x β _ v (fun l p hl hp=>by
  rw[List.all_eq_true] at h
  unfold nE
  rw[if_pos (show l < base from Nat.le_of_ble_eq_true (h l hl))]; exact hp) hx
theorem lQ {r:PV->(PV->Prop)->Prop} (hr:∀ x q v,r x q->x.Is w I β v->∃ y,q y/\y.Is w I' aV v):∀ {cs:List PV} {vs:List Value} {q:List PV->Prop},yV r cs q->bB w I cs β vs->∃ ds,q ds/\bB w I' ds aV vs
 | [],[],q,h,_=>⟨[],h,by simp only[bB]⟩
 | c::cs,v::vs,q,h,hx=>by
  simp only[bB] at hx
  obtain⟨y,h,hy⟩:=hr c _ v h hx.1
  obtain⟨ds,h,hd⟩:=lQ hr h hx.2
  exact⟨y::ds,h,by simp only[bB]; exact⟨hy,hd⟩⟩
 | [],_::_,_,_,hx=>by simp only[bB] at hx
 | _::_,[],_,_,hx=>by simp only[bB] at hx
theorem B9 {cx:Ev.Cx} (hh:aN I β st w) {base:Nat}:∀ (n:Nat) (x:PV) (q:PV->Prop) (v:Value),A' cx st base n x q->x.Is w I β v->∃ y,q y/\y.Is w (oU I β st base) (nE β base) v
 | 0,_,_,_,h,_=>h.elim
 | n+1,x,q,v,h,hx=>by
  have ih:=B9 (cx:=cx) hh (base:=base) n
  have hI:∀ g,I g->oU I β st base g:=fun g h=>.inl h
  unfold A' at h
  split at h
  ·rename_i l
   cases hl:Nat.blt l base
   case true =>
    rw[hl] at h
    exact⟨_,h,oV (by simp only[PV.cR,List.all_cons,List.all_nil,hl,Bool.and_true]) hx hI⟩
   case false =>
    rw[hl] at h
    have B6:base<=l:=by
     rcases Nat.lt_or_ge l base with h'|h'
     ·have:Nat.blt l base=true:=by unfold Nat.blt; exact Nat.ble_eq_true_of_le h'
      rw[this] at hl; cases hl
     ·exact h'
    obtain⟨b,hb,h⟩:=ay h
    obtain⟨hc,h⟩:=bf h
    simp only[Bool.and_eq_true] at hc
    simp only[PV.Is] at hx
    obtain⟨p,hp,rfl⟩:=hx
    have sT:∀ {g o:Nat} {fr:Nat × Nat},p.a=some (g,o)->Own I β st l g fr b->oU I β st base g:=fun {g o fr} ha ho=>by
     cases hm:b.m with
     | w=>exact .inr ⟨l,b,p,o,B6,hb,hc.1,hm,hp,ha⟩
     | p=>rw[hm] at hc; cases hc.2
     | r=>exact .inl (ho.2 hm)
    split at h
    ·rename_i hk
     obtain⟨g,arr,fr,ha,hw,gO,nT,eK,hlen,hle,pP,has,iH⟩:=e8 hh hb hc.1 hk hp
     have fe:p.len*b.size<=arr.size:=by rw[has]; exact Nat.mul_le_mul_right _ hle
     have oE:(arr.toList.take (p.len*b.size)).length=p.len*b.size:=by rw[List.length_take,Array.length_toList]; omega
     have kP:bB w I b.cs β (arr.toList.take (p.len*b.size)):=bB.of (by rw[oE,hlen]) fun i c hc=>by
      obtain⟨u,hu,hi,_⟩:=nT i c hc
      have yP:i < p.len*b.size:=by rw[← hlen]; exact (List.getElem?_eq_some_iff.1 hc).1
      exact⟨u,by rw[List.getElem?_take,if_pos yP]; simpa using hu,hi⟩
     obtain⟨ds,h,WV⟩:=lQ (fun x q v=>ih x q v) h kP
     obtain⟨ag,FE,h⟩:=ay h
     obtain⟨B7,h⟩:=bf h
     rw[ak.vp] at h
     obtain⟨es,ow,h⟩:=ay h
     simp only[Bool.or_eq_true] at B7
     have oG:nh w (oU I β st base) (nE β base) b.size (.stat ds) (arr.toList.take (p.len*b.size)):=by
      refine⟨by rw[WV.length],fun j c hj=>?_⟩
      obtain⟨u,hu,hi⟩:=WV.get hj
      refine⟨u,hu,hi,?_⟩
      have yP:j < b.cs.length:=by rw[kP.length,← WV.length]; exact (List.getElem?_eq_some_iff.1 hj).1
      obtain⟨u2,Zh,_,h1⟩:=nT j _ (List.getElem?_eq_getElem yP)
      rw[List.getElem?_take] at hu
      split at hu
      ·have:arr[0+j]?=some u:=by simpa using hu
       rw[this] at Zh; cases Zh; exact h1
      ·cases hu
     obtain⟨e1,e2⟩:=fE iH (B7.imp id Nat.eq_of_beq_eq_true) ow oG oE
     have B':cl w (oU I β st base) es b.size g 0:=e2.at (fun j v hj=>by
      have:=lI gO 0 (p.len*b.size) j v (by simpa using hj)
      simpa using this) (fun _ h=>h) (fun _ _=>rfl)
     refine⟨_,h,?_⟩
     simp only[PV.Is]
     refine⟨some ⟨g,0,none⟩,p.cap,by rw[hw,e1],by omega,by omega,fun g' o' e=>by cases e; exact B',fun _=>⟨g,0,rfl,sT ha eK,iH⟩⟩
    ·rename_i hk
     obtain⟨iH,hlen,hle,pP,lE⟩:=df hh hb hc.1 hk hp
     refine⟨_,h,?_⟩
     simp only[PV.Is]
     rcases lE with ⟨ha,vf,hw⟩|⟨g,arr,fr,ha,hw,gO,ow,eK,has⟩
     ·have:b.cs = []:=List.eq_nil_of_length_eq_zero (by omega)
      rw[this,hw]
      exact⟨none,0,rfl,Nat.le_refl _,Nat.zero_le _,(fun _ _ e=>by cases e),fun hn=>absurd rfl hn⟩
     ·exact⟨some ⟨g,0,none⟩,p.cap,by rw[hw,hlen],by omega,by omega,(fun g' o' e=>by cases e; exact cl.mono hI (fun _ _=>rfl) _ _ _ _ rfl ow),fun _=>⟨g,0,rfl,sT ha eK,iH⟩⟩
    ·exact h.elim
  ·simp only[PV.Is] at hx
   obtain⟨vs,rfl,hx⟩:=hx
   obtain⟨ds,h,hd⟩:=lQ (fun x q v=>ih x q v) h hx
   exact⟨_,h,by simp only[PV.Is]; exact⟨vs,rfl,hd⟩⟩
  ·simp only[PV.Is] at hx
   obtain⟨vs,rfl,hx⟩:=hx
   obtain⟨ds,h,hd⟩:=lQ (fun x q v=>ih x q v) h hx
   exact⟨_,h,by simp only[PV.Is]; exact⟨vs,rfl,hd⟩⟩
  ·simp only[PV.Is] at hx
   obtain⟨vs,rfl,hx⟩:=hx
   obtain⟨ds,h,hd⟩:=lQ (fun x q v=>ih x q v) h hx
   exact⟨_,h,by simp only[PV.Is]; exact⟨vs,rfl,hd⟩⟩
  ·obtain⟨hu,h⟩:=bf h
   exact⟨_,h,oV hu hx hI⟩
theorem Spec.intro {f:FuncId} {args:List PV} {S:List ak} {rl:List Nat} {K:PV->List ak->Prop} (he:Ev.g_ G.cx.P f) (h:∀ I β w bw,aN I β S w->dj G I w->bB w I args β bw ->
  Calls G.cx.P f bw.toArray w fun e w'=>∃ v r S' I' aV,e = .returned v/\K r S'/\r.Is w' I' aV v/\aN I' aV S' w'/\dj G I' w'/\Ext I β S w I' aV S' w'/\S.length<=S'.length/\∀ l,l < S.length->l ∉ rl->aV l=β l):Spec G f args S rl K:=by
 unfold Spec; exact⟨he,h⟩
theorem Spec.run {f:FuncId} {args:List PV} {S:List ak} {rl:List Nat} {K:PV->List ak->Prop} (h:Spec G f args S rl K):Ev.g_ G.cx.P f/\∀ I β w bw,aN I β S w->dj G I w->bB w I args β bw ->
  Calls G.cx.P f bw.toArray w fun e w'=>∃ v r S' I' aV,e = .returned v/\K r S'/\r.Is w' I' aV v/\aN I' aV S' w'/\dj G I' w'/\Ext I β S w I' aV S' w'/\S.length<=S'.length/\∀ l,l < S.length->l ∉ rl->aV l=β l:=by
 unfold Spec at h; exact h
theorem Spec.mono {f:FuncId} {args:List PV} {S:List ak} {rl:List Nat} {K K':PV->List ak->Prop} (h:Spec G f args S rl K) (hK:∀ r S',K r S'->K' r S'):Spec G f args S rl K' :=
 Spec.intro h.run.1 fun I β w bw h1 h2 h3=>(h.run.2 I β w bw h1 h2 h3).mono fun e w' ⟨v,r,S',I',aV,h1,h2,h3⟩=>⟨v,r,S',I',aV,h1,hK r S' h2,h3⟩
theorem B_ (hG:nS G) {fn:Func} {a':Act} {s' s0:ba} {S:List ak} {rl:List Nat} {K:PV->List ak->Prop} (KI:s0.st=S) (fw:s0.base=S.length) (Ca:s0.rl=rl) (eC:Rel G I' aV s' a' w') (hg:cU I β s0 w I' aV s' w') (hq:KG G fn.results.toList S.length K .nB s'):∃ v,(results fn a'.tmps).run G.cx.P w' = .ok v w'/\∃ v',∃ r S' I' aV,Ending.returned v = .returned v'/\K r S'/\r.Is w' I' aV v'/\aN I' aV S' w'/\dj G I' w'/\Ext I β S w I' aV S' w'/\S.length<=S'.length/\∀ l,l < S.length->l ∉ rl->aV l=β l:=by
 obtain⟨r,v,hq,hr,cf⟩:=xD hG eC hq
 obtain⟨y,hq,hy⟩:=B9 eC.heap 8 r _ v hq hr
 obtain⟨gd,hq⟩:=bf hq
 obtain⟨r',Rh,hK⟩:=lP hq
 rw[List.all_eq_true] at gd
 have xB:s'.base=S.length:=hg.base.trans fw
 have hlen:S.length<=s'.st.length:=by have:=eC.base; rw[xB] at this; exact this
 have hI:∀ g,I' g->oU I' aV s'.st S.length g:=fun g h=>.inl h
 have vS:∀ (l:Nat) (b:ak),(s'.st.take S.length)[l]?=some b->l < S.length/\s'.st[l]?=some b:=fun l b hb=>by
  rw[List.getElem?_take] at hb
  split at hb
  ·exact⟨‹_›,hb⟩
  ·cases hb
 have hHe:aN (oU I' aV s'.st S.length) (nE aV S.length) (s'.st.take S.length) w':=by
  refine⟨fun l hl=>?_,fun l b hb aL=>?_⟩
  ·unfold nE
   rw[if_neg (by simp at hl; omega)]
  ·obtain⟨hl,db⟩:=vS l b hb
   have B6:=gd b (List.mem_of_getElem? hb)
   obtain⟨p,hp,hk⟩:=eC.heap.fR l b db aL
   have own:∀ {g:Nat} {o:Nat} {fr:Nat × Nat},p.a=some (g,o)->Own I' aV s'.st l g fr b->Own (oU I' aV s'.st S.length) (nE aV S.length) (s'.st.take S.length) l g fr b:=fun {g o fr} ha ho=>by
    refine⟨fun hr=>?_,fun hr=>hI g (ho.2 hr)⟩
    obtain⟨h1,h2,h3⟩:=ho.1 hr
    refine⟨h1,fun hE=>?_,fun l2 b2 cZ fv bN p2 g2 o2 f_ fY=>?_⟩
    ·rcases hE with hE|⟨l2,b2,p2,o2,k1,k2,k3,_,k5,k6⟩
     ·exact h2 hE
     ·exact h3 l2 b2 (by omega) k2 k3 p2 g o2 k5 k6 rfl
    ·obtain⟨WW,dD⟩:=vS l2 b2 fv
     unfold nE at f_
     rw[if_pos WW] at f_
     exact h3 l2 b2 cZ dD bN p2 g2 o2 f_ fY
   have cells:b.k.pJ=true->∀ {arr:Array Value} {o:Nat},bp w' I' aV b.cs arr o->bp w' (oU I' aV s'.st S.length) (nE aV S.length) b.cs arr o:=fun hk {arr o} hc i c hi=>by
    obtain⟨u,hu,QI,h1⟩:=hc i c hi
    refine⟨u,hu,oV ?_ QI hI,h1⟩
    unfold tF at B6
    cases cI:b.k with
    | dyn=>rw[cI] at hk; cases hk
    | mp=>rw[cI] at hk; cases hk
    | loc=>rw[cI] at B6; rw[List.all_eq_true] at B6; exact B6 c (List.mem_of_getElem? hi)
    | arr=>rw[cI] at B6; rw[List.all_eq_true] at B6; exact B6 c (List.mem_of_getElem? hi)
   refine⟨p,by unfold nE; rw[if_pos hl]; exact hp,?_⟩
   split at hk
   ·rename_i cI
    obtain⟨g,o,arr,ty,fr,h1,h2,h3,ho⟩:=hk
    exact⟨g,o,arr,ty,fr,h1,h2,cells (by rw[cI]; decide) h3,own h1 ho⟩
   ·rename_i cI
    obtain⟨g,arr,fr,h1,h2,h3,ho,h4⟩:=hk
    exact⟨g,arr,fr,h1,h2,cells (by rw[cI]; decide) h3,own h1 ho,h4⟩
   ·obtain⟨h1,hk⟩:=hk
    refine⟨h1,?_⟩
    rcases hk with h|⟨g,arr,fr,h2,h3,h4,ho,h5⟩
    ·exact .inl h
    ·exact .inr ⟨g,arr,fr,h2,h3,cl.mono hI (fun _ _=>rfl) _ _ _ _ rfl h4,own h2 ho,h5⟩
   ·obtain⟨g,h1,h2,ho⟩:=hk
    exact⟨g,h1,h2,own h1 ho⟩
 have cz:∀ g,oU I' aV s'.st S.length g->g < w'.heap.size:=fun g hg=>by
  rcases hg with hg|⟨l,b,p,o,_,k2,k3,_,k5,k6⟩
  ·exact eC.az.az g hg
  ·exact eC.heap.dk ⟨l,b,p,o,k2,k3,k5,k6⟩
 have hMe:dj G (oU I' aV s'.st S.length) w':=⟨cz,fun g cs hgc=>by
  obtain⟨h1,h2⟩:=eC.az.oh g cs hgc
  exact⟨hI g h1,cX.mono hI (fun _ _=>rfl) cs g 0 rfl h2⟩,eC.az.row⟩
 have hE:=hg.ext
 rw[KI] at hE
 refine⟨v,cf,v,r',_,_,_,rfl,hK,Rh _ _ _ _ hy,hHe,hMe,⟨hE.os,hE.tape,hE.output,hE.size,hE.block,fun g BV ⟨l,b,p,o,h1,h2,h3,h4,h5⟩=>?_,fun g hg=>hI g (hE.az g hg),fun g BV sT=>?_⟩,by rw[List.length_take]; omega,fun l hl hr=>?_⟩
 ·obtain⟨hl,hb⟩:=vS l b h1
  unfold nE at h4
  rw[if_pos hl] at h4
  exact hE.wr g BV ⟨l,b,p,o,hb,h2,h3,h4,h5⟩
 ·rcases sT with sT|⟨l,b,p,o,_,k2,k3,k4,k5,k6⟩
  ·exact hE.new g BV sT
  ·exact .inr (hE.wr g BV ⟨l,b,p,o,k2,k3,k4,k5,k6⟩)
 ·unfold nE
  rw[if_pos hl]
  exact hg.low l (by rw[fw]; exact hl) (by rw[Ca]; exact hr)
theorem Spec.enter (hG:nS G) (R:List (Nat × aS)) {f:FuncId} {fn:Func} {c:Code} {args:List PV} {S:List ak} {rl:List Nat} {K:PV->List ak->Prop} (N:Nat) (hf:G.cx.P.funcs[f]?=some fn) (hb:fn.body=some c) (ov:cL R c=true) (h:KH G R N fn c args S rl K) (hd:G.Vd = []:=by rfl):Spec G f args S rl K:=by
 obtain⟨hc,h⟩:=bf h
 simp only[Bool.and_eq_true,Bool.not_eq_true'] at hc
 obtain⟨⟨hle,tu⟩,Cb⟩:=hc
 have hle:=Nat.le_of_ble_eq_true hle
 have tu:=Nat.le_of_ble_eq_true tu
 replace h:=ga h
 rw[Nat.zero_add] at h
 obtain⟨t,h,ht⟩:=rO h
 refine Spec.intro (Ev.mz hf hb Cb) fun I β w bw hH hM hA=>calls_of_wp hf hb ?_
 have Vr:=hA.length
 have hR:Rel G I β ⟨fn.ntmps,t,S,S.length,rl⟩ { tmps:=bw.toArray++Array.replicate (fn.ntmps - bw.toArray.size) Go.undef,defers:=[] } w:=by
  refine⟨tu,hd.symm,by simp; omega,Nat.le_refl _,fun n x hx=>?_,hH,hM⟩
  rcases ht n x hx with ⟨j,hj,hx⟩|hx
  ·rw[Nat.zero_add] at hj
   subst hj
   obtain⟨v,hv,hi⟩:=hA.get hx
   have cz:n < bw.length:=(List.getElem?_eq_some_iff.1 hv).1
   exact⟨v,by rw[Array.getElem?_append_left (by simpa using cz)]; simpa using hv,hi⟩
  ·cases hx
 refine wp_mono ((kt hG N c _ _ ov h).run hR) fun e a' w' hp=>?_
 obtain⟨x,s',I',aV,rfl,hq,eC,hg⟩:=hp.goes
 have tl:KG G fn.results.toList S.length K .nB s'->_:=fun hq=>And.intro (eC.defers.trans hd) (B_ hG rfl rfl rfl eC hg hq)
 cases x with
 | nB=>exact tl hq
 | ret=>exact tl hq
 | exit id=>exact hq.elim
end
section
variable {w w':World} {I I':Nat->Prop} {β aV:aB} {G:Gx} {s:ba} {a:Act} {st dM:List ak}
def ai (G:Gx) (f:FuncId) (args:List PV) (r:PV):Prop:=Spec G f args [] [] fun r' _=>r'=r
theorem j8 {x:PV} {v:Value} (h:x.cR = []) (hx:x.Is w I β v):x.Is w I aV v:=PV.Is.mono (fun _ h=>h) (fun _ _=>rfl) x β aV v (fun l p hl=>by rw[h] at hl; cases hl) hx
theorem iO {xs:List PV} {vs:List Value} (h:dB xs = []) (hx:bB w I xs β vs):bB w I xs aV vs:=bB.mono (fun _ h=>h) (fun _ _=>rfl) xs β aV vs (fun l p hl=>by rw[h] at hl; cases hl) hx
theorem ai.use {f:FuncId} {args bx:List PV} {r:PV} {S:List ak} {K:PV->List ak->Prop} (h:ai G f bx r) (hle:lN jj args bx) (hu:dB bx = []) (hr:r.cR = []) (hK:K r S):Spec G f args S [] K:=by
 refine Spec.intro h.run.1 fun I β w bw hH hM hA=>?_
 have h0:aN I (fun _=>none) ([]:List ak) w:=⟨fun _ _=>rfl,fun l b hl=>by simp at hl⟩
 refine (h.run.2 I (fun _=>none) w bw h0 hM (iO hu (hJ (fun _ _=>eH) hle hA))).mono fun e w' ⟨v,r',S',I',aV,he,sS,hi,_,j9,hE,_,_⟩=>?_
 subst sS
 have A9:∀ g,¬ Wr (fun _=>none) ([]:List ak) g:=fun g ⟨l,b,p,o,h1,_⟩=>by simp at h1
 have hold:∀ g,g < w.heap.size->w'.heap[g]?=w.heap[g]?:=fun g hg=>hE.block g hg (A9 g)
 have Cc:∀ g,g < w.heap.size->I' g->I g:=fun g hg h=>(hE.new g hg h).elim id fun h=>absurd h (A9 g)
 refine⟨v,r',S,I',β,he,hK,j8 hr hi,⟨hH.pM,fun l b hl aL=>?_⟩,j9,⟨hE.os,hE.tape,hE.output,hE.size,fun g hg _=>hold g hg,fun g _ h=>h,hE.az,fun g hg h=>.inl (Cc g hg h)⟩,Nat.le_refl _,fun _ _ _=>rfl⟩
 have hb:=hH.fR l b hl aL
 refine hb.mono hE.az (fun g hg=>hold g (hM.az g hg)) (fun _ _ h=>h) fun p g o hp ha=>?_
 obtain⟨arr,ty,fr,hh,ho⟩:=hb.place hp ha
 have cz:=cY hh
 exact⟨hold g cz,fun hr=>⟨fun hI=>(ho.1 hr).2.1 (Cc g cz hI),(ho.1 hr).2.2⟩⟩
theorem ai.u {P:Nat->Prop} {f:FuncId} {args bx:List PV} {r:PV} {S:List ak} {K:List Nat->PV->List ak->Prop} (h:ai G f bx r) (hK:K [] r S) (hle:lN jj args bx:=by repeat' first|exact trivial|exact rfl|exact Iff.rfl|exact Or.inl rfl|refine And.intro ?_ ?_) (hu:dB bx = []:=by rfl) (hr:r.cR = []:=by rfl):∃ rl:List Nat,(∀ l,l∈rl->P l)/\Spec G f args S rl (K rl):=⟨[],fun _ hl=>(by cases hl),h.use hle hu hr hK⟩
theorem Spec.args {f:FuncId} {args bx:List PV} {S:List ak} {rl:List Nat} {K:PV->List ak->Prop} (h:Spec G f bx S rl K) (hle:lN jj args bx):Spec G f args S rl K :=
 Spec.intro h.run.1 fun I β w bw hH hM hA=>h.run.2 I β w bw hH hM (hJ (fun _ _=>eH) hle hA)
theorem aD {r r0:PV} (h:jj r r0):∃ r',xA r r'/\r'=r0:=⟨r0,eH h,rfl⟩
theorem rA {r r0:PV} (h:jj r r0:=by repeat' first|exact trivial|exact rfl|exact Iff.rfl|exact Or.inl rfl|refine And.intro ?_ ?_):∃ r',xA r r'/\r'=r0:=aD h
theorem av {z:Int} (h:-9223372036854775808<=z/\z<=9223372036854775807):sR .i64 z:=by unfold sR Ev.jl Ev.jc; simp only[IntKind.signed,IntKind.bits]; simpa using h
theorem af {z:Int} (h:0<=z/\z<=4294967295):sR .u32 z:=by unfold sR Ev.jl Ev.jc; simp only[IntKind.signed,IntKind.bits]; simpa using h
theorem aP {z:Int} (h:0<=z/\z<=18446744073709551615):sR .u64 z:=by unfold sR Ev.jl Ev.jc; simp only[IntKind.signed,IntKind.bits]; simpa using h
theorem bb {z:Int} (h:0<=z/\z<=255):sR .u8 z:=by unfold sR Ev.jl Ev.jc; simp only[IntKind.signed,IntKind.bits]; simpa using h
theorem li {z:Int} {P Q:Prop} (hP:P) (h:-9223372036854775808<=z/\z<=9223372036854775807:=by omega):(sR .i64 z/\P)\/Q:=.inl ⟨av h,hP⟩
theorem lu {z:Int} {P Q:Prop} (hP:P) (h:0<=z/\z<=4294967295:=by omega):(sR .u32 z/\P)\/Q:=.inl ⟨af h,hP⟩
end
open Go
noncomputable def bt:List (Nat × Nat):=[(3,Tryz.t3.bytes),(75,Tryz.t75.bytes),(24,Tryz.t24.bytes),(73,Tryz.t73.bytes),(186,Tryz.t186.bytes),(26,Tryz.t26.bytes),(184,Tryz.t184.bytes),(109,Tryz.t109.bytes),(29,Tryz.t29.bytes),(46,Tryz.t46.bytes),(32,Tryz.t32.bytes),(56,Tryz.t56.bytes),(41,Tryz.t41.bytes),(99,Tryz.t99.bytes),(44,Tryz.t44.bytes),(38,Tryz.t38.bytes),(23,Tryz.t23.bytes),(182,Tryz.t182.bytes),(87,Tryz.t87.bytes),(33,Tryz.t33.bytes),(91,Tryz.t91.bytes),(65,Tryz.t65.bytes),(72,Tryz.t72.bytes),(22,Tryz.t22.bytes),(42,Tryz.t42.bytes),(98,Tryz.t98.bytes),(27,Tryz.t27.bytes),(5,Tryz.t5.bytes),(4,Tryz.t4.bytes),(58,Tryz.t58.bytes),(47,Tryz.t47.bytes),(123,Tryz.t123.bytes),(89,Tryz.t89.bytes),(97,Tryz.t97.bytes),(153,Tryz.t153.bytes),(94,Tryz.t94.bytes),(39,Tryz.t39.bytes),(180,Tryz.t180.bytes),(68,Tryz.t68.bytes),(130,Tryz.t130.bytes),(9,Tryz.t9.bytes),(207,Tryz.t207.bytes),(142,Tryz.t142.bytes),(115,Tryz.t115.bytes),(190,Tryz.t190.bytes),(154,Tryz.t154.bytes),(137,Tryz.t137.bytes),(202,Tryz.t202.bytes)]
theorem RH:∀ p∈bt,∃ i,Tryz.prog.info? p.1=some i/\i.bytes=p.2 :=
 Ev.all_cons ⟨Tryz.t3,by kernel_rfl,rfl⟩ <|
 Ev.all_cons ⟨Tryz.t75,by kernel_rfl,rfl⟩ <|
 Ev.all_cons ⟨Tryz.t24,by kernel_rfl,rfl⟩ <|
 Ev.all_cons ⟨Tryz.t73,by kernel_rfl,rfl⟩ <|
 Ev.all_cons ⟨Tryz.t186,by kernel_rfl,rfl⟩ <|
 Ev.all_cons ⟨Tryz.t26,by kernel_rfl,rfl⟩ <|
 Ev.all_cons ⟨Tryz.t184,by kernel_rfl,rfl⟩ <|
 Ev.all_cons ⟨Tryz.t109,by kernel_rfl,rfl⟩ <|
 Ev.all_cons ⟨Tryz.t29,by kernel_rfl,rfl⟩ <|
 Ev.all_cons ⟨Tryz.t46,by kernel_rfl,rfl⟩ <|
 Ev.all_cons ⟨Tryz.t32,by kernel_rfl,rfl⟩ <|
 Ev.all_cons ⟨Tryz.t56,by kernel_rfl,rfl⟩ <|
 Ev.all_cons ⟨Tryz.t41,by kernel_rfl,rfl⟩ <|
 Ev.all_cons ⟨Tryz.t99,by kernel_rfl,rfl⟩ <|
 Ev.all_cons ⟨Tryz.t44,by kernel_rfl,rfl⟩ <|
 Ev.all_cons ⟨Tryz.t38,by kernel_rfl,rfl⟩ <|
 Ev.all_cons ⟨Tryz.t23,by kernel_rfl,rfl⟩ <|
 Ev.all_cons ⟨Tryz.t182,by kernel_rfl,rfl⟩ <|
 Ev.all_cons ⟨Tryz.t87,by kernel_rfl,rfl⟩ <|
 Ev.all_cons ⟨Tryz.t33,by kernel_rfl,rfl⟩ <|
 Ev.all_cons ⟨Tryz.t91,by kernel_rfl,rfl⟩ <|
 Ev.all_cons ⟨Tryz.t65,by kernel_rfl,rfl⟩ <|
 Ev.all_cons ⟨Tryz.t72,by kernel_rfl,rfl⟩ <|
 Ev.all_cons ⟨Tryz.t22,by kernel_rfl,rfl⟩ <|
 Ev.all_cons ⟨Tryz.t42,by kernel_rfl,rfl⟩ <|
 Ev.all_cons ⟨Tryz.t98,by kernel_rfl,rfl⟩ <|
 Ev.all_cons ⟨Tryz.t27,by kernel_rfl,rfl⟩ <|
 Ev.all_cons ⟨Tryz.t5,by kernel_rfl,rfl⟩ <|
 Ev.all_cons ⟨Tryz.t4,by kernel_rfl,rfl⟩ <|
 Ev.all_cons ⟨Tryz.t58,by kernel_rfl,rfl⟩ <|
 Ev.all_cons ⟨Tryz.t47,by kernel_rfl,rfl⟩ <|
 Ev.all_cons ⟨Tryz.t123,by kernel_rfl,rfl⟩ <|
 Ev.all_cons ⟨Tryz.t89,by kernel_rfl,rfl⟩ <|
 Ev.all_cons ⟨Tryz.t97,by kernel_rfl,rfl⟩ <|
 Ev.all_cons ⟨Tryz.t153,by kernel_rfl,rfl⟩ <|
 Ev.all_cons ⟨Tryz.t94,by kernel_rfl,rfl⟩ <|
 Ev.all_cons ⟨Tryz.t39,by kernel_rfl,rfl⟩ <|
 Ev.all_cons ⟨Tryz.t180,by kernel_rfl,rfl⟩ <|
 Ev.all_cons ⟨Tryz.t68,by kernel_rfl,rfl⟩ <|
 Ev.all_cons ⟨Tryz.t130,by kernel_rfl,rfl⟩ <|
 Ev.all_cons ⟨Tryz.t9,by kernel_rfl,rfl⟩ <|
 Ev.all_cons ⟨Tryz.t207,by kernel_rfl,rfl⟩ <|
 Ev.all_cons ⟨Tryz.t142,by kernel_rfl,rfl⟩ <|
 Ev.all_cons ⟨Tryz.t115,by kernel_rfl,rfl⟩ <|
 Ev.all_cons ⟨Tryz.t190,by kernel_rfl,rfl⟩ <|
 Ev.all_cons ⟨Tryz.t154,by kernel_rfl,rfl⟩ <|
 Ev.all_cons ⟨Tryz.t137,by kernel_rfl,rfl⟩ <|
 Ev.all_cons ⟨Tryz.t202,by kernel_rfl,rfl⟩ <| Ev.all_nil
noncomputable def RI (kH:List (Nat × List PV)):Gx:={ cx:=Ev.Q6 [] [],kH:=kH,bt:=bt }
theorem WX (kH:List (Nat × List PV)):nS (RI kH):=⟨Ev.VY [] [],RH⟩
def KJ:List PV:=[.lit .u32 1,.lit .u32 65537,.lit .u32 16777472,.lit .u32 16843009]
def Zi:List PV:=[0,1,1,1,2,2,3,3,4,4,4,4,5,5,5,5,5,5,5,5,5,5,5,5,5,5,5,5,6,6,6,7,8,2,2,9,9,8,8,8,10,10,11,12,13,14,15,16,17,17,18,18,18,18,18,18,18,18,18,18,19,19,20,20,20,20,21,21,21,21,21,21,21,21,21,21,22,22,23,23,23,23,24,24,25,25,26,26,27,27,27,27,28,29,30,31,31,28,32,33,34].map (.lit .i64)
def Cd:List PV:=[0,0,1,0,1,0,0,1,1,0,1,2,0,3,1,2,1,2,1,2,1,2,1,2,1,2,1,2,1,2,1,2,1,1,1,1,1,1,1,1,1,1,1,2,1,2,2,4,2,4,1,4,2,2,1,1,1,2,1,3,0,1,0,1].map (.lit .i64)
noncomputable def gT:Gx:=RI [(1,KJ),(2,Zi),(0,Cd)]
theorem an:nS gT:=WX _
end Go.Proofs.YtlgkljpgagfndaaGreatDoor.Pw

/- What a law is proved with. -/
import Derived.Test.YtnbngokbamifbaaGreatDoorNi10
import Derived.Test.YtnbngokbamifbaaGreatDoorNi5
set_option linter.unusedVariables false
set_option linter.unusedSimpArgs false
namespace Go.Proofs.YtnbngokbamifbaaGreatDoor.Pw
open Go Go.RowKit
def le1 (x y : PV) : Prop:=match x,y with
 | .lit k a,.lit l b=>if decide (k = l) then a = b else False
 | .lit k a,.int l b=>if decide (k = l) then a = b else False
 | .int k a,.lit l b=>if decide (k = l) then a = b else False
 | .int k a,.int l b=>if decide (k = l) then a = b else False
 | .tt,.tt=>True | .ff,.ff=>True
 | .tt,.bool p=>p | .ff,.bool p=>¬ p
 | .bool p,.tt=>p | .bool p,.ff=>¬ p
 | .bool p,.bool q=>p ↔ q
 | .val v,.val u=>v = u
 | .nil,.nil=>True
 | .nil,.sl _ es=>es = []
 | .sl n es,.sl m fs=>if Nat.beq n m then es = fs else False
 | .wref l,.wref m=>if Nat.beq l m then True else False
 | .mref l,.mref m=>if Nat.beq l m then True else False
 | .ref l o n,.ref l' o' n'=>if Nat.beq l l' && Nat.beq o o' && Nat.beq n n' then True else False
 | .ptr l o,.ptr l' o'=>if Nat.beq l l' && Nat.beq o o' then True else False
 | .pti l o i n,.pti l' o' i' n'=>if Nat.beq l l' && Nat.beq o o' && Nat.beq n n' then i = i' else False
 | .dpt l i n o,.dpt l' i' n' o'=>if Nat.beq l l' && Nat.beq o o' && Nat.beq n n' then i = i' else False
 | .ep cs o,.ep ds o'=>if Nat.beq o o' then cs = ds else False
 | .gp g o,.gp g' o'=>if Nat.beq g g' && Nat.beq o o' then True else False
 | .gpi g o i n,.gpi g' o' i' n'=>if Nat.beq g g' && Nat.beq o o' && Nat.beq n n' then i = i' else False
 | _,_=>False
def leL (r : PV -> PV -> Prop) : List PV -> List PV -> Prop
 | [],[]=>True
 | x :: xs,y :: ys=>r x y /\ leL r xs ys
 | _,_=>False
def leA (x y : PV) : Prop:=match x,y with
 | .agg cs,.agg ds=>leL le1 cs ds
 | .clo f cs,.clo g ds=>if Nat.beq f g then leL le1 cs ds else False
 | x,y=>le1 x y
def leK (x y : PV) : Prop:=match x,y with
 | .tup cs,.tup ds=>leL leA cs ds
 | x,y=>leA x y
def PLe (x y : PV) : Prop:=∀ w I β v,x.Is w I β v -> y.Is w I β v
theorem PLe.refl (x : PV) : PLe x x:=fun _ _ _ _ h=>h
section
variable {w w' : World} {I I' : Nat -> Prop} {β β' : Places} {G : Gx} {s : PSt} {a : Act} {st st' : List PBlk}
theorem if_ok {c p : Prop} [Decidable c] (h : if c then p else False) : c /\ p:=by
 split at h
 ·exact ⟨‹_›,h⟩
 ·exact h.elim
theorem le1_ok {x y : PV} (h : le1 x y) : PLe x y:=by
 intro w I β v hx
 unfold le1 at h
 split at h <;> first | exact h.elim | (simp only [PV.Is] at hx ⊢)
 ·obtain ⟨hk,h⟩:=if_ok h; rw [hx,of_decide_eq_true hk,h]
 ·obtain ⟨hk,h⟩:=if_ok h; rw [hx,of_decide_eq_true hk,h]
 ·obtain ⟨hk,h⟩:=if_ok h; rw [hx,of_decide_eq_true hk,h]
 ·obtain ⟨hk,h⟩:=if_ok h; rw [hx,of_decide_eq_true hk,h]
 ·exact hx
 ·exact hx
 ·rw [hx,pb_true h]
 ·rw [hx,pb_false h]
 ·rw [hx,pb_true h]
 ·rw [hx,pb_false h]
 ·rw [hx,show pb _ = pb _ from congrArg pb (propext h)]
 ·rw [← h]; exact hx
 ·exact hx
 ·subst h; exact ⟨none,0,hx,Nat.le_refl _,Nat.zero_le _,(fun _ _ e=>by cases e),fun hn=>absurd rfl hn⟩
 ·obtain ⟨hb,h⟩:=if_ok h; rw [← h,← Nat.eq_of_beq_eq_true hb]; exact hx
 ·obtain ⟨hb,h⟩:=if_ok h; rw [← Nat.eq_of_beq_eq_true hb]; exact hx
 ·obtain ⟨hb,h⟩:=if_ok h; rw [← Nat.eq_of_beq_eq_true hb]; exact hx
 ·obtain ⟨hb,h⟩:=if_ok h
  simp only [Bool.and_eq_true] at hb
  rw [← Nat.eq_of_beq_eq_true hb.1.1,← Nat.eq_of_beq_eq_true hb.1.2,← Nat.eq_of_beq_eq_true hb.2]; exact hx
 ·obtain ⟨hb,h⟩:=if_ok h
  simp only [Bool.and_eq_true] at hb
  rw [← Nat.eq_of_beq_eq_true hb.1,← Nat.eq_of_beq_eq_true hb.2]; exact hx
 ·obtain ⟨hb,h⟩:=if_ok h
  simp only [Bool.and_eq_true] at hb
  rw [← Nat.eq_of_beq_eq_true hb.1.1,← Nat.eq_of_beq_eq_true hb.1.2,← Nat.eq_of_beq_eq_true hb.2,← h]; exact hx
 ·obtain ⟨hb,h⟩:=if_ok h
  simp only [Bool.and_eq_true] at hb
  rw [← Nat.eq_of_beq_eq_true hb.1.1,← Nat.eq_of_beq_eq_true hb.1.2,← Nat.eq_of_beq_eq_true hb.2,← h]; exact hx
 ·obtain ⟨hb,h⟩:=if_ok h; rw [← Nat.eq_of_beq_eq_true hb,← h]; exact hx
 ·obtain ⟨hb,h⟩:=if_ok h
  simp only [Bool.and_eq_true] at hb
  rw [← Nat.eq_of_beq_eq_true hb.1,← Nat.eq_of_beq_eq_true hb.2]; exact hx
 ·obtain ⟨hb,h⟩:=if_ok h
  simp only [Bool.and_eq_true] at hb
  rw [← Nat.eq_of_beq_eq_true hb.1.1,← Nat.eq_of_beq_eq_true hb.1.2,← Nat.eq_of_beq_eq_true hb.2,← h]; exact hx
theorem leL_ok {r : PV -> PV -> Prop} (hr : ∀ x y,r x y -> PLe x y) : ∀ {xs ys : List PV} {vs : List Value},leL r xs ys -> IsL w I xs β vs -> IsL w I ys β vs
 | [],[],_,_,h=>h
 | x :: xs,y :: ys,v :: vs,h,hx=>by
  simp only [IsL] at hx ⊢
  exact ⟨hr x y h.1 w I β v hx.1,leL_ok hr h.2 hx.2⟩
 | x :: xs,y :: ys,[],h,hx=>by simp only [IsL] at hx
 | [],_ :: _,_,h,_=>h.elim
 | _ :: _,[],_,h,_=>h.elim
theorem leA_ok {x y : PV} (h : leA x y) : PLe x y:=by
 unfold leA at h
 split at h
 ·intro w I β v hx
  simp only [PV.Is] at hx ⊢
  obtain ⟨vs,rfl,hx⟩:=hx
  exact ⟨vs,rfl,leL_ok (fun _ _=>le1_ok) h hx⟩
 ·intro w I β v hx
  split at h
  ·rename_i hb
   simp only [PV.Is] at hx ⊢
   obtain ⟨vs,rfl,hx⟩:=hx
   exact ⟨vs,by rw [Nat.eq_of_beq_eq_true hb],leL_ok (fun _ _=>le1_ok) h hx⟩
  ·exact h.elim
 ·exact le1_ok h
theorem leK_ok {x y : PV} (h : leK x y) : PLe x y:=by
 unfold leK at h
 split at h
 ·intro w I β v hx
  simp only [PV.Is] at hx ⊢
  obtain ⟨vs,rfl,hx⟩:=hx
  exact ⟨vs,rfl,leL_ok (fun _ _=>leA_ok) h hx⟩
 ·exact leA_ok h
abbrev Ren:=List (Option Nat)
def PV.ren1 (π : Ren) (x : PV) : Option PV:=match x with
 | .wref l=>(match π[l]? with
  | some (some m)=>some (.wref m)
  | some none=>some .nil
  | none=>none)
 | .mref l=>(match π[l]? with
  | some (some m)=>some (.mref m)
  | _=>none)
 | .ref l o n=>(match π[l]? with
  | some (some m)=>some (.ref m o n)
  | _=>none)
 | .ptr l o=>(match π[l]? with
  | some (some m)=>some (.ptr m o)
  | _=>none)
 | .pti l o i n=>(match π[l]? with
  | some (some m)=>some (.pti m o i n)
  | _=>none)
 | .dpt l i n o=>(match π[l]? with
  | some (some m)=>some (.dpt m i n o)
  | _=>none)
 | .agg _ | .tup _ | .clo ..=>none
 | x=>some x
def renL (π : Ren) : List PV -> Option (List PV)
 | []=>some []
 | c :: cs=>(match c.ren1 π,renL π cs with
  | some x,some l=>some (x :: l)
  | _,_=>none)
def PV.ren (π : Ren) (x : PV) : Option PV:=match x with
 | .agg cs=>(renL π cs).map .agg
 | .clo f cs=>(renL π cs).map (.clo f)
 | .tup _=>none
 | x=>x.ren1 π
def renB (β : Places) (π : Ren) : Places:=fun l=>match π[l]? with
 | some (some m)=>β m
 | some none=>some ⟨none,0,0⟩
 | none=>none
theorem renB_some {π : Ren} {l m : Nat} (h : π[l]? = some (some m)) : renB β π l = β m:=by unfold renB; rw [h]
theorem renB_none {π : Ren} {l : Nat} (h : π[l]? = some none) : renB β π l = some ⟨none,0,0⟩:=by unfold renB; rw [h]
theorem ren1_ok {π : Ren} {x y : PV} {v : Value} (h : x.ren1 π = some y) (hy : y.Is w I β v) : x.Is w I (renB β π) v:=by
 unfold PV.ren1 at h
 split at h
 ·split at h
  ·rename_i m hm
   cases h
   simp only [PV.Is] at hy ⊢
   rw [renB_some hm]; exact hy
  ·rename_i hm
   cases h
   simp only [PV.Is] at hy ⊢
   exact ⟨_,renB_none hm,hy⟩
  ·cases h
 ·split at h
  ·rename_i m hm
   cases h
   simp only [PV.Is] at hy ⊢
   rw [renB_some hm]; exact hy
  ·cases h
 ·split at h
  ·rename_i m hm
   cases h
   simp only [PV.Is] at hy ⊢
   rw [renB_some hm]; exact hy
  ·cases h
 ·split at h
  ·rename_i m hm
   cases h
   simp only [PV.Is] at hy ⊢
   rw [renB_some hm]; exact hy
  ·cases h
 ·split at h
  ·rename_i m hm
   cases h
   simp only [PV.Is] at hy ⊢
   rw [renB_some hm]; exact hy
  ·cases h
 ·split at h
  ·rename_i m hm
   cases h
   simp only [PV.Is] at hy ⊢
   rw [renB_some hm]; exact hy
  ·cases h
 ·cases h
 ·cases h
 ·cases h
 ·cases h
  refine PV.Is.mono (fun _ h=>h) (fun _ _=>rfl) x β _ v (fun l p hl=>?_) hy
  cases x <;> first | (simp_all [PV.uses]; done) | (rename_i a1 a2 a3 a4 a5 a6 a7 a8 a9; first | exact (a4 _ _ _ _ rfl).elim | exact (a5 _ _ _ _ rfl).elim | exact (a6 _ _ _ _ rfl).elim)
theorem renL_ok {π : Ren} : ∀ {xs ys : List PV} {vs : List Value},renL π xs = some ys -> IsL w I ys β vs -> IsL w I xs (renB β π) vs
 | [],ys,vs,h,hy=>by
  simp only [renL,Option.some.injEq] at h
  subst h
  cases vs with
  | nil=>simp only [IsL]
  | cons v vs=>simp only [IsL] at hy
 | x :: xs,ys,vs,h,hy=>by
  simp only [renL] at h
  split at h
  ·rename_i y l h1 h2
   cases h
   cases vs with
   | nil=>simp only [IsL] at hy
   | cons v vs =>
    simp only [IsL] at hy ⊢
    exact ⟨ren1_ok h1 hy.1,renL_ok h2 hy.2⟩
  ·cases h
theorem ren_ok {π : Ren} {x y : PV} {v : Value} (h : x.ren π = some y) (hy : y.Is w I β v) : x.Is w I (renB β π) v:=by
 unfold PV.ren at h
 split at h
 ·rw [Option.map_eq_some_iff] at h
  obtain ⟨l,hl,rfl⟩:=h
  simp only [PV.Is] at hy ⊢
  obtain ⟨vs,rfl,hy⟩:=hy
  exact ⟨vs,rfl,renL_ok hl hy⟩
 ·rw [Option.map_eq_some_iff] at h
  obtain ⟨l,hl,rfl⟩:=h
  simp only [PV.Is] at hy ⊢
  obtain ⟨vs,rfl,hy⟩:=hy
  exact ⟨vs,rfl,renL_ok hl hy⟩
 ·cases h
 ·exact ren1_ok h hy
def TM.leK (π : Ren) : TM -> TM -> Prop
 | _,.nil=>True
 | .nil,.node v l r=>(match v with
  | none=>True
  | some _=>False) /\ TM.leK π .nil l /\ TM.leK π .nil r
 | .node v l r,.node v' l' r'=>(match v' with
  | none=>True
  | some y=>need v fun x=>need (y.ren π) fun y=>Pw.leK x y) /\ TM.leK π l l' /\ TM.leK π r r'
def Md.beq : Md -> Md -> Bool
 | .w,.w=>true | .p,.p=>true | .r,.r=>true
 | _,_=>false
def BK.beq : BK -> BK -> Bool
 | .loc,.loc=>true | .arr,.arr=>true | .dyn,.dyn=>true | .mp,.mp=>true
 | _,_=>false
def blkK (cx : Ev.Cx) (π : Ren) (b b' : PBlk) : Prop:=bif Nat.beq b.ty b'.ty && Nat.beq b.size b'.size && Md.beq b.m b'.m && b.live then (match b.k,b'.k with
 | .loc,.loc=>need (renL π b'.cs) fun cs=>leL le1 b.cs cs
 | .arr,.arr=>need (renL π b'.cs) fun cs=>leL le1 b.cs cs
 | .dyn,.dyn=>b.cs = b'.cs
 | .mp,.mp=>b.cs = b'.cs
 | .arr,.dyn=>need (Ev.isAggT cx b.ty) fun ag=>bif ag || Nat.beq b.size 1 then b.szK fun n=>need (elemsOf ag n (.stat b.cs)) fun es=>es = b'.cs else False
 | _,_=>False) else False
def stK (cx : Ev.Cx) (π : Ren) (st : List PBlk) : List PBlk -> Ren -> Prop
 | [],[]=>True
 | b' :: r,some m :: π'=>(match b'.live with
  | true=>need st[m]? fun b=>blkK cx π b b'
  | false=>True) /\ stK cx π st r π'
 | b' :: r,none :: π'=>(match b'.k,b'.cs with
  | .dyn,[]=>bif Nat.blt 0 b'.size then True else False
  | _,_=>False) /\ stK cx π st r π'
 | _,_=>False
def nodupR : Ren -> Bool
 | []=>true
 | none :: π=>nodupR π
 | some m :: π=>!(π.any fun x=>match x with
  | some k=>Nat.beq m k
  | none=>false) && nodupR π
def baseK (rl : List Nat) : Nat -> Nat -> Ren -> Bool
 | 0,_,_=>true
 | n + 1,l,some m :: π=>(Nat.beq l m || inL l rl) && baseK rl n (l + 1) π
 | n + 1,l,none :: π=>inL l rl && baseK rl n (l + 1) π
 | _ + 1,_,[]=>false
def subK (cx : Ev.Cx) (π : Ren) (s s' : PSt) : Prop :=
 s'.n = s.n /\ s'.base = s.base /\ s'.rl = s.rl /\ (bif nodupR π && baseK s.rl s.base 0 π then True else False) /\ stK cx π s.st s'.st π /\ TM.leK π s.t s'.t
theorem TM.leK_ok {π : Ren} : ∀ {t t' : TM} {n : Nat} {y : PV},TM.leK π t t' -> t'.get n = some y -> ∃ x z,t.get n = some x /\ y.ren π = some z /\ Pw.leK x z
 | _,.nil,n,y,_,hy=>by cases hy
 | .nil,.node v l r,n,y,h,hy=>by
  exfalso
  have key : ∀ (t' : TM),TM.leK π .nil t' -> ∀ n y,t'.get n = some y -> False:=by
   intro t'
   induction t' with
   | nil=>intro _ n y hy; cases hy
   | node v l r ihl ihr =>
    intro h n y hy
    obtain ⟨h1,h2,h3⟩:=h
    cases v with
    | some _=>exact h1.elim
    | none =>
     simp only [TM.get] at hy
     cases h0 : Nat.beq n 0 <;> rw [h0] at hy
     ·cases h1 : Nat.beq (n % 2) 1 <;> rw [h1] at hy
      ·exact ihr h3 _ _ hy
      ·exact ihl h2 _ _ hy
     ·cases hy
  exact key _ h n y hy
 | .node v l r,.node v' l' r',n,y,h,hy=>by
  obtain ⟨h1,h2,h3⟩:=h
  simp only [TM.get] at hy ⊢
  cases h0 : Nat.beq n 0 <;> rw [h0] at hy
  ·cases hp : Nat.beq (n % 2) 1 <;> rw [hp] at hy
   ·exact TM.leK_ok h3 hy
   ·exact TM.leK_ok h2 hy
  ·cases v' with
   | none=>cases hy
   | some y' =>
    cases hy
    obtain ⟨x,hx,h1⟩:=need_ok h1
    obtain ⟨z,hz,h1⟩:=need_ok h1
    exact ⟨x,z,hx,hz,h1⟩
theorem Md.beq_ok {m n : Md} (h : Md.beq m n = true) : m = n:=by cases m <;> cases n <;> first | rfl | cases h
theorem stK_ok {cx : Ev.Cx} {π0 : Ren} {st : List PBlk} : ∀ {st' : List PBlk} {π : Ren},stK cx π0 st st' π -> π.length = st'.length /\ ∀ (l : Nat) (b' : PBlk),st'[l]? = some b' -> b'.live = true -> (∃ (m : Nat) (b : PBlk),π[l]? = some (some m) /\ st[m]? = some b /\ blkK cx π0 b b') \/ (π[l]? = some none /\ b'.k = .dyn /\ b'.cs = [] /\ 0 < b'.size)
 | [],[],_=>⟨rfl,fun l b' hl=>by simp at hl⟩
 | b0 :: r,some m :: π,h=>by
  obtain ⟨h1,h2⟩:=h
  obtain ⟨ih1,ih2⟩:=stK_ok h2
  refine ⟨by simp [ih1],fun l b' hl hlive=>?_⟩
  cases l with
  | zero =>
   simp at hl; subst hl
   rw [hlive] at h1
   obtain ⟨b,hb,h1⟩:=need_ok h1
   exact .inl ⟨m,b,rfl,hb,h1⟩
  | succ l=>simpa using ih2 l b' (by simpa using hl) hlive
 | b0 :: r,none :: π,h=>by
  obtain ⟨h1,h2⟩:=h
  obtain ⟨ih1,ih2⟩:=stK_ok h2
  refine ⟨by simp [ih1],fun l b' hl hlive=>?_⟩
  cases l with
  | zero =>
   simp at hl; subst hl
   split at h1
   ·rename_i hk hc
    obtain ⟨hb,_⟩:=bif_ok h1
    exact .inr ⟨rfl,hk,hc,Nat.le_of_ble_eq_true hb⟩
   ·exact h1.elim
  | succ l=>simpa using ih2 l b' (by simpa using hl) hlive
 | [],_ :: _,h=>h.elim
 | _ :: _,[],h=>h.elim
theorem nodupR_ok : ∀ {π : Ren},nodupR π = true -> ∀ (l l' m : Nat),π[l]? = some (some m) -> π[l']? = some (some m) -> l = l'
 | [],_,l,_,_,h,_=>by simp at h
 | none :: π,hn,l,l',m,h,h'=>by
  cases l with
  | zero=>simp at h
  | succ l=>cases l' with
   | zero=>simp at h'
   | succ l'=>rw [nodupR_ok (π:=π) hn l l' m (by simpa using h) (by simpa using h')]
 | some k :: π,hn,l,l',m,h,h'=>by
  simp only [nodupR,Bool.and_eq_true,Bool.not_eq_true',List.any_eq_false] at hn
  have no : ∀ l,π[l]? = some (some k) -> False:=fun l hl=>by
   have:=hn.1 _ (List.mem_of_getElem? hl)
   simp at this
  cases l with
  | zero =>
   simp at h; subst h
   cases l' with
   | zero=>rfl
   | succ l'=>exact (no l' (by simpa using h')).elim
  | succ l =>
   cases l' with
   | zero=>simp at h'; subst h'; exact (no l (by simpa using h)).elim
   | succ l'=>rw [nodupR_ok (π:=π) hn.2 l l' m (by simpa using h) (by simpa using h')]
theorem baseK_len {rl : List Nat} : ∀ {n l : Nat} {π : Ren},baseK rl n l π = true -> n <= π.length
 | 0,_,_,_=>Nat.zero_le _
 | n + 1,l,some m :: π,h=>by
  simp only [baseK,Bool.and_eq_true] at h
  simpa using baseK_len h.2
 | n + 1,l,none :: π,h=>by
  simp only [baseK,Bool.and_eq_true] at h
  simpa using baseK_len h.2
 | _ + 1,_,[],h=>by cases h
theorem baseK_ok {rl : List Nat} : ∀ {n l : Nat} {π : Ren},baseK rl n l π = true -> ∀ i,i < n -> (π[i]? = some (some (l + i)) \/ (l + i) ∈ rl)
 | 0,_,_,_,i,hi=>by omega
 | n + 1,l,some m :: π,h,i,hi=>by
  simp only [baseK,Bool.and_eq_true,Bool.or_eq_true] at h
  cases i with
  | zero=>exact h.1.imp (fun e=>by rw [← Nat.eq_of_beq_eq_true e]; rfl) inL_iff.1
  | succ i =>
   have:=baseK_ok h.2 i (by omega)
   rw [show l + 1 + i = l + (i + 1) by omega] at this
   simpa using this
 | n + 1,l,none :: π,h,i,hi=>by
  simp only [baseK,Bool.and_eq_true] at h
  cases i with
  | zero=>exact .inr (inL_iff.1 h.1)
  | succ i =>
   have:=baseK_ok h.2 i (by omega)
   rw [show l + 1 + i = l + (i + 1) by omega] at this
   simpa using this
 | _ + 1,_,[],h,_,_=>by cases h
end
end Go.Proofs.YtnbngokbamifbaaGreatDoor.Pw
namespace Go.Proofs.YtnbngokbamifbaaGreatDoor.Pw
open Go Go.RowKit
section
variable {w w' : World} {I I' : Nat -> Prop} {β β' : Places} {G : Gx} {s : PSt} {a : Act} {st st' : List PBlk}
theorem leL_cells {cs ds : List PV} {arr : Array Value} {o : Nat} (h : leL le1 cs ds) (hc : CellsAt w I β cs arr o) : CellsAt w I β ds arr o:=by
 have key : ∀ (cs ds : List PV) (o : Nat),leL le1 cs ds -> CellsAt w I β cs arr o -> CellsAt w I β ds arr o:=by
  intro cs
  induction cs with
  | nil=>intro ds o h hc; cases ds with
   | nil=>exact hc
   | cons _ _=>exact h.elim
  | cons c cs ih =>
   intro ds o h hc
   cases ds with
   | nil=>exact h.elim
   | cons d ds =>
    intro i x hx
    cases i with
    | zero =>
     simp at hx; subst hx
     obtain ⟨v,hv,hi,h1⟩:=hc 0 c rfl
     exact ⟨v,hv,le1_ok h.1 w I β v hi,h1⟩
    | succ i =>
     have:=ih ds (o + 1) h.2 (fun j y hy=>by
      obtain ⟨v,hv,h1⟩:=hc (j + 1) y (by simpa using hy)
      exact ⟨v,by rw [show o + 1 + j = o + (j + 1) by omega]; exact hv,h1⟩) i x (by simpa using hx)
     obtain ⟨v,hv,h1⟩:=this
     exact ⟨v,by rw [show o + (i + 1) = o + 1 + i by omega]; exact hv,h1⟩
 exact key cs ds o h hc
theorem renL_cells {π : Ren} {cs ds : List PV} {arr : Array Value} {o : Nat} (h : renL π ds = some cs) (hc : CellsAt w I β cs arr o) : CellsAt w I (renB β π) ds arr o:=by
 have key : ∀ (ds cs : List PV) (o : Nat),renL π ds = some cs -> CellsAt w I β cs arr o -> CellsAt w I (renB β π) ds arr o:=by
  intro ds
  induction ds with
  | nil=>intro cs o _ _ i c hc; simp at hc
  | cons d ds ih =>
   intro cs o h hc
   simp only [renL] at h
   split at h
   ·rename_i y l h1 h2
    cases h
    intro i x hx
    cases i with
    | zero =>
     simp at hx; subst hx
     obtain ⟨v,hv,hi,h3⟩:=hc 0 y rfl
     exact ⟨v,hv,ren1_ok h1 hi,h3⟩
    | succ i =>
     have:=ih l (o + 1) h2 (fun j y hy=>by
      obtain ⟨v,hv,h1⟩:=hc (j + 1) y (by simpa using hy)
      exact ⟨v,by rw [show o + 1 + j = o + (j + 1) by omega]; exact hv,h1⟩) i x (by simpa using hx)
     obtain ⟨v,hv,h1⟩:=this
     exact ⟨v,by rw [show o + (i + 1) = o + 1 + i by omega]; exact hv,h1⟩
   ·cases h
 exact key ds cs o h hc
theorem leL_len {r : PV -> PV -> Prop} : ∀ {cs ds : List PV},leL r cs ds -> cs.length = ds.length
 | [],[],_=>rfl
 | _ :: _,_ :: _,h=>by simp [leL_len h.2]
 | [],_ :: _,h=>h.elim
 | _ :: _,[],h=>h.elim
theorem renL_len {π : Ren} : ∀ {ds cs : List PV},renL π ds = some cs -> ds.length = cs.length
 | [],cs,h=>by simp only [renL,Option.some.injEq] at h; subst h; rfl
 | d :: ds,cs,h=>by
  simp only [renL] at h
  split at h
  ·rename_i y l h1 h2
   cases h; simp [renL_len h2]
  ·cases h
theorem subK_ok (hO : Ev.CxOk G.cx) {π : Ren} {s s' : PSt} (h : subK G.cx π s s') : Sub G s s':=by
 obtain ⟨hn,hbase,hrl,hnd,hst,ht⟩:=h
 obtain ⟨hnd,_⟩:=bif_ok hnd
 simp only [Bool.and_eq_true] at hnd
 obtain ⟨hnd,hbk⟩:=hnd
 obtain ⟨hπl,hblk⟩:=stK_ok hst
 have hinj:=nodupR_ok hnd
 have hbl:=baseK_len hbk
 have hbk:=baseK_ok hbk
 intro I β a w hR
 have hH : HeapOk I (renB β π) s'.st w:=by
  refine ⟨fun l hl=>by unfold renB; rw [List.getElem?_eq_none (by omega)],fun l b' hl hlive=>?_⟩
  rcases hblk l b' hl hlive with ⟨m,b,hπ,hb,hk⟩ | ⟨hπ,hk,hc,hsz⟩
  ·obtain ⟨hc,hk⟩:=bif_ok hk
   simp only [Bool.and_eq_true] at hc
   obtain ⟨⟨⟨hty,hsz⟩,hm⟩,hlb⟩:=hc
   have hty:=Nat.eq_of_beq_eq_true hty
   have hsz:=Nat.eq_of_beq_eq_true hsz
   have hm:=Md.beq_ok hm
   obtain ⟨p,hp,hB⟩:=hR.heap.blk m b hb hlb
   have own : ∀ {g : Nat} {fr : Nat × Nat},Own I β s.st m g fr b -> Own I (renB β π) s'.st l g fr b':=fun ho=>by
    refine ⟨fun hr=>?_,fun hr=>ho.2 (by rw [hm]; exact hr)⟩
    obtain ⟨h1,h2,h3⟩:=ho.1 (by rw [hm]; exact hr)
    refine ⟨h1,h2,fun l2 b2 hne hl2 hlive2 p2 g2 o2 hp2 ha2=>?_⟩
    rcases hblk l2 b2 hl2 hlive2 with ⟨m2,b3,hπ2,hb3,hk3⟩ | ⟨hπ2,_⟩
    ·rw [renB_some hπ2] at hp2
     obtain ⟨hc3,_⟩:=bif_ok hk3
     simp only [Bool.and_eq_true] at hc3
     exact h3 m2 b3 (fun e=>hne (by subst e; exact hinj l2 l _ hπ2 hπ)) hb3 hc3.2 p2 g2 o2 hp2 ha2
    ·rw [renB_none hπ2] at hp2
     cases hp2; cases ha2
   refine ⟨p,by rw [renB_some hπ]; exact hp,?_⟩
   split at hk
   ·rename_i hkb hkb'
    rw [hkb] at hB
    rw [hkb']
    obtain ⟨g,o,arr,ty,fr,h1,h2,h3,ho⟩:=hB
    obtain ⟨cs,hcs,hk⟩:=need_ok hk
    exact ⟨g,o,arr,ty,fr,h1,h2,renL_cells hcs (leL_cells hk h3),own ho⟩
   ·rename_i hkb hkb'
    rw [hkb] at hB
    rw [hkb']
    obtain ⟨g,arr,fr,h1,h2,h3,ho,h4,h5,h6,h7,h8⟩:=hB
    obtain ⟨cs,hcs,hk⟩:=need_ok hk
    exact ⟨g,arr,fr,h1,by rw [← hty]; exact h2,renL_cells hcs (leL_cells hk h3),own ho,by rw [renL_len hcs,← leL_len hk,← hsz]; exact h4,h5,h6,by rw [← hsz]; exact h7,by rw [← hsz]; exact h8⟩
   ·rename_i hkb hkb'
    rw [hkb] at hB
    rw [hkb']
    obtain ⟨⟨h1,h2,h3,h4⟩,hB⟩:=hB
    refine ⟨⟨by rw [← hsz]; exact h1,by rw [← hk]; exact h2,h3,h4⟩,?_⟩
    rcases hB with h | ⟨g,arr,fr,h5,h6,h7,ho,h8⟩
    ·exact .inl h
    ·exact .inr ⟨g,arr,fr,h5,by rw [← hty]; exact h6,by rw [← hk,← hsz]; exact h7,own ho,by rw [← hsz]; exact h8⟩
   ·rename_i hkb hkb'
    rw [hkb] at hB
    rw [hkb']
    obtain ⟨g,h1,h2,ho⟩:=hB
    exact ⟨g,h1,by rw [← hk]; exact h2,own ho⟩
   ·rename_i hkb hkb'
    rw [hkb] at hB
    rw [hkb']
    obtain ⟨g,arr,fr,h1,h2,h3,ho,h4,h5,h6,h7,h8⟩:=hB
    obtain ⟨ag,hag,hk⟩:=need_ok hk
    obtain ⟨hag2,hk⟩:=bif_ok hk
    rw [PBlk.szK_eq] at hk
    obtain ⟨es,hes,hk⟩:=need_ok hk
    simp only [Bool.or_eq_true] at hag2
    have hxl : (arr.toList.take (p.len * b.size)).length = p.len * b.size:=by
     rw [List.length_take,Array.length_toList,h7]
     have:=Nat.mul_le_mul_right b.size h5
     omega
    have hsrc : SrcIs w I β b.size (.stat b.cs) (arr.toList.take (p.len * b.size)):=by
     refine ⟨by rw [hxl,h4],fun j c hj=>?_⟩
     obtain ⟨u,hu,h9⟩:=h3 j c hj
     have hj' : j < p.len * b.size:=by rw [← h4]; exact (List.getElem?_eq_some_iff.1 hj).1
     exact ⟨u,by rw [List.getElem?_take,if_pos hj']; simpa using hu,h9⟩
    obtain ⟨e1,e2⟩:=elemsOf_ok h8 (hag2.imp id Nat.eq_of_beq_eq_true) hes hsrc hxl
    refine ⟨⟨by rw [← hsz]; exact h8,by rw [← hk]; exact e1,h5,h6⟩,.inr ⟨g,arr,fr,h1,by rw [← hty]; exact h2,?_,own ho,by rw [← hsz]; exact h7⟩⟩
    rw [← hk,← hsz]
    refine e2.at (fun j v hj=>?_) (fun _ h=>h) (fun _ _=>rfl)
    have:=take_at h2 0 (p.len * b.size) j v (by simpa using hj)
    simpa using this
   ·exact hk.elim
  ·refine ⟨_,renB_none hπ,?_⟩
   rw [hk]
   exact ⟨⟨hsz,by rw [hc]; rfl,Nat.le_refl _,Nat.zero_le _⟩,.inl ⟨rfl,rfl⟩⟩
 refine ⟨I,renB β π,⟨by rw [hn]; exact hR.small,hR.defers,by rw [hn]; exact hR.size,?_,fun t y hy=>?_,hH,hR.imm⟩,⟨⟨rfl,rfl,rfl,Nat.le_refl _,fun _ _ _=>rfl,fun g hg ⟨l,b',p,o,h1,h2,h3,h4,h5⟩=>?_,fun _ h=>h,fun _ _ h=>.inl h⟩,hbase,hrl,hn,fun l hl hnr=>?_⟩⟩
 ·rw [hbase]
  rw [← hπl]; exact hbl
 ·obtain ⟨x,z,hx,hz,hle⟩:=TM.leK_ok ht hy
  obtain ⟨v,hv,hi⟩:=hR.get t x hx
  exact ⟨v,hv,ren_ok hz (leK_ok hle w I β v hi)⟩
 ·rcases hblk l b' h1 h2 with ⟨m,b,hπ,hb,hk⟩ | ⟨hπ,_⟩
  ·obtain ⟨hc,_⟩:=bif_ok hk
   simp only [Bool.and_eq_true] at hc
   rw [renB_some hπ] at h4
   exact ⟨m,b,p,o,hb,hc.2,by rw [Md.beq_ok hc.1.2]; exact h3,h4,h5⟩
  ·rw [renB_none hπ] at h4
   cases h4; cases h5
 ·rcases hbk l hl with h | h
  ·rw [Nat.zero_add] at h
   exact renB_some h
  ·rw [Nat.zero_add] at h; exact absurd h hnr
def frO (v : Option PV) (q : Option PV -> Prop) : Prop:=match v with
 | none=>q none
 | some x=>fc x fun x=>q (some x)
def frT : TM -> (TM -> Prop) -> Prop
 | .nil,q=>q .nil
 | .node v l r,q=>frO v fun v=>frT l fun l=>frT r fun r=>q (.node v l r)
def frK (b : PBlk) (q : PBlk -> Prop) : Prop:=match b with
 | ⟨.loc,ty,n,m,live,cs⟩=>forceL cs fun cs=>q ⟨.loc,ty,n,m,live,cs⟩
 | ⟨.arr,ty,n,m,live,cs⟩=>forceL cs fun cs=>q ⟨.arr,ty,n,m,live,cs⟩
 | ⟨.dyn,ty,n,m,live,cs⟩=>q ⟨.dyn,ty,n,m,live,cs⟩
 | ⟨.mp,ty,n,m,live,cs⟩=>q ⟨.mp,ty,n,m,live,cs⟩
def frBB : List PBlk -> (List PBlk -> Prop) -> Prop
 | [],q=>q []
 | b :: st,q=>frK b fun b=>frBB st fun st=>q (b :: st)
def frS (s : PSt) (q : PSt -> Prop) : Prop:=match s with
 | ⟨n,t,st,b,rl⟩=>frT t fun t=>frBB st fun st=>q ⟨n,t,st,b,rl⟩
theorem frT_ok : ∀ {t : TM} {q : TM -> Prop},frT t q -> q t
 | .nil,_,h=>h
 | .node v l r,q,h=>by
  have h1 : frT l fun l=>frT r fun r=>q (.node v l r):=by
   cases v with
   | none=>exact h
   | some x=>exact fc_ok (x:=x) (q:=fun x=>frT l fun l=>frT r fun r=>q (.node (some x) l r)) h
  have h2:=frT_ok h1
  exact frT_ok (q:=fun r=>q (.node v l r)) h2
theorem frK_ok {b : PBlk} {q : PBlk -> Prop} (h : frK b q) : q b:=by
 obtain ⟨k,ty,n,m,live,cs⟩:=b
 cases k
 ·exact forceL_ok (q:=fun cs=>q ⟨.loc,ty,n,m,live,cs⟩) h
 ·exact forceL_ok (q:=fun cs=>q ⟨.arr,ty,n,m,live,cs⟩) h
 ·exact h
 ·exact h
theorem frBB_ok : ∀ {st : List PBlk} {q : List PBlk -> Prop},frBB st q -> q st
 | [],_,h=>h
 | b :: st,q,h=>frBB_ok (q:=fun st=>q (b :: st)) (frK_ok h)
theorem frS_ok {q : PSt -> Prop} (h : frS s q) : q s:=by
 obtain ⟨n,t,st,b,rl⟩:=s
 have h1:=frT_ok h
 exact frBB_ok (q:=fun st=>q ⟨n,t,st,b,rl⟩) h1
def TM.setF (v : Option PV) : Nat -> TM -> Nat -> TM
 | 0,t,_=>t
 | f + 1,.nil,n=>bif Nat.beq n 0 then .node v .nil .nil else bif Nat.beq (n % 2) 1 then .node none (TM.setF v f .nil ((n - 1) / 2)) .nil else .node none .nil (TM.setF v f .nil ((n - 1) / 2))
 | f + 1,.node u l r,n=>bif Nat.beq n 0 then .node v l r else bif Nat.beq (n % 2) 1 then .node u (TM.setF v f l ((n - 1) / 2)) r else .node u l (TM.setF v f r ((n - 1) / 2))
def dstsO : List Oper -> List Nat
 | []=>[]
 | o :: r=>(match o.dst with
  | some d=>[d]
  | none=>[]) ++ dstsO r
def dsts : Code -> List Nat
 | .region _ ops _=>dstsO ops.toList
 | .seq a b=>dsts a ++ dsts b
 | .cond _ a b=>dsts a ++ dsts b
 | .block _ c=>dsts c
 | .loop c=>dsts c
 | .scope c=>dsts c
 | _=>[]
def clearF : List Nat -> TM -> TM
 | [],t=>t
 | d :: ds,t=>clearF ds (t.setF none 24 d)
def layF : List (Nat × PV) -> TM -> TM
 | [],t=>t
 | (d,x) :: r,t=>layF r (t.setF (some x) 24 d)
def PSt.head (s : PSt) (c : Code) (vs : List (Nat × PV)) (st : List PBlk) : PSt:=match s with
 | ⟨n,t,_,b,rl⟩=>⟨n,layF vs (clearF (dsts c) t),st,b,rl⟩
def idR : Nat -> List PBlk -> Ren
 | _,[]=>[]
 | n,_ :: r=>some n :: idR (n + 1) r
theorem SW.loop (hG : GOk G) (R : List (Nat × Plan)) {α : Type} {c : Code} {Q : X -> PSt -> Prop} (hc : planAll R c = true) (vs : α -> List (Nat × PV)) (st : α -> List PBlk) (μ : α -> Nat) (x0 : α) (N : Nat) (π0 : Ren) (h0 : subK G.cx π0 s (s.head c (vs x0) (st x0)))
  (h : ∀ x,frS (s.head c (vs x) (st x)) (pw G R N c (backK (fun s'=>∃ y π,μ y < μ x /\ subK G.cx π s' (s.head c (vs y) (st y))) Q))) : SW G (.loop c) Q s :=
 SW.inv hG (fun x=>s.head c (vs x) (st x)) μ (N:=N) hc x0 (subK_ok hG.ok h0) (fun x s'=>∃ y π,μ y < μ x /\ subK G.cx π s' (s.head c (vs y) (st y))) (fun x s' ⟨y,π,hy,hs⟩=>⟨y,hy,subK_ok hG.ok hs⟩) fun x=>frS_ok (h x)
def argT : List PV -> Nat -> TM -> (TM -> Prop) -> Prop
 | [],_,t,k=>k t
 | x :: xs,i,t,k=>fc x fun x=>t.setK (some x) 24 i fun t=>argT xs (i + 1) t k
def resK1 (G : Gx) (s : PSt) (r : ResultVar) (q : PV -> Prop) : Prop:=match r with
 | .tmp t=>need (s.t.get t) fun x=>(match x with
  | .tup _=>False
  | x=>q x)
 | .cell a t=>need (s.t.get a) fun x=>pload G s.st t x q
def resKL (G : Gx) (s : PSt) : List ResultVar -> (List PV -> Prop) -> Prop
 | [],q=>q []
 | r :: rs,q=>resK1 G s r fun x=>resKL G s rs fun xs=>q (x :: xs)
def resK (G : Gx) (s : PSt) (rs : List ResultVar) (q : PV -> Prop) : Prop:=match rs with
 | [.tmp t]=>need (s.t.get t) q
 | rs=>resKL G s rs fun l=>(match l with
  | [x]=>q x
  | l=>q (.tup l))
def notP : Md -> Bool
 | .p=>false
 | _=>true
def frzL (r : PV -> (PV -> Prop) -> Prop) : List PV -> (List PV -> Prop) -> Prop
 | [],q=>q []
 | c :: cs,q=>r c fun c=>frzL r cs fun cs=>q (c :: cs)
def frz (cx : Ev.Cx) (st : List PBlk) (base : Nat) : Nat -> PV -> (PV -> Prop) -> Prop
 | 0,_,_=>False
 | n + 1,x,q=>match x with
  | .wref l=>bif Nat.blt l base then q (.wref l) else need st[l]? fun b=>bif b.live && notP b.m then (match b.k with
   | .arr=>frzL (frz cx st base n) b.cs fun cs=>need (Ev.isAggT cx b.ty) fun ag=>bif ag || Nat.beq b.size 1 then b.szK fun n=>need (elemsOf ag n (.stat cs)) fun es=>q (.sl n es) else False
   | .dyn=>q (.sl b.size b.cs)
   | _=>False) else False
  | .agg cs=>frzL (frz cx st base n) cs fun cs=>q (.agg cs)
  | .tup cs=>frzL (frz cx st base n) cs fun cs=>q (.tup cs)
  | .clo f cs=>frzL (frz cx st base n) cs fun cs=>q (.clo f cs)
  | x=>bif x.uses.all (fun l=>Nat.blt l base) then q x else False
def lowB (base : Nat) (b : PBlk) : Bool:=match b.k with
 | .dyn=>true
 | .mp=>true
 | _=>b.cs.all fun c=>c.uses.all fun l=>Nat.blt l base
def retK (G : Gx) (rs : List ResultVar) (base : Nat) (K : PV -> List PBlk -> Prop) (x : X) (s : PSt) : Prop:=match x with
 | .exit _=>False
 | _=>resK G s rs fun r=>frz G.cx s.st base 8 r fun r=>bif (s.st.take base).all (lowB base) then frBB (s.st.take base) fun S=>∃ r',PLe r r' /\ K r' S else False
def enterK (G : Gx) (R : List (Nat × Plan)) (N : Nat) (fn : Func) (c : Code) (args : List PV) (S : List PBlk) (rl : List Nat) (K : PV -> List PBlk -> Prop) : Prop :=
 bif Nat.ble args.length fn.ntmps && Nat.ble fn.ntmps 16777215 && !(fn.name == "runtime.NumGoroutine") then
  lenK S 0 fun b=>argT args 0 .nil fun t=>pw G R N c (retK G fn.results.toList b K) ⟨fn.ntmps,t,S,b,rl⟩ else False
section
variable {w w' : World} {I I' : Nat -> Prop} {β β' : Places} {G : Gx} {s : PSt} {a : Act} {st st' : List PBlk}
theorem argT_ok : ∀ {xs : List PV} {i : Nat} {t : TM} {k : TM -> Prop},argT xs i t k -> ∃ t',k t' /\ ∀ n x,t'.get n = some x -> (∃ j,n = i + j /\ xs[j]? = some x) \/ t.get n = some x
 | [],i,t,k,h=>⟨t,h,fun n x hx=>.inr hx⟩
 | x :: xs,i,t,k,h=>by
  obtain ⟨t1,h1,ht1⟩:=TM.setK_ok (fc_ok h)
  obtain ⟨t',hk,ht'⟩:=argT_ok h1
  refine ⟨t',hk,fun n y hy=>?_⟩
  rcases ht' n y hy with ⟨j,hj,hx⟩ | hy
  ·exact .inl ⟨j + 1,by omega,by simpa using hx⟩
  ·rw [ht1] at hy
   split at hy
   ·rename_i hn
    cases hy
    exact .inl ⟨0,by omega,rfl⟩
   ·exact .inr hy
def resV (a : Act) (rv : ResultVar) : Sem Value:=match rv with
 | .tmp t=>pure (a.tmps.getD t Go.undef)
 | .cell b t=>do loadVar t (← asAddr (a.tmps.getD b Go.undef))
theorem resK1_ok (hG : GOk G) (hR : Rel G I β s a w) {r : ResultVar} {q : PV -> Prop} (h : resK1 G s r q) : ∃ x v,q x /\ x.Is w I β v /\ (resV a r).run G.cx.P w = .ok v w:=by
 cases r with
 | tmp t =>
  obtain ⟨x,hx,h⟩:=need_ok h
  obtain ⟨v,hv,hi⟩:=hR.get t x hx
  have hq : q x:=by
   split at h
   ·exact h.elim
   ·exact h
  exact ⟨x,v,hq,hi,by simp [resV,hv]⟩
 | cell b t =>
  obtain ⟨x,hx,h⟩:=need_ok h
  obtain ⟨v,hv,hi⟩:=hR.get b x hx
  obtain ⟨z,r,g,hz,hzi,_,hrun⟩:=pload_ok hG.ok hR.heap hR.imm h hi
  have hrun:=hrun w rfl
  refine ⟨z,r,hz,hzi,?_⟩
  have hptr : ∃ ad,v = .pointer (some ad):=by
   unfold pload at h
   split at h <;> try simp only [PV.Is] at hi
   ·obtain ⟨_,_,_,_,_,rfl⟩:=hi; exact ⟨_,rfl⟩
   ·obtain ⟨_,_,_,_,_,rfl⟩:=hi; exact ⟨_,rfl⟩
   ·obtain ⟨_,_,_,_,_,rfl⟩:=hi; exact ⟨_,rfl⟩
   ·obtain ⟨_,_,rfl,_⟩:=hi; exact ⟨_,rfl⟩
   ·exact ⟨_,hi⟩
   ·exact ⟨_,hi⟩
   ·exact h.elim
  obtain ⟨ad,rfl⟩:=hptr
  simp only [Instr.loadAt,Instr.sureAddr,Sem.run_bind,Sem.run_pure,Result.andThen_ok] at hrun
  simp [resV,hv,asAddr,hrun]
theorem resKL_ok (hG : GOk G) (hR : Rel G I β s a w) : ∀ {rs : List ResultVar} {q : List PV -> Prop},resKL G s rs q -> ∃ xs vs,q xs /\ IsL w I xs β vs /\ (rs.mapM (resV a)).run G.cx.P w = .ok vs w
 | [],q,h=>⟨[],[],h,by simp only [IsL],rfl⟩
 | r :: rs,q,h=>by
  obtain ⟨x,v,h,hx,hr⟩:=resK1_ok hG hR h
  obtain ⟨xs,vs,h,hxs,hrs⟩:=resKL_ok hG hR h
  exact ⟨x :: xs,v :: vs,h,by simp only [IsL]; exact ⟨hx,hxs⟩,by simp [List.mapM_cons,hr,hrs]⟩
theorem resK_ok (hG : GOk G) (hR : Rel G I β s a w) {fn : Func} {q : PV -> Prop} (h : resK G s fn.results.toList q) : ∃ x v,q x /\ x.Is w I β v /\ (results fn a.tmps).run G.cx.P w = .ok v w:=by
 have key : ∀ {q' : List PV -> Prop},resKL G s fn.results.toList q' -> (∀ l,q' l -> match l with
   | [x]=>q x
   | l=>q (.tup l)) -> ∃ x v,q x /\ x.Is w I β v /\ (results fn a.tmps).run G.cx.P w = .ok v w:=by
  intro q' h hq
  obtain ⟨xs,vs,h,hxs,hrun⟩:=resKL_ok hG hR h
  have hres : (results fn a.tmps).run G.cx.P w = .ok (if h : vs.toArray.size = 1 then vs.toArray[0] else .tuple vs.toArray) w:=by
   unfold results
   rw [Array.mapM_eq_mapM_toList]
   simp only [Sem.run_bind,Sem.run_map]
   erw [hrun]
   rfl
  have hq:=hq xs h
  match xs,vs,hxs,hq,hres with
  | [],[],_,hq,hres=>exact ⟨_,_,hq,by simp only [PV.Is]; exact ⟨#[],rfl,by simp only [IsL]⟩,hres⟩
  | [x],[v],hxs,hq,hres=>exact ⟨x,v,hq,by simp only [IsL] at hxs; exact hxs.1,hres⟩
  | x :: x' :: xs,v :: v' :: vs,hxs,hq,hres=>exact ⟨_,_,hq,by simp only [PV.Is]; exact ⟨_,rfl,by simpa using hxs⟩,by rw [hres,dif_neg (by simp)]⟩
  | [],_ :: _,hxs,_,_=>simp only [IsL] at hxs
  | _ :: _,[],hxs,_,_=>simp only [IsL] at hxs
  | [_],_ :: _ :: _,hxs,_,_=>simp [IsL] at hxs
  | _ :: _ :: _,[_],hxs,_,_=>simp [IsL] at hxs
 unfold resK at h
 split at h
 ·rename_i t heq
  obtain ⟨x,hx,h⟩:=need_ok h
  obtain ⟨v,hv,hi⟩:=hR.get t x hx
  refine ⟨x,v,h,hi,?_⟩
  have hfr : fn.results = #[.tmp t]:=by rw [← Array.toList_inj]; simpa using heq
  simp [results,hfr,hv]
 ·refine key h fun l hl=>?_
  split
  ·exact hl
  ·rename_i hne
   split at hl
   ·rename_i x; exact absurd rfl (hne x)
   ·exact hl
end
end
end Go.Proofs.YtnbngokbamifbaaGreatDoor.Pw
namespace Go.Proofs.YtnbngokbamifbaaGreatDoor.Pw
open Go Go.RowKit
section
variable {w w' : World} {I I' : Nat -> Prop} {β β' : Places} {G : Gx} {s : PSt} {a : Act} {st st' : List PBlk}
def EndI (I : Nat -> Prop) (β : Places) (st : List PBlk) (base : Nat) (g : Nat) : Prop:=I g \/ ∃ l b p o,base <= l /\ st[l]? = some b /\ b.live = true /\ b.m = .w /\ β l = some p /\ p.a = some (g,o)
def EndB (β : Places) (base : Nat) : Places:=fun l=>if l < base then β l else none
theorem uses_low {x : PV} {base : Nat} {v : Value} (h : x.uses.all (fun l=>Nat.blt l base) = true) (hx : x.Is w I β v) (hI : ∀ g,I g -> I' g) : x.Is w I' (EndB β base) v :=
 PV.Is.mono hI (fun _ _=>rfl) x β _ v (fun l p hl hp=>by
  rw [List.all_eq_true] at h
  unfold EndB
  rw [if_pos (show l < base from Nat.le_of_ble_eq_true (h l hl))]; exact hp) hx
theorem frzL_ok {r : PV -> (PV -> Prop) -> Prop} (hr : ∀ x q v,r x q -> x.Is w I β v -> ∃ y,q y /\ y.Is w I' β' v) : ∀ {cs : List PV} {vs : List Value} {q : List PV -> Prop},frzL r cs q -> IsL w I cs β vs -> ∃ ds,q ds /\ IsL w I' ds β' vs
 | [],[],q,h,_=>⟨[],h,by simp only [IsL]⟩
 | c :: cs,v :: vs,q,h,hx=>by
  simp only [IsL] at hx
  obtain ⟨y,h,hy⟩:=hr c _ v h hx.1
  obtain ⟨ds,h,hd⟩:=frzL_ok hr h hx.2
  exact ⟨y :: ds,h,by simp only [IsL]; exact ⟨hy,hd⟩⟩
 | [],_ :: _,_,_,hx=>by simp only [IsL] at hx
 | _ :: _,[],_,_,hx=>by simp only [IsL] at hx
theorem frz_ok {cx : Ev.Cx} (hh : HeapOk I β st w) {base : Nat} : ∀ (n : Nat) (x : PV) (q : PV -> Prop) (v : Value),frz cx st base n x q -> x.Is w I β v -> ∃ y,q y /\ y.Is w (EndI I β st base) (EndB β base) v
 | 0,_,_,_,h,_=>h.elim
 | n + 1,x,q,v,h,hx=>by
  have ih:=frz_ok (cx:=cx) hh (base:=base) n
  have hI : ∀ g,I g -> EndI I β st base g:=fun g h=>.inl h
  unfold frz at h
  split at h
  ·rename_i l
   cases hl : Nat.blt l base
   case true =>
    rw [hl] at h
    exact ⟨_,h,uses_low (by simp only [PV.uses,List.all_cons,List.all_nil,hl,Bool.and_true]) hx hI⟩
   case false =>
    rw [hl] at h
    have hlb : base <= l:=by
     rcases Nat.lt_or_ge l base with h' | h'
     ·have : Nat.blt l base = true:=by unfold Nat.blt; exact Nat.ble_eq_true_of_le h'
      rw [this] at hl; cases hl
     ·exact h'
    obtain ⟨b,hb,h⟩:=need_ok h
    obtain ⟨hc,h⟩:=bif_ok h
    simp only [Bool.and_eq_true] at hc
    simp only [PV.Is] at hx
    obtain ⟨p,hp,rfl⟩:=hx
    have hgI : ∀ {g o : Nat} {fr : Nat × Nat},p.a = some (g,o) -> Own I β st l g fr b -> EndI I β st base g:=fun {g o fr} ha ho=>by
     cases hm : b.m with
     | w=>exact .inr ⟨l,b,p,o,hlb,hb,hc.1,hm,hp,ha⟩
     | p=>rw [hm] at hc; cases hc.2
     | r=>exact .inl (ho.2 hm)
    split at h
    ·rename_i hk
     obtain ⟨g,arr,fr,ha,hw,hhg,hca,hown,hlen,hle,hmx,has,hn0⟩:=whole_arr hh hb hc.1 hk hp
     have hsz : p.len * b.size <= arr.size:=by rw [has]; exact Nat.mul_le_mul_right _ hle
     have hxl : (arr.toList.take (p.len * b.size)).length = p.len * b.size:=by rw [List.length_take,Array.length_toList]; omega
     have hcells : IsL w I b.cs β (arr.toList.take (p.len * b.size)):=IsL.of (by rw [hxl,hlen]) fun i c hc=>by
      obtain ⟨u,hu,hi,_⟩:=hca i c hc
      have hj' : i < p.len * b.size:=by rw [← hlen]; exact (List.getElem?_eq_some_iff.1 hc).1
      exact ⟨u,by rw [List.getElem?_take,if_pos hj']; simpa using hu,hi⟩
     obtain ⟨ds,h,hds⟩:=frzL_ok (fun x q v=>ih x q v) h hcells
     obtain ⟨ag,hag,h⟩:=need_ok h
     obtain ⟨hag2,h⟩:=bif_ok h
     rw [PBlk.szK_eq] at h
     obtain ⟨es,hes,h⟩:=need_ok h
     simp only [Bool.or_eq_true] at hag2
     have hsrc : SrcIs w (EndI I β st base) (EndB β base) b.size (.stat ds) (arr.toList.take (p.len * b.size)):=by
      refine ⟨by rw [hds.length],fun j c hj=>?_⟩
      obtain ⟨u,hu,hi⟩:=hds.get hj
      refine ⟨u,hu,hi,?_⟩
      have hj' : j < b.cs.length:=by rw [hcells.length,← hds.length]; exact (List.getElem?_eq_some_iff.1 hj).1
      obtain ⟨u2,hu2,_,h1⟩:=hca j _ (List.getElem?_eq_getElem hj')
      rw [List.getElem?_take] at hu
      split at hu
      ·have : arr[0 + j]? = some u:=by simpa using hu
       rw [this] at hu2; cases hu2; exact h1
      ·cases hu
     obtain ⟨e1,e2⟩:=elemsOf_ok hn0 (hag2.imp id Nat.eq_of_beq_eq_true) hes hsrc hxl
     have hEs : IsEs w (EndI I β st base) es b.size g 0:=e2.at (fun j v hj=>by
      have:=take_at hhg 0 (p.len * b.size) j v (by simpa using hj)
      simpa using this) (fun _ h=>h) (fun _ _=>rfl)
     refine ⟨_,h,?_⟩
     simp only [PV.Is]
     refine ⟨some ⟨g,0,none⟩,p.cap,by rw [hw,e1],by omega,by omega,fun g' o' e=>by cases e; exact hEs,fun _=>⟨g,0,rfl,hgI ha hown,hn0⟩⟩
    ·rename_i hk
     obtain ⟨hn0,hlen,hle,hmx,hor⟩:=whole_dyn hh hb hc.1 hk hp
     refine ⟨_,h,?_⟩
     simp only [PV.Is]
     rcases hor with ⟨ha,hc0,hw⟩ | ⟨g,arr,fr,ha,hw,hhg,hes,hown,has⟩
     ·have : b.cs = []:=List.eq_nil_of_length_eq_zero (by omega)
      rw [this,hw]
      exact ⟨none,0,rfl,Nat.le_refl _,Nat.zero_le _,(fun _ _ e=>by cases e),fun hn=>absurd rfl hn⟩
     ·exact ⟨some ⟨g,0,none⟩,p.cap,by rw [hw,hlen],by omega,by omega,(fun g' o' e=>by cases e; exact IsEs.mono hI (fun _ _=>rfl) _ _ _ _ rfl hes),fun _=>⟨g,0,rfl,hgI ha hown,hn0⟩⟩
    ·exact h.elim
  ·simp only [PV.Is] at hx
   obtain ⟨vs,rfl,hx⟩:=hx
   obtain ⟨ds,h,hd⟩:=frzL_ok (fun x q v=>ih x q v) h hx
   exact ⟨_,h,by simp only [PV.Is]; exact ⟨vs,rfl,hd⟩⟩
  ·simp only [PV.Is] at hx
   obtain ⟨vs,rfl,hx⟩:=hx
   obtain ⟨ds,h,hd⟩:=frzL_ok (fun x q v=>ih x q v) h hx
   exact ⟨_,h,by simp only [PV.Is]; exact ⟨vs,rfl,hd⟩⟩
  ·simp only [PV.Is] at hx
   obtain ⟨vs,rfl,hx⟩:=hx
   obtain ⟨ds,h,hd⟩:=frzL_ok (fun x q v=>ih x q v) h hx
   exact ⟨_,h,by simp only [PV.Is]; exact ⟨vs,rfl,hd⟩⟩
  ·obtain ⟨hu,h⟩:=bif_ok h
   exact ⟨_,h,uses_low hu hx hI⟩
theorem Spec.intro {f : FuncId} {args : List PV} {S : List PBlk} {rl : List Nat} {K : PV -> List PBlk -> Prop} (he : Ev.Enters G.cx.P f) (h : ∀ I β w vals,HeapOk I β S w -> ImmOk G I w -> IsL w I args β vals ->
  Calls G.cx.P f vals.toArray w fun e w'=>∃ v r S' I' β',e = .returned v /\ K r S' /\ r.Is w' I' β' v /\ HeapOk I' β' S' w' /\ ImmOk G I' w' /\ Ext I β S w I' β' S' w' /\ S.length <= S'.length /\ ∀ l,l < S.length -> l ∉ rl -> β' l = β l) : Spec G f args S rl K:=by
 unfold Spec; exact ⟨he,h⟩
theorem Spec.run {f : FuncId} {args : List PV} {S : List PBlk} {rl : List Nat} {K : PV -> List PBlk -> Prop} (h : Spec G f args S rl K) : Ev.Enters G.cx.P f /\ ∀ I β w vals,HeapOk I β S w -> ImmOk G I w -> IsL w I args β vals ->
  Calls G.cx.P f vals.toArray w fun e w'=>∃ v r S' I' β',e = .returned v /\ K r S' /\ r.Is w' I' β' v /\ HeapOk I' β' S' w' /\ ImmOk G I' w' /\ Ext I β S w I' β' S' w' /\ S.length <= S'.length /\ ∀ l,l < S.length -> l ∉ rl -> β' l = β l:=by
 unfold Spec at h; exact h
theorem Spec.mono {f : FuncId} {args : List PV} {S : List PBlk} {rl : List Nat} {K K' : PV -> List PBlk -> Prop} (h : Spec G f args S rl K) (hK : ∀ r S',K r S' -> K' r S') : Spec G f args S rl K' :=
 Spec.intro h.run.1 fun I β w vals h1 h2 h3=>(h.run.2 I β w vals h1 h2 h3).mono fun e w' ⟨v,r,S',I',β',h1,h2,h3⟩=>⟨v,r,S',I',β',h1,hK r S' h2,h3⟩
theorem Spec.enter (hG : GOk G) (R : List (Nat × Plan)) {f : FuncId} {fn : Func} {c : Code} {args : List PV} {S : List PBlk} {rl : List Nat} {K : PV -> List PBlk -> Prop} (N : Nat) (hf : G.cx.P.funcs[f]? = some fn) (hb : fn.body = some c) (hpl : planAll R c = true) (h : enterK G R N fn c args S rl K) : Spec G f args S rl K:=by
 obtain ⟨hc,h⟩:=bif_ok h
 simp only [Bool.and_eq_true,Bool.not_eq_true'] at hc
 obtain ⟨⟨hle,hlim⟩,hname⟩:=hc
 have hle:=Nat.le_of_ble_eq_true hle
 have hlim:=Nat.le_of_ble_eq_true hlim
 replace h:=lenK_ok h
 rw [Nat.zero_add] at h
 obtain ⟨t,h,ht⟩:=argT_ok h
 refine Spec.intro (Ev.enters_of hf hb hname) fun I β w vals hH hM hA=>calls_of_wp hf hb ?_
 have hal:=hA.length
 have hR : Rel G I β ⟨fn.ntmps,t,S,S.length,rl⟩ { tmps:=vals.toArray ++ Array.replicate (fn.ntmps - vals.toArray.size) Go.undef,defers:=[] } w:=by
  refine ⟨hlim,rfl,by simp; omega,Nat.le_refl _,fun n x hx=>?_,hH,hM⟩
  rcases ht n x hx with ⟨j,hj,hx⟩ | hx
  ·rw [Nat.zero_add] at hj
   subst hj
   obtain ⟨v,hv,hi⟩:=hA.get hx
   have hlt : n < vals.length:=(List.getElem?_eq_some_iff.1 hv).1
   exact ⟨v,by rw [Array.getElem?_append_left (by simpa using hlt)]; simpa using hv,hi⟩
  ·cases hx
 refine wp_mono ((pw_ok hG N c _ _ hpl h).run hR) fun e a' w' hp=>?_
 obtain ⟨x,s',I',β',rfl,hq,hR',hg⟩:=hp.goes
 have fin_ : retK G fn.results.toList S.length K .nml s' -> a'.defers = [] /\ ∃ v,(results fn a'.tmps).run G.cx.P w' = .ok v w' /\ ∃ v',∃ r S' I' β',Ending.returned v = .returned v' /\ K r S' /\ r.Is w' I' β' v' /\ HeapOk I' β' S' w' /\ ImmOk G I' w' /\ Ext I β S w I' β' S' w' /\ S.length <= S'.length /\ ∀ l,l < S.length -> l ∉ rl -> β' l = β l:=by
  intro hq
  obtain ⟨r,v,hq,hr,hrun⟩:=resK_ok hG hR' hq
  obtain ⟨y,hq,hy⟩:=frz_ok hR'.heap 8 r _ v hq hr
  obtain ⟨hlow,hq⟩:=bif_ok hq
  obtain ⟨r',hle',hK⟩:=frBB_ok hq
  rw [List.all_eq_true] at hlow
  have hbase : s'.base = S.length:=hg.base
  have hlen : S.length <= s'.st.length:=by have:=hR'.base; rw [hbase] at this; exact this
  have hI : ∀ g,I' g -> EndI I' β' s'.st S.length g:=fun g h=>.inl h
  have hget : ∀ (l : Nat) (b : PBlk),(s'.st.take S.length)[l]? = some b -> l < S.length /\ s'.st[l]? = some b:=fun l b hb=>by
   rw [List.getElem?_take] at hb
   split at hb
   ·exact ⟨‹_›,hb⟩
   ·cases hb
  have hHe : HeapOk (EndI I' β' s'.st S.length) (EndB β' S.length) (s'.st.take S.length) w':=by
   refine ⟨fun l hl=>?_,fun l b hb hlive=>?_⟩
   ·unfold EndB
    rw [if_neg (by simp at hl; omega)]
   ·obtain ⟨hl,hb'⟩:=hget l b hb
    have hlb:=hlow b (List.mem_of_getElem? hb)
    obtain ⟨p,hp,hk⟩:=hR'.heap.blk l b hb' hlive
    have own : ∀ {g : Nat} {o : Nat} {fr : Nat × Nat},p.a = some (g,o) -> Own I' β' s'.st l g fr b -> Own (EndI I' β' s'.st S.length) (EndB β' S.length) (s'.st.take S.length) l g fr b:=fun {g o fr} ha ho=>by
     refine ⟨fun hr=>?_,fun hr=>hI g (ho.2 hr)⟩
     obtain ⟨h1,h2,h3⟩:=ho.1 hr
     refine ⟨h1,fun hE=>?_,fun l2 b2 hne hl2 hlive2 p2 g2 o2 hp2 ha2=>?_⟩
     ·rcases hE with hE | ⟨l2,b2,p2,o2,k1,k2,k3,_,k5,k6⟩
      ·exact h2 hE
      ·exact h3 l2 b2 (by omega) k2 k3 p2 g o2 k5 k6 rfl
     ·obtain ⟨hl2',hb2⟩:=hget l2 b2 hl2
      unfold EndB at hp2
      rw [if_pos hl2'] at hp2
      exact h3 l2 b2 hne hb2 hlive2 p2 g2 o2 hp2 ha2
    have cells : b.k.isC = true -> ∀ {arr : Array Value} {o : Nat},CellsAt w' I' β' b.cs arr o -> CellsAt w' (EndI I' β' s'.st S.length) (EndB β' S.length) b.cs arr o:=fun hk {arr o} hc i c hi=>by
     obtain ⟨u,hu,hi',h1⟩:=hc i c hi
     refine ⟨u,hu,uses_low ?_ hi' hI,h1⟩
     unfold lowB at hlb
     cases hkk : b.k with
     | dyn=>rw [hkk] at hk; cases hk
     | mp=>rw [hkk] at hk; cases hk
     | loc=>rw [hkk] at hlb; rw [List.all_eq_true] at hlb; exact hlb c (List.mem_of_getElem? hi)
     | arr=>rw [hkk] at hlb; rw [List.all_eq_true] at hlb; exact hlb c (List.mem_of_getElem? hi)
    refine ⟨p,by unfold EndB; rw [if_pos hl]; exact hp,?_⟩
    split at hk
    ·rename_i hkk
     obtain ⟨g,o,arr,ty,fr,h1,h2,h3,ho⟩:=hk
     exact ⟨g,o,arr,ty,fr,h1,h2,cells (by rw [hkk]; decide) h3,own h1 ho⟩
    ·rename_i hkk
     obtain ⟨g,arr,fr,h1,h2,h3,ho,h4⟩:=hk
     exact ⟨g,arr,fr,h1,h2,cells (by rw [hkk]; decide) h3,own h1 ho,h4⟩
    ·obtain ⟨h1,hk⟩:=hk
     refine ⟨h1,?_⟩
     rcases hk with h | ⟨g,arr,fr,h2,h3,h4,ho,h5⟩
     ·exact .inl h
     ·exact .inr ⟨g,arr,fr,h2,h3,IsEs.mono hI (fun _ _=>rfl) _ _ _ _ rfl h4,own h2 ho,h5⟩
    ·obtain ⟨g,h1,h2,ho⟩:=hk
     exact ⟨g,h1,h2,own h1 ho⟩
  have hlt : ∀ g,EndI I' β' s'.st S.length g -> g < w'.heap.size:=fun g hg=>by
   rcases hg with hg | ⟨l,b,p,o,_,k2,k3,_,k5,k6⟩
   ·exact hR'.imm.imm g hg
   ·exact hR'.heap.lives_lt ⟨l,b,p,o,k2,k3,k5,k6⟩
  have hMe : ImmOk G (EndI I' β' s'.st S.length) w':=⟨hlt,fun g cs hgc=>by
   obtain ⟨h1,h2⟩:=hR'.imm.tab g cs hgc
   exact ⟨hI g h1,IsAt.mono hI (fun _ _=>rfl) cs g 0 rfl h2⟩,hR'.imm.row⟩
  have hE:=hg.ext
  refine ⟨hR'.defers,v,hrun,v,r',_,_,_,rfl,hK,hle' _ _ _ _ hy,hHe,hMe,⟨hE.os,hE.tape,hE.output,hE.size,hE.block,fun g hgl ⟨l,b,p,o,h1,h2,h3,h4,h5⟩=>?_,fun g hg=>hI g (hE.imm g hg),fun g hgl hgI=>?_⟩,by rw [List.length_take]; omega,fun l hl hr=>?_⟩
  ·obtain ⟨hl,hb⟩:=hget l b h1
   unfold EndB at h4
   rw [if_pos hl] at h4
   exact hE.wr g hgl ⟨l,b,p,o,hb,h2,h3,h4,h5⟩
  ·rcases hgI with hgI | ⟨l,b,p,o,_,k2,k3,k4,k5,k6⟩
   ·exact hE.new g hgl hgI
   ·exact .inr (hE.wr g hgl ⟨l,b,p,o,k2,k3,k4,k5,k6⟩)
  ·unfold EndB
   rw [if_pos hl]
   exact hg.low l hl hr
 cases x with
 | nml=>exact fin_ hq
 | ret=>exact fin_ hq
 | exit id=>exact hq.elim
end
end Go.Proofs.YtnbngokbamifbaaGreatDoor.Pw
namespace Go.Proofs.YtnbngokbamifbaaGreatDoor.Pw
open Go Go.RowKit
section
variable {w w' : World} {I I' : Nat -> Prop} {β β' : Places} {G : Gx} {s : PSt} {a : Act} {st st' : List PBlk}
def PureF (G : Gx) (f : FuncId) (args : List PV) (r : PV) : Prop:=Spec G f args [] [] fun r' _=>r' = r
theorem uses_none {x : PV} {v : Value} (h : x.uses = []) (hx : x.Is w I β v) : x.Is w I β' v:=PV.Is.mono (fun _ h=>h) (fun _ _=>rfl) x β β' v (fun l p hl=>by rw [h] at hl; cases hl) hx
theorem usesL_none {xs : List PV} {vs : List Value} (h : usesL xs = []) (hx : IsL w I xs β vs) : IsL w I xs β' vs:=IsL.mono (fun _ h=>h) (fun _ _=>rfl) xs β β' vs (fun l p hl=>by rw [h] at hl; cases hl) hx
theorem PureF.use {f : FuncId} {args args' : List PV} {r : PV} {S : List PBlk} {K : PV -> List PBlk -> Prop} (h : PureF G f args' r) (hle : leL leK args args') (hu : usesL args' = []) (hr : r.uses = []) (hK : K r S) : Spec G f args S [] K:=by
 refine Spec.intro h.run.1 fun I β w vals hH hM hA=>?_
 have h0 : HeapOk I (fun _=>none) ([] : List PBlk) w:=⟨fun _ _=>rfl,fun l b hl=>by simp at hl⟩
 refine (h.run.2 I (fun _=>none) w vals h0 hM (usesL_none hu (leL_ok (fun _ _=>leK_ok) hle hA))).mono fun e w' ⟨v,r',S',I',β',he,hr',hi,_,hM',hE,_,_⟩=>?_
 subst hr'
 have hnw : ∀ g,¬ Wr (fun _=>none) ([] : List PBlk) g:=fun g ⟨l,b,p,o,h1,_⟩=>by simp at h1
 have hold : ∀ g,g < w.heap.size -> w'.heap[g]? = w.heap[g]?:=fun g hg=>hE.block g hg (hnw g)
 have hI' : ∀ g,g < w.heap.size -> I' g -> I g:=fun g hg h=>(hE.new g hg h).elim id fun h=>absurd h (hnw g)
 refine ⟨v,r',S,I',β,he,hK,uses_none hr hi,⟨hH.far,fun l b hl hlive=>?_⟩,hM',⟨hE.os,hE.tape,hE.output,hE.size,fun g hg _=>hold g hg,fun g _ h=>h,hE.imm,fun g hg h=>.inl (hI' g hg h)⟩,Nat.le_refl _,fun _ _ _=>rfl⟩
 have hb:=hH.blk l b hl hlive
 refine hb.mono hE.imm (fun g hg=>hold g (hM.imm g hg)) (fun _ _ h=>h) fun p g o hp ha=>?_
 obtain ⟨arr,ty,fr,hh,ho⟩:=hb.place hp ha
 have hlt:=lt_of_heap hh
 exact ⟨hold g hlt,fun hr=>⟨fun hI=>(ho.1 hr).2.1 (hI' g hlt hI),(ho.1 hr).2.2⟩⟩
theorem Spec.args {f : FuncId} {args args' : List PV} {S : List PBlk} {rl : List Nat} {K : PV -> List PBlk -> Prop} (h : Spec G f args' S rl K) (hle : leL leK args args') : Spec G f args S rl K :=
 Spec.intro h.run.1 fun I β w vals hH hM hA=>h.run.2 I β w vals hH hM (leL_ok (fun _ _=>leK_ok) hle hA)
theorem retE {r r0 : PV} (h : leK r r0) : ∃ r',PLe r r' /\ r' = r0:=⟨r0,leK_ok h,rfl⟩
theorem inR_i64 {z : Int} (h : -9223372036854775808 <= z /\ z <= 9223372036854775807) : InR .i64 z:=by unfold InR Ev.kmin Ev.kmax; simp only [IntKind.signed,IntKind.bits]; simpa using h
theorem inR_u32 {z : Int} (h : 0 <= z /\ z <= 4294967295) : InR .u32 z:=by unfold InR Ev.kmin Ev.kmax; simp only [IntKind.signed,IntKind.bits]; simpa using h
theorem inR_u64 {z : Int} (h : 0 <= z /\ z <= 18446744073709551615) : InR .u64 z:=by unfold InR Ev.kmin Ev.kmax; simp only [IntKind.signed,IntKind.bits]; simpa using h
theorem inR_u8 {z : Int} (h : 0 <= z /\ z <= 255) : InR .u8 z:=by unfold InR Ev.kmin Ev.kmax; simp only [IntKind.signed,IntKind.bits]; simpa using h
end
end Go.Proofs.YtnbngokbamifbaaGreatDoor.Pw
namespace Go.Proofs.YtnbngokbamifbaaGreatDoor.Pw
open Go
noncomputable def bt : List (Nat × Nat):=[(3,Tryz.t3.bytes),(76,Tryz.t76.bytes),(39,Tryz.t39.bytes),(135,Tryz.t135.bytes),(92,Tryz.t92.bytes),(74,Tryz.t74.bytes),(166,Tryz.t166.bytes),(216,Tryz.t216.bytes),(85,Tryz.t85.bytes),(214,Tryz.t214.bytes),(42,Tryz.t42.bytes),(45,Tryz.t45.bytes),(125,Tryz.t125.bytes),(52,Tryz.t52.bytes),(27,Tryz.t27.bytes),(94,Tryz.t94.bytes),(28,Tryz.t28.bytes),(163,Tryz.t163.bytes),(40,Tryz.t40.bytes),(50,Tryz.t50.bytes),(22,Tryz.t22.bytes),(58,Tryz.t58.bytes),(4,Tryz.t4.bytes),(24,Tryz.t24.bytes),(196,Tryz.t196.bytes),(100,Tryz.t100.bytes),(31,Tryz.t31.bytes),(120,Tryz.t120.bytes),(212,Tryz.t212.bytes),(5,Tryz.t5.bytes),(64,Tryz.t64.bytes),(118,Tryz.t118.bytes),(30,Tryz.t30.bytes),(47,Tryz.t47.bytes),(48,Tryz.t48.bytes),(227,Tryz.t227.bytes),(69,Tryz.t69.bytes),(46,Tryz.t46.bytes),(34,Tryz.t34.bytes),(78,Tryz.t78.bytes),(77,Tryz.t77.bytes),(147,Tryz.t147.bytes),(9,Tryz.t9.bytes),(104,Tryz.t104.bytes),(150,Tryz.t150.bytes),(210,Tryz.t210.bytes),(2,Tryz.t2.bytes),(221,Tryz.t221.bytes),(225,Tryz.t225.bytes),(242,Tryz.t242.bytes),(180,Tryz.t180.bytes),(249,Tryz.t249.bytes),(195,Tryz.t195.bytes),(110,Tryz.t110.bytes),(223,Tryz.t223.bytes),(98,Tryz.t98.bytes),(237,Tryz.t237.bytes)]
theorem bt_ok : ∀ p ∈ bt,∃ i,Tryz.prog.info? p.1 = some i /\ i.bytes = p.2 :=
 Ev.all_cons ⟨Tryz.t3,by kernel_rfl,rfl⟩ <|
 Ev.all_cons ⟨Tryz.t76,by kernel_rfl,rfl⟩ <|
 Ev.all_cons ⟨Tryz.t39,by kernel_rfl,rfl⟩ <|
 Ev.all_cons ⟨Tryz.t135,by kernel_rfl,rfl⟩ <|
 Ev.all_cons ⟨Tryz.t92,by kernel_rfl,rfl⟩ <|
 Ev.all_cons ⟨Tryz.t74,by kernel_rfl,rfl⟩ <|
 Ev.all_cons ⟨Tryz.t166,by kernel_rfl,rfl⟩ <|
 Ev.all_cons ⟨Tryz.t216,by kernel_rfl,rfl⟩ <|
 Ev.all_cons ⟨Tryz.t85,by kernel_rfl,rfl⟩ <|
 Ev.all_cons ⟨Tryz.t214,by kernel_rfl,rfl⟩ <|
 Ev.all_cons ⟨Tryz.t42,by kernel_rfl,rfl⟩ <|
 Ev.all_cons ⟨Tryz.t45,by kernel_rfl,rfl⟩ <|
 Ev.all_cons ⟨Tryz.t125,by kernel_rfl,rfl⟩ <|
 Ev.all_cons ⟨Tryz.t52,by kernel_rfl,rfl⟩ <|
 Ev.all_cons ⟨Tryz.t27,by kernel_rfl,rfl⟩ <|
 Ev.all_cons ⟨Tryz.t94,by kernel_rfl,rfl⟩ <|
 Ev.all_cons ⟨Tryz.t28,by kernel_rfl,rfl⟩ <|
 Ev.all_cons ⟨Tryz.t163,by kernel_rfl,rfl⟩ <|
 Ev.all_cons ⟨Tryz.t40,by kernel_rfl,rfl⟩ <|
 Ev.all_cons ⟨Tryz.t50,by kernel_rfl,rfl⟩ <|
 Ev.all_cons ⟨Tryz.t22,by kernel_rfl,rfl⟩ <|
 Ev.all_cons ⟨Tryz.t58,by kernel_rfl,rfl⟩ <|
 Ev.all_cons ⟨Tryz.t4,by kernel_rfl,rfl⟩ <|
 Ev.all_cons ⟨Tryz.t24,by kernel_rfl,rfl⟩ <|
 Ev.all_cons ⟨Tryz.t196,by kernel_rfl,rfl⟩ <|
 Ev.all_cons ⟨Tryz.t100,by kernel_rfl,rfl⟩ <|
 Ev.all_cons ⟨Tryz.t31,by kernel_rfl,rfl⟩ <|
 Ev.all_cons ⟨Tryz.t120,by kernel_rfl,rfl⟩ <|
 Ev.all_cons ⟨Tryz.t212,by kernel_rfl,rfl⟩ <|
 Ev.all_cons ⟨Tryz.t5,by kernel_rfl,rfl⟩ <|
 Ev.all_cons ⟨Tryz.t64,by kernel_rfl,rfl⟩ <|
 Ev.all_cons ⟨Tryz.t118,by kernel_rfl,rfl⟩ <|
 Ev.all_cons ⟨Tryz.t30,by kernel_rfl,rfl⟩ <|
 Ev.all_cons ⟨Tryz.t47,by kernel_rfl,rfl⟩ <|
 Ev.all_cons ⟨Tryz.t48,by kernel_rfl,rfl⟩ <|
 Ev.all_cons ⟨Tryz.t227,by kernel_rfl,rfl⟩ <|
 Ev.all_cons ⟨Tryz.t69,by kernel_rfl,rfl⟩ <|
 Ev.all_cons ⟨Tryz.t46,by kernel_rfl,rfl⟩ <|
 Ev.all_cons ⟨Tryz.t34,by kernel_rfl,rfl⟩ <|
 Ev.all_cons ⟨Tryz.t78,by kernel_rfl,rfl⟩ <|
 Ev.all_cons ⟨Tryz.t77,by kernel_rfl,rfl⟩ <|
 Ev.all_cons ⟨Tryz.t147,by kernel_rfl,rfl⟩ <|
 Ev.all_cons ⟨Tryz.t9,by kernel_rfl,rfl⟩ <|
 Ev.all_cons ⟨Tryz.t104,by kernel_rfl,rfl⟩ <|
 Ev.all_cons ⟨Tryz.t150,by kernel_rfl,rfl⟩ <|
 Ev.all_cons ⟨Tryz.t210,by kernel_rfl,rfl⟩ <|
 Ev.all_cons ⟨Tryz.t2,by kernel_rfl,rfl⟩ <|
 Ev.all_cons ⟨Tryz.t221,by kernel_rfl,rfl⟩ <|
 Ev.all_cons ⟨Tryz.t225,by kernel_rfl,rfl⟩ <|
 Ev.all_cons ⟨Tryz.t242,by kernel_rfl,rfl⟩ <|
 Ev.all_cons ⟨Tryz.t180,by kernel_rfl,rfl⟩ <|
 Ev.all_cons ⟨Tryz.t249,by kernel_rfl,rfl⟩ <|
 Ev.all_cons ⟨Tryz.t195,by kernel_rfl,rfl⟩ <|
 Ev.all_cons ⟨Tryz.t110,by kernel_rfl,rfl⟩ <|
 Ev.all_cons ⟨Tryz.t223,by kernel_rfl,rfl⟩ <|
 Ev.all_cons ⟨Tryz.t98,by kernel_rfl,rfl⟩ <|
 Ev.all_cons ⟨Tryz.t237,by kernel_rfl,rfl⟩ <| Ev.all_nil
noncomputable def gxOf (tabs : List (Nat × List PV)) : Gx:={ cx:=Ev.cxOf [] [],tabs:=tabs,bt:=bt }
theorem gxOk (tabs : List (Nat × List PV)) : GOk (gxOf tabs):=⟨Ev.cxOk [] [],bt_ok⟩
end Go.Proofs.YtnbngokbamifbaaGreatDoor.Pw
namespace Go.Proofs.YtnbngokbamifbaaGreatDoor.Pw
open Go Go.RowKit
def facP : List PV:=[.lit .u32 1,.lit .u32 65537,.lit .u32 16777472,.lit .u32 16843009]
def shP : List PV:=[0,1,1,1,2,2,3,3,4,4,4,4,5,5,5,5,5,5,5,5,5,5,5,5,5,5,5,5,6,6,6,7,8,2,2,9,9,8,8,8,10,10,11,12,13,14,15,16,17,17,18,18,18,18,18,18,18,18,18,18,19,19,20,20,20,20,21,21,21,21,21,21,21,21,21,21,22,22,23,23,23,23,24,24,25,25,26,26,27,27,27,27,28,29,30,31,31,28,32,33,34].map (.lit .i64)
noncomputable def gT : Gx:=gxOf [(1,facP),(0,shP)]
theorem gTok : GOk gT:=gxOk _
end Go.Proofs.YtnbngokbamifbaaGreatDoor.Pw

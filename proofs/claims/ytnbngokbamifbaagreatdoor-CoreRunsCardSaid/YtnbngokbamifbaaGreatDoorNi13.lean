/- What a law is proved with. -/
import Derived.Test.YtnbngokbamifbaaGreatDoorNi12
import Derived.Deep.OwnRows
import Derived.Laws.AppendOwn
set_option linter.unusedVariables false
set_option linter.unusedSimpArgs false
namespace Go.Proofs.YtnbngokbamifbaaGreatDoor.Pw
open Go Go.RowKit
def leBlk (b b' : PBlk) : Prop:=match b,b' with
 | ⟨k,ty,n,m,live,cs⟩,⟨k',ty',n',m',live',cs'⟩=>bif Nat.beq ty ty' && Nat.beq n n' && Md.beq m m' && live && live' && BK.beq k k' then (match k with
  | .dyn=>cs = cs'
  | .mp=>cs = cs'
  | _=>leL le1 cs cs') else False
def stLeR : List PBlk -> List PBlk -> (List PBlk -> Prop) -> Prop
 | [],T,k=>k T
 | b' :: S,b :: st,k=>leBlk b b' /\ stLeR S st k
 | _ :: _,[],_=>False
def stLe (st S : List PBlk) (k : List PBlk -> Prop) : Prop:=stLeR S st k
def appK : List PBlk -> List PBlk -> (List PBlk -> Prop) -> Prop
 | [],T,k=>k T
 | b :: l,T,k=>appK l T fun r=>k (b :: r)
def modeS : List PBlk -> List PBlk -> Bool
 | [],[]=>true
 | a :: S,b :: T=>a.live && Md.beq a.m b.m && modeS S T
 | _,_=>false
theorem appK_ok : ∀ {S T : List PBlk} {k : List PBlk -> Prop},appK S T k -> k (S ++ T)
 | [],_,_,h=>h
 | b :: l,T,k,h=>appK_ok (S:=l) h
theorem BK.beq_ok {m n : BK} (h : BK.beq m n = true) : m = n:=by cases m <;> cases n <;> first | rfl | cases h
theorem leBlk_ok {b b' : PBlk} (h : leBlk b b') : b.ty = b'.ty /\ b.size = b'.size /\ b.m = b'.m /\ b.live = true /\ b'.live = true /\ b.k = b'.k /\ ((b.k.isC = false /\ b.cs = b'.cs) \/ (b.k.isC = true /\ leL le1 b.cs b'.cs)):=by
 obtain ⟨k,ty,n,m,live,cs⟩:=b
 obtain ⟨k',ty',n',m',live',cs'⟩:=b'
 obtain ⟨hc,h⟩:=bif_ok h
 simp only [Bool.and_eq_true] at hc
 obtain ⟨⟨⟨⟨⟨h1,h2⟩,h3⟩,h4⟩,h5⟩,h6⟩:=hc
 refine ⟨Nat.eq_of_beq_eq_true h1,Nat.eq_of_beq_eq_true h2,Md.beq_ok h3,h4,h5,BK.beq_ok h6,?_⟩
 cases k with
 | dyn=>exact .inl ⟨rfl,h⟩
 | mp=>exact .inl ⟨rfl,h⟩
 | loc=>exact .inr ⟨rfl,h⟩
 | arr=>exact .inr ⟨rfl,h⟩
theorem stLe_ok : ∀ {S st : List PBlk} {k : List PBlk -> Prop},stLe st S k -> ∃ st0 T,st = st0 ++ T /\ st0.length = S.length /\ k T /\ ∀ (l : Nat) (b b' : PBlk),st0[l]? = some b -> S[l]? = some b' -> leBlk b b'
 | [],T,k,h=>⟨[],T,rfl,rfl,h,fun l b b' hb=>by simp at hb⟩
 | b' :: S,b :: st,k,h=>by
  obtain ⟨st0,T,rfl,hl,hk,ha⟩:=stLe_ok (S:=S) (st:=st) h.2
  refine ⟨b :: st0,T,rfl,by simp [hl],hk,fun l c c' hc hc'=>?_⟩
  cases l with
  | zero=>simp at hc hc'; subst hc; subst hc'; exact h.1
  | succ l=>exact ha l c c' (by simpa using hc) (by simpa using hc')
 | _ :: _,[],_,h=>h.elim
theorem modeS_ok : ∀ {S T : List PBlk},modeS S T = true -> S.length = T.length /\ ∀ (l : Nat) (a b : PBlk),S[l]? = some a -> T[l]? = some b -> a.live = true /\ a.m = b.m
 | [],[],_=>⟨rfl,fun l a b h=>by simp at h⟩
 | a :: S,b :: T,h=>by
  simp only [modeS,Bool.and_eq_true] at h
  obtain ⟨h1,h2⟩:=modeS_ok h.2
  refine ⟨by simp [h1],fun l c d hc hd=>?_⟩
  cases l with
  | zero=>simp at hc hd; subst hc; subst hd; exact ⟨h.1.1,Md.beq_ok h.1.2⟩
  | succ l=>exact h2 l c d (by simpa using hc) (by simpa using hd)
 | [],_ :: _,h=>by simp [modeS] at h
 | _ :: _,[],h=>by simp [modeS] at h
section
variable {w w' : World} {I I' : Nat -> Prop} {β β' : Places} {G : Gx} {s : PSt} {a : Act} {st st' : List PBlk}
theorem Spec.useS {f : FuncId} {args args' : List PV} {r0 : PV} {S0 S1 : List PBlk} {K : PV -> List PBlk -> Prop} (h : Spec G f args' S0 [] fun r S'=>r = r0 /\ S' = S1) (hm : modeS S0 S1 = true) (hlow : S0.all (lowB S0.length) = true) (hu : (usesL args').all (fun l=>Nat.blt l S0.length) = true)
  (hr0 : r0.uses.all (fun l=>Nat.blt l S0.length) = true) (hle : leL leK args args') (hK : stLe st S0 fun T=>frBB S1 fun S1=>appK S1 T (K r0)) : Spec G f args st [] K:=by
 obtain ⟨st0,T,rfl,hl0,hk,hle0⟩:=stLe_ok hK
 replace hk:=appK_ok (frBB_ok hk)
 obtain ⟨hl1,hmd⟩:=modeS_ok hm
 refine Spec.intro h.run.1 fun I β w vals hH hM hA=>?_
 let β0 : Places:=fun l=>if l < S0.length then β l else none
 have hβ0 : ∀ l,l < S0.length -> β0 l = β l:=fun l hl=>if_pos hl
 have hβn : ∀ {l p},β0 l = some p -> l < S0.length /\ β l = some p:=fun {l p} h=>by
  by_cases hl : l < S0.length
  ·exact ⟨hl,by rw [← hβ0 l hl]; exact h⟩
  ·have : β0 l = none:=if_neg hl
   rw [this] at h; cases h
 have old : ∀ {l : Nat} {b' : PBlk},S0[l]? = some b' -> l < S0.length /\ ∃ b,(st0 ++ T)[l]? = some b /\ leBlk b b':=fun {l b'} hb'=>by
  have hlt : l < S0.length:=(List.getElem?_eq_some_iff.1 hb').1
  have hlt0 : l < st0.length:=by omega
  refine ⟨hlt,st0[l],by rw [List.getElem?_append_left hlt0]; simp [hlt0],hle0 l _ b' (by simp [hlt0]) hb'⟩
 have low : ∀ {l : Nat} {b' : PBlk},S0[l]? = some b' -> b'.k.isC = true -> ∀ c ∈ b'.cs,∀ m ∈ c.uses,m < S0.length:=fun {l b'} hb' hk c hc m hm'=>by
  rw [List.all_eq_true] at hlow
  have:=hlow b' (List.mem_of_getElem? hb')
  unfold lowB at this
  have hall : b'.cs.all (fun c=>c.uses.all fun l=>Nat.blt l S0.length) = true:=by
   cases hkk : b'.k with
   | dyn=>rw [hkk] at hk; cases hk
   | mp=>rw [hkk] at hk; cases hk
   | loc=>rw [hkk] at this; exact this
   | arr=>rw [hkk] at this; exact this
  rw [List.all_eq_true] at hall
  have:=hall c hc
  rw [List.all_eq_true] at this
  exact Nat.le_of_ble_eq_true (this m hm')
 have hH0 : HeapOk I β0 S0 w:=by
  refine ⟨fun l hl=>if_neg (by omega),fun l b' hb' hlive=>?_⟩
  obtain ⟨hlt,b,hb,hle1⟩:=old hb'
  obtain ⟨e1,e2,e3,e4,e5,e6,e7⟩:=leBlk_ok hle1
  obtain ⟨p,hp,hB⟩:=hH.blk l b hb e4
  have own : ∀ {g : Nat} {fr : Nat × Nat},Own I β (st0 ++ T) l g fr b -> Own I β0 S0 l g fr b':=fun {g fr} ho=>by
   refine ⟨fun hr=>?_,fun hr=>ho.2 (by rw [e3]; exact hr)⟩
   obtain ⟨h1,h2,h3⟩:=ho.1 (by rw [e3]; exact hr)
   refine ⟨h1,h2,fun l2 b2 hne hl2 hlive2 p2 g2 o2 hp2 ha2=>?_⟩
   obtain ⟨_,b3,hb3,hle3⟩:=old hl2
   exact h3 l2 b3 hne hb3 (leBlk_ok hle3).2.2.2.1 p2 g2 o2 (hβn hp2).2 ha2
  have cells : b'.k.isC = true -> ∀ {arr : Array Value} {o : Nat},CellsAt w I β b.cs arr o -> CellsAt w I β0 b'.cs arr o:=fun hk {arr o} hc i c hi=>by
   have hc2 : CellsAt w I β b'.cs arr o:=by
    rcases e7 with ⟨hd,_⟩ | ⟨_,h7⟩
    ·(rw [e6,hk] at hd; cases hd)
    ·exact leL_cells h7 hc
   obtain ⟨u,hu',hi',h1⟩:=hc2 i c hi
   exact ⟨u,hu',PV.Is.mono (fun _ h=>h) (fun _ _=>rfl) c β β0 u (fun m p hm' hp'=>by rw [hβ0 m (low hb' hk c (List.mem_of_getElem? hi) m hm')]; exact hp') hi',h1⟩
  refine ⟨p,by rw [hβ0 l hlt]; exact hp,?_⟩
  split at hB
  ·rename_i hkk
   have hk' : b'.k = .loc:=by rw [← e6]; exact hkk
   obtain ⟨g,o,arr,ty,fr,h1,h2,h3,ho⟩:=hB
   rw [hk']
   exact ⟨g,o,arr,ty,fr,h1,h2,cells (by rw [hk']; rfl) h3,own ho⟩
  ·rename_i hkk
   have hk' : b'.k = .arr:=by rw [← e6]; exact hkk
   obtain ⟨g,arr,fr,h1,h2,h3,ho,h4,h5,h6,h7,h8⟩:=hB
   have hlen : b'.cs.length = b.cs.length:=by
    rcases e7 with ⟨hd,_⟩ | ⟨_,h9⟩
    ·rw [hkk] at hd; cases hd
    ·exact (leL_len h9).symm
   rw [hk']
   exact ⟨g,arr,fr,h1,by rw [← e1]; exact h2,cells (by rw [hk']; rfl) h3,own ho,by rw [hlen,← e2]; exact h4,h5,h6,by rw [← e2]; exact h7,by rw [← e2]; exact h8⟩
  ·rename_i hkk
   have hk' : b'.k = .dyn:=by rw [← e6]; exact hkk
   have hcs : b.cs = b'.cs:=by
    rcases e7 with ⟨_,h9⟩ | ⟨hd,_⟩
    ·exact h9
    ·(rw [hkk] at hd; cases hd)
   obtain ⟨⟨h1,h2,h3,h4⟩,hB⟩:=hB
   rw [hk']
   refine ⟨⟨by rw [← e2]; exact h1,by rw [← hcs]; exact h2,h3,h4⟩,?_⟩
   rcases hB with h | ⟨g,arr,fr,h5,h6,h7,ho,h8⟩
   ·exact .inl h
   ·exact .inr ⟨g,arr,fr,h5,by rw [← e1]; exact h6,by rw [← hcs,← e2]; exact h7,own ho,by rw [← e2]; exact h8⟩
  ·rename_i hkk
   have hk' : b'.k = .mp:=by rw [← e6]; exact hkk
   have hcs : b.cs = b'.cs:=by
    rcases e7 with ⟨_,h9⟩ | ⟨hd,_⟩
    ·exact h9
    ·(rw [hkk] at hd; cases hd)
   obtain ⟨g,h1,h2,ho⟩:=hB
   rw [hk']
   exact ⟨g,h1,by rw [← hcs]; exact h2,own ho⟩
 have hA' : IsL w I args' β0 vals:=by
  have:=leL_ok (fun _ _=>leK_ok) hle hA
  refine IsL.mono (fun _ h=>h) (fun _ _=>rfl) args' β β0 vals (fun m p hm' hp'=>?_) this
  rw [List.all_eq_true] at hu
  rw [hβ0 m (Nat.le_of_ble_eq_true (hu m hm'))]; exact hp'
 refine (h.run.2 I β0 w vals hH0 hM hA').mono fun e w' ⟨v,r,S',I',β',he,⟨e1,e2⟩,hi,hH',hM',hE,hlen,hβ⟩=>?_
 subst e1; subst e2
 have hβ' : ∀ l,l < S0.length -> β' l = β l:=fun l hl=>(hβ l hl (by simp)).trans (hβ0 l hl)
 have hβm : ∀ l p,β' l = some p -> β l = some p:=fun l p hp=>by
  have : l < S0.length:=by have:=hH'.lt hp; omega
  rw [← hβ' l this]; exact hp
 have wr0 : ∀ {g},Wr β0 S0 g -> Wr β (st0 ++ T) g:=fun {g} ⟨l,b,p,o,h1,h2,h3,h4,h5⟩=>by
  obtain ⟨hlt,b2,hb2,hle2⟩:=old h1
  obtain ⟨_,_,q3,q4,_⟩:=leBlk_ok hle2
  exact ⟨l,b2,p,o,hb2,q4,by rw [q3]; exact h3,(hβn h4).2,h5⟩
 have wr1 : ∀ {g},Wr β (S' ++ T) g -> (Wr β' S' g) \/ ∃ l b p o,S0.length <= l /\ (st0 ++ T)[l]? = some b /\ b.live = true /\ b.m = .w /\ β l = some p /\ p.a = some (g,o):=fun {g} ⟨l,b,p,o,h1,h2,h3,h4,h5⟩=>by
  by_cases hl : l < S'.length
  ·rw [List.getElem?_append_left hl] at h1
   exact .inl ⟨l,b,p,o,h1,h2,h3,by rw [hβ' l (by omega)]; exact h4,h5⟩
  ·rw [List.getElem?_append_right (by omega)] at h1
   refine .inr ⟨l,b,p,o,by omega,?_,h2,h3,h4,h5⟩
   rw [List.getElem?_append_right (by omega),hl0,hl1]; exact h1
 have apart : ∀ {l : Nat} {b : PBlk} {p : Plc} {g o : Nat},S0.length <= l -> (st0 ++ T)[l]? = some b -> b.live = true -> β l = some p -> p.a = some (g,o) -> ¬ Wr β0 S0 g:=fun {l b p g o} hl hb hlive hp ha ⟨l2,b2,p2,o2,h1,h2,h3,h4,h5⟩=>by
  obtain ⟨hlt,b3,hb3,hle3⟩:=old h1
  obtain ⟨_,_,q3,q4,_⟩:=leBlk_ok hle3
  obtain ⟨arr,ty,fr,_,ho⟩:=(hH.blk l2 b3 hb3 q4).place (hβn h4).2 h5
  exact (ho.1 (by rw [q3,h3]; nofun)).2.2 l b (by omega) hb hlive p g o hp ha rfl
 refine ⟨v,r,S' ++ T,I',β,he,hk,PV.Is.mono (fun _ h=>h) (fun _ _=>rfl) r β' β v (fun m p _ hp=>hβm m p hp) hi,⟨fun l hl=>hH.far l (by simp only [List.length_append] at hl ⊢; omega),fun l b hb hlive=>?_⟩,hM',⟨hE.os,hE.tape,hE.output,hE.size,fun g hg hn=>hE.block g hg fun h=>hn (wr0 h),fun g hg h=>?_,hE.imm,fun g hg h=>(hE.new g hg h).imp id wr0⟩,by simp only [List.length_append]; omega,fun _ _ _=>rfl⟩
 ·by_cases hl : l < S'.length
  ·rw [List.getElem?_append_left hl] at hb
   have hB:=hH'.blk l b hb hlive
   refine hB.mono (fun _ h=>h) (fun _ _=>rfl) hβm fun p g o hp ha=>⟨rfl,fun hr=>?_⟩
   obtain ⟨arr,ty,fr,hh,ho⟩:=hB.place hp ha
   obtain ⟨h1,h2,h3⟩:=ho.1 hr
   refine ⟨h2,fun l2 b2 hne hb2 hlive2 p2 g2 o2 hp2 ha2=>?_⟩
   by_cases hl2 : l2 < S'.length
   ·rw [List.getElem?_append_left hl2] at hb2
    exact h3 l2 b2 hne hb2 hlive2 p2 g2 o2 (by rw [hβ' l2 (by omega)]; exact hp2) ha2
   ·rw [List.getElem?_append_right (by omega)] at hb2
    have hb2' : (st0 ++ T)[l2]? = some b2:=by rw [List.getElem?_append_right (by omega),hl0,hl1]; exact hb2
    obtain ⟨b0,hb0⟩ : ∃ b0,S0[l]? = some b0:=⟨S0[l]'(by omega),by simp [show l < S0.length by omega]⟩
    obtain ⟨_,b3,hb3,hle3⟩:=old hb0
    obtain ⟨_,_,q3,q4,_⟩:=leBlk_ok hle3
    obtain ⟨_,q5⟩:=hmd l b0 b hb0 hb
    obtain ⟨_,_,_,_,ho3⟩:=(hH.blk l b3 hb3 q4).place (hβm l p hp) ha
    exact (ho3.1 (by rw [q3,q5]; exact hr)).2.2 l2 b2 hne hb2' hlive2 p2 g2 o2 hp2 ha2
  ·rw [List.getElem?_append_right (by omega)] at hb
   have hb' : (st0 ++ T)[l]? = some b:=by rw [List.getElem?_append_right (by omega),hl0,hl1]; exact hb
   have hB:=hH.blk l b hb' hlive
   have same : ∀ {p g o},β l = some p -> p.a = some (g,o) -> g < w.heap.size /\ w'.heap[g]? = w.heap[g]?:=fun {p g o} hp ha=>by
    have hlt:=hH.lives_lt ⟨l,b,p,o,hb',hlive,hp,ha⟩
    exact ⟨hlt,hE.block g hlt (apart (by omega) hb' hlive hp ha)⟩
   refine hB.mono hE.imm (fun g hg=>hE.block g (hM.imm g hg) fun hw=>?_) (fun _ _ h=>h) fun p g o hp ha=>⟨(same hp ha).2,fun hr=>?_⟩
   ·exact hH0.wr_imm hw hg
   ·obtain ⟨arr,ty,fr,hh,ho⟩:=hB.place hp ha
    obtain ⟨h1,h2,h3⟩:=ho.1 hr
    refine ⟨fun hI=>(hE.new g (same hp ha).1 hI).elim h2 (apart (by omega) hb' hlive hp ha),fun l2 b2 hne hb2 hlive2 p2 g2 o2 hp2 ha2=>?_⟩
    by_cases hl2 : l2 < S'.length
    ·obtain ⟨b0,hb0⟩ : ∃ b0,S0[l2]? = some b0:=⟨S0[l2]'(by omega),by simp [show l2 < S0.length by omega]⟩
     obtain ⟨_,b3,hb3,hle3⟩:=old hb0
     exact h3 l2 b3 hne hb3 (leBlk_ok hle3).2.2.2.1 p2 g2 o2 hp2 ha2
    ·rw [List.getElem?_append_right (by omega)] at hb2
     exact h3 l2 b2 hne (by rw [List.getElem?_append_right (by omega),hl0,hl1]; exact hb2) hlive2 p2 g2 o2 hp2 ha2
 ·rcases wr1 h with h | ⟨l,b,p,o,_,h2,h3,h4,h5,h6⟩
  ·exact wr0 (hE.wr g hg h)
  ·exact ⟨l,b,p,o,h2,h3,h4,h5,h6⟩
def leSt : List PBlk -> List PBlk -> Prop
 | [],[]=>True
 | b :: S,b' :: S'=>leBlk b b' /\ leSt S S'
 | _,_=>False
theorem leSt_ok : ∀ {S S' : List PBlk},leSt S S' -> S.length = S'.length /\ ∀ (l : Nat) (b b' : PBlk),S[l]? = some b -> S'[l]? = some b' -> leBlk b b'
 | [],[],_=>⟨rfl,fun l b b' h=>by simp at h⟩
 | b :: S,b' :: S',h=>by
  obtain ⟨h1,h2⟩:=leSt_ok h.2
  refine ⟨by simp [h1],fun l c c' hc hc'=>?_⟩
  cases l with
  | zero=>simp at hc hc'; subst hc; subst hc'; exact h.1
  | succ l=>exact h2 l c c' (by simpa using hc) (by simpa using hc')
 | [],_ :: _,h=>h.elim
 | _ :: _,[],h=>h.elim
theorem leSt_some {S S' : List PBlk} (h : leSt S S') {l : Nat} {b' : PBlk} (hb : S'[l]? = some b') : ∃ b,S[l]? = some b /\ leBlk b b':=by
 obtain ⟨h1,h2⟩:=leSt_ok h
 have hl : l < S.length:=by rw [h1]; exact (List.getElem?_eq_some_iff.1 hb).1
 exact ⟨S[l],by simp [hl],h2 l _ _ (by simp [hl]) hb⟩
theorem HeapOk.le {S S' : List PBlk} (h : leSt S S') (hH : HeapOk I β S w) : HeapOk I β S' w:=by
 refine ⟨fun l hl=>hH.far l (by rw [(leSt_ok h).1]; exact hl),fun l b' hb' hlive=>?_⟩
 obtain ⟨b,hb,hle1⟩:=leSt_some h hb'
 obtain ⟨e1,e2,e3,e4,e5,e6,e7⟩:=leBlk_ok hle1
 obtain ⟨p,hp,hB⟩:=hH.blk l b hb e4
 have own : ∀ {g : Nat} {fr : Nat × Nat},Own I β S l g fr b -> Own I β S' l g fr b':=fun {g fr} ho=>by
  refine ⟨fun hr=>?_,fun hr=>ho.2 (by rw [e3]; exact hr)⟩
  obtain ⟨h1,h2,h3⟩:=ho.1 (by rw [e3]; exact hr)
  refine ⟨h1,h2,fun l2 b2 hne hl2 hlive2 p2 g2 o2 hp2 ha2=>?_⟩
  obtain ⟨b3,hb3,hle3⟩:=leSt_some h hl2
  exact h3 l2 b3 hne hb3 (leBlk_ok hle3).2.2.2.1 p2 g2 o2 hp2 ha2
 have cells : b'.k.isC = true -> ∀ {arr : Array Value} {o : Nat},CellsAt w I β b.cs arr o -> CellsAt w I β b'.cs arr o:=fun hk {arr o} hc=>by
  rcases e7 with ⟨hd,_⟩ | ⟨_,h7⟩
  ·(rw [e6,hk] at hd; cases hd)
  ·exact leL_cells h7 hc
 refine ⟨p,hp,?_⟩
 split at hB
 ·rename_i hkk
  have hk' : b'.k = .loc:=by rw [← e6]; exact hkk
  obtain ⟨g,o,arr,ty,fr,h1,h2,h3,ho⟩:=hB
  rw [hk']
  exact ⟨g,o,arr,ty,fr,h1,h2,cells (by rw [hk']; rfl) h3,own ho⟩
 ·rename_i hkk
  have hk' : b'.k = .arr:=by rw [← e6]; exact hkk
  obtain ⟨g,arr,fr,h1,h2,h3,ho,h4,h5,h6,h7,h8⟩:=hB
  have hlen : b'.cs.length = b.cs.length:=by
   rcases e7 with ⟨hd,_⟩ | ⟨_,h9⟩
   ·rw [hkk] at hd; cases hd
   ·exact (leL_len h9).symm
  rw [hk']
  exact ⟨g,arr,fr,h1,by rw [← e1]; exact h2,cells (by rw [hk']; rfl) h3,own ho,by rw [hlen,← e2]; exact h4,h5,h6,by rw [← e2]; exact h7,by rw [← e2]; exact h8⟩
 ·rename_i hkk
  have hk' : b'.k = .dyn:=by rw [← e6]; exact hkk
  have hcs : b.cs = b'.cs:=by
   rcases e7 with ⟨_,h9⟩ | ⟨hd,_⟩
   ·exact h9
   ·(rw [hkk] at hd; cases hd)
  obtain ⟨⟨h1,h2,h3,h4⟩,hB⟩:=hB
  rw [hk']
  refine ⟨⟨by rw [← e2]; exact h1,by rw [← hcs]; exact h2,h3,h4⟩,?_⟩
  rcases hB with h | ⟨g,arr,fr,h5,h6,h7,ho,h8⟩
  ·exact .inl h
  ·exact .inr ⟨g,arr,fr,h5,by rw [← e1]; exact h6,by rw [← hcs,← e2]; exact h7,own ho,by rw [← e2]; exact h8⟩
 ·rename_i hkk
  have hk' : b'.k = .mp:=by rw [← e6]; exact hkk
  have hcs : b.cs = b'.cs:=by
   rcases e7 with ⟨_,h9⟩ | ⟨hd,_⟩
   ·exact h9
   ·(rw [hkk] at hd; cases hd)
  obtain ⟨g,h1,h2,ho⟩:=hB
  rw [hk']
  exact ⟨g,h1,by rw [← hcs]; exact h2,own ho⟩
theorem Spec.leS {f : FuncId} {args : List PV} {S : List PBlk} {rl : List Nat} {r0 : PV} {S1 : List PBlk} (h : Spec G f args S rl fun x S'=>x = r0 /\ leSt S' S1) : Spec G f args S rl fun x S'=>x = r0 /\ S' = S1 :=
 Spec.intro h.run.1 fun I β w vals hH hM hA=>(h.run.2 I β w vals hH hM hA).mono fun e w' ⟨v,r,S',I',β',he,⟨e1,e2⟩,hi,hH',hM',hE,hlen,hβ⟩ =>
  ⟨v,r,S1,I',β',he,⟨e1,rfl⟩,hi,hH'.le e2,hM',⟨hE.os,hE.tape,hE.output,hE.size,hE.block,fun g hg ⟨l,b,p,o,h1,h2,h3,h4,h5⟩=>by
   obtain ⟨b0,hb0,hle0⟩:=leSt_some e2 h1
   obtain ⟨_,_,q3,q4,_⟩:=leBlk_ok hle0
   exact hE.wr g hg ⟨l,b0,p,o,hb0,q4,by rw [q3]; exact h3,h4,h5⟩,hE.imm,hE.new⟩,by rw [← (leSt_ok e2).1]; exact hlen,hβ⟩
theorem retS {r r0 : PV} {S' S1 : List PBlk} (h : leK r r0) (hs : leSt S' S1) : ∃ r',PLe r r' /\ (fun x S'=>x = r0 /\ leSt S' S1) r' S':=⟨r0,leK_ok h,rfl,hs⟩
end
def PSt.headW (s : PSt) (c : Code) (vs : List (Nat × PV)) (st' : List PBlk) : PSt:=match s with
 | ⟨n,t,_,b,rl⟩=>⟨n,(layF vs (clearF (dsts c) t)).dropT,st',b,rl⟩
theorem SW.loopW {G : Gx} {s : PSt} (hG : GOk G) (R : List (Nat × Plan)) {α : Type} {c : Code} {Q : X -> PSt -> Prop} (hc : planAll R c = true) (vs : α -> List (Nat × PV)) (stx : α -> List PBlk) (μ : α -> Nat) (x0 : α) (N : Nat) (π : Ren) (h0 : subK G.cx π s (s.headW c (vs x0) (stx x0)))
  (h : ∀ x,frS (s.headW c (vs x) (stx x)) (pw G R N c (backK (fun s'=>∃ y π,μ y < μ x /\ subK G.cx π s' (s.headW c (vs y) (stx y))) Q))) : SW G (.loop c) Q s :=
 SW.inv hG (fun x=>s.headW c (vs x) (stx x)) μ (N:=N) hc x0 (subK_ok hG.ok h0) (fun x s'=>∃ y π,μ y < μ x /\ subK G.cx π s' (s.headW c (vs y) (stx y))) (fun x s' ⟨y,_,hy,hs⟩=>⟨y,hy,subK_ok hG.ok hs⟩) fun x=>frS_ok (h x)
end Go.Proofs.YtnbngokbamifbaaGreatDoor.Pw
namespace Go.Proofs.YtnbngokbamifbaaGreatDoor.Pw
open Go Go.RowKit
theorem no_rl {p : Nat -> Prop} : ∀ l ∈ ([] : List Nat),p l:=fun l hl=>absurd hl List.not_mem_nil
section
variable {w w' : World} {I I' : Nat -> Prop} {β β' : Places} {G : Gx} {s : PSt} {a : Act} {st st' : List PBlk}
theorem RowIs.take {es : List PV} {n : Nat} {xs : List Value} (h : RowIs w I es n xs) {k : Nat} (hk : k <= es.length) : RowIs w I (es.take k) n (xs.take (k * n)):=by
 have h1 : k * n <= es.length * n:=Nat.mul_le_mul_right _ hk
 refine ⟨by rw [List.length_take,List.length_take,h.1,Nat.min_eq_left h1,Nat.min_eq_left hk],fun i e he=>?_⟩
 rw [List.getElem?_take] at he
 split at he
 ·rename_i hi
  obtain ⟨h2,h3⟩:=h.2 i e he
  refine ⟨h2,fun j c hc=>?_⟩
  obtain ⟨v,hv,h4⟩:=h3 j c hc
  have hj : j < n:=by rw [← h2]; exact (List.getElem?_eq_some_iff.1 hc).1
  have : i * n + n <= k * n:=by rw [← Nat.succ_mul]; exact Nat.mul_le_mul_right _ hi
  exact ⟨v,by rw [List.getElem?_take,if_pos (by omega)]; exact hv,h4⟩
 ·cases he
theorem RowIs.drop {es : List PV} {n : Nat} {xs : List Value} (h : RowIs w I es n xs) (k : Nat) : RowIs w I (es.drop k) n (xs.drop (k * n)):=by
 refine ⟨by rw [List.length_drop,List.length_drop,h.1,Nat.sub_mul],fun i e he=>?_⟩
 rw [List.getElem?_drop] at he
 obtain ⟨h2,h3⟩:=h.2 _ e he
 refine ⟨h2,fun j c hc=>?_⟩
 obtain ⟨v,hv,h4⟩:=h3 j c hc
 exact ⟨v,by rw [List.getElem?_drop,← Nat.add_assoc,← Nat.add_mul]; exact hv,h4⟩
theorem OpS.intro {o : Oper} {q : PV -> PSt -> Prop} (h : ∀ I β a w,Rel G I β s a w -> Ev.resE G.cx.P (OpPost G s I β w a q) ((execOp a.eval o).run G.cx.P w)) : OpS G s o q:=by unfold OpS; exact h
end
end Go.Proofs.YtnbngokbamifbaaGreatDoor.Pw
namespace Go.Proofs.YtnbngokbamifbaaGreatDoor.Pw
open Go Go.RowKit
def retN (G : Gx) (rs : List ResultVar) (base : Nat) (K : PV -> List PBlk -> Prop) (x : X) (s : PSt) : Prop:=match x with
 | .exit _=>False
 | _=>∃ (π : Ren) (vs : List (Nat × PV)) (S' : List PBlk),subK G.cx π s ⟨s.n,layF vs .nil,S',s.base,s.rl⟩ /\ base <= S'.length /\ resK G ⟨s.n,layF vs .nil,S',s.base,s.rl⟩ rs fun r=>K r S'
def enterN (G : Gx) (R : List (Nat × Plan)) (N : Nat) (fn : Func) (c : Code) (args : List PV) (S : List PBlk) (rl : List Nat) (K : PV -> List PBlk -> Prop) : Prop :=
 bif Nat.ble args.length fn.ntmps && Nat.ble fn.ntmps 16777215 && !(fn.name == "runtime.NumGoroutine") then
  lenK S 0 fun b=>argT args 0 .nil fun t=>pw G R N c (retN G fn.results.toList b K) ⟨fn.ntmps,t,S,b,rl⟩ else False
section
variable {w w' : World} {I I' : Nat -> Prop} {β β' : Places} {G : Gx} {s : PSt} {a : Act} {st st' : List PBlk}
theorem Spec.enterN (hG : GOk G) (R : List (Nat × Plan)) {f : FuncId} {fn : Func} {c : Code} {args : List PV} {S : List PBlk} {rl : List Nat} {K : PV -> List PBlk -> Prop} (N : Nat) (hf : G.cx.P.funcs[f]? = some fn) (hb : fn.body = some c) (hpl : planAll R c = true) (h : enterN G R N fn c args S rl K) : Spec G f args S rl K:=by
 obtain ⟨hc,h⟩:=bif_ok h
 simp only [Bool.and_eq_true,Bool.not_eq_true'] at hc
 obtain ⟨⟨hle,hlim⟩,hname⟩:=hc
 have hle:=Nat.le_of_ble_eq_true hle
 have hlim:=Nat.le_of_ble_eq_true hlim
 replace h:=lenK_ok h
 rw [Nat.zero_add] at h
 obtain ⟨t,h,ht⟩:=argT_ok h
 refine Spec.intro (Ev.enters_of hf hb hname) fun I β w vals hH hM hA=>calls_of_wp hf hb ?_
 have hal:=hA.length
 have hR : Rel G I β ⟨fn.ntmps,t,S,S.length,rl⟩ { tmps:=vals.toArray ++ Array.replicate (fn.ntmps - vals.toArray.size) Go.undef,defers:=[] } w:=by
  refine ⟨hlim,rfl,by simp; omega,Nat.le_refl _,fun n x hx=>?_,hH,hM⟩
  rcases ht n x hx with ⟨j,hj,hx⟩ | hx
  ·rw [Nat.zero_add] at hj
   subst hj
   obtain ⟨v,hv,hi⟩:=hA.get hx
   have hlt : n < vals.length:=(List.getElem?_eq_some_iff.1 hv).1
   exact ⟨v,by rw [Array.getElem?_append_left (by simpa using hlt)]; simpa using hv,hi⟩
  ·cases hx
 refine wp_mono ((pw_ok hG N c _ _ hpl h).run hR) fun e a' w' hp=>?_
 obtain ⟨x,s',I',β',rfl,hq,hR',hg⟩:=hp.goes
 have fin_ : retN G fn.results.toList S.length K .nml s' -> a'.defers = [] /\ ∃ v,(results fn a'.tmps).run G.cx.P w' = .ok v w' /\ ∃ v',∃ r S' I' β',Ending.returned v = .returned v' /\ K r S' /\ r.Is w' I' β' v' /\ HeapOk I' β' S' w' /\ ImmOk G I' w' /\ Ext I β S w I' β' S' w' /\ S.length <= S'.length /\ ∀ l,l < S.length -> l ∉ rl -> β' l = β l:=by
  rintro ⟨π,vs,S',hsub,hlen,hres⟩
  obtain ⟨I2,β2,hR2,hg2⟩:=subK_ok hG.ok hsub I' β' a' w' hR'
  obtain ⟨r,v,hK,hr,hrun⟩:=resK_ok hG hR2 hres
  have hgg:=hg.trans hg2
  exact ⟨hR'.defers,v,hrun,v,r,S',I2,β2,rfl,hK,hr,hR2.heap,hR2.imm,hgg.ext,hlen,fun l hl hr=>hgg.low l hl hr⟩
 cases x with
 | nml=>exact fin_ hq
 | ret=>exact fin_ hq
 | exit id=>exact hq.elim
theorem Spec.useNew {f : FuncId} {args args' : List PV} {b : PBlk} {K : PV -> List PBlk -> Prop} (h : Spec G f args' [] [] fun r S'=>r = .wref 0 /\ S' = [b]) (hm : b.m = .w) (hlv : b.live = true) (hk : b.k = .dyn) (hle : leL leK args args') (hu : usesL args' = [])
  (hK : lenK st 0 fun l=>addB st b fun st'=>K (.wref l) st') : Spec G f args st [] K:=by
 refine Spec.intro h.run.1 fun I β w vals hH hM hA=>?_
 replace hK:=addB_ok (lenK_ok hK)
 rw [Nat.zero_add] at hK
 have h0 : HeapOk I (fun _=>none) ([] : List PBlk) w:=⟨fun _ _=>rfl,fun l b hl=>by simp at hl⟩
 refine (h.run.2 I (fun _=>none) w vals h0 hM (usesL_none hu (leL_ok (fun _ _=>leK_ok) hle hA))).mono fun e w' ⟨v,r',S',I',β',he,⟨hr',hS'⟩,hi,hH',hM',hE,_,_⟩=>?_
 subst hr'
 subst hS'
 have hnw : ∀ g,¬ Wr (fun _=>none) ([] : List PBlk) g:=fun g ⟨l,b,p,o,h1,_⟩=>by simp at h1
 have hold : ∀ g,g < w.heap.size -> w'.heap[g]? = w.heap[g]?:=fun g hg=>hE.block g hg (hnw g)
 have hI' : ∀ g,g < w.heap.size -> I' g -> I g:=fun g hg h=>(hE.new g hg h).elim id fun h=>absurd h (hnw g)
 simp only [PV.Is] at hi
 obtain ⟨p,hp,rfl⟩:=hi
 have hfresh : ∀ g o,p.a = some (g,o) -> w.heap.size <= g:=fun g o ha=>by
  rcases Nat.lt_or_ge g w.heap.size with hlt | hge
  ·exact absurd (hE.wr g hlt ⟨0,b,p,o,rfl,hlv,hm,hp,ha⟩) (hnw g)
  ·exact hge
 have hHo : HeapOk I' β st w':=⟨hH.far,fun l b hl hlive=>by
  have hb:=hH.blk l b hl hlive
  refine hb.mono hE.imm (fun g hg=>hold g (hM.imm g hg)) (fun _ _ h=>h) fun p g o hp ha=>?_
  obtain ⟨arr,ty,fr,hh,ho⟩:=hb.place hp ha
  have hlt:=lt_of_heap hh
  exact ⟨hold g hlt,fun hr=>⟨fun hI=>(ho.1 hr).2.1 (hI' g hlt hI),(ho.1 hr).2.2⟩⟩⟩
 have hlow : ∀ g,Lives β st g -> g < w.heap.size:=fun g hg=>hH.lives_lt hg
 have hbk:=hH'.blk 0 b rfl hlv
 have hadd : HeapOk I' (β.set st.length p) (st ++ [b]) w':=by
  refine hHo.add (fun _ _=>rfl) (fun g o ha=>⟨?_,fun hL=>by have:=hlow g hL; have:=hfresh g o ha; omega⟩) ?_
  ·obtain ⟨arr,ty,fr,hh,ho⟩:=hbk.place hp ha
   exact (ho.1 (by rw [hm]; decide)).2.1
  ·obtain ⟨p',hp',hd⟩:=hbk
   obtain rfl:=Option.some.inj (hp.symm.trans hp')
   refine ⟨p,Places.set_self ..,?_⟩
   rw [hk] at hd ⊢
   refine ⟨hd.1,hd.2.imp id ?_⟩
   rintro ⟨g,arr,fr,h1,h2,h3,ho,h4⟩
   refine ⟨g,arr,fr,h1,h2,h3,⟨fun hr=>⟨(ho.1 hr).1,(ho.1 hr).2.1,fun l' b' hne hl' hlive' q g' o' hq ha' e=>?_⟩,ho.2⟩,h4⟩
   subst e
   unfold Places.set at hq
   rw [if_neg hne] at hq
   have hlt:=hH.lt hq
   rw [List.getElem?_append_left hlt] at hl'
   have:=hlow g' ⟨l',b',q,o',hl',hlive',hq,ha'⟩
   have:=hfresh g' _ h1
   omega
 refine ⟨_,.wref st.length,st ++ [b],I',β.set st.length p,he,hK,?_,hadd,hM',⟨hE.os,hE.tape,hE.output,hE.size,fun g hg _=>hold g hg,fun g hg ⟨l,b',q,o,h1,h2,h3,h4,h5⟩=>?_,hE.imm,fun g hg h=>.inl (hI' g hg h)⟩,by simp,fun l hl _=>?_⟩
 ·simp only [PV.Is]; exact ⟨p,Places.set_self ..,rfl⟩
 ·unfold Places.set at h4
  split at h4
  ·cases h4
   have:=hfresh g o h5
   omega
  ·have:=hH.lt h4
   rw [List.getElem?_append_left this] at h1
   exact ⟨l,b',q,o,h1,h2,h3,h4,h5⟩
 ·unfold Places.set
  rw [if_neg (by omega)]
end
end Go.Proofs.YtnbngokbamifbaaGreatDoor.Pw
namespace Go.Proofs.YtnbngokbamifbaaGreatDoor.Pw
open Go Go.RowKit
section
variable {w w' : World} {I I' : Nat -> Prop} {β β' : Places} {G : Gx} {s : PSt} {a : Act} {st st' : List PBlk}
theorem Spec.cut {f : FuncId} {args : List PV} {b0 : PBlk} {n : Nat} {es : List PV} (h : Spec G f args [b0] [] fun r S'=>∃ b : PBlk,S' = [b] /\ b.k = .dyn /\ b.live = true /\ b.m = .w /\ b.size = n /\ ((r = .wref 0 /\ b.cs = es) \/ (r = .ref 0 0 es.length /\ b.cs.take es.length = es))) :
  Spec G f args [b0] [] fun r S'=>r = .sl n es /\ S' = [⟨.dyn,b0.ty,n,.w,false,[]⟩]:=by
 refine Spec.intro h.run.1 fun I β w vals hH hM hA=>(h.run.2 I β w vals hH hM hA).mono fun e w' ⟨v,r,S',I',β',he,⟨b,hS,hk,hl,hm,hn,hc⟩,hi,hH',hM',hE,hlen,hβ⟩=>?_
 subst hS
 have hb : [b][0]? = some b:=rfl
 obtain ⟨p,hp,hbk⟩:=hH'.blk 0 b hb hl
 obtain ⟨hsp,hplen,hle,hmx,hor⟩:=whole_dyn hH' hb hl hk hp
 rw [hn] at hsp hor
 have hII : ∀ g,I' g -> (I' g \/ ∃ o,p.a = some (g,o)):=fun g h=>.inl h
 have hwr : ∀ {g o : Nat},p.a = some (g,o) -> Wr β' [b] g:=fun {g o} ha=>⟨0,b,p,o,hb,hl,hm,hp,ha⟩
 have hI2 : ∀ g,(I' g \/ ∃ o,p.a = some (g,o)) -> g < w'.heap.size:=fun g hg=>by
  rcases hg with hg | ⟨o,ha⟩
  ·exact hM'.imm g hg
  ·rcases hor with ⟨hno,_⟩ | ⟨g1,arr,fr,ha1,_,hhg,_⟩
   ·rw [hno] at ha; cases ha
   ·rw [ha1] at ha; cases ha; exact lt_of_heap hhg
 have hel : es.length <= b.cs.length:=by
  rcases hc with ⟨_,rfl⟩ | ⟨_,hc⟩
  ·exact Nat.le_refl _
  ·rw [← hc,List.length_take]; omega
 have htk : b.cs.take es.length = es:=by
  rcases hc with ⟨_,rfl⟩ | ⟨_,hc⟩
  ·rw [List.take_length]
  ·exact hc
 have hIs : (PV.sl n es).Is w' (fun g=>I' g \/ ∃ o,p.a = some (g,o)) β' v:=by
  simp only [PV.Is]
  rcases hor with ⟨hno,hc0,hw⟩ | ⟨g,arr,fr,ha,hw,hhg,hes,hown,has⟩
  ·have h0 : es = []:=List.eq_nil_of_length_eq_zero (by omega)
   subst h0
   rcases hc with ⟨rfl,_⟩ | ⟨rfl,_⟩
   ·simp only [PV.Is] at hi
    obtain ⟨p',hp',rfl⟩:=hi
    rw [hp] at hp'; cases hp'
    exact ⟨none,0,by rw [hw]; rfl,Nat.le_refl _,Nat.zero_le _,(fun _ _ e=>by cases e),fun hn=>absurd rfl hn⟩
   ·simp only [PV.Is] at hi
    obtain ⟨p',g',o',cap',hp',ha',_⟩:=hi
    rw [hp] at hp'; cases hp'
    rw [hno] at ha'; cases ha'
  ·obtain ⟨xs,hxs,hxc⟩:=hes.row
   have hEs : IsEs w' (fun g=>I' g \/ ∃ o,p.a = some (g,o)) es n g 0:=by
    have h1:=hxs.take (k:=es.length) hel
    rw [htk] at h1
    exact h1.at (fun j u hu=>by
     rw [List.getElem?_take] at hu
     split at hu
     ·have:=hxc j u hu
      rwa [Nat.zero_add] at this
     ·cases hu) hII (fun _ _=>rfl)
   have hgI : es.length ≠ 0 -> ∃ g' o',(some (⟨g,0,none⟩ : Addr)) = some ⟨g',o',none⟩ /\ (I' g' \/ ∃ o,p.a = some (g',o)) /\ 0 < n:=fun _=>⟨g,0,rfl,.inr ⟨0,ha⟩,hsp⟩
   rcases hc with ⟨rfl,hce⟩ | ⟨rfl,_⟩
   ·simp only [PV.Is] at hi
    obtain ⟨p',hp',rfl⟩:=hi
    rw [hp] at hp'; cases hp'
    have hpl : p.len = es.length:=by rw [← hplen,hce]
    exact ⟨some ⟨g,0,none⟩,p.cap,by rw [hw,hpl],by omega,by omega,(fun g' o' e=>by cases e; exact hEs),hgI⟩
   ·simp only [PV.Is] at hi
    obtain ⟨p',g',o',cap',hp',ha',rfl,hlc⟩:=hi
    rw [hp] at hp'; cases hp'
    rw [ha] at ha'; cases ha'
    exact ⟨some ⟨g,0,none⟩,cap',rfl,hlc,by omega,(fun g' o' e=>by cases e; exact hEs),hgI⟩
 refine ⟨v,.sl n es,_,_,β',he,⟨rfl,rfl⟩,hIs,⟨fun l hl2=>hH'.far l hl2,fun l b2 hb2 hlive=>?_⟩,⟨hI2,fun g cs hg=>⟨.inl (hM'.tab g cs hg).1,IsAt.mono hII (fun _ _=>rfl) _ _ _ rfl (hM'.tab g cs hg).2⟩,hM'.row⟩,⟨hE.os,hE.tape,hE.output,hE.size,hE.block,fun g _ h=>?_,fun g hg=>.inl (hE.imm g hg),fun g hg h=>?_⟩,hlen,hβ⟩
 ·match l,hb2 with
  | 0,hb2=>cases hb2; cases hlive
  | l + 1,hb2=>simp at hb2
 ·obtain ⟨l,b2,p2,o2,hb2,hlive,_⟩:=h
  match l,hb2 with
  | 0,hb2=>cases hb2; cases hlive
  | l + 1,hb2=>simp at hb2
 ·rcases h with h | ⟨o,ha⟩
  ·exact hE.new g hg h
  ·exact .inr (hE.wr g hg (hwr ha))
theorem Spec.cut1 {f : FuncId} {args : List PV} {z b0 : PBlk} (hz : z.k = .loc) (hzm : z.m = .w) (hzl : z.live = true) {n : Nat} {es : List PV} (h : Spec G f args [z,b0] [] fun r S'=>∃ b : PBlk,S' = [z,b] /\ b.k = .dyn /\ b.live = true /\ b.m = .w /\ b.size = n /\ ((r = .wref 1 /\ b.cs = es) \/ (r = .ref 1 0 es.length /\ b.cs.take es.length = es))) :
  Spec G f args [z,b0] [] fun r S'=>r = .sl n es /\ S' = [z,⟨.dyn,b0.ty,n,.w,false,[]⟩]:=by
 refine Spec.intro h.run.1 fun I β w vals hH hM hA=>(h.run.2 I β w vals hH hM hA).mono fun e w' ⟨v,r,S',I',β',he,⟨b,hS,hk,hl,hm,hn,hc⟩,hi,hH',hM',hE,hlen,hβ⟩=>?_
 subst hS
 have hb : [z,b][1]? = some b:=rfl
 obtain ⟨p,hp,hbk⟩:=hH'.blk 1 b hb hl
 obtain ⟨hsp,hplen,hle,hmx,hor⟩:=whole_dyn hH' hb hl hk hp
 rw [hn] at hsp hor
 have hII : ∀ g,I' g -> (I' g \/ ∃ o,p.a = some (g,o)):=fun g h=>.inl h
 have hwr : ∀ {g o : Nat},p.a = some (g,o) -> Wr β' [z,b] g:=fun {g o} ha=>⟨1,b,p,o,hb,hl,hm,hp,ha⟩
 have hI2 : ∀ g,(I' g \/ ∃ o,p.a = some (g,o)) -> g < w'.heap.size:=fun g hg=>by
  rcases hg with hg | ⟨o,ha⟩
  ·exact hM'.imm g hg
  ·rcases hor with ⟨hno,_⟩ | ⟨g1,arr,fr,ha1,_,hhg,_⟩
   ·rw [hno] at ha; cases ha
   ·rw [ha1] at ha; cases ha; exact lt_of_heap hhg
 have hel : es.length <= b.cs.length:=by
  rcases hc with ⟨_,rfl⟩ | ⟨_,hc⟩
  ·exact Nat.le_refl _
  ·rw [← hc,List.length_take]; omega
 have htk : b.cs.take es.length = es:=by
  rcases hc with ⟨_,rfl⟩ | ⟨_,hc⟩
  ·rw [List.take_length]
  ·exact hc
 have hIs : (PV.sl n es).Is w' (fun g=>I' g \/ ∃ o,p.a = some (g,o)) β' v:=by
  simp only [PV.Is]
  rcases hor with ⟨hno,hc0,hw⟩ | ⟨g,arr,fr,ha,hw,hhg,hes,hown,has⟩
  ·have h0 : es = []:=List.eq_nil_of_length_eq_zero (by omega)
   subst h0
   rcases hc with ⟨rfl,_⟩ | ⟨rfl,_⟩
   ·simp only [PV.Is] at hi
    obtain ⟨p',hp',rfl⟩:=hi
    rw [hp] at hp'; cases hp'
    exact ⟨none,0,by rw [hw]; rfl,Nat.le_refl _,Nat.zero_le _,(fun _ _ e=>by cases e),fun hn=>absurd rfl hn⟩
   ·simp only [PV.Is] at hi
    obtain ⟨p',g',o',cap',hp',ha',_⟩:=hi
    rw [hp] at hp'; cases hp'
    rw [hno] at ha'; cases ha'
  ·obtain ⟨xs,hxs,hxc⟩:=hes.row
   have hEs : IsEs w' (fun g=>I' g \/ ∃ o,p.a = some (g,o)) es n g 0:=by
    have h1:=hxs.take (k:=es.length) hel
    rw [htk] at h1
    exact h1.at (fun j u hu=>by
     rw [List.getElem?_take] at hu
     split at hu
     ·have:=hxc j u hu
      rwa [Nat.zero_add] at this
     ·cases hu) hII (fun _ _=>rfl)
   have hgI : es.length ≠ 0 -> ∃ g' o',(some (⟨g,0,none⟩ : Addr)) = some ⟨g',o',none⟩ /\ (I' g' \/ ∃ o,p.a = some (g',o)) /\ 0 < n:=fun _=>⟨g,0,rfl,.inr ⟨0,ha⟩,hsp⟩
   rcases hc with ⟨rfl,hce⟩ | ⟨rfl,_⟩
   ·simp only [PV.Is] at hi
    obtain ⟨p',hp',rfl⟩:=hi
    rw [hp] at hp'; cases hp'
    have hpl : p.len = es.length:=by rw [← hplen,hce]
    exact ⟨some ⟨g,0,none⟩,p.cap,by rw [hw,hpl],by omega,by omega,(fun g' o' e=>by cases e; exact hEs),hgI⟩
   ·simp only [PV.Is] at hi
    obtain ⟨p',g',o',cap',hp',ha',rfl,hlc⟩:=hi
    rw [hp] at hp'; cases hp'
    rw [ha] at ha'; cases ha'
    exact ⟨some ⟨g,0,none⟩,cap',rfl,hlc,by omega,(fun g' o' e=>by cases e; exact hEs),hgI⟩
 refine ⟨v,.sl n es,_,_,β',he,⟨rfl,rfl⟩,hIs,⟨fun l hl2=>hH'.far l hl2,fun l b2 hb2 hlive=>?_⟩,⟨hI2,fun g cs hg=>⟨.inl (hM'.tab g cs hg).1,IsAt.mono hII (fun _ _=>rfl) _ _ _ rfl (hM'.tab g cs hg).2⟩,hM'.row⟩,⟨hE.os,hE.tape,hE.output,hE.size,hE.block,fun g _ h=>?_,fun g hg=>.inl (hE.imm g hg),fun g hg h=>?_⟩,hlen,hβ⟩
 ·match l,hb2 with
  | 0,hb2 =>
   cases hb2
   obtain ⟨p0,hp0,hk0⟩:=hH'.blk 0 z rfl hlive
   rw [hz] at hk0
   obtain ⟨g0,o0,arr,ty,fr,q1,q2,q3,q4⟩:=hk0
   obtain ⟨r1,r2,r3⟩:=q4.1 (by rw [hzm]; decide)
   refine ⟨p0,hp0,?_⟩
   rw [hz]
   refine ⟨g0,o0,arr,ty,fr,q1,q2,CellsAt.mono hII (fun _ _=>rfl) (fun _ _ h=>h) q3,⟨fun _=>⟨r1,fun hI=>?_,fun l' b' hne hl' hlive'=>?_⟩,fun hm'=>by rw [hzm] at hm'; cases hm'⟩⟩
   ·rcases hI with hI | ⟨o,ha⟩
    ·exact r2 hI
    ·exact r3 1 b (by decide) rfl hl p g0 o hp ha rfl
   ·match l',hl' with
    | 0,_=>exact absurd rfl hne
    | 1,hl'=>cases hl'; cases hlive'
    | l' + 2,hl'=>simp at hl'
  | 1,hb2=>cases hb2; cases hlive
  | l + 2,hb2=>simp at hb2
 ·obtain ⟨l,b2,p2,o2,hb2,hlive,hm2,hp2,ha2⟩:=h
  match l,hb2 with
  | 0,hb2=>cases hb2; exact hE.wr _ (by assumption) ⟨0,z,p2,o2,rfl,hzl,hm2,hp2,ha2⟩
  | 1,hb2=>cases hb2; cases hlive
  | l + 2,hb2=>simp at hb2
 ·rcases h with h | ⟨o,ha⟩
  ·exact hE.new g hg h
  ·exact .inr (hE.wr g hg (hwr ha))
end
end Go.Proofs.YtnbngokbamifbaaGreatDoor.Pw
namespace Go.Proofs.YtnbngokbamifbaaGreatDoor.Pw
open Go Go.RowKit
def canL (S : List PBlk) (l : Nat) : Bool:=match S[l]? with
 | some b=>b.can
 | none=>false
theorem canL_ok {S : List PBlk} {l : Nat} (h : canL S l = true) : l < S.length /\ ∀ b,S[l]? = some b -> b.m = .w:=by
 unfold canL at h
 split at h
 ·rename_i b hb
  refine ⟨(List.getElem?_eq_some_iff.1 hb).1,fun b' hb'=>?_⟩
  rw [hb] at hb'; cases hb'
  unfold PBlk.can at h
  simp only [Bool.and_eq_true] at h
  cases hm : b.m with
  | w=>rfl
  | p=>rw [hm] at h; cases h.2
  | r=>rw [hm] at h; cases h.2
 ·cases h
def restB (rl : List Nat) (b : PBlk) : Bool:=match b.k with
 | .dyn=>true
 | .mp=>true
 | _=>b.cs.all fun c=>c.uses.all fun l=>!(inL l rl)
def restOk (rl : List Nat) (T : List PBlk) : Bool:=T.all (restB rl)
theorem restOk_ok {rl : List Nat} {T : List PBlk} (h : restOk rl T = true) {b : PBlk} (hb : b ∈ T) (hk : b.k.isC = true) : ∀ c ∈ b.cs,∀ m ∈ c.uses,m ∉ rl:=fun c hc m hm hr=>by
 have h1:=List.all_eq_true.1 h b hb
 unfold restB at h1
 have h2 : b.cs.all (fun c=>c.uses.all fun l=>!(inL l rl)) = true:=by
  cases hkk : b.k with
  | dyn=>rw [hkk] at hk; cases hk
  | mp=>rw [hkk] at hk; cases hk
  | loc=>rw [hkk] at h1; exact h1
  | arr=>rw [hkk] at h1; exact h1
 have h3:=List.all_eq_true.1 (List.all_eq_true.1 h2 c hc) m hm
 rw [inL_iff.2 hr] at h3
 cases h3
section
variable {w w' : World} {I I' : Nat -> Prop} {β β' : Places} {G : Gx} {s : PSt} {a : Act} {st st' : List PBlk}
theorem CellsAt.monoU {cs : List PV} {arr : Array Value} {o : Nat} (hI : ∀ g,I g -> I' g) (hw : ∀ g,I g -> w'.heap[g]? = w.heap[g]?) (hb : ∀ c ∈ cs,∀ l ∈ c.uses,∀ p,β l = some p -> β' l = some p) (h : CellsAt w I β cs arr o) : CellsAt w' I' β' cs arr o :=
 fun i c hc=>let ⟨v,h1,h2,h3⟩:=h i c hc; ⟨v,h1,PV.Is.mono hI hw c β β' v (fun l p hl=>hb c (List.mem_of_getElem? hc) l hl p) h2,h3⟩
theorem BlkOk.monoU {l : Nat} {b : PBlk} (hI : ∀ g,I g -> I' g) (hw : ∀ g,I g -> w'.heap[g]? = w.heap[g]?) (hβ : ∀ p,β l = some p -> β' l = some p) (hu : b.k.isC = true -> ∀ c ∈ b.cs,∀ l ∈ c.uses,∀ p,β l = some p -> β' l = some p)
  (hg : ∀ p g o,β l = some p -> p.a = some (g,o) -> w'.heap[g]? = w.heap[g]? /\ (b.m ≠ .r -> ¬ I' g /\ ∀ l' b',l' ≠ l -> st'[l']? = some b' -> b'.live = true -> ∀ p g' o',β' l' = some p -> p.a = some (g',o') -> g' ≠ g)) (hb : BlkOk I β st w l b) : BlkOk I' β' st' w' l b:=by
 obtain ⟨p,hp,hk⟩:=hb
 refine ⟨p,hβ p hp,?_⟩
 have own : ∀ {g o : Nat} {fr : Nat × Nat},p.a = some (g,o) -> Own I β st l g fr b -> Own I' β' st' l g fr b:=fun ha ho=>⟨fun hr=>⟨(ho.1 hr).1,(hg p _ _ hp ha).2 hr⟩,fun hr=>hI _ (ho.2 hr)⟩
 split at hk
 ·rename_i hkk
  obtain ⟨g,o,arr,ty,fr,ha,hh,hc,ho⟩:=hk
  exact ⟨g,o,arr,ty,fr,ha,(hg p g o hp ha).1.trans hh,hc.monoU hI hw (hu (by rw [hkk]; rfl)),own ha ho⟩
 ·rename_i hkk
  obtain ⟨g,arr,fr,ha,hh,hc,ho,h1⟩:=hk
  exact ⟨g,arr,fr,ha,(hg p g 0 hp ha).1.trans hh,hc.monoU hI hw (hu (by rw [hkk]; rfl)),own ha ho,h1⟩
 ·obtain ⟨h1,hk⟩:=hk
  refine ⟨h1,?_⟩
  rcases hk with h | ⟨g,arr,fr,ha,hh,hc,ho,h2⟩
  ·exact .inl h
  ·exact .inr ⟨g,arr,fr,ha,(hg p g 0 hp ha).1.trans hh,IsEs.mono hI hw _ _ _ _ (hg p g 0 hp ha).1 hc,own ha ho,h2⟩
 ·obtain ⟨g,ha,hm,ho⟩:=hk
  exact ⟨g,ha,hm.keep (hg p g 0 hp ha).1,own ha ho⟩
theorem Spec.useR {f : FuncId} {args args' : List PV} {r0 : PV} {S0 S1 : List PBlk} {rl : List Nat} {K : PV -> List PBlk -> Prop} (h : Spec G f args' S0 rl fun r S'=>r = r0 /\ S' = S1) (hm : modeS S0 S1 = true) (hlow : S0.all (lowB S0.length) = true) (hu : (usesL args').all (fun l=>Nat.blt l S0.length) = true)
  (hr0 : r0.uses.all (fun l=>Nat.blt l S0.length) = true) (hrl : rl.all (fun l=>canL S0 l) = true) (hle : leL leK args args') (hK : stLe st S0 fun T=>(bif restOk rl T then True else False) /\ frBB S1 fun S1=>appK S1 T (K r0)) : Spec G f args st rl K:=by
 obtain ⟨st0,T,rfl,hl0,hk,hle0⟩:=stLe_ok hK
 obtain ⟨hT,hk⟩:=hk
 replace hT:=(bif_ok hT).1
 replace hk:=appK_ok (frBB_ok hk)
 obtain ⟨hl1,hmd⟩:=modeS_ok hm
 refine Spec.intro h.run.1 fun I β w vals hH hM hA=>?_
 let β0 : Places:=fun l=>if l < S0.length then β l else none
 have hβ0 : ∀ l,l < S0.length -> β0 l = β l:=fun l hl=>if_pos hl
 have hβn : ∀ {l p},β0 l = some p -> l < S0.length /\ β l = some p:=fun {l p} h=>by
  by_cases hl : l < S0.length
  ·exact ⟨hl,by rw [← hβ0 l hl]; exact h⟩
  ·have : β0 l = none:=if_neg hl
   rw [this] at h; cases h
 have old : ∀ {l : Nat} {b' : PBlk},S0[l]? = some b' -> l < S0.length /\ ∃ b,(st0 ++ T)[l]? = some b /\ leBlk b b':=fun {l b'} hb'=>by
  have hlt : l < S0.length:=(List.getElem?_eq_some_iff.1 hb').1
  have hlt0 : l < st0.length:=by omega
  refine ⟨hlt,st0[l],by rw [List.getElem?_append_left hlt0]; simp [hlt0],hle0 l _ b' (by simp [hlt0]) hb'⟩
 have low : ∀ {l : Nat} {b' : PBlk},S0[l]? = some b' -> b'.k.isC = true -> ∀ c ∈ b'.cs,∀ m ∈ c.uses,m < S0.length:=fun {l b'} hb' hk c hc m hm'=>by
  rw [List.all_eq_true] at hlow
  have:=hlow b' (List.mem_of_getElem? hb')
  unfold lowB at this
  have hall : b'.cs.all (fun c=>c.uses.all fun l=>Nat.blt l S0.length) = true:=by
   cases hkk : b'.k with
   | dyn=>rw [hkk] at hk; cases hk
   | mp=>rw [hkk] at hk; cases hk
   | loc=>rw [hkk] at this; exact this
   | arr=>rw [hkk] at this; exact this
  rw [List.all_eq_true] at hall
  have:=hall c hc
  rw [List.all_eq_true] at this
  exact Nat.le_of_ble_eq_true (this m hm')
 have hH0 : HeapOk I β0 S0 w:=by
  refine ⟨fun l hl=>if_neg (by omega),fun l b' hb' hlive=>?_⟩
  obtain ⟨hlt,b,hb,hle1⟩:=old hb'
  obtain ⟨e1,e2,e3,e4,e5,e6,e7⟩:=leBlk_ok hle1
  obtain ⟨p,hp,hB⟩:=hH.blk l b hb e4
  have own : ∀ {g : Nat} {fr : Nat × Nat},Own I β (st0 ++ T) l g fr b -> Own I β0 S0 l g fr b':=fun {g fr} ho=>by
   refine ⟨fun hr=>?_,fun hr=>ho.2 (by rw [e3]; exact hr)⟩
   obtain ⟨h1,h2,h3⟩:=ho.1 (by rw [e3]; exact hr)
   refine ⟨h1,h2,fun l2 b2 hne hl2 hlive2 p2 g2 o2 hp2 ha2=>?_⟩
   obtain ⟨_,b3,hb3,hle3⟩:=old hl2
   exact h3 l2 b3 hne hb3 (leBlk_ok hle3).2.2.2.1 p2 g2 o2 (hβn hp2).2 ha2
  have cells : b'.k.isC = true -> ∀ {arr : Array Value} {o : Nat},CellsAt w I β b.cs arr o -> CellsAt w I β0 b'.cs arr o:=fun hk {arr o} hc i c hi=>by
   have hc2 : CellsAt w I β b'.cs arr o:=by
    rcases e7 with ⟨hd,_⟩ | ⟨_,h7⟩
    ·(rw [e6,hk] at hd; cases hd)
    ·exact leL_cells h7 hc
   obtain ⟨u,hu',hi',h1⟩:=hc2 i c hi
   exact ⟨u,hu',PV.Is.mono (fun _ h=>h) (fun _ _=>rfl) c β β0 u (fun m p hm' hp'=>by rw [hβ0 m (low hb' hk c (List.mem_of_getElem? hi) m hm')]; exact hp') hi',h1⟩
  refine ⟨p,by rw [hβ0 l hlt]; exact hp,?_⟩
  split at hB
  ·rename_i hkk
   have hk' : b'.k = .loc:=by rw [← e6]; exact hkk
   obtain ⟨g,o,arr,ty,fr,h1,h2,h3,ho⟩:=hB
   rw [hk']
   exact ⟨g,o,arr,ty,fr,h1,h2,cells (by rw [hk']; rfl) h3,own ho⟩
  ·rename_i hkk
   have hk' : b'.k = .arr:=by rw [← e6]; exact hkk
   obtain ⟨g,arr,fr,h1,h2,h3,ho,h4,h5,h6,h7,h8⟩:=hB
   have hlen : b'.cs.length = b.cs.length:=by
    rcases e7 with ⟨hd,_⟩ | ⟨_,h9⟩
    ·rw [hkk] at hd; cases hd
    ·exact (leL_len h9).symm
   rw [hk']
   exact ⟨g,arr,fr,h1,by rw [← e1]; exact h2,cells (by rw [hk']; rfl) h3,own ho,by rw [hlen,← e2]; exact h4,h5,h6,by rw [← e2]; exact h7,by rw [← e2]; exact h8⟩
  ·rename_i hkk
   have hk' : b'.k = .dyn:=by rw [← e6]; exact hkk
   have hcs : b.cs = b'.cs:=by
    rcases e7 with ⟨_,h9⟩ | ⟨hd,_⟩
    ·exact h9
    ·(rw [hkk] at hd; cases hd)
   obtain ⟨⟨h1,h2,h3,h4⟩,hB⟩:=hB
   rw [hk']
   refine ⟨⟨by rw [← e2]; exact h1,by rw [← hcs]; exact h2,h3,h4⟩,?_⟩
   rcases hB with h | ⟨g,arr,fr,h5,h6,h7,ho,h8⟩
   ·exact .inl h
   ·exact .inr ⟨g,arr,fr,h5,by rw [← e1]; exact h6,by rw [← hcs,← e2]; exact h7,own ho,by rw [← e2]; exact h8⟩
  ·rename_i hkk
   have hk' : b'.k = .mp:=by rw [← e6]; exact hkk
   have hcs : b.cs = b'.cs:=by
    rcases e7 with ⟨_,h9⟩ | ⟨hd,_⟩
    ·exact h9
    ·(rw [hkk] at hd; cases hd)
   obtain ⟨g,h1,h2,ho⟩:=hB
   rw [hk']
   exact ⟨g,h1,by rw [← hcs]; exact h2,own ho⟩
 have hA' : IsL w I args' β0 vals:=by
  have:=leL_ok (fun _ _=>leK_ok) hle hA
  refine IsL.mono (fun _ h=>h) (fun _ _=>rfl) args' β β0 vals (fun m p hm' hp'=>?_) this
  rw [List.all_eq_true] at hu
  rw [hβ0 m (Nat.le_of_ble_eq_true (hu m hm'))]; exact hp'
 refine (h.run.2 I β0 w vals hH0 hM hA').mono fun e w' ⟨v,r,S',I',β',he,⟨e1,e2⟩,hi,hH',hM',hE,hlen,hβ⟩=>?_
 subst e1; subst e2
 have hβ' : ∀ l,l < S0.length -> l ∉ rl -> β' l = β l:=fun l hl hr=>(hβ l hl hr).trans (hβ0 l hl)
 let β2 : Places:=fun l=>if l < S0.length then β' l else β l
 have h2lo : ∀ l,l < S0.length -> β2 l = β' l:=fun l hl=>if_pos hl
 have h2hi : ∀ l,¬ l < S0.length -> β2 l = β l:=fun l hl=>if_neg hl
 have hβm : ∀ l p,β' l = some p -> β2 l = some p:=fun l p hp=>by
  have : l < S0.length:=by have:=hH'.lt hp; omega
  rw [h2lo l this]; exact hp
 have hcan : ∀ l,l ∈ rl -> l < S0.length /\ ∀ b,S0[l]? = some b -> b.m = .w:=fun l hl=>canL_ok (List.all_eq_true.1 hrl l hl)
 have wr0 : ∀ {g},Wr β0 S0 g -> Wr β (st0 ++ T) g:=fun {g} ⟨l,b,p,o,h1,h2,h3,h4,h5⟩=>by
  obtain ⟨hlt,b2,hb2,hle2⟩:=old h1
  obtain ⟨_,_,q3,q4,_⟩:=leBlk_ok hle2
  exact ⟨l,b2,p,o,hb2,q4,by rw [q3]; exact h3,(hβn h4).2,h5⟩
 have wr1 : ∀ {g},Wr β2 (S' ++ T) g -> (Wr β' S' g) \/ ∃ l b p o,S0.length <= l /\ (st0 ++ T)[l]? = some b /\ b.live = true /\ b.m = .w /\ β l = some p /\ p.a = some (g,o):=fun {g} ⟨l,b,p,o,h1,h2,h3,h4,h5⟩=>by
  by_cases hl : l < S'.length
  ·rw [List.getElem?_append_left hl] at h1
   exact .inl ⟨l,b,p,o,h1,h2,h3,by rw [← h2lo l (by omega)]; exact h4,h5⟩
  ·rw [List.getElem?_append_right (by omega)] at h1
   refine .inr ⟨l,b,p,o,by omega,?_,h2,h3,by rw [← h2hi l (by omega)]; exact h4,h5⟩
   rw [List.getElem?_append_right (by omega),hl0,hl1]; exact h1
 have apart : ∀ {l : Nat} {b : PBlk} {p : Plc} {g o : Nat},S0.length <= l -> (st0 ++ T)[l]? = some b -> b.live = true -> β l = some p -> p.a = some (g,o) -> ¬ Wr β0 S0 g:=fun {l b p g o} hl hb hlive hp ha ⟨l2,b2,p2,o2,h1,h2,h3,h4,h5⟩=>by
  obtain ⟨hlt,b3,hb3,hle3⟩:=old h1
  obtain ⟨_,_,q3,q4,_⟩:=leBlk_ok hle3
  obtain ⟨arr,ty,fr,_,ho⟩:=(hH.blk l2 b3 hb3 q4).place (hβn h4).2 h5
  exact (ho.1 (by rw [q3,h3]; nofun)).2.2 l b (by omega) hb hlive p g o hp ha rfl
 refine ⟨v,r,S' ++ T,I',β2,he,hk,PV.Is.mono (fun _ h=>h) (fun _ _=>rfl) r β' β2 v (fun m p _ hp=>hβm m p hp) hi,⟨fun l hl=>by rw [h2hi l (by simp only [List.length_append] at hl; omega)]; exact hH.far l (by simp only [List.length_append] at hl ⊢; omega),fun l b hb hlive=>?_⟩,hM',⟨hE.os,hE.tape,hE.output,hE.size,fun g hg hn=>hE.block g hg fun h=>hn (wr0 h),fun g hg h=>?_,hE.imm,fun g hg h=>(hE.new g hg h).imp id wr0⟩,by simp only [List.length_append]; omega,fun l _ hr=>by
   by_cases hl : l < S0.length
   ·rw [h2lo l hl]; exact hβ' l hl hr
   ·exact h2hi l hl⟩
 ·by_cases hl : l < S'.length
  ·rw [List.getElem?_append_left hl] at hb
   have hB:=hH'.blk l b hb hlive
   refine hB.mono (fun _ h=>h) (fun _ _=>rfl) hβm fun p g o hp ha=>⟨rfl,fun hr=>?_⟩
   obtain ⟨arr,ty,fr,hh,ho⟩:=hB.place hp ha
   obtain ⟨h1,h2,h3⟩:=ho.1 hr
   refine ⟨h2,fun l2 b2 hne hb2 hlive2 p2 g2 o2 hp2 ha2=>?_⟩
   by_cases hl2 : l2 < S'.length
   ·rw [List.getElem?_append_left hl2] at hb2
    exact h3 l2 b2 hne hb2 hlive2 p2 g2 o2 (by rw [← h2lo l2 (by omega)]; exact hp2) ha2
   ·rw [List.getElem?_append_right (by omega)] at hb2
    have hb2' : (st0 ++ T)[l2]? = some b2:=by rw [List.getElem?_append_right (by omega),hl0,hl1]; exact hb2
    have hp2' : β l2 = some p2:=by rw [← h2hi l2 (by omega)]; exact hp2
    have hg2:=hH.lives_lt ⟨l2,b2,p2,o2,hb2',hlive2,hp2',ha2⟩
    obtain ⟨b0,hb0⟩ : ∃ b0,S0[l]? = some b0:=⟨S0[l]'(by omega),by simp [show l < S0.length by omega]⟩
    obtain ⟨_,q5⟩:=hmd l b0 b hb0 hb
    by_cases hlr : l ∈ rl
    ·intro e
     subst e
     have hw : b.m = .w:=by rw [← q5]; exact (hcan l hlr).2 b0 hb0
     exact apart (by omega) hb2' hlive2 hp2' ha2 (hE.wr _ hg2 ⟨l,b,p,o,hb,hlive,hw,hp,ha⟩)
    ·obtain ⟨_,b3,hb3,hle3⟩:=old hb0
     obtain ⟨_,_,q3,q4,_⟩:=leBlk_ok hle3
     have hpo : β l = some p:=by rw [← hβ' l (by omega) hlr]; exact hp
     obtain ⟨_,_,_,_,ho3⟩:=(hH.blk l b3 hb3 q4).place hpo ha
     exact (ho3.1 (by rw [q3,q5]; exact hr)).2.2 l2 b2 hne hb2' hlive2 p2 g2 o2 hp2' ha2
  ·rw [List.getElem?_append_right (by omega)] at hb
   have hb' : (st0 ++ T)[l]? = some b:=by rw [List.getElem?_append_right (by omega),hl0,hl1]; exact hb
   have hB:=hH.blk l b hb' hlive
   have same : ∀ {p g o},β l = some p -> p.a = some (g,o) -> g < w.heap.size /\ w'.heap[g]? = w.heap[g]?:=fun {p g o} hp ha=>by
    have hlt:=hH.lives_lt ⟨l,b,p,o,hb',hlive,hp,ha⟩
    exact ⟨hlt,hE.block g hlt (apart (by omega) hb' hlive hp ha)⟩
   have hTb:=restOk_ok hT (List.mem_of_getElem? hb)
   refine hB.monoU hE.imm (fun g hg=>hE.block g (hM.imm g hg) fun hw=>?_) (fun p hp=>by rw [h2hi l (by omega)]; exact hp) (fun hk c hc m hm p hp=>?_) fun p g o hp ha=>⟨(same hp ha).2,fun hr=>?_⟩
   ·exact hH0.wr_imm hw hg
   ·by_cases hml : m < S0.length
    ·rw [h2lo m hml,hβ' m hml (hTb hk c hc m hm)]; exact hp
    ·rw [h2hi m hml]; exact hp
   ·obtain ⟨arr,ty,fr,hh,ho⟩:=hB.place hp ha
    obtain ⟨h1,h2,h3⟩:=ho.1 hr
    refine ⟨fun hI=>(hE.new g (same hp ha).1 hI).elim h2 (apart (by omega) hb' hlive hp ha),fun l2 b2 hne hb2 hlive2 p2 g2 o2 hp2 ha2=>?_⟩
    have hgl:=(same hp ha).1
    by_cases hl2 : l2 < S'.length
    ·rw [List.getElem?_append_left hl2] at hb2
     have hp2' : β' l2 = some p2:=by rw [← h2lo l2 (by omega)]; exact hp2
     obtain ⟨b0,hb0⟩ : ∃ b0,S0[l2]? = some b0:=⟨S0[l2]'(by omega),by simp [show l2 < S0.length by omega]⟩
     by_cases hlr : l2 ∈ rl
     ·intro e
      subst e
      obtain ⟨_,q5⟩:=hmd l2 b0 b2 hb0 hb2
      have hw : b2.m = .w:=by rw [← q5]; exact (hcan l2 hlr).2 b0 hb0
      exact apart (by omega) hb' hlive hp ha (hE.wr _ hgl ⟨l2,b2,p2,o2,hb2,hlive2,hw,hp2',ha2⟩)
     ·obtain ⟨_,b3,hb3,hle3⟩:=old hb0
      exact h3 l2 b3 hne hb3 (leBlk_ok hle3).2.2.2.1 p2 g2 o2 (by rw [← hβ' l2 (by omega) hlr]; exact hp2') ha2
    ·rw [List.getElem?_append_right (by omega)] at hb2
     exact h3 l2 b2 hne (by rw [List.getElem?_append_right (by omega),hl0,hl1]; exact hb2) hlive2 p2 g2 o2 (by rw [← h2hi l2 (by omega)]; exact hp2) ha2
 ·rcases wr1 h with h | ⟨l,b,p,o,_,h2,h3,h4,h5,h6⟩
  ·exact wr0 (hE.wr g hg h)
  ·exact ⟨l,b,p,o,h2,h3,h4,h5,h6⟩
def frzV (st : List PBlk) (fz : List Nat) (x : PV) : PV:=match x with
 | .wref l=>bif inL l fz then (match st[l]? with
  | some ⟨.dyn,_,n,_,_,cs⟩=>.sl n cs
  | _=>.wref l) else .wref l
 | x=>x
def TM.mapV (f : PV -> PV) : TM -> TM
 | .nil=>.nil
 | .node v l r=>.node (match v with
  | some x=>some (f x)
  | none=>none) (l.mapV f) (r.mapV f)
def PSt.frz (s : PSt) (fz : List Nat) : PSt:=match s with
 | ⟨n,t,st,b,rl⟩=>⟨n,t.mapV (frzV st fz),frzS fz st,b,rl⟩
theorem TM.mapV_get (f : PV -> PV) : ∀ (t : TM) (n : Nat),(t.mapV f).get n = (t.get n).map f
 | .nil,_=>rfl
 | .node v l r,n=>by
  show TM.get (.node (match v with
   | some x=>some (f x)
   | none=>none) (l.mapV f) (r.mapV f)) n = _
  rw [TM.get,TM.get]
  cases Nat.beq n 0 <;> cases Nat.beq (n % 2) 1 <;> simp only [cond_true,cond_false]
  ·exact TM.mapV_get f r _
  ·exact TM.mapV_get f l _
  ·cases v <;> rfl
  ·cases v <;> rfl
theorem frzS_get {S : List PBlk} {fz : List Nat} {l : Nat} {b : PBlk} (hb : (frzS fz S)[l]? = some b) : ∃ b0,S[l]? = some b0 /\ b = { b0 with m:=frzM (inL l fz) b0.m }:=by
 unfold frzS at hb
 rw [mapM_get,Option.map_eq_some_iff] at hb
 obtain ⟨b0,h1,h2⟩:=hb
 rw [Nat.zero_add] at h2
 exact ⟨b0,h1,h2.symm⟩
theorem HeapOk.frz {S : List PBlk} (hH : HeapOk I β S w) (hM : ImmOk G I w) {fz : List Nat} (hz : okZ S fz = true) : HeapOk (LentI I β S fz) β (frzS fz S) w:=by
 refine ⟨fun l hl=>hH.far l (by unfold frzS at hl; rw [mapM_len] at hl; exact hl),fun l b hb hlive=>?_⟩
 obtain ⟨b0,hb0,rfl⟩:=frzS_get hb
 obtain ⟨p,hp,hk⟩:=hH.blk l b0 hb0 hlive
 have hII : ∀ g,I g -> LentI I β S fz g:=fun g h=>.inl h
 have own : ∀ {g o : Nat} {fr : Nat × Nat},p.a = some (g,o) -> Own I β S l g fr b0 -> Own (LentI I β S fz) β (frzS fz S) l g fr { b0 with m:=frzM (inL l fz) b0.m }:=fun {g o fr} ha ho=>by
  refine ⟨fun hm=>?_,fun hm=>?_⟩
  ·have hm0 : inL l fz = false /\ b0.m ≠ .r:=by
    cases hc : inL l fz with
    | true=>simp only [hc,frzM,cond_true,ne_eq,not_true_eq_false] at hm
    | false=>exact ⟨rfl,by simpa only [hc,frzM,cond_false] using hm⟩
   obtain ⟨h1,h2,h3⟩:=ho.1 hm0.2
   refine ⟨h1,fun hI=>?_,fun l2 b2 hne hl2 hlive2 p2 g2 o2 hp2 ha2=>?_⟩
   ·rcases hI with hI | ⟨l2,b2,p2,o2,hl2,hb2,hlive2,_,hp2,ha2⟩
    ·exact h2 hI
    ·refine h3 l2 b2 (fun e=>?_) hb2 hlive2 p2 g o2 hp2 ha2 rfl
     subst e
     rw [inL_iff.2 hl2] at hm0
     cases hm0.1
   ·obtain ⟨b3,hb3,rfl⟩:=frzS_get hl2
    exact h3 l2 b3 hne hb3 hlive2 p2 g2 o2 hp2 ha2
  ·cases hc : inL l fz with
   | true =>
    obtain ⟨b1,hb1,k1,k2⟩:=okZ_ok hz (inL_iff.1 hc)
    rw [hb0] at hb1; cases hb1
    exact .inr ⟨l,b0,p,o,inL_iff.1 hc,hb0,k1,k2,hp,ha⟩
   | false=>exact hII g (ho.2 (by simpa only [hc,frzM,cond_false] using hm))
 have hwI : ∀ g,I g -> w.heap[g]? = w.heap[g]?:=fun _ _=>rfl
 refine ⟨p,hp,?_⟩
 split at hk
 ·rename_i hkk
  obtain ⟨g,o,arr,ty,fr,h1,h2,h3,ho⟩:=hk
  simp only [hkk]
  exact ⟨g,o,arr,ty,fr,h1,h2,CellsAt.mono hII hwI (fun _ _ h=>h) h3,own h1 ho⟩
 ·rename_i hkk
  obtain ⟨g,arr,fr,h1,h2,h3,ho,h4⟩:=hk
  simp only [hkk]
  exact ⟨g,arr,fr,h1,h2,CellsAt.mono hII hwI (fun _ _ h=>h) h3,own h1 ho,h4⟩
 ·rename_i hkk
  obtain ⟨h1,hk⟩:=hk
  simp only [hkk]
  refine ⟨h1,?_⟩
  rcases hk with h | ⟨g,arr,fr,h2,h3,h4,ho,h5⟩
  ·exact .inl h
  ·exact .inr ⟨g,arr,fr,h2,h3,IsEs.mono hII hwI _ _ _ _ rfl h4,own h2 ho,h5⟩
 ·rename_i hkk
  obtain ⟨g,h1,h2,ho⟩:=hk
  simp only [hkk]
  exact ⟨g,h1,h2,own h1 ho⟩
theorem frzV_is {S : List PBlk} (hH : HeapOk I β S w) {fz : List Nat} (hz : okZ S fz = true) {x : PV} {v : Value} (hx : x.Is w I β v) : (frzV S fz x).Is w (LentI I β S fz) β v:=by
 have keep : ∀ y : PV,y.Is w I β v -> y.Is w (LentI I β S fz) β v:=fun y hy=>PV.Is.mono (fun _ h=>.inl h) (fun _ _=>rfl) y β β v (fun _ _ _ h=>h) hy
 unfold frzV
 split
 ·rename_i l
  cases hc : inL l fz with
  | false=>exact keep _ hx
  | true =>
   obtain ⟨b,hb,hlive,hm⟩:=okZ_ok hz (inL_iff.1 hc)
   simp only [cond_true]
   split
   ·rename_i _ ty n m live cs hs
    rw [hb] at hs
    cases hs
    have h1:=lent_sl hH (inL_iff.1 hc) hb (n:=n) (es:=cs) (by
     simp only at hlive hm
     show (bif live && notP m && Nat.beq n n then cs = cs else False)
     rw [hlive,hm,Nat.beq_refl]; exact rfl) hx
    exact PV.Is.mono (fun _ h=>h) (fun _ _=>rfl) _ no β v (fun l p hl=>by simp [PV.uses] at hl) h1
   ·exact keep _ hx
 ·exact keep _ hx
theorem Sub.freeze (fz : List Nat) (hz : okZ s.st fz = true) : Sub G s (s.frz fz):=fun I β a w hR=>by
 obtain ⟨n,t,st,b,rl⟩:=s
 refine ⟨LentI I β st fz,β,⟨hR.small,hR.defers,hR.size,by show b <= (frzS fz st).length; unfold frzS; rw [mapM_len]; exact hR.base,fun i x hx=>?_,hR.heap.frz hR.imm hz,lent_imm hR.heap hR.imm⟩,⟨⟨rfl,rfl,rfl,Nat.le_refl _,fun _ _ _=>rfl,fun g _ h=>?_,fun _ h=>.inl h,fun g _ h=>?_⟩,rfl,rfl,rfl,fun _ _ _=>rfl⟩⟩
 ·have hx' : (t.mapV (frzV st fz)).get i = some x:=hx
  rw [TM.mapV_get,Option.map_eq_some_iff] at hx'
  obtain ⟨y,hy,rfl⟩:=hx'
  obtain ⟨v,hv,hi⟩:=hR.get i y hy
  exact ⟨v,hv,frzV_is hR.heap hz hi⟩
 ·obtain ⟨l,b1,p,o,h1,h2,h3,h4,h5⟩:=h
  obtain ⟨b0,hb0,rfl⟩:=frzS_get h1
  refine ⟨l,b0,p,o,hb0,h2,?_,h4,h5⟩
  cases hc : inL l fz with
  | true=>simp only [hc,frzM,cond_true] at h3; cases h3
  | false=>simpa only [hc,frzM,cond_false] using h3
 ·rcases h with h | ⟨l,b1,p,o,hl,hb,hlive,hm,hp,ha⟩
  ·exact .inl h
  ·cases hmm : b1.m with
   | w=>exact .inr ⟨l,b1,p,o,hb,hlive,hmm,hp,ha⟩
   | p=>rw [hmm] at hm; cases hm
   | r =>
    obtain ⟨arr,ty,fr,_,ho⟩:=(hR.heap.blk l b1 hb hlive).place hp ha
    exact .inl (ho.2 hmm)
theorem SW.sub {c : Code} {Q : X -> PSt -> Prop} {s s' : PSt} (h : Sub G s s') (h' : SW G c Q s') : SW G c Q s:=SW.intro fun I β a w hR=>by
 obtain ⟨I',β',hR',hg⟩:=h I β a w hR
 exact h'.from hR' hg
def PSt.bare (s : PSt) (vs : List (Nat × PV)) (st : List PBlk) : PSt:=match s with
 | ⟨n,_,_,b,rl⟩=>⟨n,layF vs .nil,st,b,rl⟩
theorem SW.loopX (hG : GOk G) (R : List (Nat × Plan)) {α : Type} {c : Code} {Q : X -> PSt -> Prop} (hc : planAll R c = true) (vs : α -> List (Nat × PV)) (st : α -> List PBlk) (μ : α -> Nat) (x0 : α) (N : Nat) (π0 : Ren) (h0 : subK G.cx π0 s (s.bare (vs x0) (st x0)))
  (h : ∀ x,frS (s.bare (vs x) (st x)) (pw G R N c (backK (fun s'=>∃ y π,μ y < μ x /\ subK G.cx π s' (s.bare (vs y) (st y))) Q))) : SW G (.loop c) Q s :=
 SW.inv hG (fun x=>s.bare (vs x) (st x)) μ (N:=N) hc x0 (subK_ok hG.ok h0) (fun x s'=>∃ y π,μ y < μ x /\ subK G.cx π s' (s.bare (vs y) (st y))) (fun x s' ⟨y,π,hy,hs⟩=>⟨y,hy,subK_ok hG.ok hs⟩) fun x=>frS_ok (h x)
theorem Spec.ren (hG : GOk G) {f : FuncId} {args : List PV} {S S' : List PBlk} {rl : List Nat} {K : PV -> List PBlk -> Prop} (h : Spec G f args S' rl K) (π : Ren) (hs : subK G.cx π ⟨0,.nil,S,S.length,[]⟩ ⟨0,.nil,S',S.length,[]⟩) (hu : (usesL args).all (fun l=>Nat.blt l S.length) = true) (hrl : ∀ l ∈ rl,S.length <= l) : Spec G f args S [] K:=by
 refine Spec.intro h.run.1 fun I β w vals hH hM hA=>?_
 have hR : Rel G I β ⟨0,.nil,S,S.length,[]⟩ { tmps:=#[],defers:=[] } w:=⟨Nat.zero_le _,rfl,rfl,Nat.le_refl _,fun n x hx=>(by cases hx),hH,hM⟩
 obtain ⟨I',β',hR',hg⟩:=subK_ok hG.ok hs I β _ w hR
 have hA' : IsL w I' args β' vals:=IsL.mono hg.ext.imm (fun g hgI=>hg.ext.block g (hM.imm g hgI) (fun hw=>hH.wr_imm hw hgI)) args β β' vals (fun m p hm hp=>by
  rw [List.all_eq_true] at hu
  rw [hg.low m (Nat.le_of_ble_eq_true (hu m hm)) (by simp)]; exact hp) hA
 have hlen : S.length <= S'.length:=hR'.base
 refine (h.run.2 I' β' w vals hR'.heap hR'.imm hA').mono fun e w' ⟨v,r,S2,I2,β2,he,hK,hr,hH2,hM2,hE,hl,hβ⟩=>?_
 refine ⟨v,r,S2,I2,β2,he,hK,hr,hH2,hM2,hg.ext.trans hE,by omega,fun l hl' _=>?_⟩
 rw [hβ l (by omega) (fun hm=>by have:=hrl l hm; omega)]
 exact hg.low l hl' (by simp)
end
end Go.Proofs.YtnbngokbamifbaaGreatDoor.Pw

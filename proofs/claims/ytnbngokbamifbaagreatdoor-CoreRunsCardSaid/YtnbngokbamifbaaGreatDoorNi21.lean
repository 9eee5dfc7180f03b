/- What a law is proved with. -/
import Derived.Test.YtnbngokbamifbaaGreatDoorNi20
import Derived.Test.YtnbngokbamifbaaGreatDoorNi14
import Derived.Test.YtnbngokbamifbaaGreatDoorNiAluB
import Derived.Test.YtnbngokbamifbaaGreatDoorNiImmB
import Derived.Test.YtnbngokbamifbaaGreatDoorNiPop32
set_option linter.unusedVariables false
set_option linter.unusedSimpArgs false
namespace Go.Proofs.YtnbngokbamifbaaGreatDoor.Pw
open Go Go.RowKit
def spanF (l : List (Nat × Nat × Nat × Nat)) : Nat:=l.foldl (fun m x=>max m (x.2.2.1 + x.2.2.2)) 0
theorem spanF_le : ∀ (l : List (Nat × Nat × Nat × Nat)) (m : Nat),m <= l.foldl (fun m x=>max m (x.2.2.1 + x.2.2.2)) m /\ ∀ x ∈ l,x.2.2.1 + x.2.2.2 <= l.foldl (fun m x=>max m (x.2.2.1 + x.2.2.2)) m
 | [],m=>⟨Nat.le_refl _,fun x hx=>by cases hx⟩
 | y :: l,m=>by
  have h:=spanF_le l (max m (y.2.2.1 + y.2.2.2))
  rw [List.foldl_cons]
  refine ⟨by omega,fun x hx=>?_⟩
  rcases List.mem_cons.1 hx with rfl | hx
  ·omega
  ·exact h.2 x hx
theorem orF_lt (i : IN) (k : Nat) : ∀ (l : List (Nat × Nat × Nat × Nat)) (V : Nat),V < 2 ^ k -> (∀ x ∈ l,x.2.2.1 + x.2.2.2 <= k) -> l.foldl (fun w x=>w ||| B (getV i x.1) x.2.1 x.2.2.2 x.2.2.1) V < 2 ^ k
 | [],V,h,_=>h
 | x :: l,V,h,hl=>by
  rw [List.foldl_cons]
  refine orF_lt i k l _ (Nat.or_lt_two_pow h ?_) fun y hy=>hl y (List.mem_cons_of_mem _ hy)
  have b:=bitsV_bd (getV i x.1) x.2.1 x.2.2.2
  have e:=pow_cast x.2.2.2
  have h1 : (bitsV (getV i x.1) x.2.1 x.2.2.2).toNat < 2 ^ x.2.2.2:=by omega
  unfold B
  rw [Nat.shiftLeft_eq]
  calc (bitsV (getV i x.1) x.2.1 x.2.2.2).toNat * 2 ^ x.2.2.1 < 2 ^ x.2.2.2 * 2 ^ x.2.2.1:=Nat.mul_lt_mul_of_pos_right h1 (Nat.two_pow_pos _)
   _ = 2 ^ (x.2.2.2 + x.2.2.1):=(Nat.pow_add ..).symm
   _ <= 2 ^ k:=Nat.pow_le_pow_right (by omega) (by have:=hl x (List.mem_cons_self ..); omega)
theorem or_top_same (a b k : Nat) (h : b < 2 ^ k) : a ||| b < (a / 2 ^ k + 1) * 2 ^ k:=by
 have e : (a ||| b) / 2 ^ k = a / 2 ^ k:=by
  apply Nat.eq_of_testBit_eq
  intro p
  rw [Nat.testBit_div_two_pow,Nat.testBit_div_two_pow,Nat.testBit_or,Nat.testBit_lt_two_pow (x:=b) (Nat.lt_of_lt_of_le h (Nat.pow_le_pow_right (by decide) (by omega))),Bool.or_false]
 have hp:=Nat.two_pow_pos k
 have h1:=Nat.lt_mul_div_succ (a ||| b) hp
 rw [e,Nat.mul_comm] at h1
 exact h1
theorem narrow_tab : ((List.range 47).all fun k=>decide ((fbN (k + 1) / 2 ^ spanF (fdN (k + 1)) + 1) * 2 ^ spanF (fdN (k + 1)) <= 59392)) = true:=by decide +kernel
theorem wide_tab : ((List.range 53).all fun k=>decide (3892314112 <= fbN (k + 48))) = true:=by decide +kernel
theorem top_narrow (i : IN) (h : rightV i) (hn : ¬ 48 <= i.form) : wordV i < 59392:=by
 have f1:=h.1
 have ef : ((i.form.toNat : Nat) : Int) = i.form:=by omega
 have t:=of_decide_eq_true (List.all_eq_true.1 narrow_tab (i.form.toNat - 1) (List.mem_range.2 (by omega)))
 rw [show i.form.toNat - 1 + 1 = i.form.toNat by omega] at t
 unfold fbN fdN at t
 rw [ef] at t
 have l:=orF_lt (turnI i) (spanF (fieldsV (shapeV i.form))) (fieldsV (shapeV i.form)) 0 (Nat.two_pow_pos _) fun x hx=>(spanF_le _ 0).2 x hx
 have o:=or_top_same (fbV i.form).toNat _ _ l
 have e : wordV i = (((fbV i.form).toNat ||| orF (turnI i) (fieldsV (shapeV i.form)) : Nat) : Int):=word_or i
 rw [e]
 have o2 : ((fbV i.form).toNat ||| orF (turnI i) (fieldsV (shapeV i.form))) < 59392:=Nat.lt_of_lt_of_le o t
 omega
theorem word_bd (i : IN) : U32 (wordV i):=by
 have:=or4_lt (show (fbV i.form).toNat < 4294967296 by have:=fb_bd i.form; omega) (orV_lt i)
 rw [word_or]; unfold U32; omega
theorem top_wide (i : IN) (h : rightV i) (hn : 48 <= i.form) : 3892314112 <= wordV i:=by
 have f1:=h.1
 have ef : ((i.form.toNat : Nat) : Int) = i.form:=by omega
 have t:=of_decide_eq_true (List.all_eq_true.1 wide_tab (i.form.toNat - 48) (List.mem_range.2 (by omega)))
 rw [show i.form.toNat - 48 + 48 = i.form.toNat by omega] at t
 unfold fbN at t
 rw [ef] at t
 have l : (fbV i.form).toNat <= (fbV i.form).toNat ||| orF (turnI i) (fieldsV (shapeV i.form)):=Nat.left_le_or
 rw [word_or]; omega
end Go.Proofs.YtnbngokbamifbaaGreatDoor.Pw
namespace Go.Proofs.YtnbngokbamifbaaGreatDoor.Pw
open Go Go.RowKit
def u8P (l : List Int) : List PV:=l.map (PV.int .u8)
def byL (i : IN) : List Int:=(if 48 <= i.form then [wordV i / 65536 % 256,wordV i / 16777216 % 256] else []) ++ [wordV i % 256,wordV i / 256 % 256]
theorem r24 : Ev.pow2 .u32 24 = 16777216:=by decide
set_option maxHeartbeats 4000000 in
set_option maxRecDepth 100000 in
theorem bytes_yes (i : IN) (h : rightV i) (hI : IOk i) : PureF gT 48 [inP i] (.tup [.sl 1 (u8P (byL i)),.int .i64 0]):=by
 have e0:=IntKind.wrap_u8' (wordV i)
 have e1:=IntKind.wrap_u8' (wordV i / Ev.pow2 .u32 8)
 have e2:=IntKind.wrap_u8' (wordV i / Ev.pow2 .u32 16)
 have e3:=IntKind.wrap_u8' (wordV i / Ev.pow2 .u32 24)
 have p8 : Ev.pow2 .u32 8 = 256:=by decide
 have p16 : Ev.pow2 .u32 16 = 65536:=by decide
 refine Spec.enter gTok P48 100 Tryz.func48 rfl (by kernel_rfl) ?_
 refine ⟨[],no_rl,(word_yes i h hI).use (by repeat' first|exact trivial|exact rfl|exact Iff.rfl|exact Or.inl rfl|refine And.intro ?_ ?_) rfl rfl ?_⟩
 refine And.intro (fun h=>absurd rfl h) (fun _=>?_)
 refine .inr ?_
 refine ⟨by decide,.inr ?_⟩
 refine ⟨[],no_rl,(form_wide i.form).use (by repeat' first|exact trivial|exact rfl|exact Iff.rfl|exact Or.inl rfl|refine And.intro ?_ ?_) rfl rfl ?_⟩
 refine And.intro (fun hn=>?_) (fun hn=>?_)
 ·have hn' : ¬ 48 <= i.form:=fun e=>hn ⟨e,h.1.2⟩
  refine retE ?_
  refine And.intro ?_ (And.intro rfl trivial)
  show [PV.int .u8 (IntKind.u8.wrap (wordV i)),.int .u8 (IntKind.u8.wrap (wordV i / Ev.pow2 .u32 8))] = u8P (byL i)
  rw [e0,e1,p8]
  unfold byL u8P; rw [if_neg hn']; rfl
 ·have hn' : 48 <= i.form:=(Classical.not_not.1 hn).1
  refine ⟨by decide,.inr ?_⟩
  refine ⟨by decide,.inr ?_⟩
  refine retE ?_
  refine And.intro ?_ (And.intro rfl trivial)
  show [PV.int .u8 (IntKind.u8.wrap (wordV i / Ev.pow2 .u32 16)),.int .u8 (IntKind.u8.wrap (wordV i / Ev.pow2 .u32 24)),PV.int .u8 (IntKind.u8.wrap (wordV i)),.int .u8 (IntKind.u8.wrap (wordV i / Ev.pow2 .u32 8))] = u8P (byL i)
  rw [e0,e1,e2,e3,p8,p16,r24]
  unfold byL u8P; rw [if_pos hn']; rfl
theorem bytes_no (i : IN) (h : ¬ rightV i) (hI : IOk i) : PureF gT 48 [inP i] (.tup [.sl 1 [],.int .i64 10]):=by
 refine Spec.enter gTok P48 100 Tryz.func48 rfl (by kernel_rfl) ?_
 refine ⟨[],no_rl,(word_no i h hI).use (by repeat' first|exact trivial|exact rfl|exact Iff.rfl|exact Or.inl rfl|refine And.intro ?_ ?_) rfl rfl ?_⟩
 refine And.intro (fun _=>?_) (fun h=>absurd (show ¬ (10 : Int) = 0 by decide) h)
 (refine retE ?_; repeat' first|exact trivial|exact rfl|exact Iff.rfl|exact Or.inl rfl|refine And.intro ?_ ?_)
end Go.Proofs.YtnbngokbamifbaaGreatDoor.Pw
namespace Go.Proofs.YtnbngokbamifbaaGreatDoor.Pw
open Go Go.RowKit
def BOk (l : List Int) : Prop:=∀ z ∈ l,0 <= z /\ z <= 255
theorem or_add_u32 (a b : Int) (k : Nat) (hk : k <= 24) (ha : 0 <= a /\ a < 2 ^ k) (hb : 0 <= b /\ b * 2 ^ k <= 4294967295) : bits .or .u32 a (b * 2 ^ k) = a + b * 2 ^ k /\ bits .or .u32 (b * 2 ^ k) a = b * 2 ^ k + a:=by
 have p:=pow_bd k (by omega)
 have p2 : (2 : Int) ^ k <= 16777216:=by
  have h1 : (2 ^ k : Nat) <= 2 ^ 24:=Nat.pow_le_pow_right (by omega) hk
  have h3:=pow_cast k
  have h4 : (2 : Nat) ^ 24 = 16777216:=by decide
  omega
 obtain ⟨x,rfl⟩ : ∃ x : Nat,a = x:=⟨a.toNat,by omega⟩
 obtain ⟨y,rfl⟩ : ∃ y : Nat,b = y:=⟨b.toNat,by omega⟩
 have e : ((y : Int) * 2 ^ k) = ((2 ^ k * y : Nat) : Int):=by rw [Int.natCast_mul,pow_cast,Int.mul_comm]
 rw [e] at hb ⊢
 have hx : x < 2 ^ k:=by have:=pow_cast k; omega
 have h:=or_low y x k hx
 constructor
 ·rw [u32_or _ _ (by omega) (by omega) (by omega) (by omega),Int.toNat_natCast,Int.toNat_natCast,Nat.or_comm,← h]; omega
 ·rw [u32_or _ _ (by omega) (by omega) (by omega) (by omega),Int.toNat_natCast,Int.toNat_natCast,← h]; omega
def hN (l : List Int) (n : Nat) : Int:=l.getD n 0 + l.getD (n + 1) 0 * 256
theorem getD_ok {l : List Int} (h : BOk l) (n : Nat) : 0 <= l.getD n 0 /\ l.getD n 0 <= 255:=by
 rw [List.getD_eq_getElem?_getD]
 cases e : l[n]? with
 | none=>exact ⟨Int.le_refl 0,by decide⟩
 | some z=>exact h z (List.mem_of_getElem? e)
theorem hN_bd {l : List Int} (h : BOk l) (n : Nat) : 0 <= hN l n /\ hN l n <= 65535:=by
 have a:=getD_ok h n
 have b:=getD_ok h (n + 1)
 unfold hN; omega
def hW (l : List Int) (n : Nat) : Int:=hN l n * 65536 + hN l (n + 2)
noncomputable def atI (l : List Int) (n : Nat) : IN:=open Classical in
 if l.length < n + 2 then iZ else if ¬ beginsV (hN l n) then ofI (hN l n) False else if l.length < n + 4 then iZ else ofI (hW l n) True
noncomputable def atE (l : List Int) (n : Nat) : Int:=open Classical in
 if l.length < n + 2 then 41 else if ¬ beginsV (hN l n) then ofE (hN l n) False else if l.length < n + 4 then 41 else ofE (hW l n) True
end Go.Proofs.YtnbngokbamifbaaGreatDoor.Pw
namespace Go.Proofs.YtnbngokbamifbaaGreatDoor.Pw
open Go Go.RowKit
structure RS where
 R : Nat -> Int
 N : Int
 Z : Int
 C : Int
 V : Int
structure XS where
 i : IN
 s : RS
 at_ : Int
 taken : Prop
 a : Int
 b : Int
 data : Int
 words : Int
 kind : Int
 code : Int
structure MS where
 w : Nat -> Int
 fl : List Int
 wait : Int
 s : RS
 full : Prop
 line : Int
 cyc : Int
 kind : Int
 code : Int
def upd (R : Nat -> Int) (i v : Int) : Nat -> Int:=fun m=>if i = (m : Int) then v else R m
def rsFs (s : RS) : List PV:=[.int .u32 (s.R 0),.int .u32 (s.R 1),.int .u32 (s.R 2),.int .u32 (s.R 3),.int .u32 (s.R 4),.int .u32 (s.R 5),.int .u32 (s.R 6),.int .u32 (s.R 7),.int .u32 (s.R 8),.int .u32 (s.R 9),.int .u32 (s.R 10),.int .u32 (s.R 11),.int .u32 (s.R 12),.int .u32 (s.R 13),.int .u32 (s.R 14),.int .u32 (s.R 15),.int .u32 s.N,.int .u32 s.Z,.int .u32 s.C,.int .u32 s.V]
def rsP (s : RS) : PV:=.agg (rsFs s)
def byD (k : Nat) : Int:=if k = 0 then 1 else if k = 1 then 256 else if k = 2 then 65536 else 16777216
def byW (x : Int) (k : Nat) : Int:=x / byD k % 256
def ramL (w : Nat -> Int) : List PV:=(List.range 65536).map fun k=>.int .u8 (byW (w (k / 4)) (k % 4))
def ramB (w : Nat -> Int) : PBlk:=⟨.dyn,5,1,.w,true,ramL w⟩
def memB (fl : List Int) : PBlk:=⟨.loc,150,1,.w,true,[.sl 1 (u8P fl),.wref 0]⟩
def machBM (d : Md) (m : MS) : PBlk:=⟨.loc,120,1,d,true,[.ptr 1 0,.int .i64 m.wait,.int .u32 (m.s.R 0),.int .u32 (m.s.R 1),.int .u32 (m.s.R 2),.int .u32 (m.s.R 3),.int .u32 (m.s.R 4),.int .u32 (m.s.R 5),.int .u32 (m.s.R 6),.int .u32 (m.s.R 7),.int .u32 (m.s.R 8),.int .u32 (m.s.R 9),.int .u32 (m.s.R 10),.int .u32 (m.s.R 11),.int .u32 (m.s.R 12),.int .u32 (m.s.R 13),.int .u32 (m.s.R 14),.int .u32 (m.s.R 15),.int .u32 m.s.N,.int .u32 m.s.Z,.int .u32 m.s.C,.int .u32 m.s.V,.bool m.full,.int .u32 m.line,.int .i64 m.cyc,.int .i64 m.kind,.int .i64 m.code]⟩
abbrev machB (m : MS) : PBlk:=machBM .w m
def xsFs (x : XS) : List PV:=[.ptr 2 0,.int .i64 x.i.form,.int .i64 x.i.rd,.int .i64 x.i.rn,.int .i64 x.i.rm,.int .i64 x.i.ra,.int .i64 x.i.imm,.int .i64 x.i.kind,.int .i64 x.i.by_,.int .i64 x.i.set,.int .i64 x.i.cond,.int .i64 x.i.regs,.int .u32 (x.s.R 0),.int .u32 (x.s.R 1),.int .u32 (x.s.R 2),.int .u32 (x.s.R 3),.int .u32 (x.s.R 4),.int .u32 (x.s.R 5),.int .u32 (x.s.R 6),.int .u32 (x.s.R 7),.int .u32 (x.s.R 8),.int .u32 (x.s.R 9),.int .u32 (x.s.R 10),.int .u32 (x.s.R 11),.int .u32 (x.s.R 12),.int .u32 (x.s.R 13),.int .u32 (x.s.R 14),.int .u32 (x.s.R 15),.int .u32 x.s.N,.int .u32 x.s.Z,.int .u32 x.s.C,.int .u32 x.s.V,.int .u32 x.at_,.bool x.taken,.int .u32 x.a,.int .u32 x.b,.int .u32 x.data,.int .i64 x.words,.int .i64 x.kind,.int .i64 x.code]
def runBM (d : Md) (x : XS) : PBlk:=⟨.loc,125,1,d,true,xsFs x⟩
def stM (m : MS) : List PBlk:=[ramB m.w,memB m.fl,machB m]
def stXM (d e : Md) (m : MS) (x : XS) : List PBlk:=[ramB m.w,memB m.fl,machBM d m,runBM e x]
abbrev stX (m : MS) (x : XS) : List PBlk:=stXM .w .w m x
def le1s : PV -> Bool
 | .agg _ | .tup _ | .clo .. | .ref .. | .pti .. | .dpt .. | .ep .. | .gp .. | .gpi .. | .val _=>false
 | _=>true
theorem le1_self {x : PV} (h : le1s x = true) : le1 x x:=by
 cases x <;> first | (cases h; done) | exact rfl | exact trivial | exact Iff.rfl | (unfold le1; simp)
theorem leL_self : ∀ {l : List PV},l.all le1s = true -> leL le1 l l
 | [],_=>trivial
 | x :: l,h=>by
  simp only [List.all_cons,Bool.and_eq_true] at h
  exact ⟨le1_self h.1,leL_self h.2⟩
theorem leBlk_same {b : PBlk} (hl : b.live = true) (hc : (bif b.k.isC then b.cs.all le1s else true) = true) : leBlk b b:=by
 obtain ⟨k,ty,n,m,live,cs⟩:=b
 simp only at hl
 subst hl
 have hm : (Nat.beq ty ty && Nat.beq n n && Md.beq m m && true && true && BK.beq k k) = true:=by
  simp only [Nat.beq_refl,Bool.and_true,Bool.true_and,Bool.and_eq_true]
  exact ⟨by cases m <;> rfl,by cases k <;> rfl⟩
 show (bif (Nat.beq ty ty && Nat.beq n n && Md.beq m m && true && true && BK.beq k k) then _ else False)
 rw [hm,cond_true]
 cases k
 ·exact leL_self hc
 ·exact leL_self hc
 ·exact rfl
 ·exact rfl
def okB (b : PBlk) : Bool:=b.live && (bif b.k.isC then b.cs.all le1s else true)
theorem okB_le {b : PBlk} (h : okB b = true) : leBlk b b:=by
 unfold okB at h
 simp only [Bool.and_eq_true] at h
 exact leBlk_same h.1 h.2
theorem leSt_same : ∀ {S : List PBlk},S.all okB = true -> leSt S S
 | [],_=>trivial
 | b :: S,h=>by
  simp only [List.all_cons,Bool.and_eq_true] at h
  exact ⟨okB_le h.1,leSt_same h.2⟩
theorem stLe_same : ∀ {S T : List PBlk} {k : List PBlk -> Prop},S.all okB = true -> k T -> stLe (S ++ T) S k
 | [],_,_,_,h=>h
 | b :: S,T,k,ho,h=>by
  simp only [List.all_cons,Bool.and_eq_true] at ho
  exact ⟨okB_le ho.1,stLe_same (S:=S) ho.2 h⟩
theorem Spec.useE {G : Gx} {f : FuncId} {args args' : List PV} {r0 : PV} {S0 S1 st T : List PBlk} {K : PV -> List PBlk -> Prop} (h : Spec G f args' S0 [] fun r S'=>r = r0 /\ S' = S1)
  (hc : (modeS S0 S1 && S0.all (lowB S0.length) && (usesL args').all (fun l=>Nat.blt l S0.length) && r0.uses.all (fun l=>Nat.blt l S0.length) && S0.all okB) = true) (hle : leL leK args args') (hst : st = S0 ++ T) (hK : frBB S1 fun S1=>appK S1 T (K r0)) : Spec G f args st [] K:=by
 simp only [Bool.and_eq_true] at hc
 obtain ⟨⟨⟨⟨h1,h2⟩,h3⟩,h4⟩,h5⟩:=hc
 subst hst
 exact h.useS h1 h2 h3 h4 hle (stLe_same h5 hK)
def atQ (π : Ren) (st : List PBlk) : List Nat -> List PBlk -> Prop -> Prop
 | [],[],k=>k
 | l :: σ,b' :: S,k=>(need st[l]? fun b=>okB b = true /\ renK π b' fun b''=>b = b'') /\ atQ π st σ S k
 | _,_,_=>False
theorem atQ_atK {π : Ren} {st : List PBlk} : ∀ {σ : List Nat} {S : List PBlk} {k : Prop},atQ π st σ S k -> atK π st σ S k
 | [],[],_,h=>h
 | l :: σ,b' :: S,k,h=>by
  refine ⟨?_,atQ_atK h.2⟩
  obtain ⟨b,hb,ho,hr⟩:=need_ok h.1
  rw [hb]
  show renK π b' fun b''=>leBlk b b''
  obtain ⟨k0,ty,n,m,live,cs⟩:=b'
  cases k0
  ·obtain ⟨ds,h1,h2⟩:=need_ok hr
   show need (renL π cs) _
   rw [h1]; subst h2; exact okB_le ho
  ·obtain ⟨ds,h1,h2⟩:=need_ok hr
   show need (renL π cs) _
   rw [h1]; subst h2; exact okB_le ho
  ·have e : b = ⟨.dyn,ty,n,m,live,cs⟩:=hr
   subst e; exact okB_le ho
  ·have e : b = ⟨.mp,ty,n,m,live,cs⟩:=hr
   subst e; exact okB_le ho
 | [],_ :: _,_,h=>h.elim
 | _ :: _,[],_,h=>h.elim
theorem Spec.useQ {G : Gx} {f : FuncId} {args args' : List PV} {r0 : PV} {S0 S1 st : List PBlk} {K : PV -> List PBlk -> Prop} (σ : List Nat) (h : Spec G f args' S0 [] fun r S'=>r = r0 /\ S' = S1) (hc : (modeS S0 S1 && nodupN σ) = true) (hr0 : r0.uses = []) (hle : argR (σ.map some) args args') (hK : atQ (σ.map some) st σ S0 (toK (σ.map some) σ S1 st (K r0))) : Spec G f args st [] K:=by
 simp only [Bool.and_eq_true] at hc
 exact Spec.useP σ h hc.1 hr0 hc.2 hle (atQ_atK hK)
theorem reg_get (x : XS) : ∀ k : Nat,k < 16 -> (xsFs x)[12 + k * 1]? = some (.int .u32 (x.s.R k))
 | 0,_=>rfl
 | 1,_=>rfl
 | 2,_=>rfl
 | 3,_=>rfl
 | 4,_=>rfl
 | 5,_=>rfl
 | 6,_=>rfl
 | 7,_=>rfl
 | 8,_=>rfl
 | 9,_=>rfl
 | 10,_=>rfl
 | 11,_=>rfl
 | 12,_=>rfl
 | 13,_=>rfl
 | 14,_=>rfl
 | 15,_=>rfl
 | k + 16,h=>absurd h (by omega)
def getX (x : XS) (r : Int) : Int:=if r = 15 then IntKind.u32.wrap (x.at_ + 4) else x.s.R r.toNat
def putX (x : XS) (r v : Int) : XS:={ x with s:={ x.s with R:=upd x.s.R r v } }
def nzX (x : XS) (v : Int) : XS:={ x with s:={ x.s with N:=v / 2147483648,Z:=if v = 0 then 1 else 0 } }
end Go.Proofs.YtnbngokbamifbaaGreatDoor.Pw
namespace Go.Proofs.YtnbngokbamifbaaGreatDoor.Pw
open Go Go.RowKit
theorem ints_of {l : List (IntKind × Int)} {vals : List Value} {w : World} {I : Nat -> Prop} {β : Places} (h : IsL w I (l.map fun p=>.int p.1 p.2) β vals) : vals = l.map fun p=>.int p.1 p.2:=by
 induction l generalizing vals with
 | nil=>cases vals with
  | nil=>rfl
  | cons v vs=>simp only [List.map,IsL] at h
 | cons p l ih=>cases vals with
  | nil=>simp only [List.map,IsL] at h
  | cons v vs =>
   simp only [List.map,IsL,PV.Is] at h
   rw [List.map_cons,h.1,ih h.2]
theorem add_pure (x y c : Int) (hx : U32 x) (hy : U32 y) (hc : 0 <= c) : PureF gT 145 [.int .u32 x,.int .u32 y,.int .u32 c] (.tup [.int .u32 (Rm.addS x y c),.int .u32 (Rm.addC x y c),.int .u32 (Rm.addV x y c)]) :=
 PureF.of_same (entersT Tryz.func145 rfl (by kernel_rfl)) [.int .u32 x,.int .u32 y,.int .u32 c] (.tuple #[.int .u32 (Rm.addS x y c),.int .u32 (Rm.addC x y c),.int .u32 (Rm.addV x y c)]) (fun w I β vals h=>ints_of (l:=[(.u32,x),(.u32,y),(.u32,c)]) h) (fun w I β=>is_tup (isLc (is_int ..) (isLc (is_int ..) (isLc (is_int ..) isLn)))) (fun w=>(add_any x y c w hx.1 hx.2 hy.1 hy.2 hc).mono fun e w' ⟨h1,h2⟩=>⟨h1,h2.symm⟩)
theorem mulw_pure (x y : Int) (hx : U32 x) (hy : U32 y) : PureF gT 142 [.int .u32 x,.int .u32 y] (.tup [.int .u32 (x * y % 4294967296),.int .u32 (x * y / 4294967296)]) :=
 PureF.of_same (entersT Tryz.func142 rfl (by kernel_rfl)) [.int .u32 x,.int .u32 y] (.tuple #[.int .u32 (x * y % 4294967296),.int .u32 (x * y / 4294967296)]) (fun w I β vals h=>ints_of (l:=[(.u32,x),(.u32,y)]) h) (fun w I β=>is_tup (isLc (is_int ..) (isLc (is_int ..) isLn))) (fun w=>(wide_any x y w hx.1 hx.2 hy.1 hy.2).mono fun e w' ⟨h1,h2⟩=>⟨h1,h2.symm⟩)
theorem alen_pure (x : Int) (hx : U32 x) : PureF gT 156 [.int .u32 x] (.int .i64 (Lib.bitLen x.toNat)) :=
 PureF.of_same (entersT Tryz.func156 rfl (by kernel_rfl)) [.int .u32 x] (.int .i64 (Lib.bitLen x.toNat)) (fun w I β vals h=>ints_of (l:=[(.u32,x)]) h) (fun w I β=>is_int ..) (fun w=>(len_any x w hx.1 hx.2).mono fun e w' ⟨h1,h2⟩=>⟨h1,h2.symm⟩)
theorem lz_pure (x : Int) (hx : U32 x) : PureF gT 146 [.int .u32 x] (.int .i64 (32 - (Lib.bitLen x.toNat : Int))) :=
 PureF.of_same (entersT Tryz.func146 rfl (by kernel_rfl)) [.int .u32 x] (.int .i64 (32 - (Lib.bitLen x.toNat : Int))) (fun w I β vals h=>ints_of (l:=[(.u32,x)]) h) (fun w I β=>is_int ..) (fun w=>(lz32_any x w hx.1 hx.2).mono fun e w' ⟨h1,h2⟩=>⟨h1,h2.symm⟩)
theorem pop_pure (x : Int) (h0 : 0 <= x) (h1 : x <= 65535) : PureF gT 135 [.int .u32 x] (.int .i64 (bits16 x)) :=
 PureF.of_calls (entersT Tryz.func135 rfl (by kernel_rfl)) [.int .u32 x] (.int .i64 (bits16 x)) (fun w I β vals h=>ints_of (l:=[(.u32,x)]) h) (fun w I β=>is_int ..) (fun w=>pop32_any x w h0 h1)
def shW (k x n : Int) : Int:=((Rm.itW k n.toNat x.toNat : Nat) : Int)
def shC (k x n c : Int) : Int:=((Rm.itC k n.toNat x.toNat (min c.toNat 1) : Nat) : Int)
theorem shift_pure' (k x n c : Int) (hk0 : 0 <= k) (hk1 : k <= 3) (hn0 : 0 <= n) (hn1 : n <= 255) (hx : U32 x) (hc : 0 <= c) : PureF gT 183 [.int .i64 k,.int .u32 x,.int .i64 n,.int .u32 c] (.tup [.int .u32 (shW k x n),.int .u32 (shC k x n c),.int .i64 0]) :=
 PureF.of_same (entersT Tryz.func183 rfl (by kernel_rfl)) [.int .i64 k,.int .u32 x,.int .i64 n,.int .u32 c] (.tuple #[.int .u32 (shW k x n),.int .u32 (shC k x n c),.int .i64 0]) (fun w I β vals h=>ints_of (l:=[(.i64,k),(.u32,x),(.i64,n),(.u32,c)]) h) (fun w I β=>is_tup (isLc (is_int ..) (isLc (is_int ..) (isLc (is_int ..) isLn)))) (fun w=>(shift_in k x n c w hk0 hk1 hn0 hn1 hx.1 hx.2 hc).mono fun e w' ⟨h1,h2⟩=>⟨h1,h2.symm⟩)
theorem immcarry_pure (n c : Int) (h : I64 n) (hc : 0 <= c) : PureF gT 182 [.int .i64 n,.int .u32 c] (.tup [.int .u32 (Rm.carryX n c),.int .i64 (Rm.wordE n)]) :=
 PureF.of_at (entersT Tryz.func182 rfl (by kernel_rfl)) fun I β w vals hM hA=>by
  obtain rfl:=ints_of (l:=[(.i64,n),(.u32,c)]) hA
  refine ⟨.tuple #[.int .u32 (Rm.carryX n c),.int .i64 (Rm.wordE n)],is_tup (isLc (is_int ..) (isLc (is_int ..) isLn)),fun _ _ _=>is_tup (isLc (is_int ..) (isLc (is_int ..) isLn)),?_⟩
  refine (carry_any n c w (facOf hM) h.1 h.2 hc).mono ?_
  rintro e w' ⟨rfl,rfl⟩
  exact ⟨rfl,Below.refl _ _⟩
theorem shW_bd (k x n : Int) (hx : U32 x) : U32 (shW k x n):=by
 have:=Rm.itW_lt k n.toNat x.toNat (by have:=hx.1; have:=hx.2; omega)
 unfold shW U32; omega
theorem shC_bd (k x n c : Int) (hx : U32 x) : 0 <= shC k x n c /\ shC k x n c <= 1:=by
 have:=Rm.itC_lt k n.toNat x.toNat (min c.toNat 1) (by have:=hx.1; have:=hx.2; omega) (by omega)
 unfold shC; omega
end Go.Proofs.YtnbngokbamifbaaGreatDoor.Pw
set_option linter.unusedVariables false
namespace Go.Proofs.YtnbngokbamifbaaGreatDoor.Pw
open Go Go.RowKit
set_option maxRecDepth 100000 in
theorem getM_ok (d e : Md) (m : MS) (x : XS) (r : Int) (h0 : 0 <= r) (h1 : r <= 15) : Spec gT 132 [.ptr 3 0,.int .i64 r] (stXM d e m x) [] fun v S'=>v = .int .u32 (getX x r) /\ S' = stXM d e m x:=by
 refine Spec.leS (Spec.enter gTok P132 100 Tryz.func132 rfl (by kernel_rfl) ?_)
 refine And.intro (fun h=>?_) (fun h=>?_)
 ·have h' : r = 15:=h
  refine .inr ?_
  have e0 : getX x r = IntKind.u32.wrap (x.at_ + 4):=by unfold getX; rw [if_pos h']
  rw [e0]
  exact retS (by repeat' first|exact trivial|exact rfl|exact Iff.rfl|refine And.intro ?_ ?_) (by first|exact leSt_same rfl|(repeat' first|exact trivial|exact rfl|exact Iff.rfl|exact not_false|refine And.intro ?_ ?_))
 ·have h' : ¬ r = 15:=h
  have e0 : getX x r = x.s.R r.toNat:=by unfold getX; rw [if_neg h']
  rw [e0]
  refine ⟨h0,show r < 16 by omega,?_⟩
  refine .inr ⟨rfl,h0,show 12 + r.toNat * 1 < 40 by omega,fun c hc=>?_⟩
  obtain rfl:=Option.some.inj (hc.symm.trans (reg_get x r.toNat (by omega)))
  exact retS (by repeat' first|exact trivial|exact rfl|exact Iff.rfl|refine And.intro ?_ ?_) (by first|exact leSt_same rfl|(repeat' first|exact trivial|exact rfl|exact Iff.rfl|exact not_false|refine And.intro ?_ ?_))
theorem get_ok (m : MS) (x : XS) (r : Int) (h0 : 0 <= r) (h1 : r <= 15) : Spec gT 132 [.ptr 3 0,.int .i64 r] (stX m x) [] fun v S'=>v = .int .u32 (getX x r) /\ S' = stX m x:=getM_ok .w .w m x r h0 h1
set_option maxRecDepth 100000 in
theorem put_ok (m : MS) (x : XS) (r v : Int) (h0 : 0 <= r) (h1 : r <= 15) : Spec gT 134 [.ptr 3 0,.int .i64 r,.int .u32 v] (stX m x) [] fun y S'=>y = .tup [] /\ S' = stX m (putX x r v):=by
 refine Spec.leS (Spec.enter gTok P134 100 Tryz.func134 rfl (by kernel_rfl) ?_)
 refine ⟨h0,show r < 16 by omega,?_⟩
 refine ⟨16,h0,show r < 16 by omega,show 12 + r.toNat * 1 < 40 by omega,?_⟩
 exact retS (by repeat' first|exact trivial|exact rfl|exact Iff.rfl|refine And.intro ?_ ?_) (by first|exact leSt_same rfl|(repeat' first|exact trivial|exact rfl|exact Iff.rfl|exact not_false|refine And.intro ?_ ?_))
set_option maxRecDepth 100000 in
theorem nz_ok (m : MS) (x : XS) (v : Int) : Spec gT 143 [.ptr 3 0,.int .u32 v] (stX m x) [] fun y S'=>y = .tup [] /\ S' = stX m (nzX x v):=by
 refine Spec.leS (Spec.enter gTok P143 100 Tryz.func143 rfl (by kernel_rfl) ?_)
 refine ⟨by decide,?_⟩
 refine And.intro (fun h=>?_) (fun h=>?_)
 ·have e : nzX x v = { x with s:={ x.s with N:=v / 2147483648,Z:=1 } }:=by unfold nzX; rw [if_pos (show v = 0 from h)]
  rw [e]
  exact retS (by repeat' first|exact trivial|exact rfl|exact Iff.rfl|refine And.intro ?_ ?_) (by first|exact leSt_same rfl|(repeat' first|exact trivial|exact rfl|exact Iff.rfl|exact not_false|refine And.intro ?_ ?_))
 ·have e : nzX x v = { x with s:={ x.s with N:=v / 2147483648,Z:=0 } }:=by unfold nzX; rw [if_neg (show ¬ v = 0 from h)]
  rw [e]
  exact retS (by repeat' first|exact trivial|exact rfl|exact Iff.rfl|refine And.intro ?_ ?_) (by first|exact leSt_same rfl|(repeat' first|exact trivial|exact rfl|exact Iff.rfl|exact not_false|refine And.intro ?_ ?_))
def setsX (x : XS) : Prop:=(shapeV x.i.form = 18 \/ shapeV x.i.form = 19 \/ shapeV x.i.form = 21 \/ shapeV x.i.form = 22 \/ shapeV x.i.form = 27) -> x.i.set = 1
instance (x : XS) : Decidable (setsX x):=by unfold setsX; infer_instance
set_option maxRecDepth 100000 in
theorem sets_ok (m : MS) (x : XS) : Spec gT 184 [.ptr 3 0] (stX m x) [] fun y S'=>y = .bool (setsX x) /\ S' = stX m x:=by
 have hsh:=shape_pure x.i.form
 have key : setsX x ↔ ((shapeV x.i.form = 18 \/ shapeV x.i.form = 19 \/ shapeV x.i.form = 21 \/ shapeV x.i.form = 22 \/ shapeV x.i.form = 27) -> x.i.set = 1):=Iff.rfl
 refine Spec.leS (Spec.enter gTok P184 100 Tryz.func184 rfl (by kernel_rfl) ?_)
 refine ⟨[],no_rl,hsh.use (by repeat' first|exact trivial|exact rfl|exact Iff.rfl|exact Or.inl rfl|refine And.intro ?_ ?_) rfl rfl ?_⟩
 generalize shapeV x.i.form = sh at key ⊢
 refine And.intro (fun h=>?_) (fun h=>?_)
 ·exact retS (show x.i.set = 1 ↔ setsX x by rw [key]; have h' : sh = 18:=h; simp [h']) (leSt_same rfl)
 refine And.intro (fun h=>?_) (fun h=>?_)
 ·exact retS (show x.i.set = 1 ↔ setsX x by rw [key]; have h' : sh = 19:=h; simp [h']) (leSt_same rfl)
 refine And.intro (fun h=>?_) (fun h=>?_)
 ·exact retS (show x.i.set = 1 ↔ setsX x by rw [key]; have h' : sh = 21:=h; simp [h']) (leSt_same rfl)
 refine And.intro (fun h=>?_) (fun h=>?_)
 ·exact retS (show x.i.set = 1 ↔ setsX x by rw [key]; have h' : sh = 22:=h; simp [h']) (leSt_same rfl)
 refine And.intro (fun h=>?_) (fun h=>?_)
 ·exact retS (show x.i.set = 1 ↔ setsX x by rw [key]; have h' : sh = 27:=h; simp [h']) (leSt_same rfl)
 ·exact retS (show setsX x by rw [key]; have a : ¬ sh = 18:=‹_›; have b : ¬ sh = 19:=‹_›; have c : ¬ sh = 21:=‹_›; have d : ¬ sh = 22:=‹_›; have e : ¬ sh = 27:=‹_›; intro h; omega) (leSt_same rfl)
end Go.Proofs.YtnbngokbamifbaaGreatDoor.Pw
set_option linter.unusedVariables false
namespace Go.Proofs.YtnbngokbamifbaaGreatDoor.Pw
open Go Go.RowKit
structure XOk (x : XS) : Prop where
 rd : 0 <= x.i.rd /\ x.i.rd <= 15
 rn : 0 <= x.i.rn /\ x.i.rn <= 15
 rm : 0 <= x.i.rm /\ x.i.rm <= 15
 ra : 0 <= x.i.ra /\ x.i.ra <= 15
 imm : I64 x.i.imm
 bar : shapeV x.i.form = 21 \/ shapeV x.i.form = 22 \/ shapeV x.i.form = 23 -> 0 <= x.i.kind /\ x.i.kind <= 3 /\ 0 <= x.i.by_ /\ x.i.by_ <= 255
 low : 1 <= x.i.form /\ x.i.form <= 3 -> 0 <= x.i.imm /\ x.i.imm <= 32
 idx : x.i.form = 86 \/ x.i.form = 87 -> 0 <= x.i.by_ /\ x.i.by_ <= 3
 regs : 0 <= x.i.regs /\ x.i.regs <= 65535
 r : ∀ k,U32 (x.s.R k)
 n : 0 <= x.s.N /\ x.s.N <= 1
 z : 0 <= x.s.Z /\ x.s.Z <= 1
 c : 0 <= x.s.C /\ x.s.C <= 1
 v : 0 <= x.s.V /\ x.s.V <= 1
theorem wrap_u32 (z : Int) : U32 (IntKind.u32.wrap z):=by
 have:=IntKind.wrap_u32' z
 unfold U32; omega
theorem getX_bd {x : XS} (h : XOk x) (r : Int) : U32 (getX x r):=by
 unfold getX
 split
 ·exact wrap_u32 _
 ·exact h.r _
def firstX (x : XS) : Int:=if shapeV x.i.form = 4 \/ shapeV x.i.form = 5 \/ shapeV x.i.form = 6 then getX x x.i.rd else getX x x.i.rn
def secW (x : XS) : Int :=
 if shapeV x.i.form = 3 \/ shapeV x.i.form = 4 \/ shapeV x.i.form = 24 then IntKind.u32.wrap x.i.imm
 else if shapeV x.i.form = 18 \/ shapeV x.i.form = 19 \/ shapeV x.i.form = 20 then Rm.wordX x.i.imm
 else if shapeV x.i.form = 21 \/ shapeV x.i.form = 22 \/ shapeV x.i.form = 23 then shW x.i.kind (getX x x.i.rm) x.i.by_
 else getX x x.i.rm
def secC (x : XS) : Int :=
 if shapeV x.i.form = 3 \/ shapeV x.i.form = 4 \/ shapeV x.i.form = 24 then x.s.C
 else if shapeV x.i.form = 18 \/ shapeV x.i.form = 19 \/ shapeV x.i.form = 20 then Rm.carryX x.i.imm x.s.C
 else if shapeV x.i.form = 21 \/ shapeV x.i.form = 22 \/ shapeV x.i.form = 23 then shC x.i.kind (getX x x.i.rm) x.i.by_ x.s.C
 else x.s.C
theorem firstX_bd {x : XS} (h : XOk x) : U32 (firstX x):=by
 unfold firstX
 split <;> exact getX_bd h _
theorem secW_bd {x : XS} (h : XOk x) : U32 (secW x):=by
 unfold secW
 split
 ·exact wrap_u32 _
 ·split
  ·exact Rm.wordX_bd _
  ·split
   ·exact shW_bd _ _ _ (getX_bd h _)
   ·exact getX_bd h _
def notW (w : Int) : Int:=bits .xor .u32 IntKind.u32.max w
theorem notW_is {w : Int} (h : U32 w) : notW w = 4294967295 - w:=Rm.not32 w h.1 h.2
theorem notW_bd {w : Int} (h : U32 w) : U32 (notW w):=by
 rw [notW_is h]
 unfold U32 at h ⊢; omega
set_option maxRecDepth 100000 in
theorem first_ok (m : MS) (x : XS) (hx : XOk x) : Spec gT 137 [.ptr 3 0] (stX m x) [] fun y S'=>y = .int .u32 (firstX x) /\ S' = stX m x:=by
 have hsh:=shape_pure x.i.form
 have g1:=get_ok m x x.i.rd hx.rd.1 hx.rd.2
 have g2:=get_ok m x x.i.rn hx.rn.1 hx.rn.2
 have key : firstX x = if shapeV x.i.form = 4 \/ shapeV x.i.form = 5 \/ shapeV x.i.form = 6 then getX x x.i.rd else getX x x.i.rn:=rfl
 refine Spec.leS (Spec.enter gTok P137 100 Tryz.func137 rfl (by kernel_rfl) ?_)
 refine ⟨[],no_rl,hsh.use (by repeat' first|exact trivial|exact rfl|exact Iff.rfl|exact Or.inl rfl|refine And.intro ?_ ?_) rfl rfl ?_⟩
 generalize shapeV x.i.form = sh at key ⊢
 refine And.intro (fun h=>?_) (fun h=>?_)
 ·rw [key,if_pos (.inr (.inl (show sh = 5 from h)))]
  refine ⟨[],no_rl,(g1).useE rfl (by exact ⟨trivial,rfl,trivial⟩) rfl ?_⟩
  exact retS (by repeat' first|exact trivial|exact rfl|exact Iff.rfl|refine And.intro ?_ ?_) (by first|exact leSt_same rfl|(repeat' first|exact trivial|exact rfl|exact Iff.rfl|exact not_false|refine And.intro ?_ ?_))
 refine And.intro (fun h=>?_) (fun h=>?_)
 ·rw [key,if_pos (.inl (show sh = 4 from h))]
  refine ⟨[],no_rl,(g1).useE rfl (by exact ⟨trivial,rfl,trivial⟩) rfl ?_⟩
  exact retS (by repeat' first|exact trivial|exact rfl|exact Iff.rfl|refine And.intro ?_ ?_) (by first|exact leSt_same rfl|(repeat' first|exact trivial|exact rfl|exact Iff.rfl|exact not_false|refine And.intro ?_ ?_))
 refine And.intro (fun h=>?_) (fun h=>?_)
 ·rw [key,if_pos (.inr (.inr (show sh = 6 from h)))]
  refine ⟨[],no_rl,(g1).useE rfl (by exact ⟨trivial,rfl,trivial⟩) rfl ?_⟩
  exact retS (by repeat' first|exact trivial|exact rfl|exact Iff.rfl|refine And.intro ?_ ?_) (by first|exact leSt_same rfl|(repeat' first|exact trivial|exact rfl|exact Iff.rfl|exact not_false|refine And.intro ?_ ?_))
 ·have a : ¬ sh = 5:=‹_›
  have b : ¬ sh = 4:=‹_›
  have c : ¬ sh = 6:=‹_›
  rw [key,if_neg (by omega)]
  refine ⟨[],no_rl,(g2).useE rfl (by exact ⟨trivial,rfl,trivial⟩) rfl ?_⟩
  exact retS (by repeat' first|exact trivial|exact rfl|exact Iff.rfl|refine And.intro ?_ ?_) (by first|exact leSt_same rfl|(repeat' first|exact trivial|exact rfl|exact Iff.rfl|exact not_false|refine And.intro ?_ ?_))
set_option maxRecDepth 100000 in
theorem second_ok (m : MS) (x : XS) (hx : XOk x) : Spec gT 138 [.ptr 3 0] (stX m x) [] fun y S'=>y = .tup [.int .u32 (secW x),.int .u32 (secC x)] /\ S' = stX m x:=by
 have hsh:=shape_pure x.i.form
 have g3:=get_ok m x x.i.rm hx.rm.1 hx.rm.2
 have kw : secW x = if shapeV x.i.form = 3 \/ shapeV x.i.form = 4 \/ shapeV x.i.form = 24 then IntKind.u32.wrap x.i.imm
  else if shapeV x.i.form = 18 \/ shapeV x.i.form = 19 \/ shapeV x.i.form = 20 then Rm.wordX x.i.imm
  else if shapeV x.i.form = 21 \/ shapeV x.i.form = 22 \/ shapeV x.i.form = 23 then shW x.i.kind (getX x x.i.rm) x.i.by_
  else getX x x.i.rm:=rfl
 have kc : secC x = if shapeV x.i.form = 3 \/ shapeV x.i.form = 4 \/ shapeV x.i.form = 24 then x.s.C
  else if shapeV x.i.form = 18 \/ shapeV x.i.form = 19 \/ shapeV x.i.form = 20 then Rm.carryX x.i.imm x.s.C
  else if shapeV x.i.form = 21 \/ shapeV x.i.form = 22 \/ shapeV x.i.form = 23 then shC x.i.kind (getX x x.i.rm) x.i.by_ x.s.C
  else x.s.C:=rfl
 have hb:=hx.bar
 have cw:=immword_pure x.i.imm hx.imm
 have cc:=immcarry_pure x.i.imm x.s.C hx.imm hx.c.1
 have cs:=fun h=>shift_pure' x.i.kind (getX x x.i.rm) x.i.by_ x.s.C (hb h).1 (hb h).2.1 (hb h).2.2.1 (hb h).2.2.2 (getX_bd hx _) hx.c.1
 refine Spec.leS (Spec.enter gTok P138 100 Tryz.func138 rfl (by kernel_rfl) ?_)
 refine ⟨[],no_rl,hsh.use (by repeat' first|exact trivial|exact rfl|exact Iff.rfl|exact Or.inl rfl|refine And.intro ?_ ?_) rfl rfl ?_⟩
 generalize shapeV x.i.form = sh at kw kc hb cs ⊢
 refine And.intro (fun h=>?_) (fun h=>?_)
 ·rw [if_pos (.inl (show sh = 3 from h))] at kw kc
  rw [kw,kc]
  refine .inr ?_
  exact retS (by repeat' first|exact trivial|exact rfl|exact Iff.rfl|refine And.intro ?_ ?_) (by first|exact leSt_same rfl|(repeat' first|exact trivial|exact rfl|exact Iff.rfl|exact not_false|refine And.intro ?_ ?_))
 refine And.intro (fun h=>?_) (fun h=>?_)
 ·rw [if_pos (.inr (.inl (show sh = 4 from h)))] at kw kc
  rw [kw,kc]
  refine .inr ?_
  exact retS (by repeat' first|exact trivial|exact rfl|exact Iff.rfl|refine And.intro ?_ ?_) (by first|exact leSt_same rfl|(repeat' first|exact trivial|exact rfl|exact Iff.rfl|exact not_false|refine And.intro ?_ ?_))
 refine And.intro (fun h=>?_) (fun h=>?_)
 ·rw [if_pos (.inr (.inr (show sh = 24 from h)))] at kw kc
  rw [kw,kc]
  refine .inr ?_
  exact retS (by repeat' first|exact trivial|exact rfl|exact Iff.rfl|refine And.intro ?_ ?_) (by first|exact leSt_same rfl|(repeat' first|exact trivial|exact rfl|exact Iff.rfl|exact not_false|refine And.intro ?_ ?_))
 have n1 : ¬ (sh = 3 \/ sh = 4 \/ sh = 24):=by
  have a : ¬ sh = 3:=‹_›
  have b : ¬ sh = 4:=‹_›
  have c : ¬ sh = 24:=‹_›
  omega
 rw [if_neg n1] at kw kc
 refine And.intro (fun h=>?_) (fun h=>?_)
 ·rw [if_pos (.inl (show sh = 18 from h))] at kw kc
  rw [kw,kc]
  refine ⟨[],no_rl,cw.use (by repeat' first|exact trivial|exact rfl|exact Iff.rfl|exact Or.inl rfl|refine And.intro ?_ ?_) rfl rfl ?_⟩
  refine ⟨[],no_rl,cc.use (by repeat' first|exact trivial|exact rfl|exact Iff.rfl|exact Or.inl rfl|refine And.intro ?_ ?_) rfl rfl ?_⟩
  exact retS (by repeat' first|exact trivial|exact rfl|exact Iff.rfl|refine And.intro ?_ ?_) (by first|exact leSt_same rfl|(repeat' first|exact trivial|exact rfl|exact Iff.rfl|exact not_false|refine And.intro ?_ ?_))
 refine And.intro (fun h=>?_) (fun h=>?_)
 ·rw [if_pos (.inr (.inl (show sh = 19 from h)))] at kw kc
  rw [kw,kc]
  refine ⟨[],no_rl,cw.use (by repeat' first|exact trivial|exact rfl|exact Iff.rfl|exact Or.inl rfl|refine And.intro ?_ ?_) rfl rfl ?_⟩
  refine ⟨[],no_rl,cc.use (by repeat' first|exact trivial|exact rfl|exact Iff.rfl|exact Or.inl rfl|refine And.intro ?_ ?_) rfl rfl ?_⟩
  exact retS (by repeat' first|exact trivial|exact rfl|exact Iff.rfl|refine And.intro ?_ ?_) (by first|exact leSt_same rfl|(repeat' first|exact trivial|exact rfl|exact Iff.rfl|exact not_false|refine And.intro ?_ ?_))
 refine And.intro (fun h=>?_) (fun h=>?_)
 ·rw [if_pos (.inr (.inr (show sh = 20 from h)))] at kw kc
  rw [kw,kc]
  refine ⟨[],no_rl,cw.use (by repeat' first|exact trivial|exact rfl|exact Iff.rfl|exact Or.inl rfl|refine And.intro ?_ ?_) rfl rfl ?_⟩
  refine ⟨[],no_rl,cc.use (by repeat' first|exact trivial|exact rfl|exact Iff.rfl|exact Or.inl rfl|refine And.intro ?_ ?_) rfl rfl ?_⟩
  exact retS (by repeat' first|exact trivial|exact rfl|exact Iff.rfl|refine And.intro ?_ ?_) (by first|exact leSt_same rfl|(repeat' first|exact trivial|exact rfl|exact Iff.rfl|exact not_false|refine And.intro ?_ ?_))
 have n2 : ¬ (sh = 18 \/ sh = 19 \/ sh = 20):=by
  have a : ¬ sh = 18:=‹_›
  have b : ¬ sh = 19:=‹_›
  have c : ¬ sh = 20:=‹_›
  omega
 rw [if_neg n2] at kw kc
 have g4:=fun d e=>getM_ok d e m x x.i.rm hx.rm.1 hx.rm.2
 refine And.intro (fun h=>?_) (fun h=>?_)
 ·have hh : sh = 21 \/ sh = 22 \/ sh = 23:=.inl (show sh = 21 from h)
  rw [if_pos hh] at kw kc
  rw [kw,kc]
  refine ⟨[],no_rl,(g4 .w .p).useE rfl (by exact ⟨trivial,rfl,trivial⟩) rfl ?_⟩
  refine ⟨[],no_rl,(cs hh).use (by repeat' first|exact trivial|exact rfl|exact Iff.rfl|exact Or.inl rfl|refine And.intro ?_ ?_) rfl rfl ?_⟩
  exact retS (by repeat' first|exact trivial|exact rfl|exact Iff.rfl|refine And.intro ?_ ?_) (by first|exact leSt_same rfl|(repeat' first|exact trivial|exact rfl|exact Iff.rfl|exact not_false|refine And.intro ?_ ?_))
 refine And.intro (fun h=>?_) (fun h=>?_)
 ·have hh : sh = 21 \/ sh = 22 \/ sh = 23:=.inr (.inl (show sh = 22 from h))
  rw [if_pos hh] at kw kc
  rw [kw,kc]
  refine ⟨[],no_rl,(g4 .w .p).useE rfl (by exact ⟨trivial,rfl,trivial⟩) rfl ?_⟩
  refine ⟨[],no_rl,(cs hh).use (by repeat' first|exact trivial|exact rfl|exact Iff.rfl|exact Or.inl rfl|refine And.intro ?_ ?_) rfl rfl ?_⟩
  exact retS (by repeat' first|exact trivial|exact rfl|exact Iff.rfl|refine And.intro ?_ ?_) (by first|exact leSt_same rfl|(repeat' first|exact trivial|exact rfl|exact Iff.rfl|exact not_false|refine And.intro ?_ ?_))
 refine And.intro (fun h=>?_) (fun h=>?_)
 ·have hh : sh = 21 \/ sh = 22 \/ sh = 23:=.inr (.inr (show sh = 23 from h))
  rw [if_pos hh] at kw kc
  rw [kw,kc]
  refine ⟨[],no_rl,(g4 .w .p).useE rfl (by exact ⟨trivial,rfl,trivial⟩) rfl ?_⟩
  refine ⟨[],no_rl,(cs hh).use (by repeat' first|exact trivial|exact rfl|exact Iff.rfl|exact Or.inl rfl|refine And.intro ?_ ?_) rfl rfl ?_⟩
  exact retS (by repeat' first|exact trivial|exact rfl|exact Iff.rfl|refine And.intro ?_ ?_) (by first|exact leSt_same rfl|(repeat' first|exact trivial|exact rfl|exact Iff.rfl|exact not_false|refine And.intro ?_ ?_))
 ·have n3 : ¬ (sh = 21 \/ sh = 22 \/ sh = 23):=by
   have a : ¬ sh = 21:=‹_›
   have b : ¬ sh = 22:=‹_›
   have c : ¬ sh = 23:=‹_›
   omega
  rw [if_neg n3] at kw kc
  rw [kw,kc]
  refine ⟨[],no_rl,(g4 .w .p).useE rfl (by exact ⟨trivial,rfl,trivial⟩) rfl ?_⟩
  exact retS (by repeat' first|exact trivial|exact rfl|exact Iff.rfl|refine And.intro ?_ ?_) (by first|exact leSt_same rfl|(repeat' first|exact trivial|exact rfl|exact Iff.rfl|exact not_false|refine And.intro ?_ ?_))
end Go.Proofs.YtnbngokbamifbaaGreatDoor.Pw
set_option linter.unusedVariables false
namespace Go.Proofs.YtnbngokbamifbaaGreatDoor.Pw
open Go Go.RowKit
def flagC (x : XS) (c : Int) : XS:={ x with s:={ x.s with C:=c } }
def flagCV (x : XS) (c o : Int) : XS:={ x with s:={ x.s with C:=c,V:=o } }
def sumX (x : XS) (d v w c : Int) : XS :=
 if 0 <= d then putX (if setsX x then flagCV (nzX x (Rm.addS v w c)) (Rm.addC v w c) (Rm.addV v w c) else x) d (Rm.addS v w c)
 else (if setsX x then flagCV (nzX x (Rm.addS v w c)) (Rm.addC v w c) (Rm.addV v w c) else x)
def logicX (x : XS) (d v c : Int) : XS :=
 if 0 <= d then putX (if setsX x then flagC (nzX x v) c else x) d v
 else (if setsX x then flagC (nzX x v) c else x)
set_option maxRecDepth 100000 in
theorem sum_ok (m : MS) (x : XS) (d v w c : Int) (h1 : d <= 15) (hv : U32 v) (hw : U32 w) (hc : 0 <= c) : Spec gT 139 [.ptr 3 0,.int .i64 d,.int .u32 v,.int .u32 w,.int .u32 c] (stX m x) [] fun y S'=>y = .tup [] /\ S' = stX m (sumX x d v w c):=by
 have ha:=add_pure v w c hv hw hc
 have key : sumX x d v w c = if 0 <= d then putX (if setsX x then flagCV (nzX x (Rm.addS v w c)) (Rm.addC v w c) (Rm.addV v w c) else x) d (Rm.addS v w c)
  else (if setsX x then flagCV (nzX x (Rm.addS v w c)) (Rm.addC v w c) (Rm.addV v w c) else x):=rfl
 refine Spec.leS (Spec.enter gTok P139 100 Tryz.func139 rfl (by kernel_rfl) ?_)
 refine ⟨[],no_rl,ha.use (by repeat' first|exact trivial|exact rfl|exact Iff.rfl|exact Or.inl rfl|refine And.intro ?_ ?_) rfl rfl ?_⟩
 generalize Rm.addS v w c = s at key ⊢
 generalize Rm.addC v w c = cy at key ⊢
 generalize Rm.addV v w c = o at key ⊢
 refine ⟨[],no_rl,(sets_ok m x).useE rfl (by exact ⟨trivial,trivial⟩) rfl ?_⟩
 refine And.intro (fun h=>?_) (fun h=>?_)
 ·rw [if_pos (show setsX x from h)] at key
  refine ⟨[],no_rl,(nz_ok m x s).useE rfl (by exact ⟨trivial,rfl,trivial⟩) rfl ?_⟩
  refine And.intro (fun h=>?_) (fun h=>?_)
  ·rw [if_pos (show 0 <= d from h)] at key
   rw [key]
   refine ⟨[],no_rl,(put_ok m (flagCV (nzX x s) cy o) d s h h1).useE rfl (by exact ⟨trivial,rfl,rfl,trivial⟩) rfl ?_⟩
   exact retS (by repeat' first|exact trivial|exact rfl|exact Iff.rfl|refine And.intro ?_ ?_) (by first|exact leSt_same rfl|(repeat' first|exact trivial|exact rfl|exact Iff.rfl|exact not_false|refine And.intro ?_ ?_))
  ·rw [if_neg (show ¬ 0 <= d from h)] at key
   rw [key]
   exact retS (by repeat' first|exact trivial|exact rfl|exact Iff.rfl|refine And.intro ?_ ?_) (by first|exact leSt_same rfl|(repeat' first|exact trivial|exact rfl|exact Iff.rfl|exact not_false|refine And.intro ?_ ?_))
 ·rw [if_neg (show ¬ setsX x from h)] at key
  refine And.intro (fun h=>?_) (fun h=>?_)
  ·rw [if_pos (show 0 <= d from h)] at key
   rw [key]
   refine ⟨[],no_rl,(put_ok m x d s h h1).useE rfl (by exact ⟨trivial,rfl,rfl,trivial⟩) rfl ?_⟩
   exact retS (by repeat' first|exact trivial|exact rfl|exact Iff.rfl|refine And.intro ?_ ?_) (by first|exact leSt_same rfl|(repeat' first|exact trivial|exact rfl|exact Iff.rfl|exact not_false|refine And.intro ?_ ?_))
  ·rw [if_neg (show ¬ 0 <= d from h)] at key
   rw [key]
   exact retS (by repeat' first|exact trivial|exact rfl|exact Iff.rfl|refine And.intro ?_ ?_) (by first|exact leSt_same rfl|(repeat' first|exact trivial|exact rfl|exact Iff.rfl|exact not_false|refine And.intro ?_ ?_))
set_option maxRecDepth 100000 in
theorem logic_ok (m : MS) (x : XS) (d v c : Int) (h1 : d <= 15) : Spec gT 140 [.ptr 3 0,.int .i64 d,.int .u32 v,.int .u32 c] (stX m x) [] fun y S'=>y = .tup [] /\ S' = stX m (logicX x d v c):=by
 have key : logicX x d v c = if 0 <= d then putX (if setsX x then flagC (nzX x v) c else x) d v
  else (if setsX x then flagC (nzX x v) c else x):=rfl
 refine Spec.leS (Spec.enter gTok P140 100 Tryz.func140 rfl (by kernel_rfl) ?_)
 refine ⟨[],no_rl,(sets_ok m x).useE rfl (by exact ⟨trivial,trivial⟩) rfl ?_⟩
 refine And.intro (fun h=>?_) (fun h=>?_)
 ·rw [if_pos (show setsX x from h)] at key
  refine ⟨[],no_rl,(nz_ok m x v).useE rfl (by exact ⟨trivial,rfl,trivial⟩) rfl ?_⟩
  refine And.intro (fun h=>?_) (fun h=>?_)
  ·rw [if_pos (show 0 <= d from h)] at key
   rw [key]
   refine ⟨[],no_rl,(put_ok m (flagC (nzX x v) c) d v h h1).useE rfl (by exact ⟨trivial,rfl,rfl,trivial⟩) rfl ?_⟩
   exact retS (by repeat' first|exact trivial|exact rfl|exact Iff.rfl|refine And.intro ?_ ?_) (by first|exact leSt_same rfl|(repeat' first|exact trivial|exact rfl|exact Iff.rfl|exact not_false|refine And.intro ?_ ?_))
  ·rw [if_neg (show ¬ 0 <= d from h)] at key
   rw [key]
   exact retS (by repeat' first|exact trivial|exact rfl|exact Iff.rfl|refine And.intro ?_ ?_) (by first|exact leSt_same rfl|(repeat' first|exact trivial|exact rfl|exact Iff.rfl|exact not_false|refine And.intro ?_ ?_))
 ·rw [if_neg (show ¬ setsX x from h)] at key
  refine And.intro (fun h=>?_) (fun h=>?_)
  ·rw [if_pos (show 0 <= d from h)] at key
   rw [key]
   refine ⟨[],no_rl,(put_ok m x d v h h1).useE rfl (by exact ⟨trivial,rfl,rfl,trivial⟩) rfl ?_⟩
   exact retS (by repeat' first|exact trivial|exact rfl|exact Iff.rfl|refine And.intro ?_ ?_) (by first|exact leSt_same rfl|(repeat' first|exact trivial|exact rfl|exact Iff.rfl|exact not_false|refine And.intro ?_ ?_))
  ·rw [if_neg (show ¬ 0 <= d from h)] at key
   rw [key]
   exact retS (by repeat' first|exact trivial|exact rfl|exact Iff.rfl|refine And.intro ?_ ?_) (by first|exact leSt_same rfl|(repeat' first|exact trivial|exact rfl|exact Iff.rfl|exact not_false|refine And.intro ?_ ?_))
def shiftX (x : XS) (k v n : Int) : XS:=logicX x x.i.rd (shW k v n) (shC k v n x.s.C)
set_option maxRecDepth 100000 in
theorem xshift_ok (m : MS) (x : XS) (k v n : Int) (hx : XOk x) (hk0 : 0 <= k) (hk1 : k <= 3) (hn0 : 0 <= n) (hn1 : n <= 255) (hv : U32 v) : Spec gT 141 [.ptr 3 0,.int .i64 k,.int .u32 v,.int .i64 n] (stX m x) [] fun y S'=>y = .tup [] /\ S' = stX m (shiftX x k v n):=by
 have hs:=shift_pure' k v n x.s.C hk0 hk1 hn0 hn1 hv hx.c.1
 refine Spec.leS (Spec.enter gTok P141 100 Tryz.func141 rfl (by kernel_rfl) ?_)
 refine ⟨[],no_rl,hs.use (by repeat' first|exact trivial|exact rfl|exact Iff.rfl|exact Or.inl rfl|refine And.intro ?_ ?_) rfl rfl ?_⟩
 refine ⟨[],no_rl,(logic_ok m x x.i.rd (shW k v n) (shC k v n x.s.C) hx.rd.2).useE rfl (by exact ⟨trivial,rfl,rfl,rfl,trivial⟩) rfl ?_⟩
 exact retS (by repeat' first|exact trivial|exact rfl|exact Iff.rfl|refine And.intro ?_ ?_) (by first|exact leSt_same rfl|(repeat' first|exact trivial|exact rfl|exact Iff.rfl|exact not_false|refine And.intro ?_ ?_))
end Go.Proofs.YtnbngokbamifbaaGreatDoor.Pw
set_option linter.unusedVariables false
namespace Go.Proofs.YtnbngokbamifbaaGreatDoor.Pw
open Go Go.RowKit
def sumCls (f : Int) : Int :=
 if f = 4 \/ f = 6 \/ f = 10 \/ f = 55 \/ f = 71 then 1 else if f = 5 \/ f = 7 \/ f = 11 \/ f = 58 \/ f = 74 then 2 else if f = 17 \/ f = 56 \/ f = 72 then 3 else if f = 18 \/ f = 57 \/ f = 73 then 4 else if f = 21 then 5 else if f = 59 \/ f = 75 then 6 else if f = 9 \/ f = 22 \/ f = 29 \/ f = 65 \/ f = 81 then 7 else if f = 23 \/ f = 64 \/ f = 80 then 8 else 0
def sumsX (x : XS) : XS :=
 if sumCls x.i.form = 1 then sumX x x.i.rd (firstX x) (secW x) 0 else if sumCls x.i.form = 2 then sumX x x.i.rd (firstX x) (notW (secW x)) 1 else if sumCls x.i.form = 3 then sumX x x.i.rd (firstX x) (secW x) x.s.C else if sumCls x.i.form = 4 then sumX x x.i.rd (firstX x) (notW (secW x)) x.s.C else if sumCls x.i.form = 5 then sumX x x.i.rd 0 (notW (secW x)) 1 else if sumCls x.i.form = 6 then sumX x x.i.rd (secW x) (notW (firstX x)) 1 else if sumCls x.i.form = 7 then sumX x (-1) (firstX x) (notW (secW x)) 1 else if sumCls x.i.form = 8 then sumX x (-1) (firstX x) (secW x) 0 else x
theorem sumsX_1 {x : XS} (h : sumCls x.i.form = 1) : sumsX x = sumX x x.i.rd (firstX x) (secW x) 0:=by unfold sumsX; rw [if_pos h]
theorem sumsX_2 {x : XS} (h : sumCls x.i.form = 2) : sumsX x = sumX x x.i.rd (firstX x) (notW (secW x)) 1:=by unfold sumsX; rw [if_neg (by omega),if_pos h]
theorem sumsX_3 {x : XS} (h : sumCls x.i.form = 3) : sumsX x = sumX x x.i.rd (firstX x) (secW x) x.s.C:=by unfold sumsX; rw [if_neg (by omega),if_neg (by omega),if_pos h]
theorem sumsX_4 {x : XS} (h : sumCls x.i.form = 4) : sumsX x = sumX x x.i.rd (firstX x) (notW (secW x)) x.s.C:=by unfold sumsX; rw [if_neg (by omega),if_neg (by omega),if_neg (by omega),if_pos h]
theorem sumsX_5 {x : XS} (h : sumCls x.i.form = 5) : sumsX x = sumX x x.i.rd 0 (notW (secW x)) 1:=by unfold sumsX; rw [if_neg (by omega),if_neg (by omega),if_neg (by omega),if_neg (by omega),if_pos h]
theorem sumsX_6 {x : XS} (h : sumCls x.i.form = 6) : sumsX x = sumX x x.i.rd (secW x) (notW (firstX x)) 1:=by unfold sumsX; rw [if_neg (by omega),if_neg (by omega),if_neg (by omega),if_neg (by omega),if_neg (by omega),if_pos h]
theorem sumsX_7 {x : XS} (h : sumCls x.i.form = 7) : sumsX x = sumX x (-1) (firstX x) (notW (secW x)) 1:=by unfold sumsX; rw [if_neg (by omega),if_neg (by omega),if_neg (by omega),if_neg (by omega),if_neg (by omega),if_neg (by omega),if_pos h]
theorem sumsX_8 {x : XS} (h : sumCls x.i.form = 8) : sumsX x = sumX x (-1) (firstX x) (secW x) 0:=by unfold sumsX; rw [if_neg (by omega),if_neg (by omega),if_neg (by omega),if_neg (by omega),if_neg (by omega),if_neg (by omega),if_neg (by omega),if_pos h]
theorem sumsX_0 {x : XS} (h : sumCls x.i.form = 0) : sumsX x = x:=by unfold sumsX; rw [if_neg (by omega),if_neg (by omega),if_neg (by omega),if_neg (by omega),if_neg (by omega),if_neg (by omega),if_neg (by omega),if_neg (by omega)]
set_option maxHeartbeats 4000000 in
set_option maxRecDepth 100000 in
theorem sums_ok (m : MS) (x : XS) (hx : XOk x) : Spec gT 93 [.ptr 3 0] (stX m x) [] fun y S'=>y = .bool (sumCls x.i.form ≠ 0) /\ S' = stX m (sumsX x):=by
 refine Spec.leS (Spec.enter gTok P93 100 Tryz.func93 rfl (by kernel_rfl) ?_)
 refine ⟨[],no_rl,(first_ok m x hx).useE rfl (by exact ⟨trivial,trivial⟩) rfl ?_⟩
 refine ⟨[],no_rl,(second_ok m x hx).useE rfl (by exact ⟨trivial,trivial⟩) rfl ?_⟩
 refine And.intro (fun h4=>?_) (fun h4=>?_)
 ·have hc : sumCls x.i.form = 1:=by rw [show x.i.form = 4 from h4]; rfl
  rw [sumsX_1 hc]
  refine ⟨[],no_rl,(sum_ok m x x.i.rd (firstX x) (secW x) 0 hx.rd.2 (firstX_bd hx) (secW_bd hx) (by decide)).useE rfl (by exact ⟨trivial,rfl,rfl,rfl,rfl,trivial⟩) rfl ?_⟩
  exact retS (show sumCls x.i.form ≠ 0 by omega) (leSt_same rfl)
 refine And.intro (fun h6=>?_) (fun h6=>?_)
 ·have hc : sumCls x.i.form = 1:=by rw [show x.i.form = 6 from h6]; rfl
  rw [sumsX_1 hc]
  refine ⟨[],no_rl,(sum_ok m x x.i.rd (firstX x) (secW x) 0 hx.rd.2 (firstX_bd hx) (secW_bd hx) (by decide)).useE rfl (by exact ⟨trivial,rfl,rfl,rfl,rfl,trivial⟩) rfl ?_⟩
  exact retS (show sumCls x.i.form ≠ 0 by omega) (leSt_same rfl)
 refine And.intro (fun h10=>?_) (fun h10=>?_)
 ·have hc : sumCls x.i.form = 1:=by rw [show x.i.form = 10 from h10]; rfl
  rw [sumsX_1 hc]
  refine ⟨[],no_rl,(sum_ok m x x.i.rd (firstX x) (secW x) 0 hx.rd.2 (firstX_bd hx) (secW_bd hx) (by decide)).useE rfl (by exact ⟨trivial,rfl,rfl,rfl,rfl,trivial⟩) rfl ?_⟩
  exact retS (show sumCls x.i.form ≠ 0 by omega) (leSt_same rfl)
 refine And.intro (fun h55=>?_) (fun h55=>?_)
 ·have hc : sumCls x.i.form = 1:=by rw [show x.i.form = 55 from h55]; rfl
  rw [sumsX_1 hc]
  refine ⟨[],no_rl,(sum_ok m x x.i.rd (firstX x) (secW x) 0 hx.rd.2 (firstX_bd hx) (secW_bd hx) (by decide)).useE rfl (by exact ⟨trivial,rfl,rfl,rfl,rfl,trivial⟩) rfl ?_⟩
  exact retS (show sumCls x.i.form ≠ 0 by omega) (leSt_same rfl)
 refine And.intro (fun h71=>?_) (fun h71=>?_)
 ·have hc : sumCls x.i.form = 1:=by rw [show x.i.form = 71 from h71]; rfl
  rw [sumsX_1 hc]
  refine ⟨[],no_rl,(sum_ok m x x.i.rd (firstX x) (secW x) 0 hx.rd.2 (firstX_bd hx) (secW_bd hx) (by decide)).useE rfl (by exact ⟨trivial,rfl,rfl,rfl,rfl,trivial⟩) rfl ?_⟩
  exact retS (show sumCls x.i.form ≠ 0 by omega) (leSt_same rfl)
 refine And.intro (fun h5=>?_) (fun h5=>?_)
 ·have hc : sumCls x.i.form = 2:=by rw [show x.i.form = 5 from h5]; rfl
  rw [sumsX_2 hc]
  refine ⟨[],no_rl,(sum_ok m x x.i.rd (firstX x) (notW (secW x)) 1 hx.rd.2 (firstX_bd hx) (notW_bd (secW_bd hx)) (by decide)).useE rfl (by exact ⟨trivial,rfl,rfl,rfl,rfl,trivial⟩) rfl ?_⟩
  exact retS (show sumCls x.i.form ≠ 0 by omega) (leSt_same rfl)
 refine And.intro (fun h7=>?_) (fun h7=>?_)
 ·have hc : sumCls x.i.form = 2:=by rw [show x.i.form = 7 from h7]; rfl
  rw [sumsX_2 hc]
  refine ⟨[],no_rl,(sum_ok m x x.i.rd (firstX x) (notW (secW x)) 1 hx.rd.2 (firstX_bd hx) (notW_bd (secW_bd hx)) (by decide)).useE rfl (by exact ⟨trivial,rfl,rfl,rfl,rfl,trivial⟩) rfl ?_⟩
  exact retS (show sumCls x.i.form ≠ 0 by omega) (leSt_same rfl)
 refine And.intro (fun h11=>?_) (fun h11=>?_)
 ·have hc : sumCls x.i.form = 2:=by rw [show x.i.form = 11 from h11]; rfl
  rw [sumsX_2 hc]
  refine ⟨[],no_rl,(sum_ok m x x.i.rd (firstX x) (notW (secW x)) 1 hx.rd.2 (firstX_bd hx) (notW_bd (secW_bd hx)) (by decide)).useE rfl (by exact ⟨trivial,rfl,rfl,rfl,rfl,trivial⟩) rfl ?_⟩
  exact retS (show sumCls x.i.form ≠ 0 by omega) (leSt_same rfl)
 refine And.intro (fun h58=>?_) (fun h58=>?_)
 ·have hc : sumCls x.i.form = 2:=by rw [show x.i.form = 58 from h58]; rfl
  rw [sumsX_2 hc]
  refine ⟨[],no_rl,(sum_ok m x x.i.rd (firstX x) (notW (secW x)) 1 hx.rd.2 (firstX_bd hx) (notW_bd (secW_bd hx)) (by decide)).useE rfl (by exact ⟨trivial,rfl,rfl,rfl,rfl,trivial⟩) rfl ?_⟩
  exact retS (show sumCls x.i.form ≠ 0 by omega) (leSt_same rfl)
 refine And.intro (fun h74=>?_) (fun h74=>?_)
 ·have hc : sumCls x.i.form = 2:=by rw [show x.i.form = 74 from h74]; rfl
  rw [sumsX_2 hc]
  refine ⟨[],no_rl,(sum_ok m x x.i.rd (firstX x) (notW (secW x)) 1 hx.rd.2 (firstX_bd hx) (notW_bd (secW_bd hx)) (by decide)).useE rfl (by exact ⟨trivial,rfl,rfl,rfl,rfl,trivial⟩) rfl ?_⟩
  exact retS (show sumCls x.i.form ≠ 0 by omega) (leSt_same rfl)
 refine And.intro (fun h17=>?_) (fun h17=>?_)
 ·have hc : sumCls x.i.form = 3:=by rw [show x.i.form = 17 from h17]; rfl
  rw [sumsX_3 hc]
  refine ⟨[],no_rl,(sum_ok m x x.i.rd (firstX x) (secW x) x.s.C hx.rd.2 (firstX_bd hx) (secW_bd hx) hx.c.1).useE rfl (by exact ⟨trivial,rfl,rfl,rfl,rfl,trivial⟩) rfl ?_⟩
  exact retS (show sumCls x.i.form ≠ 0 by omega) (leSt_same rfl)
 refine And.intro (fun h56=>?_) (fun h56=>?_)
 ·have hc : sumCls x.i.form = 3:=by rw [show x.i.form = 56 from h56]; rfl
  rw [sumsX_3 hc]
  refine ⟨[],no_rl,(sum_ok m x x.i.rd (firstX x) (secW x) x.s.C hx.rd.2 (firstX_bd hx) (secW_bd hx) hx.c.1).useE rfl (by exact ⟨trivial,rfl,rfl,rfl,rfl,trivial⟩) rfl ?_⟩
  exact retS (show sumCls x.i.form ≠ 0 by omega) (leSt_same rfl)
 refine And.intro (fun h72=>?_) (fun h72=>?_)
 ·have hc : sumCls x.i.form = 3:=by rw [show x.i.form = 72 from h72]; rfl
  rw [sumsX_3 hc]
  refine ⟨[],no_rl,(sum_ok m x x.i.rd (firstX x) (secW x) x.s.C hx.rd.2 (firstX_bd hx) (secW_bd hx) hx.c.1).useE rfl (by exact ⟨trivial,rfl,rfl,rfl,rfl,trivial⟩) rfl ?_⟩
  exact retS (show sumCls x.i.form ≠ 0 by omega) (leSt_same rfl)
 refine And.intro (fun h18=>?_) (fun h18=>?_)
 ·have hc : sumCls x.i.form = 4:=by rw [show x.i.form = 18 from h18]; rfl
  rw [sumsX_4 hc]
  refine ⟨[],no_rl,(sum_ok m x x.i.rd (firstX x) (notW (secW x)) x.s.C hx.rd.2 (firstX_bd hx) (notW_bd (secW_bd hx)) hx.c.1).useE rfl (by exact ⟨trivial,rfl,rfl,rfl,rfl,trivial⟩) rfl ?_⟩
  exact retS (show sumCls x.i.form ≠ 0 by omega) (leSt_same rfl)
 refine And.intro (fun h57=>?_) (fun h57=>?_)
 ·have hc : sumCls x.i.form = 4:=by rw [show x.i.form = 57 from h57]; rfl
  rw [sumsX_4 hc]
  refine ⟨[],no_rl,(sum_ok m x x.i.rd (firstX x) (notW (secW x)) x.s.C hx.rd.2 (firstX_bd hx) (notW_bd (secW_bd hx)) hx.c.1).useE rfl (by exact ⟨trivial,rfl,rfl,rfl,rfl,trivial⟩) rfl ?_⟩
  exact retS (show sumCls x.i.form ≠ 0 by omega) (leSt_same rfl)
 refine And.intro (fun h73=>?_) (fun h73=>?_)
 ·have hc : sumCls x.i.form = 4:=by rw [show x.i.form = 73 from h73]; rfl
  rw [sumsX_4 hc]
  refine ⟨[],no_rl,(sum_ok m x x.i.rd (firstX x) (notW (secW x)) x.s.C hx.rd.2 (firstX_bd hx) (notW_bd (secW_bd hx)) hx.c.1).useE rfl (by exact ⟨trivial,rfl,rfl,rfl,rfl,trivial⟩) rfl ?_⟩
  exact retS (show sumCls x.i.form ≠ 0 by omega) (leSt_same rfl)
 refine And.intro (fun h21=>?_) (fun h21=>?_)
 ·have hc : sumCls x.i.form = 5:=by rw [show x.i.form = 21 from h21]; rfl
  rw [sumsX_5 hc]
  refine ⟨[],no_rl,(sum_ok m x x.i.rd 0 (notW (secW x)) 1 hx.rd.2 (by unfold U32; omega) (notW_bd (secW_bd hx)) (by decide)).useE rfl (by exact ⟨trivial,rfl,rfl,rfl,rfl,trivial⟩) rfl ?_⟩
  exact retS (show sumCls x.i.form ≠ 0 by omega) (leSt_same rfl)
 refine And.intro (fun h59=>?_) (fun h59=>?_)
 ·have hc : sumCls x.i.form = 6:=by rw [show x.i.form = 59 from h59]; rfl
  rw [sumsX_6 hc]
  refine ⟨[],no_rl,(sum_ok m x x.i.rd (secW x) (notW (firstX x)) 1 hx.rd.2 (secW_bd hx) (notW_bd (firstX_bd hx)) (by decide)).useE rfl (by exact ⟨trivial,rfl,rfl,rfl,rfl,trivial⟩) rfl ?_⟩
  exact retS (show sumCls x.i.form ≠ 0 by omega) (leSt_same rfl)
 refine And.intro (fun h75=>?_) (fun h75=>?_)
 ·have hc : sumCls x.i.form = 6:=by rw [show x.i.form = 75 from h75]; rfl
  rw [sumsX_6 hc]
  refine ⟨[],no_rl,(sum_ok m x x.i.rd (secW x) (notW (firstX x)) 1 hx.rd.2 (secW_bd hx) (notW_bd (firstX_bd hx)) (by decide)).useE rfl (by exact ⟨trivial,rfl,rfl,rfl,rfl,trivial⟩) rfl ?_⟩
  exact retS (show sumCls x.i.form ≠ 0 by omega) (leSt_same rfl)
 refine And.intro (fun h9=>?_) (fun h9=>?_)
 ·have hc : sumCls x.i.form = 7:=by rw [show x.i.form = 9 from h9]; rfl
  rw [sumsX_7 hc]
  refine ⟨[],no_rl,(sum_ok m x (-1) (firstX x) (notW (secW x)) 1 (by decide) (firstX_bd hx) (notW_bd (secW_bd hx)) (by decide)).useE rfl (by exact ⟨trivial,rfl,rfl,rfl,rfl,trivial⟩) rfl ?_⟩
  exact retS (show sumCls x.i.form ≠ 0 by omega) (leSt_same rfl)
 refine And.intro (fun h22=>?_) (fun h22=>?_)
 ·have hc : sumCls x.i.form = 7:=by rw [show x.i.form = 22 from h22]; rfl
  rw [sumsX_7 hc]
  refine ⟨[],no_rl,(sum_ok m x (-1) (firstX x) (notW (secW x)) 1 (by decide) (firstX_bd hx) (notW_bd (secW_bd hx)) (by decide)).useE rfl (by exact ⟨trivial,rfl,rfl,rfl,rfl,trivial⟩) rfl ?_⟩
  exact retS (show sumCls x.i.form ≠ 0 by omega) (leSt_same rfl)
 refine And.intro (fun h29=>?_) (fun h29=>?_)
 ·have hc : sumCls x.i.form = 7:=by rw [show x.i.form = 29 from h29]; rfl
  rw [sumsX_7 hc]
  refine ⟨[],no_rl,(sum_ok m x (-1) (firstX x) (notW (secW x)) 1 (by decide) (firstX_bd hx) (notW_bd (secW_bd hx)) (by decide)).useE rfl (by exact ⟨trivial,rfl,rfl,rfl,rfl,trivial⟩) rfl ?_⟩
  exact retS (show sumCls x.i.form ≠ 0 by omega) (leSt_same rfl)
 refine And.intro (fun h65=>?_) (fun h65=>?_)
 ·have hc : sumCls x.i.form = 7:=by rw [show x.i.form = 65 from h65]; rfl
  rw [sumsX_7 hc]
  refine ⟨[],no_rl,(sum_ok m x (-1) (firstX x) (notW (secW x)) 1 (by decide) (firstX_bd hx) (notW_bd (secW_bd hx)) (by decide)).useE rfl (by exact ⟨trivial,rfl,rfl,rfl,rfl,trivial⟩) rfl ?_⟩
  exact retS (show sumCls x.i.form ≠ 0 by omega) (leSt_same rfl)
 refine And.intro (fun h81=>?_) (fun h81=>?_)
 ·have hc : sumCls x.i.form = 7:=by rw [show x.i.form = 81 from h81]; rfl
  rw [sumsX_7 hc]
  refine ⟨[],no_rl,(sum_ok m x (-1) (firstX x) (notW (secW x)) 1 (by decide) (firstX_bd hx) (notW_bd (secW_bd hx)) (by decide)).useE rfl (by exact ⟨trivial,rfl,rfl,rfl,rfl,trivial⟩) rfl ?_⟩
  exact retS (show sumCls x.i.form ≠ 0 by omega) (leSt_same rfl)
 refine And.intro (fun h23=>?_) (fun h23=>?_)
 ·have hc : sumCls x.i.form = 8:=by rw [show x.i.form = 23 from h23]; rfl
  rw [sumsX_8 hc]
  refine ⟨[],no_rl,(sum_ok m x (-1) (firstX x) (secW x) 0 (by decide) (firstX_bd hx) (secW_bd hx) (by decide)).useE rfl (by exact ⟨trivial,rfl,rfl,rfl,rfl,trivial⟩) rfl ?_⟩
  exact retS (show sumCls x.i.form ≠ 0 by omega) (leSt_same rfl)
 refine And.intro (fun h64=>?_) (fun h64=>?_)
 ·have hc : sumCls x.i.form = 8:=by rw [show x.i.form = 64 from h64]; rfl
  rw [sumsX_8 hc]
  refine ⟨[],no_rl,(sum_ok m x (-1) (firstX x) (secW x) 0 (by decide) (firstX_bd hx) (secW_bd hx) (by decide)).useE rfl (by exact ⟨trivial,rfl,rfl,rfl,rfl,trivial⟩) rfl ?_⟩
  exact retS (show sumCls x.i.form ≠ 0 by omega) (leSt_same rfl)
 refine And.intro (fun h80=>?_) (fun h80=>?_)
 ·have hc : sumCls x.i.form = 8:=by rw [show x.i.form = 80 from h80]; rfl
  rw [sumsX_8 hc]
  refine ⟨[],no_rl,(sum_ok m x (-1) (firstX x) (secW x) 0 (by decide) (firstX_bd hx) (secW_bd hx) (by decide)).useE rfl (by exact ⟨trivial,rfl,rfl,rfl,rfl,trivial⟩) rfl ?_⟩
  exact retS (show sumCls x.i.form ≠ 0 by omega) (leSt_same rfl)
 ·have hc : sumCls x.i.form = 0:=by unfold sumCls; rw [if_neg (by omega),if_neg (by omega),if_neg (by omega),if_neg (by omega),if_neg (by omega),if_neg (by omega),if_neg (by omega),if_neg (by omega)]
  rw [sumsX_0 hc]
  exact retS (show ¬ sumCls x.i.form ≠ 0 from fun h=>h hc) (leSt_same rfl)
end Go.Proofs.YtnbngokbamifbaaGreatDoor.Pw

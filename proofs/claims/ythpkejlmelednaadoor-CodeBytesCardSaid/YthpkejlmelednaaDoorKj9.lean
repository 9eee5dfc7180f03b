/- CodeBytes. -/
import Derived.Test.YthpkejlmelednaaDoorKj8
set_option linter.unusedVariables false
set_option linter.unusedSimpArgs false
namespace Go.Proofs.YthpkejlmelednaaDoor.Pw
open Go Go.RowKit
def BOk (l : List Int) : Prop:=∀ z ∈ l,0 <= z /\ z <= 255
theorem or_add_u32 (a b : Int) (k : Nat) (hk : k <= 24) (ha : 0 <= a /\ a < 2 ^ k) (hb : 0 <= b /\ b * 2 ^ k <= 4294967295) : bits .or .u32 a (b * 2 ^ k) = a + b * 2 ^ k /\ bits .or .u32 (b * 2 ^ k) a = b * 2 ^ k + a:=by
 have p:=pow_bd k (by omega)
 have p2 : (2 : Int) ^ k <= 16777216:=by
  have h1 : (2 ^ k : Nat) <= 2 ^ 24:=Nat.pow_le_pow_right (by omega) hk
  have h3:=pow_cast k
  have h4 : (2 : Nat) ^ 24 = 16777216:=by decide
  omega
 obtain ⟨x,rfl⟩ : ∃ x : Nat,a = x:=⟨a.toNat,by omega⟩
 obtain ⟨y,rfl⟩ : ∃ y : Nat,b = y:=⟨b.toNat,by omega⟩
 have e : ((y : Int) * 2 ^ k) = ((2 ^ k * y : Nat) : Int):=by rw [Int.natCast_mul,pow_cast,Int.mul_comm]
 rw [e] at hb ⊢
 have hx : x < 2 ^ k:=by have:=pow_cast k; omega
 have h:=or_low y x k hx
 constructor
 ·rw [u32_or _ _ (by omega) (by omega) (by omega) (by omega),Int.toNat_natCast,Int.toNat_natCast,Nat.or_comm,← h]; omega
 ·rw [u32_or _ _ (by omega) (by omega) (by omega) (by omega),Int.toNat_natCast,Int.toNat_natCast,← h]; omega
def hN (l : List Int) (n : Nat) : Int:=l.getD n 0 + l.getD (n + 1) 0 * 256
theorem getD_ok {l : List Int} (h : BOk l) (n : Nat) : 0 <= l.getD n 0 /\ l.getD n 0 <= 255:=by
 rw [List.getD_eq_getElem?_getD]
 cases e : l[n]? with
 | none=>exact ⟨Int.le_refl 0,by decide⟩
 | some z=>exact h z (List.mem_of_getElem? e)
theorem hN_bd {l : List Int} (h : BOk l) (n : Nat) : 0 <= hN l n /\ hN l n <= 65535:=by
 have a:=getD_ok h n
 have b:=getD_ok h (n + 1)
 unfold hN; omega
theorem getD_some {l : List Int} {n : Nat} {z : Int} (h : l[n]? = some z) : l.getD n 0 = z:=by rw [List.getD_eq_getElem?_getD,h]; rfl
set_option maxHeartbeats 4000000 in
set_option maxRecDepth 100000 in
theorem halfAt_pure (l : List Int) (n : Nat) (hl : BOk l) (hm : l.length <= maxLen) (hn : n + 1 < l.length) : PureF gT 86 [.sl 1 (u8P l),.int .i64 n] (.int .u32 (hN l n)):=by
 have hm' : l.length <= 2 ^ 63 - 1:=hm
 have e8 : Ev.pow2 .u32 8 = 2 ^ 8:=by decide
 obtain ⟨a,ha⟩ : ∃ a,l[n]? = some a:=⟨_,List.getElem?_eq_getElem (by omega)⟩
 obtain ⟨b,hb⟩ : ∃ b,l[n + 1]? = some b:=⟨_,List.getElem?_eq_getElem (by omega)⟩
 have ab:=hl a (List.mem_of_getElem? ha)
 have bb:=hl b (List.mem_of_getElem? hb)
 have ea:=getD_some ha
 have eb:=getD_some hb
 refine Spec.enter gTok P86 100 Tryd.func86 rfl (by kernel_rfl) ?_
 repeat' (first
  | (refine ⟨Int,l,PV.int .u8,rfl,show (0 : Int) <= (n : Int) by omega,show (n : Int) < (l.length : Int) by omega,fun z hz=>?_⟩
     obtain rfl : a = z:=Option.some.inj (ha.symm.trans hz))
  | (refine ⟨Int,l,PV.int .u8,rfl,show (0 : Int) <= (n : Int) + 1 by omega,show (n : Int) + 1 < (l.length : Int) by omega,fun z hz=>?_⟩
     obtain rfl : b = z:=Option.some.inj (hb.symm.trans hz))
  | refine Or.inl (And.intro (inR_i64 (show _ <= (n : Int) + 1 /\ (n : Int) + 1 <= _ by omega)) ?_)
  | refine Or.inl (And.intro (inR_u32 (show 0 <= a /\ a <= _ by omega)) ?_)
  | refine Or.inl (And.intro (inR_u32 (show 0 <= b /\ b <= _ by omega)) ?_)
  | refine And.intro (show (0 : Int) <= 8 by decide) (Or.inl (And.intro (inR_u32 (show 0 <= b * Ev.pow2 .u32 8 /\ b * Ev.pow2 .u32 8 <= _ by rw [e8]; omega)) ?_))
  | exact rfl
  | exact trivial
  | (refine retE ?_
     show bits .or .u32 a (b * Ev.pow2 .u32 8) = hN l n
     rw [e8,(or_add_u32 a b 8 (by decide) (by omega) (by omega)).1,hN,ea,eb]
     rfl)
  | refine And.intro ?_ ?_)
def hW (l : List Int) (n : Nat) : Int:=hN l n * 65536 + hN l (n + 2)
noncomputable def atI (l : List Int) (n : Nat) : IN:=open Classical in
 if l.length < n + 2 then iZ else if ¬ beginsV (hN l n) then ofI (hN l n) False else if l.length < n + 4 then iZ else ofI (hW l n) True
noncomputable def atE (l : List Int) (n : Nat) : Int:=open Classical in
 if l.length < n + 2 then 41 else if ¬ beginsV (hN l n) then ofE (hN l n) False else if l.length < n + 4 then 41 else ofE (hW l n) True
theorem hW_or (l : List Int) (hl : BOk l) (n : Nat) : bits .or .u32 (hN l n * Ev.pow2 .u32 16) (hN l (n + 2)) = hW l n:=by
 have a:=hN_bd hl n
 have b:=hN_bd hl (n + 2)
 have e : Ev.pow2 .u32 16 = 2 ^ 16:=by decide
 rw [e,(or_add_u32 (hN l (n + 2)) (hN l n) 16 (by decide) (by omega) (by omega)).2]
 rfl
theorem hW_bd (l : List Int) (hl : BOk l) (n : Nat) : U32 (hW l n):=by
 have a:=hN_bd hl n
 have b:=hN_bd hl (n + 2)
 unfold hW U32; omega
set_option maxRecDepth 100000 in
theorem at_out (l : List Int) (n : Int) (hm : l.length <= maxLen) (hI : I64 n) (h : n < 0 \/ l.length < n) : PureF gT 38 [.sl 1 (u8P l),.int .i64 n] (.tup [inP iZ,.int .i64 11]):=by
 have el : (u8P l).length = l.length:=List.length_map ..
 refine Spec.enter gTok P38 100 Tryd.func38 rfl (by kernel_rfl) ?_
 refine And.intro (fun h0=>?_) (fun h0=>?_)
 ·(refine retE ?_; repeat' first|exact trivial|exact rfl|exact Iff.rfl|refine And.intro ?_ ?_)
 ·intro _
  refine And.intro (fun h1=>?_) (fun h1=>?_)
  ·(refine retE ?_; repeat' first|exact trivial|exact rfl|exact Iff.rfl|refine And.intro ?_ ?_)
  ·refine absurd ?_ h1
   show (((u8P l).length : Nat) : Int) < n
   have : ¬ n < 0:=h0
   omega
set_option maxHeartbeats 8000000 in
set_option maxRecDepth 100000 in
theorem at_in (l : List Int) (n : Nat) (hl : BOk l) (hm : l.length <= maxLen) (hn : n <= l.length) : PureF gT 38 [.sl 1 (u8P l),.int .i64 n] (.tup [inP (atI l n),.int .i64 (atE l n)]):=by
 have el : (u8P l).length = l.length:=List.length_map ..
 have hm' : l.length <= 2 ^ 63 - 1:=hm
 have h1:=hN_bd hl n
 have h2:=hN_bd hl (n + 2)
 refine Spec.enter gTok P38 100 Tryd.func38 rfl (by kernel_rfl) ?_
 refine And.intro (fun h0=>absurd (show (n : Int) < 0 from h0) (by omega)) (fun _=>?_)
 intro _
 refine And.intro (fun h0=>absurd (show (((u8P l).length : Nat) : Int) < (n : Int) from h0) (by omega)) (fun _=>?_)
 intro _
 refine .inl ⟨inR_i64 (show _ <= (((u8P l).length : Nat) : Int) - (n : Int) /\ (((u8P l).length : Nat) : Int) - (n : Int) <= _ by omega),?_⟩
 refine And.intro (fun hs=>?_) (fun hs=>?_)
 ·have hs' : (((u8P l).length : Nat) : Int) - (n : Int) < 2:=hs
  have c : l.length < n + 2:=by omega
  rw [show atI l n = iZ from if_pos c,show atE l n = 41 from if_pos c]
  (refine retE ?_; repeat' first|exact trivial|exact rfl|exact Iff.rfl|refine And.intro ?_ ?_)
 have hs' : ¬ (((u8P l).length : Nat) : Int) - (n : Int) < 2:=hs
 have c : ¬ l.length < n + 2:=by omega
 refine ⟨[],no_rl,(halfAt_pure l n hl hm (by omega)).use (by repeat' first|exact trivial|exact rfl|exact Iff.rfl|refine And.intro ?_ ?_) rfl rfl ?_⟩
 refine ⟨[],no_rl,(begins_pure (hN l n) (by unfold U32; omega)).use (by repeat' first|exact trivial|exact rfl|exact Iff.rfl|refine And.intro ?_ ?_) rfl rfl ?_⟩
 refine And.intro (fun hb=>?_) (fun hb=>?_)
 ·have hb' : ¬ beginsV (hN l n):=hb
  refine ⟨[],no_rl,(of_pure (hN l n) False (by unfold U32; omega)).use (And.intro rfl (And.intro (show ¬ False from id) trivial)) rfl rfl ?_⟩
  rw [show atI l n = ofI (hN l n) False by unfold atI; rw [if_neg c,if_pos hb'],show atE l n = ofE (hN l n) False by unfold atE; rw [if_neg c,if_pos hb']]
  (refine retE ?_; repeat' first|exact trivial|exact rfl|exact Iff.rfl|refine And.intro ?_ ?_)
 have hb' : ¬ ¬ beginsV (hN l n):=hb
 intro _
 refine .inl ⟨inR_i64 (show _ <= (((u8P l).length : Nat) : Int) - (n : Int) /\ (((u8P l).length : Nat) : Int) - (n : Int) <= _ by omega),?_⟩
 refine And.intro (fun hs=>?_) (fun hs=>?_)
 ·have hs' : (((u8P l).length : Nat) : Int) - (n : Int) < 4:=hs
  have c2 : l.length < n + 4:=by omega
  rw [show atI l n = iZ by unfold atI; rw [if_neg c,if_neg hb',if_pos c2],show atE l n = 41 by unfold atE; rw [if_neg c,if_neg hb',if_pos c2]]
  (refine retE ?_; repeat' first|exact trivial|exact rfl|exact Iff.rfl|refine And.intro ?_ ?_)
 have hs' : ¬ (((u8P l).length : Nat) : Int) - (n : Int) < 4:=hs
 have c2 : ¬ l.length < n + 4:=by omega
 have e16 : Ev.pow2 .u32 16 = 65536:=by decide
 refine ⟨by decide,.inl ⟨inR_u32 (by rw [e16]; omega),?_⟩⟩
 refine .inl ⟨inR_i64 (show _ <= (n : Int) + 2 /\ (n : Int) + 2 <= _ by omega),?_⟩
 refine ⟨[],no_rl,(halfAt_pure l (n + 2) hl hm (by omega)).use (by repeat' first|exact trivial|exact rfl|exact Iff.rfl|refine And.intro ?_ ?_) rfl rfl ?_⟩
 refine ⟨[],no_rl,(of_pure (hW l n) True (hW_bd l hl n)).use (And.intro (hW_or l hl n) (And.intro (show True from trivial) trivial)) rfl rfl ?_⟩
 rw [show atI l n = ofI (hW l n) True by unfold atI; rw [if_neg c,if_neg hb',if_neg c2],show atE l n = ofE (hW l n) True by unfold atE; rw [if_neg c,if_neg hb',if_neg c2]]
 (refine retE ?_; repeat' first|exact trivial|exact rfl|exact Iff.rfl|refine And.intro ?_ ?_)
end Go.Proofs.YthpkejlmelednaaDoor.Pw
namespace Go.Proofs.YthpkejlmelednaaDoor.Pw
open Go Go.RowKit
theorem getD_app (p b : List Int) (k : Nat) : (p ++ b).getD (p.length + k) 0 = b.getD k 0:=by
 rw [List.getD_eq_getElem?_getD,List.getD_eq_getElem?_getD,List.getElem?_append_right (by omega),Nat.add_sub_cancel_left]
theorem byL_ok (i : IN) : BOk (byL i):=by
 intro z hz
 unfold byL at hz
 split at hz <;> simp only [List.mem_append,List.mem_cons,List.not_mem_nil,or_false,false_or] at hz <;> omega
theorem at_own (p : List Int) (i : IN) (h : rightV i) (hg : i.regs <= 9223372036854775807) : atI (p ++ byL i) p.length = i /\ atE (p ++ byL i) p.length = 0:=by
 have fst:=of_word i h hg
 have bk:=back i h hg
 have wb:=word_bd i
 have tw:=top_wide i h
 have tn:=top_narrow i h
 have f1:=h.1
 unfold U32 at wb
 have g : ∀ k,(p ++ byL i).getD (p.length + k) 0 = (byL i).getD k 0:=getD_app p (byL i)
 have h0 : hN (p ++ byL i) p.length = (byL i).getD 0 0 + (byL i).getD 1 0 * 256:=by
  have a:=g 0
  have b:=g 1
  unfold hN; rw [← a,← b]; rfl
 have h2 : hN (p ++ byL i) (p.length + 2) = (byL i).getD 2 0 + (byL i).getD 3 0 * 256:=by
  have a:=g 2
  have b:=g 3
  unfold hN; rw [← a,← b]
 by_cases h48 : 48 <= i.form
 ·have eb : byL i = [wordV i / 65536 % 256,wordV i / 16777216 % 256,wordV i % 256,wordV i / 256 % 256]:=by unfold byL; rw [if_pos h48]; rfl
  have el : (p ++ byL i).length = p.length + 4:=by rw [List.length_append,eb]; rfl
  have k0 : hN (p ++ byL i) p.length = wordV i / 65536:=by
   rw [h0,eb]
   show wordV i / 65536 % 256 + wordV i / 16777216 % 256 * 256 = _
   omega
  have k2 : hN (p ++ byL i) (p.length + 2) = wordV i % 65536:=by
   rw [h2,eb]
   show wordV i % 256 + wordV i / 256 % 256 * 256 = _
   omega
  have kW : hW (p ++ byL i) p.length = wordV i:=by unfold hW; rw [k0,k2]; omega
  have hb : ¬ ¬ beginsV (hN (p ++ byL i) p.length):=by
   have:=tw h48
   rw [k0]; unfold beginsV; omega
  have e : (48 <= i.form) = True:=eq_true h48
  rw [e] at fst
  unfold atI atE
  rw [if_neg (by omega),if_neg hb,if_neg (by omega),if_neg (by omega),if_neg hb,if_neg (by omega),kW,ofI_is fst,ofE_is fst,bk]
  exact ⟨rfl,rfl⟩
 ·have eb : byL i = [wordV i % 256,wordV i / 256 % 256]:=by unfold byL; rw [if_neg h48]; rfl
  have el : (p ++ byL i).length = p.length + 2:=by rw [List.length_append,eb]; rfl
  have tn':=tn h48
  have k0 : hN (p ++ byL i) p.length = wordV i:=by
   rw [h0,eb]
   show wordV i % 256 + wordV i / 256 % 256 * 256 = _
   omega
  have hb : ¬ beginsV (hN (p ++ byL i) p.length):=by rw [k0]; unfold beginsV; omega
  have e : (48 <= i.form) = False:=eq_false h48
  rw [e] at fst
  unfold atI atE
  rw [if_neg (by omega),if_pos hb,if_neg (by omega),if_pos hb,k0,ofI_is fst,ofE_is fst,bk]
  exact ⟨rfl,rfl⟩
theorem byL_len4 (i : IN) : (byL i).length <= 4:=by
 unfold byL
 split
 ·exact Nat.le_refl 4
 ·exact (show 2 <= 4 by decide)
theorem byte_at {l : List Int} {m k : Nat} (hl : BOk l) (h : m + k < l.length) : ∃ x,(l.drop m)[k]? = some x /\ (0 <= x /\ x <= 255) /\ l.getD (m + k) 0 = x:=by
 obtain ⟨x,hx⟩ : ∃ x,l[m + k]? = some x:=⟨_,List.getElem?_eq_getElem h⟩
 exact ⟨x,by rw [List.getElem?_drop]; exact hx,hl x (List.mem_of_getElem? hx),getD_some hx⟩
theorem at_facts (l : List Int) (m : Nat) : (l.length < m + 2 -> atE l m = 41) /\ (¬ l.length < m + 2 -> ¬ beginsV (hN l m) -> atI l m = ofI (hN l m) False /\ atE l m = ofE (hN l m) False) /\
  (¬ l.length < m + 2 -> ¬ ¬ beginsV (hN l m) -> l.length < m + 4 -> atE l m = 41) /\ (¬ l.length < m + 4 -> ¬ ¬ beginsV (hN l m) -> atI l m = ofI (hW l m) True /\ atE l m = ofE (hW l m) True):=by
 refine ⟨fun a=>if_pos a,fun a b=>?_,fun a b c=>?_,fun a b=>?_⟩
 ·unfold atI atE; rw [if_neg a,if_pos b,if_neg a,if_pos b]; exact ⟨rfl,rfl⟩
 ·unfold atE; rw [if_neg a,if_neg b,if_pos c]
 ·unfold atI atE; rw [if_neg (by omega),if_neg b,if_neg a,if_neg (by omega),if_neg b,if_neg a]; exact ⟨rfl,rfl⟩
theorem or_mid (h x y : Int) (hh : 0 <= h /\ h <= 65535) (hx : 0 <= x /\ x <= 255) (hy : 0 <= y /\ y <= 255) : bits .or .u32 (h * 2 ^ 16 + x) (y * 2 ^ 8) = h * 2 ^ 16 + x + y * 2 ^ 8:=by
 obtain ⟨a,rfl⟩ : ∃ a : Nat,h = a:=⟨h.toNat,by omega⟩
 obtain ⟨b,rfl⟩ : ∃ b : Nat,x = b:=⟨x.toNat,by omega⟩
 obtain ⟨c,rfl⟩ : ∃ c : Nat,y = c:=⟨y.toNat,by omega⟩
 have e1 : ((a : Int) * 2 ^ 16 + b) = ((2 ^ 16 * a + b : Nat) : Int):=by omega
 have e2 : ((c : Int) * 2 ^ 8) = ((2 ^ 8 * c : Nat) : Int):=by omega
 rw [e1,e2,u32_or _ _ (by omega) (by omega) (by omega) (by omega),Int.toNat_natCast,Int.toNat_natCast]
 have h1:=or_low a b 16 (by omega)
 have h2:=or_low c b 8 (by omega)
 have h3:=or_low a (2 ^ 8 * c + b) 16 (by omega)
 have h4 : 2 ^ 16 * a + b ||| 2 ^ 8 * c = 2 ^ 16 * a + (2 ^ 8 * c + b):=by
  rw [h3,h2,h1,Nat.or_assoc,Nat.or_comm b]
 rw [h4]; omega
set_option maxHeartbeats 16000000 in
set_option maxRecDepth 100000 in
theorem CodeBytes_pure (l : List Int) (n : Int) (i : IN) (hl : BOk l) (hm : l.length <= maxLen) (hI : I64 n) (hi : IOk i) : PureF gT 12 [.sl 1 (u8P l),.int .i64 n,inP i] .tt:=by
 have el : (u8P l).length = l.length:=List.length_map ..
 refine Spec.enter gTok P12 200 Tryd.func12 rfl (by kernel_rfl) ?_
 refine ⟨[],no_rl,anchor04_pure.use trivial rfl rfl ?_⟩
 intro _
 refine And.intro (fun _=>?_) (fun h2=>?_)
 ·(refine retE ?_; repeat' first|exact trivial|exact rfl|exact Iff.rfl|refine And.intro ?_ ?_)
 have h200 : ¬ (200 : Int) < (((u8P l).length : Nat) : Int):=h2
 by_cases hn : n < 0 \/ l.length < n
 ·refine ⟨[],no_rl,(at_out l n hm hI hn).use (by repeat' first|exact trivial|exact rfl|exact Iff.rfl|refine And.intro ?_ ?_) rfl rfl ?_⟩
  refine And.intro (fun _=>?_) (fun h0=>?_)
  ·refine And.intro (fun _=>?_) (fun h=>absurd rfl h)
   (refine retE ?_; repeat' first|exact trivial|exact rfl|exact Iff.rfl|refine And.intro ?_ ?_)
  ·intro _
   refine And.intro (fun _=>?_) (fun h1=>?_)
   ·refine And.intro (fun _=>?_) (fun h=>absurd rfl h)
    (refine retE ?_; repeat' first|exact trivial|exact rfl|exact Iff.rfl|refine And.intro ?_ ?_)
   ·refine absurd ?_ h1
    show (((u8P l).length : Nat) : Int) < n
    have : ¬ n < 0:=h0
    omega
 obtain ⟨m,rfl⟩ : ∃ m : Nat,n = m:=⟨n.toNat,by omega⟩
 have hmn : m <= l.length:=by omega
 refine ⟨[],no_rl,(at_in l m hl hm hmn).use (by repeat' first|exact trivial|exact rfl|exact Iff.rfl|refine And.intro ?_ ?_) rfl rfl ?_⟩
 refine And.intro (fun h0=>absurd (show (m : Int) < 0 from h0) (by omega)) (fun _=>?_)
 intro _
 refine And.intro (fun h0=>absurd (show (((u8P l).length : Nat) : Int) < (m : Int) from h0) (by omega)) (fun _=>?_)
 have eR : List.take ((((u8P l).length : Nat) : Int) - (m : Int)).toNat (List.drop (m : Int).toNat (u8P l)) = u8P (l.drop m):=by
  rw [show (m : Int).toNat = m from rfl,List.take_of_length_le (by rw [List.length_drop]; omega)]
  unfold u8P; rw [List.map_drop]
 have e8 : Ev.pow2 .u32 8 = 2 ^ 8:=by decide
 obtain ⟨F1,F2,F3,F4⟩:=at_facts l m
 by_cases ri : rightV i
 ·refine ⟨[],no_rl,(bytes_yes i ri hi).use (And.intro (leK_refl i) trivial) rfl rfl ?_⟩
  refine And.intro (fun _=>?_) (fun h=>absurd rfl h)
  have b4:=byL_len4 i
  have eo:=at_own (l.take m) i ri (hi i.regs (by simp [inLs])).2
  have etl : (l.take m).length = m:=by rw [List.length_take]; omega
  rw [etl] at eo
  have ep : List.take ((m : Int) - 0).toNat (List.drop (Int.toNat 0) (u8P l)) = u8P (l.take m):=by
   rw [show ((m : Int) - 0).toNat = m by omega,show Int.toNat 0 = 0 from rfl,List.drop_zero]
   unfold u8P; rw [List.map_take]
  have lp : (u8P (l.take m)).length = m:=by rw [u8P,List.length_map,etl]
  have lb : (u8P (byL i)).length = (byL i).length:=List.length_map ..
  refine ⟨by decide,show (0 : Int) <= (m : Int) by omega,show (m : Int) <= (((u8P l).length : Nat) : Int) by omega,?_⟩
  refine ⟨show 0 + (List.take ((m : Int) - 0).toNat (List.drop (Int.toNat 0) (u8P l))).length <= maxLen by rw [ep,lp]; unfold maxLen; omega,show (0 + (List.take ((m : Int) - 0).toNat (List.drop (Int.toNat 0) (u8P l))).length) * 1 <= 140737488355328 by rw [ep,lp]; omega,?_⟩
  refine ⟨show (List.take ((m : Int) - 0).toNat (List.drop (Int.toNat 0) (u8P l))).length + (u8P (byL i)).length <= maxLen by rw [ep,lp,lb]; unfold maxLen; omega,show ((List.take ((m : Int) - 0).toNat (List.drop (Int.toNat 0) (u8P l))).length + (u8P (byL i)).length) * 1 <= 140737488355328 by rw [ep,lp,lb]; omega,?_⟩
  have hB : BOk (l.take m ++ byL i):=fun z hz=>(List.mem_append.1 hz).elim (fun h=>hl z (List.mem_of_mem_take h)) (byL_ok i z)
  have ai:=at_in (l.take m ++ byL i) m hB (by rw [List.length_append,etl]; unfold maxLen; omega) (by rw [List.length_append,etl]; omega)
  rw [eo.1,eo.2] at ai
  have ec : List.take ((m : Int) - 0).toNat (List.drop (Int.toNat 0) (u8P l)) ++ u8P (byL i) = u8P (l.take m ++ byL i):=by
   rw [ep]; unfold u8P; rw [List.map_append]
  refine ⟨[],no_rl,ai.useB [4] (And.intro ec (And.intro rfl trivial)) rfl rfl ?_⟩
  refine And.intro (fun h=>absurd rfl h) (fun _=>?_)
  refine And.intro (fun h=>absurd ⟨rfl,rfl,rfl,rfl,rfl,rfl,rfl,rfl,rfl,rfl,rfl,trivial⟩ h) (fun _=>?_)
  refine ⟨show (0 : Int) <= (m : Int) by omega,show (m : Int) <= (((u8P l).length : Nat) : Int) by omega,Int.le_refl _,?_⟩
  refine fun _=>And.intro (fun hs=>?_) (fun hs=>?_)
  ·have hs' : ((List.take ((((u8P l).length : Nat) : Int) - (m : Int)).toNat (List.drop (m : Int).toNat (u8P l))).length : Int) < 2:=hs
   rw [eR,u8P,List.length_map,List.length_drop] at hs'
   exact retE (F1 (by omega))
  have hs' : ¬ ((List.take ((((u8P l).length : Nat) : Int) - (m : Int)).toNat (List.drop (m : Int).toNat (u8P l))).length : Int) < 2:=hs
  rw [eR,u8P,List.length_map,List.length_drop] at hs'
  obtain ⟨x0,hx0,bx0,k0⟩:=byte_at hl (show m + 0 < l.length by omega)
  obtain ⟨x1,hx1,bx1,k1⟩:=byte_at hl (show m + 1 < l.length by omega)
  have eh : bits .or .u32 x0 (x1 * Ev.pow2 .u32 8) = hN l m:=by
   rw [e8,(or_add_u32 x0 x1 8 (by decide) (by omega) (by omega)).1,hN,← k1]
   rw [Nat.add_zero] at k0
   rw [← k0]; rfl
  have hNb:=hN_bd hl m
  refine ⟨Int,l.drop m,PV.int .u8,eR,show (0 : Int) <= 0 by decide,show (0 : Int) < (((l.drop m).length : Nat) : Int) by rw [List.length_drop]; omega,fun z hz=>?_⟩; obtain rfl : x0 = z:=Option.some.inj (hx0.symm.trans hz)
  repeat (first
   | (refine Or.inl (And.intro (inR_u32 (show 0 <= x0 /\ x0 <= _ by omega)) ?_))
   | (refine Or.inl (And.intro (inR_u32 (show 0 <= x1 /\ x1 <= _ by omega)) ?_))
   | (refine And.intro (show (0 : Int) <= 8 by decide) (Or.inl (And.intro (inR_u32 (show 0 <= x1 * Ev.pow2 .u32 8 /\ x1 * Ev.pow2 .u32 8 <= _ by rw [e8]; omega)) ?_)))
   | (refine ⟨Int,l.drop m,PV.int .u8,eR,show (0 : Int) <= 1 by decide,show (1 : Int) < (((l.drop m).length : Nat) : Int) by rw [List.length_drop]; omega,fun z hz=>?_⟩; obtain rfl : x1 = z:=Option.some.inj (hx1.symm.trans hz)))
  repeat (refine And.intro ?_ ?_; rotate_left; fail_if_success (intro _); focus (
   repeat' (first
    | (refine ⟨Int,l.drop m,PV.int .u8,eR,show (0 : Int) <= 0 by decide,show (0 : Int) < (((l.drop m).length : Nat) : Int) by rw [List.length_drop]; omega,fun z hz=>?_⟩; obtain rfl : x0 = z:=Option.some.inj (hx0.symm.trans hz))
    | (refine ⟨Int,l.drop m,PV.int .u8,eR,show (0 : Int) <= 1 by decide,show (1 : Int) < (((l.drop m).length : Nat) : Int) by rw [List.length_drop]; omega,fun z hz=>?_⟩; obtain rfl : x1 = z:=Option.some.inj (hx1.symm.trans hz))
    | refine Or.inl (And.intro (inR_u32 (show 0 <= x0 /\ x0 <= _ by omega)) ?_)
    | refine Or.inl (And.intro (inR_u32 (show 0 <= x1 /\ x1 <= _ by omega)) ?_)
    | refine And.intro (show (0 : Int) <= 8 by decide) (Or.inl (And.intro (inR_u32 (show 0 <= x1 * Ev.pow2 .u32 8 /\ x1 * Ev.pow2 .u32 8 <= _ by rw [e8]; omega)) ?_))
    | exact rfl
    | exact trivial
    | refine And.intro ?_ ?_)))
  refine ⟨[],no_rl,(begins_pure (hN l m) (by unfold U32; omega)).use (And.intro eh trivial) rfl rfl ?_⟩
  refine And.intro (fun hb=>?_) (fun hb=>?_)
  ·obtain ⟨f1,f2⟩:=F2 (by omega) hb
   refine ⟨[],no_rl,(of_pure (hN l m) False (by unfold U32; omega)).use (And.intro eh (And.intro (show ¬ False from id) trivial)) rfl rfl ?_⟩
   rw [f1,f2]
   refine And.intro (fun _=>?_) (fun h=>absurd ⟨rfl,rfl,rfl,rfl,rfl,rfl,rfl,rfl,rfl,rfl,rfl,trivial⟩ h)
   (refine retE ?_; repeat' first|exact trivial|exact rfl|exact Iff.rfl|refine And.intro ?_ ?_)
  refine fun _=>And.intro (fun hs=>?_) (fun hs=>?_)
  ·have hs2 : ((List.take ((((u8P l).length : Nat) : Int) - (m : Int)).toNat (List.drop (m : Int).toNat (u8P l))).length : Int) < 4:=hs
   rw [eR,u8P,List.length_map,List.length_drop] at hs2
   exact retE (F3 (by omega) hb (by omega))
  have hs2 : ¬ ((List.take ((((u8P l).length : Nat) : Int) - (m : Int)).toNat (List.drop (m : Int).toNat (u8P l))).length : Int) < 4:=hs
  rw [eR,u8P,List.length_map,List.length_drop] at hs2
  obtain ⟨f1,f2⟩:=F4 (by omega) hb
  obtain ⟨x2,hx2,bx2,k2⟩:=byte_at hl (show m + 2 < l.length by omega)
  obtain ⟨x3,hx3,bx3,k3⟩:=byte_at hl (show m + 3 < l.length by omega)
  have e16 : Ev.pow2 .u32 16 = 2 ^ 16:=by decide
  have eW : bits .or .u32 (bits .or .u32 (bits .or .u32 x0 (x1 * Ev.pow2 .u32 8) * Ev.pow2 .u32 16) x2) (x3 * Ev.pow2 .u32 8) = hW l m:=by
   rw [eh,e16,e8]
   rw [(or_add_u32 x2 (hN l m) 16 (by decide) (by omega) (by omega)).2]
   have a:=or_add_u32 (hN l m * 2 ^ 16 + x2) x3 8
   have c : bits .or .u32 (hN l m * 2 ^ 16 + x2) (x3 * 2 ^ 8) = hN l m * 2 ^ 16 + x2 + x3 * 2 ^ 8:=or_mid (hN l m) x2 x3 (by omega) (by omega) (by omega)
   rw [c]
   unfold hW
   rw [show hN l (m + 2) = x2 + x3 * 256 by unfold hN; rw [← k2,← k3]]
   omega
  have eB : 0 <= bits .or .u32 x0 (x1 * Ev.pow2 .u32 8) * Ev.pow2 .u32 16 /\ bits .or .u32 x0 (x1 * Ev.pow2 .u32 8) * Ev.pow2 .u32 16 <= 4294967295:=by rw [eh,e16]; omega
  have hof:=of_pure (hW l m) True (hW_bd l hl m)
  repeat (first
   | (refine And.intro (show (0 : Int) <= 16 by decide) (Or.inl (And.intro (inR_u32 eB) ?_)))
   | (refine ⟨Int,l.drop m,PV.int .u8,eR,show (0 : Int) <= 2 by decide,show (2 : Int) < (((l.drop m).length : Nat) : Int) by rw [List.length_drop]; omega,fun z hz=>?_⟩; obtain rfl : x2 = z:=Option.some.inj (hx2.symm.trans hz))
   | (refine ⟨Int,l.drop m,PV.int .u8,eR,show (0 : Int) <= 3 by decide,show (3 : Int) < (((l.drop m).length : Nat) : Int) by rw [List.length_drop]; omega,fun z hz=>?_⟩; obtain rfl : x3 = z:=Option.some.inj (hx3.symm.trans hz))
   | (refine Or.inl (And.intro (inR_u32 (show 0 <= x2 /\ x2 <= _ by omega)) ?_))
   | (refine Or.inl (And.intro (inR_u32 (show 0 <= x3 /\ x3 <= _ by omega)) ?_))
   | (refine And.intro (show (0 : Int) <= 8 by decide) (Or.inl (And.intro (inR_u32 (show 0 <= x3 * Ev.pow2 .u32 8 /\ x3 * Ev.pow2 .u32 8 <= _ by rw [e8]; omega)) ?_)))
   | (refine Exists.intro [] (And.intro no_rl (hof.use (And.intro eW (And.intro (show True from trivial) trivial)) rfl rfl ?_))))
  refine And.intro ?_ ?_
  rotate_left
  ·refine And.intro ?_ ?_
   ·repeat (first
    | (refine And.intro (show (0 : Int) <= 16 by decide) (Or.inl (And.intro (inR_u32 eB) ?_)))
    | (refine ⟨Int,l.drop m,PV.int .u8,eR,show (0 : Int) <= 2 by decide,show (2 : Int) < (((l.drop m).length : Nat) : Int) by rw [List.length_drop]; omega,fun z hz=>?_⟩; obtain rfl : x2 = z:=Option.some.inj (hx2.symm.trans hz))
    | (refine ⟨Int,l.drop m,PV.int .u8,eR,show (0 : Int) <= 3 by decide,show (3 : Int) < (((l.drop m).length : Nat) : Int) by rw [List.length_drop]; omega,fun z hz=>?_⟩; obtain rfl : x3 = z:=Option.some.inj (hx3.symm.trans hz))
    | (refine Or.inl (And.intro (inR_u32 (show 0 <= x2 /\ x2 <= _ by omega)) ?_))
    | (refine Or.inl (And.intro (inR_u32 (show 0 <= x3 /\ x3 <= _ by omega)) ?_))
    | (refine And.intro (show (0 : Int) <= 8 by decide) (Or.inl (And.intro (inR_u32 (show 0 <= x3 * Ev.pow2 .u32 8 /\ x3 * Ev.pow2 .u32 8 <= _ by rw [e8]; omega)) ?_)))
    | ((conv=>whnf); refine Exists.intro [] (And.intro no_rl (hof.use (And.intro eW (And.intro (show True from trivial) trivial)) rfl rfl ?_)))
     )
    exact rfl
   ·conv=>whnf
    exact trivial
  rw [f1,f2]
  refine And.intro (fun _=>?_) (fun h=>absurd ⟨rfl,rfl,rfl,rfl,rfl,rfl,rfl,rfl,rfl,rfl,rfl,trivial⟩ h)
  (refine retE ?_; repeat' first|exact trivial|exact rfl|exact Iff.rfl|refine And.intro ?_ ?_)
 ·refine ⟨[],no_rl,(bytes_no i ri hi).use (And.intro (leK_refl i) trivial) rfl rfl ?_⟩
  refine And.intro (fun h=>absurd h (show ¬ (10 : Int) = 0 by decide)) (fun _=>?_)
  refine ⟨show (0 : Int) <= (m : Int) by omega,show (m : Int) <= (((u8P l).length : Nat) : Int) by omega,Int.le_refl _,?_⟩
  refine fun _=>And.intro (fun hs=>?_) (fun hs=>?_)
  ·have hs' : ((List.take ((((u8P l).length : Nat) : Int) - (m : Int)).toNat (List.drop (m : Int).toNat (u8P l))).length : Int) < 2:=hs
   rw [eR,u8P,List.length_map,List.length_drop] at hs'
   exact retE (F1 (by omega))
  have hs' : ¬ ((List.take ((((u8P l).length : Nat) : Int) - (m : Int)).toNat (List.drop (m : Int).toNat (u8P l))).length : Int) < 2:=hs
  rw [eR,u8P,List.length_map,List.length_drop] at hs'
  obtain ⟨x0,hx0,bx0,k0⟩:=byte_at hl (show m + 0 < l.length by omega)
  obtain ⟨x1,hx1,bx1,k1⟩:=byte_at hl (show m + 1 < l.length by omega)
  have eh : bits .or .u32 x0 (x1 * Ev.pow2 .u32 8) = hN l m:=by
   rw [e8,(or_add_u32 x0 x1 8 (by decide) (by omega) (by omega)).1,hN,← k1]
   rw [Nat.add_zero] at k0
   rw [← k0]; rfl
  have hNb:=hN_bd hl m
  refine ⟨Int,l.drop m,PV.int .u8,eR,show (0 : Int) <= 0 by decide,show (0 : Int) < (((l.drop m).length : Nat) : Int) by rw [List.length_drop]; omega,fun z hz=>?_⟩; obtain rfl : x0 = z:=Option.some.inj (hx0.symm.trans hz)
  repeat (first
   | (refine Or.inl (And.intro (inR_u32 (show 0 <= x0 /\ x0 <= _ by omega)) ?_))
   | (refine Or.inl (And.intro (inR_u32 (show 0 <= x1 /\ x1 <= _ by omega)) ?_))
   | (refine And.intro (show (0 : Int) <= 8 by decide) (Or.inl (And.intro (inR_u32 (show 0 <= x1 * Ev.pow2 .u32 8 /\ x1 * Ev.pow2 .u32 8 <= _ by rw [e8]; omega)) ?_)))
   | (refine ⟨Int,l.drop m,PV.int .u8,eR,show (0 : Int) <= 1 by decide,show (1 : Int) < (((l.drop m).length : Nat) : Int) by rw [List.length_drop]; omega,fun z hz=>?_⟩; obtain rfl : x1 = z:=Option.some.inj (hx1.symm.trans hz)))
  repeat (refine And.intro ?_ ?_; rotate_left; fail_if_success (intro _); focus (
   repeat' (first
    | (refine ⟨Int,l.drop m,PV.int .u8,eR,show (0 : Int) <= 0 by decide,show (0 : Int) < (((l.drop m).length : Nat) : Int) by rw [List.length_drop]; omega,fun z hz=>?_⟩; obtain rfl : x0 = z:=Option.some.inj (hx0.symm.trans hz))
    | (refine ⟨Int,l.drop m,PV.int .u8,eR,show (0 : Int) <= 1 by decide,show (1 : Int) < (((l.drop m).length : Nat) : Int) by rw [List.length_drop]; omega,fun z hz=>?_⟩; obtain rfl : x1 = z:=Option.some.inj (hx1.symm.trans hz))
    | refine Or.inl (And.intro (inR_u32 (show 0 <= x0 /\ x0 <= _ by omega)) ?_)
    | refine Or.inl (And.intro (inR_u32 (show 0 <= x1 /\ x1 <= _ by omega)) ?_)
    | refine And.intro (show (0 : Int) <= 8 by decide) (Or.inl (And.intro (inR_u32 (show 0 <= x1 * Ev.pow2 .u32 8 /\ x1 * Ev.pow2 .u32 8 <= _ by rw [e8]; omega)) ?_))
    | exact rfl
    | exact trivial
    | refine And.intro ?_ ?_)))
  refine ⟨[],no_rl,(begins_pure (hN l m) (by unfold U32; omega)).use (And.intro eh trivial) rfl rfl ?_⟩
  refine And.intro (fun hb=>?_) (fun hb=>?_)
  ·obtain ⟨f1,f2⟩:=F2 (by omega) hb
   refine ⟨[],no_rl,(of_pure (hN l m) False (by unfold U32; omega)).use (And.intro eh (And.intro (show ¬ False from id) trivial)) rfl rfl ?_⟩
   rw [f1,f2]
   refine And.intro (fun _=>?_) (fun h=>absurd ⟨rfl,rfl,rfl,rfl,rfl,rfl,rfl,rfl,rfl,rfl,rfl,trivial⟩ h)
   (refine retE ?_; repeat' first|exact trivial|exact rfl|exact Iff.rfl|refine And.intro ?_ ?_)
  refine fun _=>And.intro (fun hs=>?_) (fun hs=>?_)
  ·have hs2 : ((List.take ((((u8P l).length : Nat) : Int) - (m : Int)).toNat (List.drop (m : Int).toNat (u8P l))).length : Int) < 4:=hs
   rw [eR,u8P,List.length_map,List.length_drop] at hs2
   exact retE (F3 (by omega) hb (by omega))
  have hs2 : ¬ ((List.take ((((u8P l).length : Nat) : Int) - (m : Int)).toNat (List.drop (m : Int).toNat (u8P l))).length : Int) < 4:=hs
  rw [eR,u8P,List.length_map,List.length_drop] at hs2
  obtain ⟨f1,f2⟩:=F4 (by omega) hb
  obtain ⟨x2,hx2,bx2,k2⟩:=byte_at hl (show m + 2 < l.length by omega)
  obtain ⟨x3,hx3,bx3,k3⟩:=byte_at hl (show m + 3 < l.length by omega)
  have e16 : Ev.pow2 .u32 16 = 2 ^ 16:=by decide
  have eW : bits .or .u32 (bits .or .u32 (bits .or .u32 x0 (x1 * Ev.pow2 .u32 8) * Ev.pow2 .u32 16) x2) (x3 * Ev.pow2 .u32 8) = hW l m:=by
   rw [eh,e16,e8]
   rw [(or_add_u32 x2 (hN l m) 16 (by decide) (by omega) (by omega)).2]
   have a:=or_add_u32 (hN l m * 2 ^ 16 + x2) x3 8
   have c : bits .or .u32 (hN l m * 2 ^ 16 + x2) (x3 * 2 ^ 8) = hN l m * 2 ^ 16 + x2 + x3 * 2 ^ 8:=or_mid (hN l m) x2 x3 (by omega) (by omega) (by omega)
   rw [c]
   unfold hW
   rw [show hN l (m + 2) = x2 + x3 * 256 by unfold hN; rw [← k2,← k3]]
   omega
  have eB : 0 <= bits .or .u32 x0 (x1 * Ev.pow2 .u32 8) * Ev.pow2 .u32 16 /\ bits .or .u32 x0 (x1 * Ev.pow2 .u32 8) * Ev.pow2 .u32 16 <= 4294967295:=by rw [eh,e16]; omega
  have hof:=of_pure (hW l m) True (hW_bd l hl m)
  repeat (first
   | (refine And.intro (show (0 : Int) <= 16 by decide) (Or.inl (And.intro (inR_u32 eB) ?_)))
   | (refine ⟨Int,l.drop m,PV.int .u8,eR,show (0 : Int) <= 2 by decide,show (2 : Int) < (((l.drop m).length : Nat) : Int) by rw [List.length_drop]; omega,fun z hz=>?_⟩; obtain rfl : x2 = z:=Option.some.inj (hx2.symm.trans hz))
   | (refine ⟨Int,l.drop m,PV.int .u8,eR,show (0 : Int) <= 3 by decide,show (3 : Int) < (((l.drop m).length : Nat) : Int) by rw [List.length_drop]; omega,fun z hz=>?_⟩; obtain rfl : x3 = z:=Option.some.inj (hx3.symm.trans hz))
   | (refine Or.inl (And.intro (inR_u32 (show 0 <= x2 /\ x2 <= _ by omega)) ?_))
   | (refine Or.inl (And.intro (inR_u32 (show 0 <= x3 /\ x3 <= _ by omega)) ?_))
   | (refine And.intro (show (0 : Int) <= 8 by decide) (Or.inl (And.intro (inR_u32 (show 0 <= x3 * Ev.pow2 .u32 8 /\ x3 * Ev.pow2 .u32 8 <= _ by rw [e8]; omega)) ?_)))
   | (refine Exists.intro [] (And.intro no_rl (hof.use (And.intro eW (And.intro (show True from trivial) trivial)) rfl rfl ?_))))
  refine And.intro ?_ ?_
  rotate_left
  ·refine And.intro ?_ ?_
   ·repeat (first
    | (refine And.intro (show (0 : Int) <= 16 by decide) (Or.inl (And.intro (inR_u32 eB) ?_)))
    | (refine ⟨Int,l.drop m,PV.int .u8,eR,show (0 : Int) <= 2 by decide,show (2 : Int) < (((l.drop m).length : Nat) : Int) by rw [List.length_drop]; omega,fun z hz=>?_⟩; obtain rfl : x2 = z:=Option.some.inj (hx2.symm.trans hz))
    | (refine ⟨Int,l.drop m,PV.int .u8,eR,show (0 : Int) <= 3 by decide,show (3 : Int) < (((l.drop m).length : Nat) : Int) by rw [List.length_drop]; omega,fun z hz=>?_⟩; obtain rfl : x3 = z:=Option.some.inj (hx3.symm.trans hz))
    | (refine Or.inl (And.intro (inR_u32 (show 0 <= x2 /\ x2 <= _ by omega)) ?_))
    | (refine Or.inl (And.intro (inR_u32 (show 0 <= x3 /\ x3 <= _ by omega)) ?_))
    | (refine And.intro (show (0 : Int) <= 8 by decide) (Or.inl (And.intro (inR_u32 (show 0 <= x3 * Ev.pow2 .u32 8 /\ x3 * Ev.pow2 .u32 8 <= _ by rw [e8]; omega)) ?_)))
    | ((conv=>whnf); refine Exists.intro [] (And.intro no_rl (hof.use (And.intro eW (And.intro (show True from trivial) trivial)) rfl rfl ?_)))
     )
    exact rfl
   ·conv=>whnf
    exact trivial
  rw [f1,f2]
  refine And.intro (fun _=>?_) (fun h=>absurd ⟨rfl,rfl,rfl,rfl,rfl,rfl,rfl,rfl,rfl,rfl,rfl,trivial⟩ h)
  (refine retE ?_; repeat' first|exact trivial|exact rfl|exact Iff.rfl|refine And.intro ?_ ?_)
theorem CodeBytes_pure' (x : PV) (s : SLs 1 1 (PV.int .u8) (fun z : Int=>0 <= z /\ z <= 255) x) (y : PV) (t : SInt .i64 y) (z : PV) (u : SIN z) : PureF gT 12 [x,y,z] .tt:=by
 obtain ⟨l,h1,h2,rfl⟩:=s
 obtain ⟨n,hn,rfl⟩:=t
 obtain ⟨i,hi,rfl⟩:=u
 exact CodeBytes_pure l n i h2 h1.1 (inR_i64c hn) hi
end Go.Proofs.YthpkejlmelednaaDoor.Pw

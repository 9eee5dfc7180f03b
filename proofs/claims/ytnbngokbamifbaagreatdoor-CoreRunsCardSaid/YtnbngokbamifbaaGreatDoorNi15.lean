/- What a law is proved with. -/
import Derived.Test.YtnbngokbamifbaaGreatDoorNi11
import Derived.Test.YtnbngokbamifbaaGreatDoorNi12
import Derived.Test.YtnbngokbamifbaaGreatDoorNi13
import Derived.Test.YtnbngokbamifbaaGreatDoorNiImmD
import Derived.Laws.BitsLemmas
set_option linter.unusedVariables false
set_option linter.unusedSimpArgs false
namespace Go.Proofs.YtnbngokbamifbaaGreatDoor.Pw
open Go Go.RowKit
theorem entersT {f : FuncId} {fn : Func} {c : Code} (hf : Tryz.prog.funcs[f]? = some fn) (hb : fn.body = some c) (hn : (fn.name == "runtime.NumGoroutine") = false) : Ev.Enters gT.cx.P f:=Ev.enters_of hf hb hn
theorem isLn {w : World} {I : Nat -> Prop} {β : Places} : IsL w I [] β []:=by simp only [IsL]
theorem isLc {w : World} {I : Nat -> Prop} {β : Places} {x : PV} {v : Value} {xs : List PV} {vs : List Value} (h : x.Is w I β v) (h' : IsL w I xs β vs) : IsL w I (x :: xs) β (v :: vs):=by simp only [IsL]; exact ⟨h,h'⟩
theorem is_int {w : World} {I : Nat -> Prop} {β : Places} (k : IntKind) (n : Int) : (PV.int k n).Is w I β (.int k n):=by simp only [PV.Is]
theorem is_tup {w : World} {I : Nat -> Prop} {β : Places} {xs : List PV} {vs : Array Value} (h : IsL w I xs β vs.toList) : (PV.tup xs).Is w I β (.tuple vs):=by simp only [PV.Is]; exact ⟨vs,rfl,h⟩
theorem isL1 {w : World} {I : Nat -> Prop} {β : Places} {x : PV} {vals : List Value} (h : IsL w I [x] β vals) : ∃ v,vals = [v] /\ x.Is w I β v:=by
 match vals,h with
 | [v],h=>exact ⟨v,rfl,by simpa only [IsL,and_true] using h⟩
theorem tab_row {G : Gx} {I : Nat -> Prop} {w : World} (hM : ImmOk G I w) {g : Nat} {k : IntKind} {l : List Int} (h : (g,l.map (PV.lit k)) ∈ G.tabs) : ∃ ty fr,w.heap[g]? = some (.cells (l.map (Value.int k)).toArray ty fr):=by
 obtain ⟨arr,ty,fr,h1,h2⟩:=hM.row _ _ h
 obtain ⟨_,h3⟩:=hM.tab _ _ h
 refine ⟨ty,fr,?_⟩
 rw [h1]
 congr 2
 refine Array.ext' (List.ext_getElem? fun i=>?_)
 rw [List.length_map] at h2
 by_cases hi : i < l.length
 ·obtain ⟨v,hv,hiv,_⟩:=h3.get (i:=i) (c:=PV.lit k l[i]) (by simp [hi])
  rw [Ev.cells_of h1,Nat.zero_add] at hv
  simp only [PV.Is] at hiv
  subst hiv
  simp only [Array.getElem?_toList,hv,List.getElem?_map,List.getElem?_eq_getElem hi,Option.map_some]
 ·rw [List.getElem?_eq_none (by simp; omega),List.getElem?_eq_none (by simp; omega)]
theorem PureF.of_at {G : Gx} {f : FuncId} {args : List PV} {r : PV} (he : Ev.Enters G.cx.P f)
  (h : ∀ I β w vals,ImmOk G I w -> IsL w I args β vals -> ∃ v,r.Is w I no v /\ (∀ w' I' β',r.Is w' I' β' v) /\ Calls G.cx.P f vals.toArray w fun e w'=>e = .returned v /\ Below w.heap.size w w') : PureF G f args r:=by
 refine Spec.intro he fun I β w vals hH hM hA=>?_
 obtain ⟨v,_,hr,hc⟩:=h I β w vals hM hA
 refine hc.mono fun e w' ⟨he,hB⟩=>⟨v,r,[],I,β,he,rfl,hr _ _ _,hH.none0 _ _,hM.below hB,⟨hB.os,hB.tape,hB.output,hB.size,fun g hg _=>hB.block g hg,fun g _ h=>h,fun _ h=>h,fun _ _ h=>.inl h⟩,Nat.le_refl _,fun _ _ _=>rfl⟩
theorem wr1 : IntKind.i64.wrap (0 + 1) = 1:=by decide
end Go.Proofs.YtnbngokbamifbaaGreatDoor.Pw
namespace Go.Proofs.YtnbngokbamifbaaGreatDoor.Pw
open Go Go.RowKit
structure IN where
 form : Int
 rd : Int
 rn : Int
 rm : Int
 ra : Int
 imm : Int
 kind : Int
 by_ : Int
 set : Int
 cond : Int
 regs : Int
def inFs (i : IN) : List PV:=[.int .i64 i.form,.int .i64 i.rd,.int .i64 i.rn,.int .i64 i.rm,.int .i64 i.ra,.int .i64 i.imm,.int .i64 i.kind,.int .i64 i.by_,.int .i64 i.set,.int .i64 i.cond,.int .i64 i.regs]
def inP (i : IN) : PV:=.agg (inFs i)
def insP (l : List IN) : List PV:=l.map inP
def iZ : IN:=⟨0,0,0,0,0,0,0,0,0,0,0⟩
theorem facOf {I : Nat -> Prop} {w : World} (hM : ImmOk gT I w) : Fac w :=
 tab_row hM (g:=1) (k:=.u32) (l:=[1,65537,16777472,16843009]) (show (1,facP) ∈ gT.tabs from List.mem_cons_self)
end Go.Proofs.YtnbngokbamifbaaGreatDoor.Pw
namespace Go.Proofs.YtnbngokbamifbaaGreatDoor.Pw
open Go Go.RowKit
theorem form_is (f : Int) : PureF gT 131 [.int .i64 f] (.bool (1 <= f /\ f <= 100)):=by
 refine Spec.enter gTok P131 100 Tryz.func131 rfl (by kernel_rfl) ?_
 repeat' ((conv=>whnf); first | (refine (And.intro (fun _=>?_) (fun _=>?_) : (_ -> _) /\ (_ -> _)) <;> (first | (exfalso; first | contradiction | omega) | skip)) | refine Or.inl (And.intro (by first | exact inR_i64 (by omega) | exact inR_u32 (by omega) | exact inR_u64 (by omega) | exact inR_u8 (by omega)) ?_) | (refine And.intro (show (_ : Int) ≠ 0 by omega) (Or.inl (And.intro (show (0 : Int) <= _ by omega) (And.intro (show (0 : Int) < _ by omega) ?_)))) | (refine And.intro (show (_ : Int) ≠ 0 by omega) (Or.inl (And.intro (show (0 : Int) <= _ by omega) (And.intro (by first | exact (show (_ : Int) <= 9223372036854775807 by omega) | exact (show (_ : Int) <= 4294967295 by omega)) (And.intro (show (0 : Int) < _ by omega) ?_))))) | (refine retE ?_; show _ ↔ _; omega) | (refine retE ?_; show ¬ _; omega) | (intro _))
theorem form_wide (f : Int) : PureF gT 85 [.int .i64 f] (.bool (48 <= f /\ f <= 100)):=by
 refine Spec.enter gTok P85 100 Tryz.func85 rfl (by kernel_rfl) ?_
 refine ⟨[],no_rl,(form_is f).use (by repeat' first|exact trivial|exact rfl|exact Iff.rfl|refine And.intro ?_ ?_) rfl rfl ?_⟩
 repeat' ((conv=>whnf); first | (refine (And.intro (fun _=>?_) (fun _=>?_) : (_ -> _) /\ (_ -> _)) <;> (first | (exfalso; first | contradiction | omega) | skip)) | refine Or.inl (And.intro (by first | exact inR_i64 (by omega) | exact inR_u32 (by omega) | exact inR_u64 (by omega) | exact inR_u8 (by omega)) ?_) | (refine And.intro (show (_ : Int) ≠ 0 by omega) (Or.inl (And.intro (show (0 : Int) <= _ by omega) (And.intro (show (0 : Int) < _ by omega) ?_)))) | (refine And.intro (show (_ : Int) ≠ 0 by omega) (Or.inl (And.intro (show (0 : Int) <= _ by omega) (And.intro (by first | exact (show (_ : Int) <= 9223372036854775807 by omega) | exact (show (_ : Int) <= 4294967295 by omega)) (And.intro (show (0 : Int) < _ by omega) ?_))))) | (refine retE ?_; show _ ↔ _; omega) | (refine retE ?_; show ¬ _; omega) | (intro _))
def shL : List Int:=[0,1,1,1,2,2,3,3,4,4,4,4,5,5,5,5,5,5,5,5,5,5,5,5,5,5,5,5,6,6,6,7,8,2,2,9,9,8,8,8,10,10,11,12,13,14,15,16,17,17,18,18,18,18,18,18,18,18,18,18,19,19,20,20,20,20,21,21,21,21,21,21,21,21,21,21,22,22,23,23,23,23,24,24,25,25,26,26,27,27,27,27,28,29,30,31,31,28,32,33,34]
def shapeV (f : Int) : Int:=if 1 <= f /\ f <= 100 then shL.getD f.toNat 0 else 0
theorem shape_at {f : Int} (h : 1 <= f /\ f <= 100) {c : PV} (hc : (shL.map (PV.lit .i64))[f.toNat]? = some c) : c = .lit .i64 (shapeV f):=by
 rw [List.getElem?_map,Option.map_eq_some_iff] at hc
 obtain ⟨z,hz,rfl⟩:=hc
 unfold shapeV
 rw [if_pos h,List.getD_eq_getElem?_getD,hz]; rfl
set_option maxRecDepth 100000 in
theorem shape_pure (f : Int) : PureF gT 149 [.int .i64 f] (.int .i64 (shapeV f)):=by
 refine Spec.enter gTok P149 100 Tryz.func149 rfl (by kernel_rfl) ?_
 refine ⟨[],no_rl,(form_is f).use (by repeat' first|exact trivial|exact rfl|exact Iff.rfl|refine And.intro ?_ ?_) rfl rfl ?_⟩
 refine And.intro (fun h=>?_) (fun h=>?_)
 ·refine retE ?_
  exact (show (0 : Int) = shapeV f by unfold shapeV; rw [if_neg h])
 have h':=Classical.not_not.1 h
 refine ⟨by omega,show f < 101 by omega,.inr ⟨rfl,by omega,show 0 + f.toNat * 1 < 101 by omega,fun c hc=>?_⟩⟩
 have hc' : (shL.map (PV.lit .i64))[f.toNat]? = some c:=by
  have e : 0 + f.toNat * 1 = f.toNat:=by omega
  have h0 : (shL.map (PV.lit .i64))[0 + f.toNat * 1]? = some c:=hc
  rwa [e] at h0
 obtain rfl:=shape_at h' hc'
 exact retE rfl
structure RU where
 rd : Int
 rn : Int
 rm : Int
 ra : Int
 i0 : Int
 i1 : Int
 i2 : Int
 b0 : Int
 b1 : Int
 b2 : Int
 kind : Bool
 set : Bool
 cond : Bool
 regs : Int
def ruF (r : RU) : List PV:=[.int .i64 r.rd,.int .i64 r.rn,.int .i64 r.rm,.int .i64 r.ra,.int .i64 r.i0,.int .i64 r.i1,.int .i64 r.i2,.int .i64 r.b0,.int .i64 r.b1,.int .i64 r.b2,.bool (r.kind = true),.bool (r.set = true),.bool (r.cond = true),.int .i64 r.regs]
def ruP (r : RU) : PV:=.agg (ruF r)
def r0U : RU:=⟨0,0,0,0,0,0,0,0,0,0,false,false,false,0⟩
def ruN (s : Int) : RU :=
 if s = 1 then { r0U with rd:=1,rm:=1,i0:=0,i1:=32,i2:=1 } else if s = 2 then { r0U with rd:=1,rn:=1,rm:=1 } else if s = 3 then { r0U with rd:=1,rn:=1,i1:=7,i2:=1 }
 else if s = 4 then { r0U with rd:=1,i1:=255,i2:=1 } else if s = 5 then { r0U with rd:=1,rm:=1 } else if s = 6 then { r0U with rd:=2,rm:=2 } else if s = 7 then { r0U with rm:=2 }
 else if s = 8 then { r0U with rd:=1,i1:=1020,i2:=4 } else if s = 9 then { r0U with rd:=1,rn:=1,i1:=124,i2:=4 } else if s = 10 then { r0U with i1:=508,i2:=4 } else if s = 11 then { r0U with regs:=16639 } else if s = 12 then { r0U with regs:=33023 }
 else if s = 13 then r0U else if s = 14 then { r0U with i1:=255,i2:=1 } else if s = 15 then { r0U with cond:=true,i0:=-256,i1:=254,i2:=2 } else if s = 16 then { r0U with i0:=-2048,i1:=2046,i2:=2 } else r0U
def ruW (s : Int) : RU :=
 if s = 17 then { r0U with rd:=3,i1:=65535,i2:=1 } else if s = 18 then { r0U with rd:=3,rn:=3,i1:=4095,i2:=1,set:=true } else if s = 19 then { r0U with rd:=3,i1:=4095,i2:=1,set:=true } else if s = 20 then { r0U with rn:=3,i1:=4095,i2:=1 }
 else if s = 21 then { r0U with rd:=3,rn:=3,rm:=3,kind:=true,set:=true } else if s = 22 then { r0U with rd:=3,rm:=3,kind:=true,set:=true } else if s = 23 then { r0U with rn:=3,rm:=3,kind:=true } else if s = 24 then { r0U with rd:=3,rn:=3,i1:=4095,i2:=1 }
 else if s = 25 then { r0U with rd:=3,rn:=2,i1:=4095,i2:=1 } else if s = 26 then { r0U with rd:=3,rn:=2,rm:=3,b1:=3,b2:=1 } else if s = 27 then { r0U with rd:=3,rn:=3,rm:=3,set:=true } else if s = 28 then { r0U with rd:=3,rn:=3,rm:=3 }
 else if s = 29 \/ s = 30 \/ s = 31 then { r0U with rd:=3,rn:=3,rm:=3,ra:=3 } else if s = 32 then { r0U with rd:=3,rm:=3 } else if s = 33 then { r0U with cond:=true,i0:=-1048576,i1:=1048574,i2:=2 } else if s = 34 then { r0U with i0:=-16777216,i1:=16777214,i2:=2 } else ruN s
set_option maxHeartbeats 8000000 in
set_option maxRecDepth 100000 in
theorem narrowRule_pure (s : Int) : PureF gT 188 [.int .i64 s] (ruP (ruN s)):=by
 refine Spec.enter gTok P188 100 Tryz.func188 rfl (by kernel_rfl) ?_
 repeat' ((conv=>whnf); first | (refine (And.intro (fun _=>?_) (fun _=>?_) : (_ -> _) /\ (_ -> _)) <;> (first | (exfalso; first | contradiction | omega) | skip)) | refine Or.inl (And.intro (by first | exact inR_i64 (by omega) | exact inR_u32 (by omega) | exact inR_u64 (by omega) | exact inR_u8 (by omega)) ?_) | (refine And.intro (show (_ : Int) ≠ 0 by omega) (Or.inl (And.intro (show (0 : Int) <= _ by omega) (And.intro (show (0 : Int) < _ by omega) ?_)))) | (refine And.intro (show (_ : Int) ≠ 0 by omega) (Or.inl (And.intro (show (0 : Int) <= _ by omega) (And.intro (by first | exact (show (_ : Int) <= 9223372036854775807 by omega) | exact (show (_ : Int) <= 4294967295 by omega)) (And.intro (show (0 : Int) < _ by omega) ?_))))) | (simp only [ruN, *,if_true,if_false,reduceIte,Int.reduceEq]; refine retE ?_; (repeat' first | exact trivial | exact rfl | exact (show ¬ (false = true) from Bool.false_ne_true) | refine And.intro ?_ ?_)) | (intro _))
set_option maxHeartbeats 8000000 in
set_option maxRecDepth 100000 in
theorem wideRule_pure (s : Int) : PureF gT 148 [.int .i64 s] (ruP (ruW s)):=by
 refine Spec.enter gTok P148 100 Tryz.func148 rfl (by kernel_rfl) ?_
 repeat' ((conv=>whnf); first | (refine (And.intro (fun _=>?_) (fun _=>?_) : (_ -> _) /\ (_ -> _)) <;> (first | (exfalso; first | contradiction | omega) | skip)) | refine Or.inl (And.intro (by first | exact inR_i64 (by omega) | exact inR_u32 (by omega) | exact inR_u64 (by omega) | exact inR_u8 (by omega)) ?_) | (refine And.intro (show (_ : Int) ≠ 0 by omega) (Or.inl (And.intro (show (0 : Int) <= _ by omega) (And.intro (show (0 : Int) < _ by omega) ?_)))) | (refine And.intro (show (_ : Int) ≠ 0 by omega) (Or.inl (And.intro (show (0 : Int) <= _ by omega) (And.intro (by first | exact (show (_ : Int) <= 9223372036854775807 by omega) | exact (show (_ : Int) <= 4294967295 by omega)) (And.intro (show (0 : Int) < _ by omega) ?_))))) | (refine Exists.intro [] (And.intro no_rl ((narrowRule_pure s).use (by repeat' first|exact trivial|exact rfl|exact Iff.rfl|refine And.intro ?_ ?_) rfl rfl ?_))) | (simp only [ruW, *,if_true,if_false,reduceIte,Int.reduceEq,or_true,true_or,or_false,false_or]; refine retE ?_; (repeat' first | exact trivial | exact rfl | exact (show ¬ (false = true) from Bool.false_ne_true) | exact Iff.rfl | refine And.intro ?_ ?_)) | (intro _))
def hasV (c r : Int) : Prop:=(c = 1 /\ 0 <= r /\ r < 8) \/ (c = 2 /\ 0 <= r /\ r < 15) \/ (c = 3 /\ 0 <= r /\ r < 15 /\ r ≠ 13) \/ (c ≠ 1 /\ c ≠ 2 /\ c ≠ 3 /\ r = 0)
theorem low_pure' (r : Int) : PureF gT 189 [.int .i64 r] (.bool (0 <= r /\ r < 8)):=by
 refine Spec.enter gTok P189 100 Tryz.func189 rfl (by kernel_rfl) ?_
 repeat' ((conv=>whnf); first | (refine (And.intro (fun _=>?_) (fun _=>?_) : (_ -> _) /\ (_ -> _)) <;> (first | (exfalso; first | contradiction | omega) | skip)) | refine Or.inl (And.intro (by first | exact inR_i64 (by omega) | exact inR_u32 (by omega) | exact inR_u64 (by omega) | exact inR_u8 (by omega)) ?_) | (refine And.intro (show (_ : Int) ≠ 0 by omega) (Or.inl (And.intro (show (0 : Int) <= _ by omega) (And.intro (show (0 : Int) < _ by omega) ?_)))) | (refine And.intro (show (_ : Int) ≠ 0 by omega) (Or.inl (And.intro (show (0 : Int) <= _ by omega) (And.intro (by first | exact (show (_ : Int) <= 9223372036854775807 by omega) | exact (show (_ : Int) <= 4294967295 by omega)) (And.intro (show (0 : Int) < _ by omega) ?_))))) | (refine retE ?_; show _ ↔ _; omega) | (refine retE ?_; show ¬ _; omega) | (intro _))
set_option maxRecDepth 100000 in
theorem has_pure (c r : Int) : PureF gT 150 [.int .i64 c,.int .i64 r] (.bool (hasV c r)):=by
 refine Spec.enter gTok P150 100 Tryz.func150 rfl (by kernel_rfl) ?_
 repeat' ((conv=>whnf); first | (refine (And.intro (fun _=>?_) (fun _=>?_) : (_ -> _) /\ (_ -> _)) <;> (first | (exfalso; first | contradiction | omega) | skip)) | refine Or.inl (And.intro (by first | exact inR_i64 (by omega) | exact inR_u32 (by omega) | exact inR_u64 (by omega) | exact inR_u8 (by omega)) ?_) | (refine And.intro (show (_ : Int) ≠ 0 by omega) (Or.inl (And.intro (show (0 : Int) <= _ by omega) (And.intro (show (0 : Int) < _ by omega) ?_)))) | (refine And.intro (show (_ : Int) ≠ 0 by omega) (Or.inl (And.intro (show (0 : Int) <= _ by omega) (And.intro (by first | exact (show (_ : Int) <= 9223372036854775807 by omega) | exact (show (_ : Int) <= 4294967295 by omega)) (And.intro (show (0 : Int) < _ by omega) ?_))))) | (refine Exists.intro [] (And.intro no_rl ((low_pure' r).use (by repeat' first|exact trivial|exact rfl|exact Iff.rfl|refine And.intro ?_ ?_) rfl rfl ?_))) | (refine retE ?_; (show _ ↔ hasV c r); unfold hasV; omega) | (refine retE ?_; (show ¬ hasV c r); unfold hasV; omega) | (intro _))
def spanV (f t s n : Int) : Prop:=(s = 0 /\ n = 0) \/ (s ≠ 0 /\ f <= n /\ n <= t /\ n.tmod s = 0)
set_option maxRecDepth 100000 in
theorem span_pure (f t s n : Int) : PureF gT 152 [.agg [.int .i64 f,.int .i64 t,.int .i64 s],.int .i64 n] (.bool (spanV f t s n)):=by
 refine Spec.enter gTok P152 100 Tryz.func152 rfl (by kernel_rfl) ?_
 refine And.intro (fun h=>?_) (fun h=>?_)
 ·refine retE ?_
  exact (show n = 0 ↔ spanV f t s n by unfold spanV; exact ⟨fun e=>.inl ⟨h,e⟩,fun e=>e.elim (fun e=>e.2) (fun e=>absurd h e.1)⟩)
 have h0 : s ≠ 0:=h
 refine And.intro (fun h1=>?_) (fun h1=>?_)
 ·refine And.intro (fun h2=>?_) (fun h2=>?_)
  ·refine ⟨h0,.inr ?_⟩
   refine retE ?_
   exact (show n.tmod s = 0 ↔ spanV f t s n from ⟨fun e=>.inr ⟨h0,h1,h2,e⟩,fun e=>e.elim (fun e=>absurd e.1 h0) (fun e=>e.2.2.2)⟩)
  ·refine retE ?_
   exact (show ¬ spanV f t s n from fun e=>e.elim (fun e=>h0 e.1) (fun e=>h2 e.2.2.1))
 ·refine retE ?_
  exact (show ¬ spanV f t s n from fun e=>e.elim (fun e=>h0 e.1) (fun e=>h1 e.2.1))
theorem may_pure (n : Int) (ok : Prop) : PureF gT 153 [.int .i64 n,.bool ok] (.bool (n = 0 \/ (n = 1 /\ ok))):=by
 refine Spec.enter gTok P153 100 Tryz.func153 rfl (by kernel_rfl) ?_
 refine And.intro (fun h=>?_) (fun h=>And.intro (fun h1=>?_) (fun h1=>?_))
 ·exact retE (show n = 0 \/ (n = 1 /\ ok) from .inl h)
 ·exact retE (show ok ↔ (n = 0 \/ (n = 1 /\ ok)) from ⟨fun k=>.inr ⟨h1,k⟩,fun k=>k.elim (fun e=>absurd e h) (fun e=>e.2)⟩)
 ·exact retE (show ¬ (n = 0 \/ (n = 1 /\ ok)) from fun k=>k.elim h (fun e=>h1 e.1))
end Go.Proofs.YtnbngokbamifbaaGreatDoor.Pw
namespace Go.Proofs.YtnbngokbamifbaaGreatDoor.Pw
open Go Go.RowKit
def I64 (x : Int) : Prop:=-9223372036854775808 <= x /\ x <= 9223372036854775807
theorem immword_pure (n : Int) (h : I64 n) : PureF gT 181 [.int .i64 n] (.tup [.int .u32 (Rm.wordX n),.int .i64 (Rm.wordE n)]) :=
 PureF.of_at (entersT Tryz.func181 rfl (by kernel_rfl)) fun I β w vals hM hA=>by
  obtain ⟨v,rfl,h1⟩:=isL1 hA
  simp only [PV.Is] at h1
  subst h1
  refine ⟨.tuple #[.int .u32 (Rm.wordX n),.int .i64 (Rm.wordE n)],is_tup (isLc (is_int ..) (isLc (is_int ..) isLn)),fun _ _ _=>is_tup (isLc (is_int ..) (isLc (is_int ..) isLn)),?_⟩
  refine (word_any n w (facOf hM) h.1 h.2).mono ?_
  rintro e w' ⟨rfl,rfl⟩
  exact ⟨rfl,Below.refl _ _⟩
def barrelV (k b : Int) : Prop:=(k = 0 /\ 0 <= b /\ b < 32) \/ ((k = 1 \/ k = 2) /\ 1 <= b /\ b <= 32) \/ (k = 3 /\ 1 <= b /\ b < 32)
set_option maxRecDepth 100000 in
theorem barrel_pure (k b : Int) : PureF gT 190 [.int .i64 k,.int .i64 b] (.bool (barrelV k b)):=by
 refine Spec.enter gTok P190 100 Tryz.func190 rfl (by kernel_rfl) ?_
 repeat' ((conv=>whnf); first | (refine (And.intro (fun _=>?_) (fun _=>?_) : (_ -> _) /\ (_ -> _)) <;> (first | (exfalso; first | contradiction | omega) | skip)) | refine Or.inl (And.intro (by first | exact inR_i64 (by omega) | exact inR_u32 (by omega) | exact inR_u64 (by omega) | exact inR_u8 (by omega)) ?_) | (refine And.intro (show (_ : Int) ≠ 0 by omega) (Or.inl (And.intro (show (0 : Int) <= _ by omega) (And.intro (show (0 : Int) < _ by omega) ?_)))) | (refine And.intro (show (_ : Int) ≠ 0 by omega) (Or.inl (And.intro (show (0 : Int) <= _ by omega) (And.intro (by first | exact (show (_ : Int) <= 9223372036854775807 by omega) | exact (show (_ : Int) <= 4294967295 by omega)) (And.intro (show (0 : Int) < _ by omega) ?_))))) | (refine retE ?_; (show _ ↔ barrelV k b); unfold barrelV; omega) | (refine retE ?_; (show ¬ barrelV k b); unfold barrelV; omega) | (intro _))
def shiftV (i : IN) (r : RU) : Prop:=(r.kind = true /\ barrelV i.kind i.by_) \/ (¬ r.kind = true /\ i.kind = 0 /\ spanV r.b0 r.b1 r.b2 i.by_)
set_option maxHeartbeats 4000000 in
set_option maxRecDepth 100000 in
theorem shift_pure (i : IN) (r : RU) : PureF gT 154 [inP i,ruP r] (.bool (shiftV i r)):=by
 refine Spec.enter gTok P154 100 Tryz.func154 rfl (by kernel_rfl) ?_
 refine And.intro (fun h=>?_) (fun h=>?_)
 ·refine ⟨[],no_rl,(barrel_pure i.kind i.by_).use (by repeat' first|exact trivial|exact rfl|exact Iff.rfl|refine And.intro ?_ ?_) rfl rfl ?_⟩
  refine retE ?_
  exact (show barrelV i.kind i.by_ ↔ shiftV i r from ⟨fun k=>.inl ⟨h,k⟩,fun k=>k.elim (fun e=>e.2) (fun e=>absurd h e.1)⟩)
 ·refine And.intro (fun h1=>?_) (fun h1=>?_)
  ·refine ⟨[],no_rl,(span_pure r.b0 r.b1 r.b2 i.by_).use (by repeat' first|exact trivial|exact rfl|exact Iff.rfl|refine And.intro ?_ ?_) rfl rfl ?_⟩
   refine retE ?_
   exact (show spanV r.b0 r.b1 r.b2 i.by_ ↔ shiftV i r from ⟨fun k=>.inr ⟨h,h1,k⟩,fun k=>k.elim (fun e=>absurd e.1 h) (fun e=>e.2.2)⟩)
  ·refine retE ?_
   exact (show ¬ shiftV i r from fun k=>k.elim (fun e=>h e.1) (fun e=>h1 e.2.1))
def listedV (i : IN) (r : RU) : Prop:=(r.regs = 0 /\ i.regs = 0) \/ (¬ r.regs = 0 /\ 0 < i.regs /\ bits .andNot .i64 i.regs r.regs = 0)
set_option maxHeartbeats 4000000 in
set_option maxRecDepth 100000 in
theorem listed_pure (i : IN) (r : RU) : PureF gT 151 [inP i,ruP r] (.bool (listedV i r)):=by
 refine Spec.enter gTok P151 100 Tryz.func151 rfl (by kernel_rfl) ?_
 refine And.intro (fun h=>?_) (fun h=>?_)
 ·refine retE ?_
  exact (show i.regs = 0 ↔ listedV i r from ⟨fun k=>.inl ⟨h,k⟩,fun k=>k.elim (fun e=>e.2) (fun e=>absurd h e.1)⟩)
 ·refine And.intro (fun h1=>?_) (fun h1=>?_)
  ·refine retE ?_
   exact (show bits .andNot .i64 i.regs r.regs = 0 ↔ listedV i r from ⟨fun k=>.inr ⟨h,h1,k⟩,fun k=>k.elim (fun e=>absurd e.1 h) (fun e=>e.2.2)⟩)
  ·refine retE ?_
   exact (show ¬ listedV i r from fun k=>k.elim (fun e=>h e.1) (fun e=>h1 e.2.1))
def apartV (i : IN) : Prop:=(i.form = 1 -> i.imm < 32) /\ (i.form = 2 \/ i.form = 3 -> 0 < i.imm) /\ (i.form = 29 -> ¬ (0 <= i.rd /\ i.rd < 8) \/ ¬ (0 <= i.rm /\ i.rm < 8)) /\ (i.form = 95 \/ i.form = 96 -> i.rd ≠ i.ra) /\ (shapeV i.form = 18 \/ shapeV i.form = 19 \/ shapeV i.form = 20 -> Rm.wordE i.imm = 0)
theorem shape_1 : shapeV 1 = 1 /\ shapeV 2 = 1 /\ shapeV 3 = 1 /\ shapeV 29 = 6 /\ shapeV 95 = 31 /\ shapeV 96 = 31:=by decide
set_option maxHeartbeats 8000000 in
set_option maxRecDepth 100000 in
theorem apart_pure (i : IN) (hi : I64 i.imm) : PureF gT 155 [inP i] (.bool (apartV i)):=by
 obtain ⟨s1,s2,s3,s29,s95,s96⟩:=shape_1
 refine Spec.enter gTok P155 100 Tryz.func155 rfl (by kernel_rfl) ?_
 have e : apartV i ↔ ((i.form = 1 -> i.imm < 32) /\ (i.form = 2 \/ i.form = 3 -> 0 < i.imm) /\ (i.form = 29 -> ¬ (0 <= i.rd /\ i.rd < 8) \/ ¬ (0 <= i.rm /\ i.rm < 8)) /\ (i.form = 95 \/ i.form = 96 -> i.rd ≠ i.ra) /\ (shapeV i.form = 18 \/ shapeV i.form = 19 \/ shapeV i.form = 20 -> Rm.wordE i.imm = 0)):=Iff.rfl
 have f1 : i.form = 1 -> shapeV i.form = 1:=fun h=>by rw [h]; exact s1
 have f2 : i.form = 2 -> shapeV i.form = 1:=fun h=>by rw [h]; exact s2
 have f3 : i.form = 3 -> shapeV i.form = 1:=fun h=>by rw [h]; exact s3
 have f29 : i.form = 29 -> shapeV i.form = 6:=fun h=>by rw [h]; exact s29
 have f95 : i.form = 95 -> shapeV i.form = 31:=fun h=>by rw [h]; exact s95
 have f96 : i.form = 96 -> shapeV i.form = 31:=fun h=>by rw [h]; exact s96
 clear s1 s2 s3 s29 s95 s96
 repeat' ((conv=>whnf); first | (refine (And.intro (fun _=>?_) (fun _=>?_) : (_ -> _) /\ (_ -> _)) <;> (first | (exfalso; first | contradiction | omega) | skip)) | refine Or.inl (And.intro (by first | exact inR_i64 (by omega) | exact inR_u32 (by omega) | exact inR_u64 (by omega) | exact inR_u8 (by omega)) ?_) | (refine And.intro (show (_ : Int) ≠ 0 by omega) (Or.inl (And.intro (show (0 : Int) <= _ by omega) (And.intro (show (0 : Int) < _ by omega) ?_)))) | (refine And.intro (show (_ : Int) ≠ 0 by omega) (Or.inl (And.intro (show (0 : Int) <= _ by omega) (And.intro (by first | exact (show (_ : Int) <= 9223372036854775807 by omega) | exact (show (_ : Int) <= 4294967295 by omega)) (And.intro (show (0 : Int) < _ by omega) ?_))))) | (refine Exists.intro [] (And.intro no_rl ((low_pure' _).use (by repeat' first|exact trivial|exact rfl|exact Iff.rfl|refine And.intro ?_ ?_) rfl rfl ?_))) | (refine Exists.intro [] (And.intro no_rl ((shape_pure i.form).use (by repeat' first|exact trivial|exact rfl|exact Iff.rfl|refine And.intro ?_ ?_) rfl rfl ?_))) | (refine Exists.intro [] (And.intro no_rl ((immword_pure i.imm hi).use (by repeat' first|exact trivial|exact rfl|exact Iff.rfl|refine And.intro ?_ ?_) rfl rfl ?_))) | (refine retE ?_; (show apartV i); rw [e]; clear e; omega) | (refine retE ?_; (show _ ↔ apartV i); rw [e]; clear e; omega) | (refine retE ?_; (show ¬ apartV i); rw [e]; clear e; omega) | (intro _))
def rightR (i : IN) (r : RU) : Prop:=(1 <= i.form /\ i.form <= 100) /\ hasV r.rd i.rd /\ hasV r.rn i.rn /\ hasV r.rm i.rm /\ hasV r.ra i.ra /\ listedV i r /\ (i.cond = 0 \/ (r.cond = true /\ 0 < i.cond /\ i.cond <= 13)) /\ spanV r.i0 r.i1 r.i2 i.imm /\ (i.set = 0 \/ (i.set = 1 /\ r.set = true)) /\ shiftV i r /\ apartV i
def rightV (i : IN) : Prop:=rightR i (ruW (shapeV i.form))
set_option maxHeartbeats 16000000 in
set_option maxRecDepth 100000 in
theorem right_pure (i : IN) (hi : I64 i.imm) : PureF gT 99 [inP i] (.bool (rightV i)):=by
 refine Spec.enter gTok P99 100 Tryz.func99 rfl (by kernel_rfl) ?_
 refine ⟨[],no_rl,(form_is i.form).use (by repeat' first|exact trivial|exact rfl|exact Iff.rfl|refine And.intro ?_ ?_) rfl rfl ?_⟩
 refine And.intro (fun h=>?_) (fun h=>?_)
 ·refine retE ?_
  exact (show ¬ rightV i from fun k=>h k.1)
 have hF:=Classical.not_not.1 h
 clear h
 refine ⟨[],no_rl,(shape_pure i.form).use (by repeat' first|exact trivial|exact rfl|exact Iff.rfl|refine And.intro ?_ ?_) rfl rfl ?_⟩
 refine ⟨[],no_rl,(wideRule_pure _).use (by repeat' first|exact trivial|exact rfl|exact Iff.rfl|refine And.intro ?_ ?_) rfl rfl ?_⟩
 unfold rightV
 generalize ruW (shapeV i.form) = r
 repeat' ((conv=>whnf); first | (refine (And.intro (fun _=>?_) (fun _=>?_) : (_ -> _) /\ (_ -> _)) <;> (first | (exfalso; first | contradiction | omega) | skip)) | refine Or.inl (And.intro (by first | exact inR_i64 (by omega) | exact inR_u32 (by omega) | exact inR_u64 (by omega) | exact inR_u8 (by omega)) ?_) | (refine And.intro (show (_ : Int) ≠ 0 by omega) (Or.inl (And.intro (show (0 : Int) <= _ by omega) (And.intro (show (0 : Int) < _ by omega) ?_)))) | (refine And.intro (show (_ : Int) ≠ 0 by omega) (Or.inl (And.intro (show (0 : Int) <= _ by omega) (And.intro (by first | exact (show (_ : Int) <= 9223372036854775807 by omega) | exact (show (_ : Int) <= 4294967295 by omega)) (And.intro (show (0 : Int) < _ by omega) ?_))))) | (refine Exists.intro [] (And.intro no_rl ((has_pure _ _).use (by repeat' first|exact trivial|exact rfl|exact Iff.rfl|refine And.intro ?_ ?_) rfl rfl ?_))) | (refine Exists.intro [] (And.intro no_rl ((listed_pure i r).use (by repeat' first|exact trivial|exact rfl|exact Iff.rfl|refine And.intro ?_ ?_) rfl rfl ?_))) | (refine Exists.intro [] (And.intro no_rl ((span_pure _ _ _ _).use (by repeat' first|exact trivial|exact rfl|exact Iff.rfl|refine And.intro ?_ ?_) rfl rfl ?_))) | (refine Exists.intro [] (And.intro no_rl ((may_pure _ _).use (by repeat' first|exact trivial|exact rfl|exact Iff.rfl|refine And.intro ?_ ?_) rfl rfl ?_))) | (refine Exists.intro [] (And.intro no_rl ((shift_pure i r).use (by repeat' first|exact trivial|exact rfl|exact Iff.rfl|refine And.intro ?_ ?_) rfl rfl ?_))) | (refine Exists.intro [] (And.intro no_rl ((apart_pure i hi).use (by repeat' first|exact trivial|exact rfl|exact Iff.rfl|refine And.intro ?_ ?_) rfl rfl ?_))) | (refine retE ?_; (show apartV i ↔ rightR i r); (exact ⟨fun k=>⟨hF,by assumption,by assumption,by assumption,by assumption,by assumption,by first | exact Or.inl (by assumption) | exact Or.inr ⟨by assumption,by assumption,by assumption⟩,by assumption,by assumption,by assumption,k⟩,fun k=>k.2.2.2.2.2.2.2.2.2.2⟩)) | (refine retE ?_; (show ¬ rightR i r); (rintro ⟨a0,a1,a2,a3,a4,a5,a6,a7,a8,a9,a10⟩; first | contradiction | (rcases a6 with a6 | ⟨b1,b2,b3⟩ <;> first | contradiction | omega))) | (intro _))
end Go.Proofs.YtnbngokbamifbaaGreatDoor.Pw
namespace Go.Proofs.YtnbngokbamifbaaGreatDoor.Pw
open Go Go.RowKit
def cutV (x : Int) (l w : Nat) : Int:=x / 2 ^ l % 2 ^ w
theorem and_mask (x : Int) (w : Nat) (h0 : 0 <= x) (h1 : x <= 4294967295) (hw : w <= 31) : bits .and .u32 x (2 ^ w - 1) = x % 2 ^ w:=by
 have hp : (2 : Int) ^ w <= 2 ^ 31:=by
  have:=Nat.pow_le_pow_right (n:=2) (by omega) hw
  exact_mod_cast this
 have hp0 : (1 : Int) <= 2 ^ w:=by
  have:=Nat.one_le_two_pow (n:=w)
  exact_mod_cast this
 rw [u32_and x (2 ^ w - 1) h0 (by omega) (by omega) (by omega)]
 have e : x.toNat &&& ((2 : Int) ^ w - 1).toNat = x.toNat % 2 ^ w:=by
  have : ((2 : Int) ^ w - 1).toNat = 2 ^ w - 1:=by
   have e2 : ((2 ^ w : Nat) : Int) = (2 : Int) ^ w:=by norm_cast
   omega
  rw [this]
  exact Nat.and_two_pow_sub_one_eq_mod x.toNat w
 rw [e]
 have : ((x.toNat % 2 ^ w : Nat) : Int) = (x.toNat : Int) % ((2 ^ w : Nat) : Int):=by norm_cast
 rw [this,Int.toNat_of_nonneg h0]
 norm_cast
theorem pow2_u32 (n : Nat) (h : n <= 32) : Ev.pow2 .u32 (n : Int) = 2 ^ n:=by
 unfold Ev.pow2
 rw [Int.toNat_natCast,show min n (IntKind.bits .u32) = n from Nat.min_eq_left h]
 norm_cast
theorem pow_cast (w : Nat) : ((2 ^ w : Nat) : Int) = (2 : Int) ^ w:=by norm_cast
theorem pow_bd (w : Nat) (hw : w <= 31) : (1 : Int) <= 2 ^ w /\ (2 : Int) ^ w <= 2147483648:=by
 have h1:=Nat.one_le_two_pow (n:=w)
 have h2 : (2 ^ w : Nat) <= 2147483648:=Nat.le_trans (Nat.pow_le_pow_right (n:=2) (by omega) hw) (by decide)
 have e:=pow_cast w
 omega
theorem div_bd (x p : Int) (h0 : 0 <= x) (h1 : x <= 4294967295) (hp : 1 <= p) : 0 <= x / p /\ x / p <= 4294967295 :=
 ⟨Int.ediv_nonneg h0 (by omega),Int.le_trans (Int.ediv_le_self _ h0) h1⟩
theorem cut_pure (x : Int) (l w : Nat) (hx : 0 <= x /\ x <= 4294967295) (hw : 1 <= w /\ w <= 31) (hl : l <= 31) : PureF gT 195 [.int .u32 x,.int .i64 ((l : Int) + w - 1),.int .i64 l] (.int .u32 (cutV x l w)):=by
 have p1:=pow2_u32 l (by omega)
 have p2:=pow2_u32 w (by omega)
 have b1:=pow_bd l hl
 have b2:=pow_bd w hw.2
 have d:=div_bd x (2 ^ l) hx.1 hx.2 b1.1
 have e : ((l : Int) + w - 1) - l + 1 = w:=by omega
 refine Spec.enter gTok P195 100 Tryz.func195 rfl (by kernel_rfl) ?_
 refine ⟨by omega,.inl ⟨inR_i64 (by omega),.inl ⟨inR_i64 (by omega),?_⟩⟩⟩
 refine ⟨by omega,.inl ⟨inR_u32 (show 0 <= 1 * Ev.pow2 .u32 (((l : Int) + w - 1) - l + 1) /\ 1 * Ev.pow2 .u32 (((l : Int) + w - 1) - l + 1) <= 4294967295 by rw [e,p2]; omega),?_⟩⟩
 refine .inl ⟨inR_u32 (show 0 <= 1 * Ev.pow2 .u32 (((l : Int) + w - 1) - l + 1) - 1 /\ 1 * Ev.pow2 .u32 (((l : Int) + w - 1) - l + 1) - 1 <= 4294967295 by rw [e,p2]; omega),?_⟩
 refine retE ?_
 show bits .and .u32 (x / Ev.pow2 .u32 l) (1 * Ev.pow2 .u32 (((l : Int) + w - 1) - l + 1) - 1) = cutV x l w
 rw [e,p1,p2,Int.one_mul,and_mask _ w d.1 d.2 hw.2]; rfl
end Go.Proofs.YtnbngokbamifbaaGreatDoor.Pw
namespace Go.Proofs.YtnbngokbamifbaaGreatDoor.Pw
open Go Go.RowKit
theorem pow_bd62 (w : Nat) (hw : w <= 62) : (1 : Int) <= 2 ^ w /\ (2 : Int) ^ w <= 4611686018427387904:=by
 have h1:=Nat.one_le_two_pow (n:=w)
 have h2 : (2 ^ w : Nat) <= 4611686018427387904:=Nat.le_trans (Nat.pow_le_pow_right (n:=2) (by omega) hw) (by decide)
 have e:=pow_cast w
 omega
def bitsV (n : Int) (l w : Nat) : Int:=(if n < 0 then n + 1099511627776 else n) / 2 ^ l % 2 ^ w
end Go.Proofs.YtnbngokbamifbaaGreatDoor.Pw
namespace Go.Proofs.YtnbngokbamifbaaGreatDoor.Pw
open Go Go.RowKit
def fieldsV (s : Int) : List (Nat × Nat × Nat × Nat) :=
 if s = 1 then [(4,0,6,5),(2,0,3,3),(0,0,0,3)]
 else if s = 2 then [(2,0,6,3),(1,0,3,3),(0,0,0,3)]
 else if s = 3 then [(4,0,6,3),(1,0,3,3),(0,0,0,3)]
 else if s = 4 then [(0,0,8,3),(4,0,0,8)]
 else if s = 5 then [(2,0,3,3),(0,0,0,3)]
 else if s = 6 then [(0,3,7,1),(2,0,3,4),(0,0,0,3)]
 else if s = 7 then [(2,0,3,4)]
 else if s = 8 then [(0,0,8,3),(4,2,0,8)]
 else if s = 9 then [(4,2,6,5),(1,0,3,3),(0,0,0,3)]
 else if s = 10 then [(4,2,0,7)]
 else if s = 11 then [(9,14,8,1),(9,0,0,8)]
 else if s = 12 then [(9,15,8,1),(9,0,0,8)]
 else if s = 14 then [(4,0,0,8)]
 else if s = 15 then [(8,0,8,4),(4,1,0,8)]
 else if s = 16 then [(4,1,0,11)]
 else if s = 17 then [(4,11,26,1),(4,12,16,4),(4,8,12,3),(4,0,0,8),(0,0,8,4)]
 else if s = 18 then [(4,11,26,1),(4,8,12,3),(4,0,0,8),(7,0,20,1),(1,0,16,4),(0,0,8,4)]
 else if s = 19 then [(4,11,26,1),(4,8,12,3),(4,0,0,8),(7,0,20,1),(0,0,8,4)]
 else if s = 20 then [(4,11,26,1),(4,8,12,3),(4,0,0,8),(1,0,16,4)]
 else if s = 21 then [(6,2,12,3),(6,0,6,2),(5,0,4,2),(7,0,20,1),(1,0,16,4),(0,0,8,4),(2,0,0,4)]
 else if s = 22 then [(6,2,12,3),(6,0,6,2),(5,0,4,2),(7,0,20,1),(0,0,8,4),(2,0,0,4)]
 else if s = 23 then [(6,2,12,3),(6,0,6,2),(5,0,4,2),(1,0,16,4),(2,0,0,4)]
 else if s = 24 then [(4,11,26,1),(4,8,12,3),(4,0,0,8),(1,0,16,4),(0,0,8,4)]
 else if s = 25 then [(1,0,16,4),(0,0,12,4),(4,0,0,12)]
 else if s = 26 then [(1,0,16,4),(0,0,12,4),(6,0,4,2),(2,0,0,4)]
 else if s = 27 then [(7,0,20,1),(1,0,16,4),(0,0,8,4),(2,0,0,4)]
 else if s = 28 then [(1,0,16,4),(0,0,8,4),(2,0,0,4)]
 else if s = 29 then [(1,0,16,4),(3,0,12,4),(0,0,8,4),(2,0,0,4)]
 else if s = 30 then [(1,0,16,4),(3,0,12,4),(0,0,8,4),(2,0,0,4)]
 else if s = 31 then [(1,0,16,4),(0,0,12,4),(3,0,8,4),(2,0,0,4)]
 else if s = 32 then [(2,0,16,4),(0,0,8,4),(2,0,0,4)]
 else if s = 33 then [(4,20,26,1),(8,0,22,4),(4,12,16,6),(4,18,13,1),(4,19,11,1),(4,1,0,11)]
 else if s = 34 then [(4,24,26,1),(4,12,16,10),(4,23,13,1),(4,22,11,1),(4,1,0,11)]
 else []
def getV (i : IN) (f : Nat) : Int:=[i.rd,i.rn,i.rm,i.ra,i.imm,i.kind,i.by_,i.set,i.cond,i.regs].getD f 0
end Go.Proofs.YtnbngokbamifbaaGreatDoor.Pw
namespace Go.Proofs.YtnbngokbamifbaaGreatDoor.Pw
open Go Go.RowKit
theorem or_low (a b k : Nat) (h : b < 2 ^ k) : 2 ^ k * a + b = 2 ^ k * a ||| b:=Nat.two_pow_add_eq_or_of_lt h a
def plus (w n at_ b : Nat) : Nat:=w ||| (n % 2 ^ b) <<< at_
end Go.Proofs.YtnbngokbamifbaaGreatDoor.Pw
namespace Go.Proofs.YtnbngokbamifbaaGreatDoor.Pw
open Go Go.RowKit
def fbL : List Int:=[0,2048,4096,6144,6656,7168,7680,8192,10240,12288,14336,16384,16448,16512,16576,16640,16704,16768,16832,16896,16960,17024,17088,17152,17216,17280,17344,17408,17664,17920,18176,18432,20480,22528,24576,26624,36864,38912,43008,45056,45184,46080,48128,48896,48640,53248,57344,4064280576,4072669184,4026531840,4028628992,4030726144,4032823296,4034920448,4043309056,4047503360,4049600512,4053794816,4055891968,4031709184,4033806336,4027584256,4035972864,4044361472,4054847232,3925868544,3927965696,3930062848,3932160000,3934257152,3942645760,3946840064,3948937216,3953131520,3955228672,3931045888,3933143040,3926920960,3935309568,3943698176,3954183936,4060086272,4070572032,4173332480,4174381056,4164943872,4165992448,4194365440,4196462592,4198559744,4200656896,4211142656,4211081216,4211081232,4221566976,4225761280,4222677232,4205899904,4026564608,4026568704]
def fbV (f : Int) : Int:=if 1 <= f /\ f <= 100 then fbL.getD (f - 1).toNat 0 else 0
theorem at_lit {k : IntKind} {l : List Int} {n : Nat} {c : PV} (hc : (l.map (PV.lit k))[n]? = some c) : c = .lit k (l.getD n 0):=by
 rw [List.getElem?_map,Option.map_eq_some_iff] at hc
 obtain ⟨z,hz,rfl⟩:=hc
 rw [List.getD_eq_getElem?_getD,hz]; rfl
end Go.Proofs.YtnbngokbamifbaaGreatDoor.Pw
namespace Go.Proofs.YtnbngokbamifbaaGreatDoor.Pw
open Go Go.RowKit
set_option maxHeartbeats 4000000 in
set_option maxRecDepth 100000 in
theorem bitsOf_pure (f : Int) (hF : 1 <= f /\ f <= 100) : PureF gT 166 [.int .i64 f] (.int .u32 (fbV f)):=by
 refine Spec.enter gTok P166 100 Tryz.func166 rfl (by kernel_rfl) ?_
 refine ⟨by omega,show f < 101 by omega,.inr ⟨rfl,by omega,show 0 + f.toNat * 1 < 101 by omega,fun c hc=>?_⟩⟩
 have hc' : ((0 :: fbL).map (PV.lit .u32))[f.toNat]? = some c:=by
  have e : 0 + f.toNat * 1 = f.toNat:=by omega
  have h0 : ((0 :: fbL).map (PV.lit .u32))[0 + f.toNat * 1]? = some c:=hc
  rwa [e] at h0
 obtain rfl:=at_lit hc'
 refine retE (show (0 :: fbL).getD f.toNat 0 = fbV f from ?_)
 unfold fbV
 rw [if_pos hF,show f.toNat = (f - 1).toNat + 1 by omega]
 rfl
theorem formBits_pure (f : Int) : PureF gT 120 [.int .i64 f] (.int .u32 (fbV f)):=by
 refine Spec.enter gTok P120 100 Tryz.func120 rfl (by kernel_rfl) ?_
 refine ⟨[],no_rl,(form_is f).use (by repeat' first|exact trivial|exact rfl|exact Iff.rfl|refine And.intro ?_ ?_) rfl rfl ?_⟩
 refine And.intro (fun h=>?_) (fun h=>?_)
 ·exact retE (show (0 : Int) = fbV f by unfold fbV; rw [if_neg h])
 refine ⟨[],no_rl,(bitsOf_pure f (Classical.not_not.1 h)).use (by repeat' first|exact trivial|exact rfl|exact Iff.rfl|refine And.intro ?_ ?_) rfl rfl ?_⟩
 exact retE rfl
end Go.Proofs.YtnbngokbamifbaaGreatDoor.Pw
namespace Go.Proofs.YtnbngokbamifbaaGreatDoor.Pw
open Go Go.RowKit
def fdOk (x : Nat × Nat × Nat × Nat) : Prop:=x.1 < 10 /\ x.2.1 <= 40 /\ 1 <= x.2.2.2 /\ x.2.2.1 + x.2.2.2 <= 32
theorem fields_none (s : Int) (h : s < 1 \/ 34 < s) : fieldsV s = []:=by
 unfold fieldsV
 repeat rw [if_neg (by omega)]
def fdB (l : List (Nat × Nat × Nat × Nat)) : Bool:=l.all (fun x=>decide (x.1 < 10 /\ x.2.1 <= 40 /\ 1 <= x.2.2.2 /\ x.2.2.1 + x.2.2.2 <= 32)) && decide (l.length <= 7)
theorem fields_tab : ∀ k : Fin 35,fdB (fieldsV ((k.1 : Nat) : Int)) = true:=by decide
theorem fields_fd (s : Int) : fdB (fieldsV s) = true:=by
 by_cases h : s < 1 \/ 34 < s
 ·rw [fields_none s h]; rfl
 ·have h1:=fields_tab ⟨s.toNat,by omega⟩
  rwa [show (((⟨s.toNat,by omega⟩ : Fin 35).1 : Nat) : Int) = s by simp only []; omega] at h1
theorem fields_all (s : Int) : (fieldsV s).all (fun x=>decide (x.1 < 10 /\ x.2.1 <= 40 /\ 1 <= x.2.2.2 /\ x.2.2.1 + x.2.2.2 <= 32)) = true :=
 ((Bool.and_eq_true ..).mp (fields_fd s)).1
theorem fields_ok (s : Int) : ∀ x ∈ fieldsV s,fdOk x:=fun x hx=>by
 have:=List.all_eq_true.1 (fields_all s) x hx
 exact (of_decide_eq_true (p:=x.1 < 10 /\ x.2.1 <= 40 /\ 1 <= x.2.2.2 /\ x.2.2.1 + x.2.2.2 <= 32) this)
theorem fields_len (s : Int) : (fieldsV s).length <= 7 :=
 of_decide_eq_true ((Bool.and_eq_true ..).mp (fields_fd s)).2
def putF (i : IN) (w : Nat) (x : Nat × Nat × Nat × Nat) : Nat:=plus w (bitsV (getV i x.1) x.2.1 x.2.2.2).toNat x.2.2.1 x.2.2.2
def wordF (i : IN) (l : List (Nat × Nat × Nat × Nat)) : Nat:=l.foldl (putF i) (fbV i.form).toNat
theorem plus_lt (w n a b : Nat) (hw : w < 2 ^ 32) (h : a + b <= 32) : plus w n a b < 2 ^ 32:=by
 unfold plus
 refine Nat.or_lt_two_pow hw ?_
 rw [Nat.shiftLeft_eq]
 have h1 : n % 2 ^ b < 2 ^ b:=Nat.mod_lt _ (Nat.two_pow_pos b)
 calc n % 2 ^ b * 2 ^ a < 2 ^ b * 2 ^ a:=Nat.mul_lt_mul_of_pos_right h1 (Nat.two_pow_pos a)
  _ = 2 ^ (b + a):=(Nat.pow_add ..).symm
  _ <= 2 ^ 32:=Nat.pow_le_pow_right (by omega) (by omega)
theorem bitsV_bd (n : Int) (l w : Nat) : 0 <= bitsV n l w /\ bitsV n l w < 2 ^ w:=by
 have hp : (0 : Int) < 2 ^ w:=by have:=pow_cast w; have:=Nat.two_pow_pos w; omega
 exact ⟨Int.emod_nonneg _ (by omega),Int.emod_lt_of_pos _ hp⟩
theorem bitsV_nat (n l w : Nat) : bitsV n l w = ((n / 2 ^ l % 2 ^ w : Nat) : Int):=by
 unfold bitsV
 rw [if_neg (by omega),← pow_cast,← pow_cast]
 norm_cast
end Go.Proofs.YtnbngokbamifbaaGreatDoor.Pw
namespace Go.Proofs.YtnbngokbamifbaaGreatDoor.Pw
open Go Go.RowKit
def turn1 (s n : Int) (k : Nat) : Int:=n + ((if bitsV n k 1 = s then 1 else 0) - bitsV n k 1) * 2 ^ k
def turnN (n : Int) : Nat -> Int
 | 0=>n
 | k + 1=>turn1 (bitsV n 24 1) (turnN n k) (22 + k)
theorem bit_bd (n : Int) (k : Nat) : bitsV n k 1 = 0 \/ bitsV n k 1 = 1:=by
 have:=bitsV_bd n k 1
 have e : (2 : Int) ^ 1 = 2:=rfl
 omega
theorem turn1_bd (s n : Int) (k : Nat) (hk : k = 22 \/ k = 23) : n - 8388608 <= turn1 s n k /\ turn1 s n k <= n + 8388608:=by
 have hb:=bit_bd n k
 have p : (2 : Int) ^ 22 = 4194304:=by decide
 have q : (2 : Int) ^ 23 = 8388608:=by decide
 unfold turn1
 rcases hk with rfl | rfl <;> rcases hb with h | h <;> rw [h] <;> split <;> omega
theorem turnN_bd (n : Int) (k : Nat) (hk : k <= 2) : n - 16777216 <= turnN n k /\ turnN n k <= n + 16777216:=by
 have h0:=turn1_bd (bitsV n 24 1) (turnN n 0) 22 (.inl rfl)
 have h1:=turn1_bd (bitsV n 24 1) (turnN n 1) 23 (.inr rfl)
 have e0 : turnN n 0 = n:=rfl
 have e1 : turnN n 1 = turn1 (bitsV n 24 1) (turnN n 0) 22:=rfl
 have e2 : turnN n 2 = turn1 (bitsV n 24 1) (turnN n 1) 23:=rfl
 match k,hk with
 | 0,_=>omega
 | 1,_=>omega
 | 2,_=>omega
end Go.Proofs.YtnbngokbamifbaaGreatDoor.Pw
namespace Go.Proofs.YtnbngokbamifbaaGreatDoor.Pw
open Go Go.RowKit
def leastV (n : Int) (w : Nat) : Int:=if bitsV n (w - 1) 1 = 1 then n - 2 ^ w else n
end Go.Proofs.YtnbngokbamifbaaGreatDoor.Pw
namespace Go.Proofs.YtnbngokbamifbaaGreatDoor.Pw
open Go Go.RowKit
def turnI (i : IN) : IN:=if shapeV i.form = 34 then {i with imm:=turnN (bitsV i.imm 0 25) 2} else i
def wordV (i : IN) : Int:=((wordF (turnI i) (fieldsV (shapeV i.form)) : Nat) : Int)
theorem fb_all : fbL.all (fun z=>decide (0 <= z /\ z < 4294967296)) = true:=by decide
theorem fb_bd (f : Int) : 0 <= fbV f /\ fbV f < 4294967296:=by
 unfold fbV
 split
 ·rw [List.getD_eq_getElem?_getD]
  cases h : fbL[(f - 1).toNat]? with
  | none=>exact ⟨Int.le_refl 0,by decide⟩
  | some z=>exact of_decide_eq_true (List.all_eq_true.1 fb_all z (List.mem_of_getElem? h))
 ·omega
theorem foldl_lt (i : IN) (l : List (Nat × Nat × Nat × Nat)) (h : ∀ y ∈ l,fdOk y) : ∀ w,w < 2 ^ 32 -> l.foldl (putF i) w < 2 ^ 32:=by
 induction l with
 | nil=>exact fun w hw=>hw
 | cons y l ih=>exact fun w hw=>ih (fun z hz=>h z (List.mem_cons_of_mem _ hz)) _ (plus_lt w _ _ _ hw (h y List.mem_cons_self).2.2.2)
theorem wordF_lt (i : IN) (l : List (Nat × Nat × Nat × Nat)) (h : ∀ y ∈ l,fdOk y) : wordF i l < 2 ^ 32 :=
 foldl_lt i l h _ (by have:=fb_bd i.form; omega)
end Go.Proofs.YtnbngokbamifbaaGreatDoor.Pw
namespace Go.Proofs.YtnbngokbamifbaaGreatDoor.Pw
open Go Go.RowKit
def vF (i : IN) (x : Nat × Nat × Nat × Nat) : Nat:=(bitsV (getV i x.1) x.2.1 x.2.2.2).toNat
theorem vF_lt (i : IN) (x : Nat × Nat × Nat × Nat) : vF i x < 2 ^ x.2.2.2:=by
 have:=bitsV_bd (getV i x.1) x.2.1 x.2.2.2
 have e:=pow_cast x.2.2.2
 unfold vF; omega
theorem plus_test (w n a b p : Nat) : (plus w n a b).testBit p = (w.testBit p || (decide (a <= p) && decide (p < a + b) && n.testBit (p - a))):=by
 unfold plus
 rw [Nat.testBit_or,Nat.testBit_shiftLeft,Nat.testBit_mod_two_pow]
 congr 1
 by_cases h : a <= p
 ·by_cases h2 : p < a + b
  ·rw [decide_eq_true h2,decide_eq_true (show p - a < b by omega)]; simp [h]
  ·rw [decide_eq_false h2,decide_eq_false (show ¬ p - a < b by omega)]; simp
 ·simp [h]
def inF (p : Nat) (x : Nat × Nat × Nat × Nat) : Bool:=decide (x.2.2.1 <= p) && decide (p < x.2.2.1 + x.2.2.2)
theorem fold_test (i : IN) (p : Nat) : ∀ (l : List (Nat × Nat × Nat × Nat)) (W : Nat),(l.foldl (putF i) W).testBit p = (W.testBit p || l.any fun x=>inF p x && (vF i x).testBit (p - x.2.2.1))
 | [],W=>by simp
 | x :: l,W=>by
  rw [List.foldl_cons,fold_test i p l,List.any_cons,← Bool.or_assoc]
  congr 1
  exact plus_test W (vF i x) x.2.2.1 x.2.2.2 p
def apartB (l : List (Nat × Nat × Nat × Nat)) : Bool:=l.all fun x=>l.all fun y=>decide (x = y) || decide (x.2.2.1 + x.2.2.2 <= y.2.2.1) || decide (y.2.2.1 + y.2.2.2 <= x.2.2.1)
def freeB (W : Nat) (l : List (Nat × Nat × Nat × Nat)) : Bool:=l.all fun x=>decide (W / 2 ^ x.2.2.1 % 2 ^ x.2.2.2 = 0)
theorem apart_tab : ∀ k : Fin 35,apartB (fieldsV ((k.1 : Nat) : Int)) = true:=by decide
theorem fields_apart (s : Int) : apartB (fieldsV s) = true:=by
 by_cases h : s < 1 \/ 34 < s
 ·rw [fields_none s h]; rfl
 ·have h1:=apart_tab ⟨s.toNat,by omega⟩
  rwa [show (((⟨s.toNat,by omega⟩ : Fin 35).1 : Nat) : Int) = s by simp only []; omega] at h1
theorem free_tab : (List.range 101).all (fun k=>freeB (fbV (k : Int)).toNat (fieldsV (shapeV (k : Int)))) = true:=by decide +kernel
theorem fields_free (f : Int) : freeB (fbV f).toNat (fieldsV (shapeV f)) = true:=by
 by_cases h : 1 <= f /\ f <= 100
 ·have h1:=List.all_eq_true.1 free_tab f.toNat (List.mem_range.2 (by omega))
  rwa [show ((f.toNat : Nat) : Int) = f by omega] at h1
 ·unfold shapeV; rw [if_neg h,fields_none 0 (by omega)]; rfl
theorem fold_field (i : IN) {l : List (Nat × Nat × Nat × Nat)} {W : Nat} (ha : apartB l = true) (hf : freeB W l = true) {x : Nat × Nat × Nat × Nat} (hx : x ∈ l) : (l.foldl (putF i) W) / 2 ^ x.2.2.1 % 2 ^ x.2.2.2 = vF i x:=by
 apply Nat.eq_of_testBit_eq
 intro p
 rw [Nat.testBit_mod_two_pow,Nat.testBit_div_two_pow]
 by_cases hp : p < x.2.2.2
 ·rw [decide_eq_true hp,Bool.true_and,fold_test]
  have h0 : W.testBit (p + x.2.2.1) = false:=by
   have h1:=of_decide_eq_true (List.all_eq_true.1 hf x hx)
   have h2 : (W / 2 ^ x.2.2.1 % 2 ^ x.2.2.2).testBit p = false:=by rw [h1]; simp
   rw [Nat.testBit_mod_two_pow,Nat.testBit_div_two_pow,decide_eq_true hp,Bool.true_and] at h2
   exact h2
  rw [h0,Bool.false_or,Bool.eq_iff_iff,List.any_eq_true]
  constructor
  ·rintro ⟨y,hy,hb⟩
   simp only [Bool.and_eq_true,inF,decide_eq_true_eq] at hb
   have h3:=List.all_eq_true.1 (List.all_eq_true.1 ha x hx) y hy
   simp only [Bool.or_eq_true,decide_eq_true_eq] at h3
   rcases h3 with (rfl | h3) | h3
   ·have:=hb.2; rwa [show p + x.2.2.1 - x.2.2.1 = p by omega] at this
   ·omega
   ·omega
  ·intro hb
   refine ⟨x,hx,?_⟩
   simp only [Bool.and_eq_true,inF,decide_eq_true_eq]
   exact ⟨⟨by omega,by omega⟩,by rwa [show p + x.2.2.1 - x.2.2.1 = p by omega]⟩
 ·rw [decide_eq_false hp,Bool.false_and]
  exact (Nat.testBit_lt_two_pow (Nat.lt_of_lt_of_le (vF_lt i x) (Nat.pow_le_pow_right (by decide) (by omega)))).symm
def fxd (l : List (Nat × Nat × Nat × Nat)) (p : Nat) : Bool:=l.all fun x=>!inF p x
theorem fold_fixed (i : IN) {l : List (Nat × Nat × Nat × Nat)} {W p : Nat} (h : fxd l p = true) : (l.foldl (putF i) W).testBit p = W.testBit p:=by
 rw [fold_test]
 have : (l.any fun x=>inF p x && (vF i x).testBit (p - x.2.2.1)) = false:=by
  rw [List.any_eq_false]
  intro x hx
  have:=List.all_eq_true.1 h x hx
  simp only [Bool.not_eq_true'] at this
  rw [this]; simp
 rw [this,Bool.or_false]
def fbN (f : Nat) : Nat:=(fbV (f : Int)).toNat
def fdN (f : Nat) : List (Nat × Nat × Nat × Nat):=fieldsV (shapeV (f : Int))
def sideB (f g : Nat) : Bool:=(fdN f).any fun x=>decide (x.1 < 4) && decide (x.2.1 = 0) && decide (x.2.2.2 = 4) && ([0,1,2,3].all fun k=>fxd (fdN g) (x.2.2.1 + k) && (fbN g).testBit (x.2.2.1 + k))
def pairB (f g : Nat) : Bool:=decide (f = g) || ((List.range 32).any fun p=>fxd (fdN f) p && fxd (fdN g) p && ((fbN f).testBit p != (fbN g).testBit p)) || sideB f g || sideB g f
theorem pairs_narrow : ((List.range 47).all fun f=>(List.range 47).all fun g=>pairB (f + 1) (g + 1)) = true:=by decide +kernel
theorem pairs_wide : ((List.range 53).all fun f=>(List.range 53).all fun g=>pairB (f + 48) (g + 48)) = true:=by decide +kernel
end Go.Proofs.YtnbngokbamifbaaGreatDoor.Pw
namespace Go.Proofs.YtnbngokbamifbaaGreatDoor.Pw
open Go Go.RowKit
theorem has_bd {c r : Int} (h : hasV c r) : 0 <= r /\ r < 15:=by unfold hasV at h; omega
theorem right_regs {i : IN} (h : rightV i) : (0 <= i.rd /\ i.rd < 15) /\ (0 <= i.rn /\ i.rn < 15) /\ (0 <= i.rm /\ i.rm < 15) /\ (0 <= i.ra /\ i.ra < 15):=by
 obtain ⟨_,h1,h2,h3,h4,_⟩:=h
 exact ⟨has_bd h1,has_bd h2,has_bd h3,has_bd h4⟩
theorem turnI_form (i : IN) : (turnI i).form = i.form:=by unfold turnI; split <;> rfl
theorem turnI_reg (i : IN) (f : Nat) (hf : f < 4) : getV (turnI i) f = getV i f:=by
 unfold turnI
 split
 ·match f,hf with
  | 0,_ | 1,_ | 2,_ | 3,_=>rfl
 ·rfl
theorem word_fixed (i : IN) {p : Nat} (h : fxd (fieldsV (shapeV i.form)) p = true) : (wordV i).toNat.testBit p = (fbV i.form).toNat.testBit p:=by
 unfold wordV wordF
 rw [Int.toNat_natCast,fold_fixed _ h,turnI_form]
theorem word_field (i : IN) {x : Nat × Nat × Nat × Nat} (hx : x ∈ fieldsV (shapeV i.form)) : (wordV i).toNat / 2 ^ x.2.2.1 % 2 ^ x.2.2.2 = vF (turnI i) x:=by
 unfold wordV wordF
 rw [Int.toNat_natCast]
 have h:=fields_free i.form
 rw [← turnI_form i] at h
 refine fold_field (turnI i) (fields_apart _) ?_ hx
 rw [turnI_form] at h ⊢
 exact h
theorem ones4 : ∀ v : Fin 16,(v.1.testBit 0 = true /\ v.1.testBit 1 = true /\ v.1.testBit 2 = true /\ v.1.testBit 3 = true) -> v.1 = 15:=by decide
theorem side_no {a b : IN} (ha : rightV a) (fa : a.form = ((a.form.toNat : Nat) : Int)) (fb : b.form = ((b.form.toNat : Nat) : Int)) (h : sideB a.form.toNat b.form.toNat = true) : wordV a ≠ wordV b:=fun e=>by
 obtain ⟨x,hx,h⟩:=List.any_eq_true.1 h
 simp only [Bool.and_eq_true,decide_eq_true_eq] at h
 obtain ⟨⟨⟨h1,h2⟩,h3⟩,h4⟩:=h
 have hx' : x ∈ fieldsV (shapeV a.form):=by rw [fa]; exact hx
 have hf:=word_field a hx'
 have hr : vF (turnI a) x < 15:=by
  unfold vF
  rw [turnI_reg a x.1 h1,h2,h3]
  obtain ⟨r0,r1,r2,r3⟩:=right_regs ha
  have key : ∀ r : Int,0 <= r /\ r < 15 -> (bitsV r 0 4).toNat < 15:=fun r hr=>by
   unfold bitsV; rw [if_neg (by omega)]
   have e0 : (2 : Int) ^ 0 = 1:=rfl
   have e4 : (2 : Int) ^ 4 = 16:=rfl
   rw [e0,e4]; omega
  match x.1,h1 with
  | 0,_=>exact key _ r0
  | 1,_=>exact key _ r1
  | 2,_=>exact key _ r2
  | 3,_=>exact key _ r3
 have hv : ∀ k,k ∈ [0,1,2,3] -> (vF (turnI a) x).testBit k = true:=fun k hk=>by
  have h5:=List.all_eq_true.1 h4 k hk
  simp only [Bool.and_eq_true] at h5
  have hk4 : k < 4:=by simp at hk; omega
  rw [← hf,h3,Nat.testBit_mod_two_pow,Nat.testBit_div_two_pow,decide_eq_true hk4,Bool.true_and,e]
  have h6 : fxd (fieldsV (shapeV b.form)) (x.2.2.1 + k) = true:=by rw [fb]; exact h5.1
  rw [Nat.add_comm,word_fixed b h6]
  have h7:=h5.2
  unfold fbN at h7
  rw [← fb] at h7
  exact h7
 have:=ones4 ⟨vF (turnI a) x,by omega⟩ ⟨hv 0 (by simp),hv 1 (by simp),hv 2 (by simp),hv 3 (by simp)⟩
 simp only [] at this
 omega
theorem pair_no {a b : IN} (ha : rightV a) (hb : rightV b) (h : pairB a.form.toNat b.form.toNat = true) (e : wordV a = wordV b) : a.form = b.form:=by
 have f1:=ha.1
 have f2:=hb.1
 have fa : a.form = ((a.form.toNat : Nat) : Int):=by omega
 have fb : b.form = ((b.form.toNat : Nat) : Int):=by omega
 unfold pairB at h
 simp only [Bool.or_eq_true,decide_eq_true_eq] at h
 rcases h with ((h | h) | h) | h
 ·omega
 ·obtain ⟨p,_,h⟩:=List.any_eq_true.1 h
  simp only [Bool.and_eq_true] at h
  obtain ⟨⟨h1,h2⟩,h3⟩:=h
  have k1:=word_fixed a (p:=p) (by rw [fa]; exact h1)
  have k2:=word_fixed b (p:=p) (by rw [fb]; exact h2)
  unfold fbN at h3
  rw [← fa,← fb,← k1,← k2,e] at h3
  simp at h3
 ·exact absurd e (side_no ha fa fb h)
 ·exact absurd e.symm (side_no hb fb fa h)
theorem once_form {a b : IN} (ha : rightV a) (hb : rightV b) (hw : 48 <= a.form ↔ 48 <= b.form) (e : wordV a = wordV b) : a.form = b.form:=by
 have f1:=ha.1
 have f2:=hb.1
 by_cases h : 48 <= a.form
 ·have h1:=List.all_eq_true.1 (List.all_eq_true.1 pairs_wide (a.form.toNat - 48) (List.mem_range.2 (by omega))) (b.form.toNat - 48) (List.mem_range.2 (by have:=hw.1 h; omega))
  rw [show a.form.toNat - 48 + 48 = a.form.toNat by omega,show b.form.toNat - 48 + 48 = b.form.toNat by have:=hw.1 h; omega] at h1
  exact pair_no ha hb h1 e
 ·have h1:=List.all_eq_true.1 (List.all_eq_true.1 pairs_narrow (a.form.toNat - 1) (List.mem_range.2 (by omega))) (b.form.toNat - 1) (List.mem_range.2 (by omega))
  rw [show a.form.toNat - 1 + 1 = a.form.toNat by omega,show b.form.toNat - 1 + 1 = b.form.toNat by omega] at h1
  exact pair_no ha hb h1 e
end Go.Proofs.YtnbngokbamifbaaGreatDoor.Pw
namespace Go.Proofs.YtnbngokbamifbaaGreatDoor.Pw
open Go Go.RowKit
def xV (s w : Int) (f : Nat) : Int:=((fieldsV s).filter fun x=>decide (x.1 = f)).foldl (fun a x=>a + bitsV w x.2.2.1 x.2.2.2 * 2 ^ x.2.1) 0
def immA (s f x : Int) : Int:=if s = 15 then leastV x 9 else if s = 16 then leastV x 12 else if s = 33 then leastV x 21 else if s = 34 then leastV (turnN x 2) 25 else if s = 1 /\ 1 < f /\ x = 0 then 32 else x
def byA (s k x : Int) : Int:=if 21 <= s /\ s <= 23 /\ x = 0 /\ (k = 1 \/ k = 2) then 32 else x
def rmA (s w x : Int) : Int:=if s = 32 then bitsV w 0 4 else x
def readV (f w : Int) : IN:=⟨f,xV (shapeV f) w 0,xV (shapeV f) w 1,rmA (shapeV f) w (xV (shapeV f) w 2),xV (shapeV f) w 3,immA (shapeV f) f (xV (shapeV f) w 4),xV (shapeV f) w 5,byA (shapeV f) (xV (shapeV f) w 5) (xV (shapeV f) w 6),xV (shapeV f) w 7,xV (shapeV f) w 8,xV (shapeV f) w 9⟩
def xR (s : Int) (i : IN) (f : Nat) : Int:=((fieldsV s).filter fun x=>decide (x.1 = f)).foldl (fun a x=>a + bitsV (getV i x.1) x.2.1 x.2.2.2 * 2 ^ x.2.1) 0
theorem foldl_cong {α β : Type} {f g : β -> α -> β} : ∀ {l : List α} {b : β},(∀ b x,x ∈ l -> f b x = g b x) -> l.foldl f b = l.foldl g b
 | [],_,_=>rfl
 | x :: l,b,h=>by rw [List.foldl_cons,List.foldl_cons,h b x (List.mem_cons_self ..)]; exact foldl_cong fun b y hy=>h b y (List.mem_cons_of_mem _ hy)
theorem vF_int (i : IN) (x : Nat × Nat × Nat × Nat) : ((vF i x : Nat) : Int) = bitsV (getV i x.1) x.2.1 x.2.2.2:=Int.toNat_of_nonneg (bitsV_bd ..).1
theorem word_bits (i : IN) {x : Nat × Nat × Nat × Nat} (hx : x ∈ fieldsV (shapeV i.form)) : bitsV (wordV i) x.2.2.1 x.2.2.2 = bitsV (getV (turnI i) x.1) x.2.1 x.2.2.2:=by
 have h:=word_field i hx
 have e : wordV i = (((wordV i).toNat : Nat) : Int):=by unfold wordV; rw [Int.toNat_natCast]
 rw [e,bitsV_nat,h,vF_int]
theorem xV_word (i : IN) (f : Nat) : xV (shapeV i.form) (wordV i) f = xR (shapeV i.form) (turnI i) f:=by
 unfold xV xR
 refine foldl_cong fun b x hx=>?_
 rw [word_bits i (List.mem_filter.1 hx).1]
theorem shape_bd {f : Int} (h : 1 <= f /\ f <= 100) : 1 <= shapeV f /\ shapeV f <= 34:=by
 have h1 : ((List.range 100).all fun k=>decide (1 <= shapeV ((k + 1 : Nat) : Int) /\ shapeV ((k + 1 : Nat) : Int) <= 34)) = true:=by decide +kernel
 have h2:=of_decide_eq_true (List.all_eq_true.1 h1 (f.toNat - 1) (List.mem_range.2 (by omega)))
 rwa [show (((f.toNat - 1 + 1 : Nat)) : Int) = f by omega] at h2
theorem shape_one {f : Int} (h : 1 <= f /\ f <= 100) : shapeV f = 1 -> f = 1 \/ f = 2 \/ f = 3:=by
 have h1 : ((List.range 100).all fun k=>decide (shapeV ((k + 1 : Nat) : Int) = 1 -> k < 3)) = true:=by decide +kernel
 have h2:=of_decide_eq_true (List.all_eq_true.1 h1 (f.toNat - 1) (List.mem_range.2 (by omega)))
 rw [show (((f.toNat - 1 + 1 : Nat)) : Int) = f by omega] at h2
 intro h3; have:=h2 h3; omega
theorem tm0 {n s : Int} (h : n.tmod s = 0) : n % s = 0:=Int.emod_eq_zero_of_dvd (Int.dvd_of_tmod_eq_zero h)
theorem span_lit {f t s n : Int} (h : spanV f t s n) : (s = 0 /\ n = 0) \/ (s ≠ 0 /\ f <= n /\ n <= t /\ n % s = 0):=h.imp id fun ⟨a,b,c,d⟩=>⟨a,b,c,tm0 d⟩
theorem and_pow' (x k : Nat) : x &&& 2 ^ k = (x / 2 ^ k % 2) * 2 ^ k:=by
 apply Nat.eq_of_testBit_eq
 intro i
 rw [Nat.testBit_and,Nat.testBit_two_pow]
 rcases Nat.mod_two_eq_zero_or_one (x / 2 ^ k) with h | h
 ·rw [h,Nat.zero_mul,Nat.zero_testBit]
  by_cases hi : k = i
  ·subst hi; rw [Nat.testBit_eq_decide_div_mod_eq]; simp [h]
  ·simp [hi]
 ·rw [h,Nat.one_mul,Nat.testBit_two_pow]
  by_cases hi : k = i
  ·subst hi; rw [Nat.testBit_eq_decide_div_mod_eq]; simp [h]
  ·simp [hi]
theorem mask_nat' (k x : Nat) (hk : 8 <= k) : x &&& (2 ^ k ||| (2 ^ 8 - 1)) = (x / 2 ^ k % 2) * 2 ^ k + x % 256:=by
 rw [Nat.and_or_distrib_left,Nat.and_two_pow_sub_one_eq_mod,and_pow']
 have hlt : x % 2 ^ 8 < 2 ^ k:=Nat.lt_of_lt_of_le (Nat.mod_lt _ (by decide)) (Nat.pow_le_pow_right (by decide) hk)
 have:=Nat.two_pow_add_eq_or_of_lt hlt (x / 2 ^ k % 2)
 rw [Nat.mul_comm,← this]
theorem andNot_zero (a m : Nat) (ha : a < 9223372036854775808) (hm : m < 9223372036854775808) (h : bits .andNot .i64 (a : Int) (m : Int) = 0) : a &&& m = a:=by
 have e : ∀ c : Nat,c < 9223372036854775808 -> (BitVec.ofInt 64 (c : Int)).toNat = c:=fun c hc=>by
  rw [BitVec.ofInt_natCast,BitVec.toNat_ofNat]; exact Nat.mod_eq_of_lt (by omega)
 have h1 : IntKind.i64.wrap ((BitVec.ofInt 64 (a : Int) &&& ~~~ BitVec.ofInt 64 (m : Int)).toNat : Int) = 0:=h
 have hlt : (BitVec.ofInt 64 (a : Int) &&& ~~~ BitVec.ofInt 64 (m : Int)).toNat < 9223372036854775808:=by
  rw [BitVec.toNat_and,e a ha]
  exact Nat.lt_of_le_of_lt Nat.and_le_left ha
 rw [IntKind.wrap_i64] at h1
 have h2 : (BitVec.ofInt 64 (a : Int) &&& ~~~ BitVec.ofInt 64 (m : Int)) = 0#64:=BitVec.eq_of_toNat_eq (by rw [BitVec.toNat_ofNat]; omega)
 have h3 : BitVec.ofInt 64 (a : Int) &&& BitVec.ofInt 64 (m : Int) = BitVec.ofInt 64 (a : Int):=by
  apply BitVec.eq_of_getLsbD_eq
  intro i hi
  have h4:=congrArg (fun v=>v.getLsbD i) h2
  simp only [BitVec.getLsbD_and,BitVec.getLsbD_not,BitVec.getLsbD_zero,hi,decide_true,Bool.true_and] at h4
  rw [BitVec.getLsbD_and]
  cases ha : (BitVec.ofInt 64 (a : Int)).getLsbD i <;> cases hb : (BitVec.ofInt 64 (m : Int)).getLsbD i <;> simp_all
 have h5:=congrArg BitVec.toNat h3
 rwa [BitVec.toNat_and,e a ha,e m hm] at h5
set_option maxRecDepth 100000 in
theorem regs_of (k : Nat) (hk : 8 <= k) (hk2 : k <= 15) (r m : Int) (hm : m = 2 ^ k + 255) (h0 : 0 < r) (h1 : r <= 9223372036854775807) (h : bits .andNot .i64 r m = 0) : r / 2 ^ k % 2 * 2 ^ k + r % 256 = r:=by
 have e:=andNot_zero r.toNat (2 ^ k + 255) (by omega) (by have:=Nat.pow_le_pow_right (n:=2) (by omega) hk2; omega) (by
  rw [show ((r.toNat : Nat) : Int) = r by omega,show (((2 ^ k + 255 : Nat)) : Int) = m by rw [hm]; push_cast; rfl]; exact h)
 have e2 : 2 ^ k + 255 = 2 ^ k ||| (2 ^ 8 - 1):=by
  have hlt : 255 < 2 ^ k:=Nat.lt_of_lt_of_le (show 255 < 2 ^ 8 by decide) (Nat.pow_le_pow_right (by decide) hk)
  have:=Nat.two_pow_add_eq_or_of_lt hlt 1
  rwa [Nat.mul_one] at this
 rw [e2,mask_nat' k _ hk] at e
 have e3 : ((r.toNat / 2 ^ k % 2 * 2 ^ k + r.toNat % 256 : Nat) : Int) = ((r.toNat : Nat) : Int):=congrArg _ e
 push_cast at e3
 rw [show ((r.toNat : Nat) : Int) = r by omega] at e3
 exact e3
theorem eights {n : Int} (h : 0 <= n /\ n < 33554432) : ∃ a,0 <= a /\ a < 4194304 /\ (n = a \/ n = 4194304 + a \/ n = 8388608 + a \/ n = 12582912 + a \/ n = 16777216 + a \/ n = 20971520 + a \/ n = 25165824 + a \/ n = 29360128 + a):=⟨n % 4194304,by omega⟩
theorem turn_all (n : Int) (h : 0 <= n /\ n < 33554432) : turnN n 2 = n + ((if n / 4194304 % 2 = n / 16777216 % 2 then 1 else 0) - n / 4194304 % 2) * 4194304 + ((if n / 8388608 % 2 = n / 16777216 % 2 then 1 else 0) - n / 8388608 % 2) * 8388608:=by
 have p22 : (2 : Int) ^ 22 = 4194304:=by decide
 have p23 : (2 : Int) ^ 23 = 8388608:=by decide
 have p24 : (2 : Int) ^ 24 = 16777216:=by decide
 have p1 : (2 : Int) ^ 1 = 2:=by decide
 have b : ∀ m : Int,0 <= m -> ∀ k,bitsV m k 1 = m / 2 ^ k % 2:=fun m hm k=>by unfold bitsV; rw [if_neg (by omega),p1]
 obtain ⟨t,ht⟩ : ∃ t,t = turn1 (bitsV n 24 1) n 22:=⟨_,rfl⟩
 have e : turnN n 2 = turn1 (bitsV n 24 1) t 23:=by rw [ht]; rfl
 unfold turn1 at ht
 rw [b n h.1,b n h.1,p24,p22] at ht
 have ht0 : 0 <= t /\ t < 33554432 /\ t / 8388608 % 2 = n / 8388608 % 2:=by
  obtain ⟨a,a0,a1,h8⟩:=eights h
  rcases h8 with h8 | h8 | h8 | h8 | h8 | h8 | h8 | h8 <;> split at ht <;> omega
 rw [e]
 unfold turn1
 rw [b n h.1,b t ht0.1,p24,p23,ht0.2.2,ht]
theorem turn_bd {n : Int} (h : 0 <= n /\ n < 33554432) : 0 <= turnN n 2 /\ turnN n 2 < 33554432:=by
 rw [turn_all n h]
 obtain ⟨a,a0,a1,h8⟩:=eights h
 rcases h8 with h8 | h8 | h8 | h8 | h8 | h8 | h8 | h8 <;> split <;> split <;> omega
theorem turn_bits {n : Int} (h : 0 <= n /\ n < 33554432) : turnN n 2 / 16777216 = n / 16777216 /\ turnN n 2 % 4194304 = n % 4194304 /\ turnN n 2 / 4194304 % 2 = (if n / 4194304 % 2 = n / 16777216 % 2 then 1 else 0) /\ turnN n 2 / 8388608 % 2 = (if n / 8388608 % 2 = n / 16777216 % 2 then 1 else 0):=by
 rw [turn_all n h]
 obtain ⟨a,a0,a1,h8⟩:=eights h
 rcases h8 with h8 | h8 | h8 | h8 | h8 | h8 | h8 | h8 <;> split <;> split <;> omega
theorem turn_turn {n : Int} (h : 0 <= n /\ n < 33554432) : turnN (turnN n 2) 2 = n:=by
 have c:=turn_bits h
 rw [turn_all _ (turn_bd h),c.1,c.2.2.1,c.2.2.2,turn_all n h]
 clear c
 obtain ⟨a,a0,a1,h8⟩:=eights h
 have e24 : n / 16777216 % 2 = n / 16777216:=by omega
 rw [e24]
 rcases h8 with h8 | h8 | h8 | h8 | h8 | h8 | h8 | h8
 ·have x : n / 4194304 % 2 = 0:=by omega
  have y : n / 8388608 % 2 = 0:=by omega
  have z : n / 16777216 = 0:=by omega
  rw [x,y,z]; simp <;> omega
 ·have x : n / 4194304 % 2 = 1:=by omega
  have y : n / 8388608 % 2 = 0:=by omega
  have z : n / 16777216 = 0:=by omega
  rw [x,y,z]; simp <;> omega
 ·have x : n / 4194304 % 2 = 0:=by omega
  have y : n / 8388608 % 2 = 1:=by omega
  have z : n / 16777216 = 0:=by omega
  rw [x,y,z]; simp <;> omega
 ·have x : n / 4194304 % 2 = 1:=by omega
  have y : n / 8388608 % 2 = 1:=by omega
  have z : n / 16777216 = 0:=by omega
  rw [x,y,z]; simp <;> omega
 ·have x : n / 4194304 % 2 = 0:=by omega
  have y : n / 8388608 % 2 = 0:=by omega
  have z : n / 16777216 = 1:=by omega
  rw [x,y,z]; simp <;> omega
 ·have x : n / 4194304 % 2 = 1:=by omega
  have y : n / 8388608 % 2 = 0:=by omega
  have z : n / 16777216 = 1:=by omega
  rw [x,y,z]; simp <;> omega
 ·have x : n / 4194304 % 2 = 0:=by omega
  have y : n / 8388608 % 2 = 1:=by omega
  have z : n / 16777216 = 1:=by omega
  rw [x,y,z]; simp <;> omega
 ·have x : n / 4194304 % 2 = 1:=by omega
  have y : n / 8388608 % 2 = 1:=by omega
  have z : n / 16777216 = 1:=by omega
  rw [x,y,z]; simp <;> omega
end Go.Proofs.YtnbngokbamifbaaGreatDoor.Pw
namespace Go.Proofs.YtnbngokbamifbaaGreatDoor.Pw
open Go Go.RowKit
theorem turnI_not {i : IN} (h : shapeV i.form ≠ 34) : turnI i = i:=if_neg h
theorem sh34 {i : IN} (h : shapeV i.form = 34) : turnI i = {i with imm:=turnN (bitsV i.imm 0 25) 2}:=if_pos h
theorem in_ext {a b : IN} (h0 : a.form = b.form) (h1 : a.rd = b.rd) (h2 : a.rn = b.rn) (h3 : a.rm = b.rm) (h4 : a.ra = b.ra) (h5 : a.imm = b.imm) (h6 : a.kind = b.kind) (h7 : a.by_ = b.by_) (h8 : a.set = b.set) (h9 : a.cond = b.cond) (h10 : a.regs = b.regs) : a = b:=by
 cases a; cases b; simp_all
def readX (s : Int) (i : IN) : IN:=⟨i.form,xR s i 0,xR s i 1,if s = 32 then bitsV i.rm 0 4 else xR s i 2,xR s i 3,immA s i.form (xR s i 4),xR s i 5,byA s (xR s i 5) (xR s i 6),xR s i 7,xR s i 8,xR s i 9⟩
theorem read_word (i : IN) (h32 : shapeV i.form = 32 -> bitsV (wordV i) 0 4 = bitsV (turnI i).rm 0 4) : readV i.form (wordV i) = {readX (shapeV i.form) (turnI i) with form:=i.form}:=by
 unfold readV readX
 rw [xV_word,xV_word,xV_word,xV_word,xV_word,xV_word,xV_word,xV_word,xV_word,xV_word,turnI_form]
 unfold rmA
 by_cases h : shapeV i.form = 32
 ·rw [if_pos h,if_pos h,h32 h]
 ·rw [if_neg h,if_neg h]
end Go.Proofs.YtnbngokbamifbaaGreatDoor.Pw

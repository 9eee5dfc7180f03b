/- What this claim is proved with: no condition. -/
import Derived.Test.YtnbhdacpogplgaaGreatDoorPv6
import Derived.Test.YtnbhdacpogplgaaGreatDoorPv7
import Derived.Test.YtnbhdacpogplgaaGreatDoorPvImmD
import Derived.Laws.BitsLemmas
set_option maxRecDepth 100000
set_option maxHeartbeats 16000000
set_option linter.unusedVariables false
set_option linter.unusedSimpArgs false
namespace Go.Proofs.YtnbhdacpogplgaaGreatDoor.Pw
open Go Go.RowKit
theorem Ab {f:FuncId} {fn:Func} {c:Code} (hf:Tryz.prog.funcs[f]?=some fn) (hb:fn.body=some c) (hn:(fn.name == "runtime.NumGoroutine")=false):Ev.ke gT.cx.P f:=Ev.lB hf hb hn
theorem Uw {w:World} {I:Nat->Prop} {β:ax}:bp w I [] β []:=by simp only[bp]
theorem Ac {w:World} {I:Nat->Prop} {β:ax} {x:PV} {v:Value} {xs:List PV} {vs:List Value} (h:x.Is w I β v) (h':bp w I xs β vs):bp w I (x::xs) β (v::vs):=by simp only[bp]; exact⟨h,h'⟩
theorem sW {w:World} {I:Nat->Prop} {β:ax} (k:IntKind) (n:Int):(PV.int k n).Is w I β (.int k n):=by simp only[PV.Is]
theorem L5 {w:World} {I:Nat->Prop} {β:ax} {xs:List PV} {vs:Array Value} (h:bp w I xs β vs.toList):(PV.tup xs).Is w I β (.tuple vs):=by simp only[PV.Is]; exact⟨vs,rfl,h⟩
theorem isL1 {w:World} {I:Nat->Prop} {β:ax} {x:PV} {a_:List Value} (h:bp w I [x] β a_):∃ v,a_ = [v]/\x.Is w I β v:=by
 match a_,h with
 | [v],h=>exact⟨v,rfl,by simpa only [bp,and_true] using h⟩
theorem Qg {G:Gx} {I:Nat->Prop} {w:World} (hM:d_ G I w) {g:Nat} {k:IntKind} {l:List Int} (h:(g,l.map (PV.lit k))∈G.pX):∃ ty fr,w.heap[g]?=some (.cells (l.map (Value.int k)).toArray ty fr):=by
 obtain⟨arr,ty,fr,h1,h2⟩:=hM.row _ _ h
 obtain⟨_,h3⟩:=hM.vn _ _ h
 refine⟨ty,fr,?_⟩
 rw[h1]
 congr 2
 refine Array.ext' (List.ext_getElem? fun i=>?_)
 rw[List.length_map] at h2
 by_cases hi:i < l.length
 ·obtain⟨v,hv,hiv,_⟩:=h3.get (i:=i) (c:=PV.lit k l[i]) (by simp[hi])
  rw[Ev.dZ h1,Nat.zero_add] at hv
  simp only[PV.Is] at hiv
  subst hiv
  simp only[Array.getElem?_toList,hv,List.getElem?_map,List.getElem?_eq_getElem hi,Option.map_some]
 ·rw[List.getElem?_eq_none (by simp; omega),List.getElem?_eq_none (by simp; omega)]
theorem aj.of_at {G:Gx} {f:FuncId} {args:List PV} {r:PV} (he:Ev.ke G.cx.P f)
  (h:∀ I β w a_,d_ G I w->bp w I args β a_->∃ v,r.Is w I no v/\(∀ w' I' aM,r.Is w' I' aM v)/\Calls G.cx.P f a_.toArray w fun e w'=>e = .returned v/\Below w.heap.size w w'):aj G f args r:=by
 refine Spec.intro he fun I β w a_ hH hM hA=>?_
 obtain⟨v,_,hr,hc⟩:=h I β w a_ hM hA
 refine hc.mono fun e w' ⟨he,hB⟩=>⟨v,r,[],I,β,he,rfl,hr _ _ _,hH.LB _ _,hM.below hB,⟨hB.os,hB.tape,hB.output,hB.size,fun g hg _=>hB.block g hg,fun g _ h=>h,fun _ h=>h,fun _ _ h=>.inl h⟩,Nat.le_refl _,fun _ _ _=>rfl⟩
theorem wr1:IntKind.i64.wrap (0+1)=1:=by decide
structure IN where
 form:Int
 rd:Int
 rn:Int
 rm:Int
 ra:Int
 aC:Int
 kind:Int
 bD:Int
 set:Int
 cond:Int
 aA:Int
def inFs (i:IN):List PV:=[.int .i64 i.form,.int .i64 i.rd,.int .i64 i.rn,.int .i64 i.rm,.int .i64 i.ra,.int .i64 i.aC,.int .i64 i.kind,.int .i64 i.bD,.int .i64 i.set,.int .i64 i.cond,.int .i64 i.aA]
def cZ (i:IN):PV:=.agg (inFs i)
def iZ:IN:=⟨0,0,0,0,0,0,0,0,0,0,0⟩
theorem facOf {I:Nat->Prop} {w:World} (hM:d_ gT I w):Uv w :=
 Qg hM (g:=2) (k:=.u32) (l:=[1,65537,16777472,16843009]) (show (2,Ue)∈gT.pX from List.mem_cons_self)
theorem rk (f:Int):aj gT 54 [.int .i64 f] (.bool (1<=f/\f<=100)):=by
 refine Spec.enter ao P54 100 Tryz.func54 rfl (by kernel_rfl) ?_
 repeat' ((conv=>whnf); first|(refine (And.intro (fun _=>?_) (fun _=>?_):(_->_)/\(_->_))<;>(first|(exfalso; first|contradiction|omega)|skip))|refine Or.inl (And.intro (by first|exact aG (by omega)|exact ai (by omega)|exact cL (by omega)|exact gJ (by omega)) ?_)|(refine And.intro (show (_:Int)≠0 by omega) (Or.inl (And.intro (show (0:Int)<=_ by omega) (And.intro (show (0:Int) < _ by omega) ?_))))|(refine And.intro (show (_:Int)≠0 by omega) (Or.inl (And.intro (show (0:Int)<=_ by omega) (And.intro (by first|exact (show (_:Int)<=9223372036854775807 by omega)|exact (show (_:Int)<=4294967295 by omega)) (And.intro (show (0:Int) < _ by omega) ?_)))))|(refine al ?_; show _↔_; omega)|(refine al ?_; show ¬ _; omega)|(intro _))
theorem sX (f:Int):aj gT 49 [.int .i64 f] (.bool (48<=f/\f<=100)):=by
 refine Spec.enter ao P49 100 Tryz.func49 rfl (by kernel_rfl) ?_
 refine (rk f).u ?_
 repeat' ((conv=>whnf); first|(refine (And.intro (fun _=>?_) (fun _=>?_):(_->_)/\(_->_))<;>(first|(exfalso; first|contradiction|omega)|skip))|refine Or.inl (And.intro (by first|exact aG (by omega)|exact ai (by omega)|exact cL (by omega)|exact gJ (by omega)) ?_)|(refine And.intro (show (_:Int)≠0 by omega) (Or.inl (And.intro (show (0:Int)<=_ by omega) (And.intro (show (0:Int) < _ by omega) ?_))))|(refine And.intro (show (_:Int)≠0 by omega) (Or.inl (And.intro (show (0:Int)<=_ by omega) (And.intro (by first|exact (show (_:Int)<=9223372036854775807 by omega)|exact (show (_:Int)<=4294967295 by omega)) (And.intro (show (0:Int) < _ by omega) ?_)))))|(refine al ?_; show _↔_; omega)|(refine al ?_; show ¬ _; omega)|(intro _))
def shL:List Int:=[0,1,1,1,2,2,3,3,4,4,4,4,5,5,5,5,5,5,5,5,5,5,5,5,5,5,5,5,6,6,6,7,8,2,2,9,9,8,8,8,10,10,11,12,13,14,15,16,17,17,18,18,18,18,18,18,18,18,18,18,19,19,20,20,20,20,21,21,21,21,21,21,21,21,21,21,22,22,23,23,23,23,24,24,25,25,26,26,27,27,27,27,28,29,30,31,31,28,32,33,34]
def af (f:Int):Int:=if 1<=f/\f<=100 then shL.getD f.toNat 0 else 0
theorem L6 {f:Int} (h:1<=f/\f<=100) {c:PV} (hc:(shL.map (PV.lit .i64))[f.toNat]?=some c):c = .lit .i64 (af f):=by
 rw[List.getElem?_map,Option.map_eq_some_iff] at hc
 obtain⟨z,hz,rfl⟩:=hc
 unfold af
 rw[if_pos h,List.getD_eq_getElem?_getD,hz]; rfl
theorem mI (f:Int):aj gT 56 [.int .i64 f] (.int .i64 (af f)):=by
 refine Spec.enter ao P56 100 Tryz.func56 rfl (by kernel_rfl) ?_
 refine (rk f).u ?_
 refine⟨fun h=>?_,fun h=>?_⟩
 ·refine al ?_
  exact (show (0:Int)=af f by unfold af; rw[if_neg h])
 have h':=Classical.not_not.1 h
 refine⟨by omega,show f < 101 by omega,.inr ⟨rfl,by omega,show 0+f.toNat*1 < 101 by omega,fun c hc=>?_⟩⟩
 have A0:(shL.map (PV.lit .i64))[f.toNat]?=some c:=by
  have e:0+f.toNat*1=f.toNat:=by omega
  have h0:(shL.map (PV.lit .i64))[0+f.toNat*1]?=some c:=hc
  rwa [e] at h0
 obtain rfl:=L6 h' A0
 exact al rfl
structure RU where
 rd:Int
 rn:Int
 rm:Int
 ra:Int
 i0:Int
 i1:Int
 i2:Int
 b0:Int
 b1:Int
 b2:Int
 kind:Bool
 set:Bool
 cond:Bool
 aA:Int
def ruF (r:RU):List PV:=[.int .i64 r.rd,.int .i64 r.rn,.int .i64 r.rm,.int .i64 r.ra,.int .i64 r.i0,.int .i64 r.i1,.int .i64 r.i2,.int .i64 r.b0,.int .i64 r.b1,.int .i64 r.b2,.bool (r.kind=true),.bool (r.set=true),.bool (r.cond=true),.int .i64 r.aA]
def ruP (r:RU):PV:=.agg (ruF r)
def nT:RU:=⟨0,0,0,0,0,0,0,0,0,0,false,false,false,0⟩
def ruN (s:Int):RU :=
 if s=1 then { nT with rd:=1,rm:=1,i0:=0,i1:=32,i2:=1 } else if s=2 then { nT with rd:=1,rn:=1,rm:=1 } else if s=3 then { nT with rd:=1,rn:=1,i1:=7,i2:=1 }
 else if s=4 then { nT with rd:=1,i1:=255,i2:=1 } else if s=5 then { nT with rd:=1,rm:=1 } else if s=6 then { nT with rd:=2,rm:=2 } else if s=7 then { nT with rm:=2 }
 else if s=8 then { nT with rd:=1,i1:=1020,i2:=4 } else if s=9 then { nT with rd:=1,rn:=1,i1:=124,i2:=4 } else if s=10 then { nT with i1:=508,i2:=4 } else if s=11 then { nT with aA:=16639 } else if s=12 then { nT with aA:=33023 }
 else if s=13 then nT else if s=14 then { nT with i1:=255,i2:=1 } else if s=15 then { nT with cond:=true,i0:=-256,i1:=254,i2:=2 } else if s=16 then { nT with i0:=-2048,i1:=2046,i2:=2 } else nT
def fg (s:Int):RU :=
 if s=17 then { nT with rd:=3,i1:=65535,i2:=1 } else if s=18 then { nT with rd:=3,rn:=3,i1:=4095,i2:=1,set:=true } else if s=19 then { nT with rd:=3,i1:=4095,i2:=1,set:=true } else if s=20 then { nT with rn:=3,i1:=4095,i2:=1 }
 else if s=21 then { nT with rd:=3,rn:=3,rm:=3,kind:=true,set:=true } else if s=22 then { nT with rd:=3,rm:=3,kind:=true,set:=true } else if s=23 then { nT with rn:=3,rm:=3,kind:=true } else if s=24 then { nT with rd:=3,rn:=3,i1:=4095,i2:=1 }
 else if s=25 then { nT with rd:=3,rn:=2,i1:=4095,i2:=1 } else if s=26 then { nT with rd:=3,rn:=2,rm:=3,b1:=3,b2:=1 } else if s=27 then { nT with rd:=3,rn:=3,rm:=3,set:=true } else if s=28 then { nT with rd:=3,rn:=3,rm:=3 }
 else if s=29\/s=30\/s=31 then { nT with rd:=3,rn:=3,rm:=3,ra:=3 } else if s=32 then { nT with rd:=3,rm:=3 } else if s=33 then { nT with cond:=true,i0:=-1048576,i1:=1048574,i2:=2 } else if s=34 then { nT with i0:=-16777216,i1:=16777214,i2:=2 } else ruN s
theorem uz (s:Int):aj gT 105 [.int .i64 s] (ruP (ruN s)):=by
 refine Spec.enter ao P105 100 Tryz.func105 rfl (by kernel_rfl) ?_
 repeat' ((conv=>whnf); first|(refine (And.intro (fun _=>?_) (fun _=>?_):(_->_)/\(_->_))<;>(first|(exfalso; first|contradiction|omega)|skip))|refine Or.inl (And.intro (by first|exact aG (by omega)|exact ai (by omega)|exact cL (by omega)|exact gJ (by omega)) ?_)|(refine And.intro (show (_:Int)≠0 by omega) (Or.inl (And.intro (show (0:Int)<=_ by omega) (And.intro (show (0:Int) < _ by omega) ?_))))|(refine And.intro (show (_:Int)≠0 by omega) (Or.inl (And.intro (show (0:Int)<=_ by omega) (And.intro (by first|exact (show (_:Int)<=9223372036854775807 by omega)|exact (show (_:Int)<=4294967295 by omega)) (And.intro (show (0:Int) < _ by omega) ?_)))))|(simp only[ruN, *,if_true,if_false,reduceIte,Int.reduceEq]; refine al ?_; (repeat' first|exact trivial|exact rfl|exact (show ¬ (false=true) from Bool.false_ne_true)|refine And.intro ?_ ?_))|(intro _))
theorem xQ (s:Int):aj gT 55 [.int .i64 s] (ruP (fg s)):=by
 refine Spec.enter ao P55 100 Tryz.func55 rfl (by kernel_rfl) ?_
 repeat' ((conv=>whnf); first|(refine (And.intro (fun _=>?_) (fun _=>?_):(_->_)/\(_->_))<;>(first|(exfalso; first|contradiction|omega)|skip))|refine Or.inl (And.intro (by first|exact aG (by omega)|exact ai (by omega)|exact cL (by omega)|exact gJ (by omega)) ?_)|(refine And.intro (show (_:Int)≠0 by omega) (Or.inl (And.intro (show (0:Int)<=_ by omega) (And.intro (show (0:Int) < _ by omega) ?_))))|(refine And.intro (show (_:Int)≠0 by omega) (Or.inl (And.intro (show (0:Int)<=_ by omega) (And.intro (by first|exact (show (_:Int)<=9223372036854775807 by omega)|exact (show (_:Int)<=4294967295 by omega)) (And.intro (show (0:Int) < _ by omega) ?_)))))|(refine Exists.intro [] (And.intro az ((uz s).use (by repeat' first|exact trivial|exact rfl|exact Iff.rfl|exact Or.inl rfl|refine And.intro ?_ ?_) rfl rfl ?_)))|(simp only[fg, *,if_true,if_false,reduceIte,Int.reduceEq,or_true,true_or,or_false,false_or]; refine al ?_; (repeat' first|exact trivial|exact rfl|exact (show ¬ (false=true) from Bool.false_ne_true)|exact Iff.rfl|refine And.intro ?_ ?_))|(intro _))
def mJ (c r:Int):Prop:=(c=1/\0<=r/\r < 8)\/(c=2/\0<=r/\r < 15)\/(c=3/\0<=r/\r < 15/\r≠13)\/(c≠1/\c≠2/\c≠3/\r=0)
theorem yG (r:Int):aj gT 106 [.int .i64 r] (.bool (0<=r/\r < 8)):=by
 refine Spec.enter ao P106 100 Tryz.func106 rfl (by kernel_rfl) ?_
 repeat' ((conv=>whnf); first|(refine (And.intro (fun _=>?_) (fun _=>?_):(_->_)/\(_->_))<;>(first|(exfalso; first|contradiction|omega)|skip))|refine Or.inl (And.intro (by first|exact aG (by omega)|exact ai (by omega)|exact cL (by omega)|exact gJ (by omega)) ?_)|(refine And.intro (show (_:Int)≠0 by omega) (Or.inl (And.intro (show (0:Int)<=_ by omega) (And.intro (show (0:Int) < _ by omega) ?_))))|(refine And.intro (show (_:Int)≠0 by omega) (Or.inl (And.intro (show (0:Int)<=_ by omega) (And.intro (by first|exact (show (_:Int)<=9223372036854775807 by omega)|exact (show (_:Int)<=4294967295 by omega)) (And.intro (show (0:Int) < _ by omega) ?_)))))|(refine al ?_; show _↔_; omega)|(refine al ?_; show ¬ _; omega)|(intro _))
theorem L7 (c r:Int):aj gT 57 [.int .i64 c,.int .i64 r] (.bool (mJ c r)):=by
 refine Spec.enter ao P57 100 Tryz.func57 rfl (by kernel_rfl) ?_
 repeat' ((conv=>whnf); first|(refine (And.intro (fun _=>?_) (fun _=>?_):(_->_)/\(_->_))<;>(first|(exfalso; first|contradiction|omega)|skip))|refine Or.inl (And.intro (by first|exact aG (by omega)|exact ai (by omega)|exact cL (by omega)|exact gJ (by omega)) ?_)|(refine And.intro (show (_:Int)≠0 by omega) (Or.inl (And.intro (show (0:Int)<=_ by omega) (And.intro (show (0:Int) < _ by omega) ?_))))|(refine And.intro (show (_:Int)≠0 by omega) (Or.inl (And.intro (show (0:Int)<=_ by omega) (And.intro (by first|exact (show (_:Int)<=9223372036854775807 by omega)|exact (show (_:Int)<=4294967295 by omega)) (And.intro (show (0:Int) < _ by omega) ?_)))))|(refine Exists.intro [] (And.intro az ((yG r).use (by repeat' first|exact trivial|exact rfl|exact Iff.rfl|exact Or.inl rfl|refine And.intro ?_ ?_) rfl rfl ?_)))|(refine al ?_; (show _↔mJ c r); unfold mJ; omega)|(refine al ?_; (show ¬ mJ c r); unfold mJ; omega)|(intro _))
def lU (f t s n:Int):Prop:=(s=0/\n=0)\/(s≠0/\f<=n/\n<=t/\n.tmod s=0)
theorem yH (f t s n:Int):aj gT 59 [.agg [.int .i64 f,.int .i64 t,.int .i64 s],.int .i64 n] (.bool (lU f t s n)):=by
 refine Spec.enter ao P59 100 Tryz.func59 rfl (by kernel_rfl) ?_
 refine⟨fun h=>?_,fun h=>?_⟩
 ·refine al ?_
  exact (show n=0↔lU f t s n by unfold lU; exact⟨fun e=>.inl ⟨h,e⟩,fun e=>e.elim (fun e=>e.2) (fun e=>absurd h e.1)⟩)
 have h0:s≠0:=h
 refine⟨fun h1=>?_,fun h1=>?_⟩
 ·refine⟨fun h2=>?_,fun h2=>?_⟩
  ·refine⟨h0,.inr ?_⟩
   refine al ?_
   exact (show n.tmod s=0↔lU f t s n from ⟨fun e=>.inr ⟨h0,h1,h2,e⟩,fun e=>e.elim (fun e=>absurd e.1 h0) (fun e=>e.2.2.2)⟩)
  ·refine al ?_
   exact (show ¬ lU f t s n from fun e=>e.elim (fun e=>h0 e.1) (fun e=>h2 e.2.2.1))
 ·refine al ?_
  exact (show ¬ lU f t s n from fun e=>e.elim (fun e=>h0 e.1) (fun e=>h1 e.2.1))
theorem L8 (n:Int) (ok:Prop):aj gT 60 [.int .i64 n,.bool ok] (.bool (n=0\/(n=1/\ok))):=by
 refine Spec.enter ao P60 100 Tryz.func60 rfl (by kernel_rfl) ?_
 refine⟨fun h=>?_,fun h=>And.intro (fun h1=>?_) (fun h1=>?_)⟩
 ·exact al (show n=0\/(n=1/\ok) from .inl h)
 ·exact al (show ok↔(n=0\/(n=1/\ok)) from ⟨fun k=>.inr ⟨h1,k⟩,fun k=>k.elim (fun e=>absurd e h) (fun e=>e.2)⟩)
 ·exact al (show ¬ (n=0\/(n=1/\ok)) from fun k=>k.elim h (fun e=>h1 e.1))
def bX (x:Int):Prop:=-9223372036854775808<=x/\x<=9223372036854775807
theorem Ad (n:Int) (h:bX n):aj gT 108 [.int .i64 n] (.tup [.int .u32 (Rm.nS n),.int .i64 (Rm.lT n)]) :=
 aj.of_at (Ab Tryz.func108 rfl (by kernel_rfl)) fun I β w a_ hM hA=>by
  obtain⟨v,rfl,h1⟩:=isL1 hA
  simp only[PV.Is] at h1
  subst h1
  refine⟨.tuple #[.int .u32 (Rm.nS n),.int .i64 (Rm.lT n)],L5 (Ac (sW ..) (Ac (sW ..) Uw)),fun _ _ _=>L5 (Ac (sW ..) (Ac (sW ..) Uw)),?_⟩
  refine (L4 n w (facOf hM) h.1 h.2).mono ?_
  rintro e w' ⟨rfl,rfl⟩
  exact⟨rfl,Below.refl _ _⟩
def cV (k b:Int):Prop:=(k=0/\0<=b/\b < 32)\/((k=1\/k=2)/\1<=b/\b<=32)\/(k=3/\1<=b/\b < 32)
theorem B_ (k b:Int):aj gT 107 [.int .i64 k,.int .i64 b] (.bool (cV k b)):=by
 refine Spec.enter ao P107 100 Tryz.func107 rfl (by kernel_rfl) ?_
 repeat' ((conv=>whnf); first|(refine (And.intro (fun _=>?_) (fun _=>?_):(_->_)/\(_->_))<;>(first|(exfalso; first|contradiction|omega)|skip))|refine Or.inl (And.intro (by first|exact aG (by omega)|exact ai (by omega)|exact cL (by omega)|exact gJ (by omega)) ?_)|(refine And.intro (show (_:Int)≠0 by omega) (Or.inl (And.intro (show (0:Int)<=_ by omega) (And.intro (show (0:Int) < _ by omega) ?_))))|(refine And.intro (show (_:Int)≠0 by omega) (Or.inl (And.intro (show (0:Int)<=_ by omega) (And.intro (by first|exact (show (_:Int)<=9223372036854775807 by omega)|exact (show (_:Int)<=4294967295 by omega)) (And.intro (show (0:Int) < _ by omega) ?_)))))|(refine al ?_; (show _↔cV k b); unfold cV; omega)|(refine al ?_; (show ¬ cV k b); unfold cV; omega)|(intro _))
def qb (i:IN) (r:RU):Prop:=(r.kind=true/\cV i.kind i.bD)\/(¬ r.kind=true/\i.kind=0/\lU r.b0 r.b1 r.b2 i.bD)
theorem EI (i:IN) (r:RU):aj gT 61 [cZ i,ruP r] (.bool (qb i r)):=by
 refine Spec.enter ao P61 100 Tryz.func61 rfl (by kernel_rfl) ?_
 refine⟨fun h=>?_,fun h=>?_⟩
 ·refine (B_ i.kind i.bD).u ?_
  refine al ?_
  exact (show cV i.kind i.bD↔qb i r from ⟨fun k=>.inl ⟨h,k⟩,fun k=>k.elim (fun e=>e.2) (fun e=>absurd h e.1)⟩)
 ·refine⟨fun h1=>?_,fun h1=>?_⟩
  ·refine (yH r.b0 r.b1 r.b2 i.bD).u ?_
   refine al ?_
   exact (show lU r.b0 r.b1 r.b2 i.bD↔qb i r from ⟨fun k=>.inr ⟨h,h1,k⟩,fun k=>k.elim (fun e=>absurd e.1 h) (fun e=>e.2.2)⟩)
  ·refine al ?_
   exact (show ¬ qb i r from fun k=>k.elim (fun e=>h e.1) (fun e=>h1 e.2.1))
def jV (i:IN) (r:RU):Prop:=(r.aA=0/\i.aA=0)\/(¬ r.aA=0/\0 < i.aA/\bits .andNot .i64 i.aA r.aA=0)
theorem Ca (i:IN) (r:RU):aj gT 58 [cZ i,ruP r] (.bool (jV i r)):=by
 refine Spec.enter ao P58 100 Tryz.func58 rfl (by kernel_rfl) ?_
 refine⟨fun h=>?_,fun h=>?_⟩
 ·refine al ?_
  exact (show i.aA=0↔jV i r from ⟨fun k=>.inl ⟨h,k⟩,fun k=>k.elim (fun e=>e.2) (fun e=>absurd h e.1)⟩)
 ·refine⟨fun h1=>?_,fun h1=>?_⟩
  ·refine al ?_
   exact (show bits .andNot .i64 i.aA r.aA=0↔jV i r from ⟨fun k=>.inr ⟨h,h1,k⟩,fun k=>k.elim (fun e=>absurd e.1 h) (fun e=>e.2.2)⟩)
  ·refine al ?_
   exact (show ¬ jV i r from fun k=>k.elim (fun e=>h e.1) (fun e=>h1 e.2.1))
def qc (i:IN):Prop:=(i.form=1->i.aC < 32)/\(i.form=2\/i.form=3->0 < i.aC)/\(i.form=29->¬ (0<=i.rd/\i.rd < 8)\/¬ (0<=i.rm/\i.rm < 8))/\(i.form=95\/i.form=96->i.rd≠i.ra)/\(af i.form=18\/af i.form=19\/af i.form=20->Rm.lT i.aC=0)
theorem Qh:af 1=1/\af 2=1/\af 3=1/\af 29=6/\af 95=31/\af 96=31:=by decide
theorem EJ (i:IN) (hi:bX i.aC):aj gT 62 [cZ i] (.bool (qc i)):=by
 obtain⟨s1,s2,s3,s29,s95,s96⟩:=Qh
 refine Spec.enter ao P62 100 Tryz.func62 rfl (by kernel_rfl) ?_
 have e:qc i↔((i.form=1->i.aC < 32)/\(i.form=2\/i.form=3->0 < i.aC)/\(i.form=29->¬ (0<=i.rd/\i.rd < 8)\/¬ (0<=i.rm/\i.rm < 8))/\(i.form=95\/i.form=96->i.rd≠i.ra)/\(af i.form=18\/af i.form=19\/af i.form=20->Rm.lT i.aC=0)):=Iff.rfl
 have f1:i.form=1->af i.form=1:=fun h=>by rw[h]; exact s1
 have f2:i.form=2->af i.form=1:=fun h=>by rw[h]; exact s2
 have f3:i.form=3->af i.form=1:=fun h=>by rw[h]; exact s3
 have f29:i.form=29->af i.form=6:=fun h=>by rw[h]; exact s29
 have f95:i.form=95->af i.form=31:=fun h=>by rw[h]; exact s95
 have f96:i.form=96->af i.form=31:=fun h=>by rw[h]; exact s96
 clear s1 s2 s3 s29 s95 s96
 repeat' ((conv=>whnf); first|(refine (And.intro (fun _=>?_) (fun _=>?_):(_->_)/\(_->_))<;>(first|(exfalso; first|contradiction|omega)|skip))|refine Or.inl (And.intro (by first|exact aG (by omega)|exact ai (by omega)|exact cL (by omega)|exact gJ (by omega)) ?_)|(refine And.intro (show (_:Int)≠0 by omega) (Or.inl (And.intro (show (0:Int)<=_ by omega) (And.intro (show (0:Int) < _ by omega) ?_))))|(refine And.intro (show (_:Int)≠0 by omega) (Or.inl (And.intro (show (0:Int)<=_ by omega) (And.intro (by first|exact (show (_:Int)<=9223372036854775807 by omega)|exact (show (_:Int)<=4294967295 by omega)) (And.intro (show (0:Int) < _ by omega) ?_)))))|(refine Exists.intro [] (And.intro az ((yG _).use (by repeat' first|exact trivial|exact rfl|exact Iff.rfl|exact Or.inl rfl|refine And.intro ?_ ?_) rfl rfl ?_)))|(refine Exists.intro [] (And.intro az ((mI i.form).use (by repeat' first|exact trivial|exact rfl|exact Iff.rfl|exact Or.inl rfl|refine And.intro ?_ ?_) rfl rfl ?_)))|(refine Exists.intro [] (And.intro az ((Ad i.aC hi).use (by repeat' first|exact trivial|exact rfl|exact Iff.rfl|exact Or.inl rfl|refine And.intro ?_ ?_) rfl rfl ?_)))|(refine al ?_; (show qc i); rw[e]; clear e; omega)|(refine al ?_; (show _↔qc i); rw[e]; clear e; omega)|(refine al ?_; (show ¬ qc i); rw[e]; clear e; omega)|(intro _))
def aS (i:IN) (r:RU):Prop:=(1<=i.form/\i.form<=100)/\mJ r.rd i.rd/\mJ r.rn i.rn/\mJ r.rm i.rm/\mJ r.ra i.ra/\jV i r/\(i.cond=0\/(r.cond=true/\0 < i.cond/\i.cond<=13))/\lU r.i0 r.i1 r.i2 i.aC/\(i.set=0\/(i.set=1/\r.set=true))/\qb i r/\qc i
def cD (i:IN):Prop:=aS i (fg (af i.form))
theorem qd (i:IN) (hi:bX i.aC):aj gT 27 [cZ i] (.bool (cD i)):=by
 refine Spec.enter ao P27 100 Tryz.func27 rfl (by kernel_rfl) ?_
 refine (rk i.form).u ?_
 refine⟨fun h=>?_,fun h=>?_⟩
 ·refine al ?_
  exact (show ¬ cD i from fun k=>h k.1)
 have hF:=Classical.not_not.1 h
 clear h
 refine (mI i.form).u ?_
 refine (xQ _).u ?_
 unfold cD
 generalize fg (af i.form)=r
 repeat' ((conv=>whnf); first|(refine (And.intro (fun _=>?_) (fun _=>?_):(_->_)/\(_->_))<;>(first|(exfalso; first|contradiction|omega)|skip))|refine Or.inl (And.intro (by first|exact aG (by omega)|exact ai (by omega)|exact cL (by omega)|exact gJ (by omega)) ?_)|(refine And.intro (show (_:Int)≠0 by omega) (Or.inl (And.intro (show (0:Int)<=_ by omega) (And.intro (show (0:Int) < _ by omega) ?_))))|(refine And.intro (show (_:Int)≠0 by omega) (Or.inl (And.intro (show (0:Int)<=_ by omega) (And.intro (by first|exact (show (_:Int)<=9223372036854775807 by omega)|exact (show (_:Int)<=4294967295 by omega)) (And.intro (show (0:Int) < _ by omega) ?_)))))|(refine Exists.intro [] (And.intro az ((L7 _ _).use (by repeat' first|exact trivial|exact rfl|exact Iff.rfl|exact Or.inl rfl|refine And.intro ?_ ?_) rfl rfl ?_)))|(refine Exists.intro [] (And.intro az ((Ca i r).use (by repeat' first|exact trivial|exact rfl|exact Iff.rfl|exact Or.inl rfl|refine And.intro ?_ ?_) rfl rfl ?_)))|(refine Exists.intro [] (And.intro az ((yH _ _ _ _).use (by repeat' first|exact trivial|exact rfl|exact Iff.rfl|exact Or.inl rfl|refine And.intro ?_ ?_) rfl rfl ?_)))|(refine Exists.intro [] (And.intro az ((L8 _ _).use (by repeat' first|exact trivial|exact rfl|exact Iff.rfl|exact Or.inl rfl|refine And.intro ?_ ?_) rfl rfl ?_)))|(refine Exists.intro [] (And.intro az ((EI i r).use (by repeat' first|exact trivial|exact rfl|exact Iff.rfl|exact Or.inl rfl|refine And.intro ?_ ?_) rfl rfl ?_)))|(refine Exists.intro [] (And.intro az ((EJ i hi).use (by repeat' first|exact trivial|exact rfl|exact Iff.rfl|exact Or.inl rfl|refine And.intro ?_ ?_) rfl rfl ?_)))|(refine al ?_; (show qc i↔aS i r); (exact⟨fun k=>⟨hF,by assumption,by assumption,by assumption,by assumption,by assumption,by first|exact Or.inl (by assumption)|exact Or.inr ⟨by assumption,by assumption,by assumption⟩,by assumption,by assumption,by assumption,k⟩,fun k=>k.2.2.2.2.2.2.2.2.2.2⟩))|(refine al ?_; (show ¬ aS i r); (rintro⟨a0,a1,a2,a3,a4,a5,a6,a7,a8,a9,a10⟩; first|contradiction|(rcases a6 with a6|⟨b1,b2,b3⟩<;>first|contradiction|omega)))|(intro _))
def Cb (x:Int) (l w:Nat):Int:=x / 2 ^ l % 2 ^ w
theorem Cc (x:Int) (w:Nat) (h0:0<=x) (h1:x<=4294967295) (hw:w<=31):bits .and .u32 x (2 ^ w - 1)=x % 2 ^ w:=by
 have hp:(2:Int) ^ w<=2 ^ 31:=by
  have:=Nat.pow_le_pow_right (n:=2) (by omega) hw
  exact_mod_cast this
 have hp0:(1:Int)<=2 ^ w:=by
  have:=Nat.one_le_two_pow (n:=w)
  exact_mod_cast this
 rw[u32_and x (2 ^ w - 1) h0 (by omega) (by omega) (by omega)]
 have e:x.toNat &&& ((2:Int) ^ w - 1).toNat=x.toNat % 2 ^ w:=by
  have:((2:Int) ^ w - 1).toNat=2 ^ w - 1:=by
   have e2:((2 ^ w:Nat):Int)=(2:Int) ^ w:=by norm_cast
   omega
  rw[this]
  exact Nat.and_two_pow_sub_one_eq_mod x.toNat w
 rw[e]
 have:((x.toNat % 2 ^ w:Nat):Int)=(x.toNat:Int) % ((2 ^ w:Nat):Int):=by norm_cast
 rw[this,Int.toNat_of_nonneg h0]
 norm_cast
theorem Cd (n:Nat) (h:n<=32):Ev.aQ .u32 (n:Int)=2 ^ n:=by
 unfold Ev.aQ
 rw[Int.toNat_natCast,show min n (IntKind.bits .u32)=n from Nat.min_eq_left h]
 norm_cast
theorem cF (w:Nat):((2 ^ w:Nat):Int)=(2:Int) ^ w:=by norm_cast
theorem vT (w:Nat) (hw:w<=31):(1:Int)<=2 ^ w/\(2:Int) ^ w<=2147483648:=by
 have h1:=Nat.one_le_two_pow (n:=w)
 have h2:(2 ^ w:Nat)<=2147483648:=Nat.le_trans (Nat.pow_le_pow_right (n:=2) (by omega) hw) (by decide)
 have e:=cF w
 omega
theorem Ux (x p:Int) (h0:0<=x) (h1:x<=4294967295) (hp:1<=p):0<=x / p/\x / p<=4294967295 :=
 ⟨Int.ediv_nonneg h0 (by omega),Int.le_trans (Int.ediv_le_self _ h0) h1⟩
theorem lV (x:Int) (l w:Nat) (hx:0<=x/\x<=4294967295) (hw:1<=w/\w<=31) (hl:l<=31):aj gT 128 [.int .u32 x,.int .i64 ((l:Int)+w - 1),.int .i64 l] (.int .u32 (Cb x l w)):=by
 have p1:=Cd l (by omega)
 have p2:=Cd w (by omega)
 have b1:=vT l hl
 have b2:=vT w hw.2
 have d:=Ux x (2 ^ l) hx.1 hx.2 b1.1
 have e:((l:Int)+w - 1) - l+1=w:=by omega
 refine Spec.enter ao P128 100 Tryz.func128 rfl (by kernel_rfl) ?_
 refine⟨by omega,.inl ⟨aG (by omega),.inl ⟨aG (by omega),?_⟩⟩⟩
 refine⟨by omega,.inl ⟨ai (show 0<=1*Ev.aQ .u32 (((l:Int)+w - 1) - l+1)/\1*Ev.aQ .u32 (((l:Int)+w - 1) - l+1)<=4294967295 by rw[e,p2]; omega),?_⟩⟩
 refine lu ?_ (show 0<=1*Ev.aQ .u32 (((l:Int)+w - 1) - l+1) - 1/\1*Ev.aQ .u32 (((l:Int)+w - 1) - l+1) - 1<=4294967295 by rw[e,p2]; omega)
 refine al ?_
 show bits .and .u32 (x / Ev.aQ .u32 l) (1*Ev.aQ .u32 (((l:Int)+w - 1) - l+1) - 1)=Cb x l w
 rw[e,p1,p2,Int.one_mul,Cc _ w d.1 d.2 hw.2]; rfl
theorem Ce (w:Nat) (hw:w<=62):(1:Int)<=2 ^ w/\(2:Int) ^ w<=4611686018427387904:=by
 have h1:=Nat.one_le_two_pow (n:=w)
 have h2:(2 ^ w:Nat)<=4611686018427387904:=Nat.le_trans (Nat.pow_le_pow_right (n:=2) (by omega) hw) (by decide)
 have e:=cF w
 omega
def aa (n:Int) (l w:Nat):Int:=(if n < 0 then n+1099511627776 else n) / 2 ^ l % 2 ^ w
def ay (s:Int):List (Nat × Nat × Nat × Nat) :=
 if s=1 then [(4,0,6,5),(2,0,3,3),(0,0,0,3)]
 else if s=2 then [(2,0,6,3),(1,0,3,3),(0,0,0,3)]
 else if s=3 then [(4,0,6,3),(1,0,3,3),(0,0,0,3)]
 else if s=4 then [(0,0,8,3),(4,0,0,8)]
 else if s=5 then [(2,0,3,3),(0,0,0,3)]
 else if s=6 then [(0,3,7,1),(2,0,3,4),(0,0,0,3)]
 else if s=7 then [(2,0,3,4)]
 else if s=8 then [(0,0,8,3),(4,2,0,8)]
 else if s=9 then [(4,2,6,5),(1,0,3,3),(0,0,0,3)]
 else if s=10 then [(4,2,0,7)]
 else if s=11 then [(9,14,8,1),(9,0,0,8)]
 else if s=12 then [(9,15,8,1),(9,0,0,8)]
 else if s=14 then [(4,0,0,8)]
 else if s=15 then [(8,0,8,4),(4,1,0,8)]
 else if s=16 then [(4,1,0,11)]
 else if s=17 then [(4,11,26,1),(4,12,16,4),(4,8,12,3),(4,0,0,8),(0,0,8,4)]
 else if s=18 then [(4,11,26,1),(4,8,12,3),(4,0,0,8),(7,0,20,1),(1,0,16,4),(0,0,8,4)]
 else if s=19 then [(4,11,26,1),(4,8,12,3),(4,0,0,8),(7,0,20,1),(0,0,8,4)]
 else if s=20 then [(4,11,26,1),(4,8,12,3),(4,0,0,8),(1,0,16,4)]
 else if s=21 then [(6,2,12,3),(6,0,6,2),(5,0,4,2),(7,0,20,1),(1,0,16,4),(0,0,8,4),(2,0,0,4)]
 else if s=22 then [(6,2,12,3),(6,0,6,2),(5,0,4,2),(7,0,20,1),(0,0,8,4),(2,0,0,4)]
 else if s=23 then [(6,2,12,3),(6,0,6,2),(5,0,4,2),(1,0,16,4),(2,0,0,4)]
 else if s=24 then [(4,11,26,1),(4,8,12,3),(4,0,0,8),(1,0,16,4),(0,0,8,4)]
 else if s=25 then [(1,0,16,4),(0,0,12,4),(4,0,0,12)]
 else if s=26 then [(1,0,16,4),(0,0,12,4),(6,0,4,2),(2,0,0,4)]
 else if s=27 then [(7,0,20,1),(1,0,16,4),(0,0,8,4),(2,0,0,4)]
 else if s=28 then [(1,0,16,4),(0,0,8,4),(2,0,0,4)]
 else if s=29 then [(1,0,16,4),(3,0,12,4),(0,0,8,4),(2,0,0,4)]
 else if s=30 then [(1,0,16,4),(3,0,12,4),(0,0,8,4),(2,0,0,4)]
 else if s=31 then [(1,0,16,4),(0,0,12,4),(3,0,8,4),(2,0,0,4)]
 else if s=32 then [(2,0,16,4),(0,0,8,4),(2,0,0,4)]
 else if s=33 then [(4,20,26,1),(8,0,22,4),(4,12,16,6),(4,18,13,1),(4,19,11,1),(4,1,0,11)]
 else if s=34 then [(4,24,26,1),(4,12,16,10),(4,23,13,1),(4,22,11,1),(4,1,0,11)]
 else []
def qe (i:IN) (f:Nat):Int:=[i.rd,i.rn,i.rm,i.ra,i.aC,i.kind,i.bD,i.set,i.cond,i.aA].getD f 0
theorem Uy (a b k:Nat) (h:b < 2 ^ k):2 ^ k*a+b=2 ^ k*a ||| b:=Nat.two_pow_add_eq_or_of_lt h a
def plus (w n at_ b:Nat):Nat:=w ||| (n % 2 ^ b) <<< at_
def fbL:List Int:=[0,2048,4096,6144,6656,7168,7680,8192,10240,12288,14336,16384,16448,16512,16576,16640,16704,16768,16832,16896,16960,17024,17088,17152,17216,17280,17344,17408,17664,17920,18176,18432,20480,22528,24576,26624,36864,38912,43008,45056,45184,46080,48128,48896,48640,53248,57344,4064280576,4072669184,4026531840,4028628992,4030726144,4032823296,4034920448,4043309056,4047503360,4049600512,4053794816,4055891968,4031709184,4033806336,4027584256,4035972864,4044361472,4054847232,3925868544,3927965696,3930062848,3932160000,3934257152,3942645760,3946840064,3948937216,3953131520,3955228672,3931045888,3933143040,3926920960,3935309568,3943698176,3954183936,4060086272,4070572032,4173332480,4174381056,4164943872,4165992448,4194365440,4196462592,4198559744,4200656896,4211142656,4211081216,4211081232,4221566976,4225761280,4222677232,4205899904,4026564608,4026568704]
def uT (f:Int):Int:=if 1<=f/\f<=100 then fbL.getD (f - 1).toNat 0 else 0
theorem Uz {k:IntKind} {l:List Int} {n:Nat} {c:PV} (hc:(l.map (PV.lit k))[n]?=some c):c = .lit k (l.getD n 0):=by
 rw[List.getElem?_map,Option.map_eq_some_iff] at hc
 obtain⟨z,hz,rfl⟩:=hc
 rw[List.getD_eq_getElem?_getD,hz]; rfl
theorem Cf (f:Int) (hF:1<=f/\f<=100):aj gT 92 [.int .i64 f] (.int .u32 (uT f)):=by
 refine Spec.enter ao P92 100 Tryz.func92 rfl (by kernel_rfl) ?_
 refine⟨by omega,show f < 101 by omega,.inr ⟨rfl,by omega,show 0+f.toNat*1 < 101 by omega,fun c hc=>?_⟩⟩
 have A0:((0::fbL).map (PV.lit .u32))[f.toNat]?=some c:=by
  have e:0+f.toNat*1=f.toNat:=by omega
  have h0:((0::fbL).map (PV.lit .u32))[0+f.toNat*1]?=some c:=hc
  rwa [e] at h0
 obtain rfl:=Uz A0
 refine al (show (0::fbL).getD f.toNat 0=uT f from ?_)
 unfold uT
 rw[if_pos hF,show f.toNat=(f - 1).toNat+1 by omega]
 rfl
theorem i_ (f:Int):aj gT 50 [.int .i64 f] (.int .u32 (uT f)):=by
 refine Spec.enter ao P50 100 Tryz.func50 rfl (by kernel_rfl) ?_
 refine (rk f).u ?_
 refine⟨fun h=>?_,fun h=>?_⟩
 ·exact al (show (0:Int)=uT f by unfold uT; rw[if_neg h])
 refine (Cf f (Classical.not_not.1 h)).u ?_
 exact al rfl
def UA (x:Nat × Nat × Nat × Nat):Prop:=x.1 < 10/\x.2.1<=40/\1<=x.2.2.2/\x.2.2.1+x.2.2.2<=32
theorem kX (s:Int) (h:s < 1\/34 < s):ay s = []:=by
 unfold ay
 repeat rw[if_neg (by omega)]
def fdB (l:List (Nat × Nat × Nat × Nat)):Bool:=l.all (fun x=>decide (x.1 < 10/\x.2.1<=40/\1<=x.2.2.2/\x.2.2.1+x.2.2.2<=32)) && decide (l.length<=7)
theorem EK:∀ k:Fin 35,fdB (ay ((k.1:Nat):Int))=true:=by decide
theorem yI (s:Int):fdB (ay s)=true:=by
 by_cases h:s < 1\/34 < s
 ·rw[kX s h]; rfl
 ·have h1:=EK ⟨s.toNat,by omega⟩
  rwa [show (((⟨s.toNat,by omega⟩:Fin 35).1:Nat):Int)=s by simp only[]; omega] at h1
theorem EM (s:Int):(ay s).all (fun x=>decide (x.1 < 10/\x.2.1<=40/\1<=x.2.2.2/\x.2.2.1+x.2.2.2<=32))=true :=
 ((Bool.and_eq_true ..).mp (yI s)).1
theorem It (s:Int):∀ x∈ay s,UA x:=fun x hx=>by
 have:=List.all_eq_true.1 (EM s) x hx
 exact (of_decide_eq_true (p:=x.1 < 10/\x.2.1<=40/\1<=x.2.2.2/\x.2.2.1+x.2.2.2<=32) this)
theorem EN (s:Int):(ay s).length<=7 :=
 of_decide_eq_true ((Bool.and_eq_true ..).mp (yI s)).2
def Cg (i:IN) (w:Nat) (x:Nat × Nat × Nat × Nat):Nat:=plus w (aa (qe i x.1) x.2.1 x.2.2.2).toNat x.2.2.1 x.2.2.2
def yJ (i:IN) (l:List (Nat × Nat × Nat × Nat)):Nat:=l.foldl (Cg i) (uT i.form).toNat
theorem Qi (w n a b:Nat) (hw:w < 2 ^ 32) (h:a+b<=32):plus w n a b < 2 ^ 32:=by
 unfold plus
 refine Nat.or_lt_two_pow hw ?_
 rw[Nat.shiftLeft_eq]
 have h1:n % 2 ^ b < 2 ^ b:=Nat.mod_lt _ (Nat.two_pow_pos b)
 calc n % 2 ^ b*2 ^ a < 2 ^ b*2 ^ a:=Nat.mul_lt_mul_of_pos_right h1 (Nat.two_pow_pos a)
  _=2 ^ (b+a):=(Nat.pow_add ..).symm
  _<=2 ^ 32:=Nat.pow_le_pow_right (by omega) (by omega)
theorem ae (n:Int) (l w:Nat):0<=aa n l w/\aa n l w < 2 ^ w:=by
 have hp:(0:Int) < 2 ^ w:=by have:=cF w; have:=Nat.two_pow_pos w; omega
 exact⟨Int.emod_nonneg _ (by omega),Int.emod_lt_of_pos _ hp⟩
theorem yK (n l w:Nat):aa n l w=((n / 2 ^ l % 2 ^ w:Nat):Int):=by
 unfold aa
 rw[if_neg (by omega),← cF,← cF]
 norm_cast
def pG (s n:Int) (k:Nat):Int:=n+((if aa n k 1=s then 1 else 0) - aa n k 1)*2 ^ k
def bw (n:Int):Nat->Int
 | 0=>n
 | k+1=>pG (aa n 24 1) (bw n k) (22+k)
theorem mK (n:Int) (k:Nat):aa n k 1=0\/aa n k 1=1:=by
 have:=ae n k 1
 have e:(2:Int) ^ 1=2:=rfl
 omega
theorem Ch (s n:Int) (k:Nat) (hk:k=22\/k=23):n - 8388608<=pG s n k/\pG s n k<=n+8388608:=by
 have hb:=mK n k
 have p:(2:Int) ^ 22=4194304:=by decide
 have q:(2:Int) ^ 23=8388608:=by decide
 unfold pG
 rcases hk with rfl|rfl<;>rcases hb with h|h<;>rw[h]<;>split<;>omega
theorem L9 (n:Int) (k:Nat) (hk:k<=2):n - 16777216<=bw n k/\bw n k<=n+16777216:=by
 have h0:=Ch (aa n 24 1) (bw n 0) 22 (.inl rfl)
 have h1:=Ch (aa n 24 1) (bw n 1) 23 (.inr rfl)
 have e0:bw n 0=n:=rfl
 have e1:bw n 1=pG (aa n 24 1) (bw n 0) 22:=rfl
 have e2:bw n 2=pG (aa n 24 1) (bw n 1) 23:=rfl
 match k,hk with
 | 0,_=>omega
 | 1,_=>omega
 | 2,_=>omega
def df (n:Int) (w:Nat):Int:=if aa n (w - 1) 1=1 then n - 2 ^ w else n
def fx (i:IN):IN:=if af i.form=34 then {i with aC:=bw (aa i.aC 0 25) 2} else i
def dn (i:IN):Int:=((yJ (fx i) (ay (af i.form)):Nat):Int)
theorem UB:fbL.all (fun z=>decide (0<=z/\z < 4294967296))=true:=by decide
theorem L' (f:Int):0<=uT f/\uT f < 4294967296:=by
 unfold uT
 split
 ·rw[List.getD_eq_getElem?_getD]
  cases h:fbL[(f - 1).toNat]? with
  | none=>exact⟨Int.le_refl 0,by decide⟩
  | some z=>exact of_decide_eq_true (List.all_eq_true.1 UB z (List.mem_of_getElem? h))
 ·omega
theorem L_ (i:IN) (l:List (Nat × Nat × Nat × Nat)) (h:∀ y∈l,UA y):∀ w,w < 2 ^ 32->l.foldl (Cg i) w < 2 ^ 32:=by
 induction l with
 | nil=>exact fun w hw=>hw
 | cons y l ih=>exact fun w hw=>ih (fun z hz=>h z (List.mem_cons_of_mem _ hz)) _ (Qi w _ _ _ hw (h y List.mem_cons_self).2.2.2)
theorem Ma (i:IN) (l:List (Nat × Nat × Nat × Nat)) (h:∀ y∈l,UA y):yJ i l < 2 ^ 32 :=
 L_ i l h _ (by have:=L' i.form; omega)
def vF (i:IN) (x:Nat × Nat × Nat × Nat):Nat:=(aa (qe i x.1) x.2.1 x.2.2.2).toNat
theorem SU (i:IN) (x:Nat × Nat × Nat × Nat):vF i x < 2 ^ x.2.2.2:=by
 have:=ae (qe i x.1) x.2.1 x.2.2.2
 have e:=cF x.2.2.2
 unfold vF; omega
theorem Iu (w n a b p:Nat):(plus w n a b).testBit p=(w.testBit p || (decide (a<=p) && decide (p < a+b) && n.testBit (p - a))):=by
 unfold plus
 rw[Nat.testBit_or,Nat.testBit_shiftLeft,Nat.testBit_mod_two_pow]
 congr 1
 by_cases h:a<=p
 ·by_cases h2:p < a+b
  ·rw[decide_eq_true h2,decide_eq_true (show p - a < b by omega)]; simp[h]
  ·rw[decide_eq_false h2,decide_eq_false (show ¬ p - a < b by omega)]; simp
 ·simp[h]
def inF (p:Nat) (x:Nat × Nat × Nat × Nat):Bool:=decide (x.2.2.1<=p) && decide (p < x.2.2.1+x.2.2.2)
theorem sY (i:IN) (p:Nat):∀ (l:List (Nat × Nat × Nat × Nat)) (W:Nat),(l.foldl (Cg i) W).testBit p=(W.testBit p || l.any fun x=>inF p x && (vF i x).testBit (p - x.2.2.1))
 | [],W=>by simp
 | x::l,W=>by
  rw[List.foldl_cons,sY i p l,List.any_cons,← Bool.or_assoc]
  congr 1
  exact Iu W (vF i x) x.2.2.1 x.2.2.2 p
def EO (l:List (Nat × Nat × Nat × Nat)):Bool:=l.all fun x=>l.all fun y=>decide (x=y) || decide (x.2.2.1+x.2.2.2<=y.2.2.1) || decide (y.2.2.1+y.2.2.2<=x.2.2.1)
def Mb (W:Nat) (l:List (Nat × Nat × Nat × Nat)):Bool:=l.all fun x=>decide (W / 2 ^ x.2.2.1 % 2 ^ x.2.2.2=0)
theorem Iv:∀ k:Fin 35,EO (ay ((k.1:Nat):Int))=true:=by decide
theorem Ae (s:Int):EO (ay s)=true:=by
 by_cases h:s < 1\/34 < s
 ·rw[kX s h]; rfl
 ·have h1:=Iv ⟨s.toNat,by omega⟩
  rwa [show (((⟨s.toNat,by omega⟩:Fin 35).1:Nat):Int)=s by simp only[]; omega] at h1
theorem Mc:(List.range 101).all (fun k=>Mb (uT (k:Int)).toNat (ay (af (k:Int))))=true:=by decide +kernel
theorem Ci (f:Int):Mb (uT f).toNat (ay (af f))=true:=by
 by_cases h:1<=f/\f<=100
 ·have h1:=List.all_eq_true.1 Mc f.toNat (List.mem_range.2 (by omega))
  rwa [show ((f.toNat:Nat):Int)=f by omega] at h1
 ·unfold af; rw[if_neg h,kX 0 (by omega)]; rfl
theorem EP (i:IN) {l:List (Nat × Nat × Nat × Nat)} {W:Nat} (ha:EO l=true) (hf:Mb W l=true) {x:Nat × Nat × Nat × Nat} (hx:x∈l):(l.foldl (Cg i) W) / 2 ^ x.2.2.1 % 2 ^ x.2.2.2=vF i x:=by
 apply Nat.eq_of_testBit_eq
 intro p
 rw[Nat.testBit_mod_two_pow,Nat.testBit_div_two_pow]
 by_cases hp:p < x.2.2.2
 ·rw[decide_eq_true hp,Bool.true_and,sY]
  have h0:W.testBit (p+x.2.2.1)=false:=by
   have h1:=of_decide_eq_true (List.all_eq_true.1 hf x hx)
   have h2:(W / 2 ^ x.2.2.1 % 2 ^ x.2.2.2).testBit p=false:=by rw[h1]; simp
   rw[Nat.testBit_mod_two_pow,Nat.testBit_div_two_pow,decide_eq_true hp,Bool.true_and] at h2
   exact h2
  rw[h0,Bool.false_or,Bool.eq_iff_iff,List.any_eq_true]
  constructor
  ·rintro⟨y,hy,hb⟩
   simp only[Bool.and_eq_true,inF,decide_eq_true_eq] at hb
   have h3:=List.all_eq_true.1 (List.all_eq_true.1 ha x hx) y hy
   simp only[Bool.or_eq_true,decide_eq_true_eq] at h3
   rcases h3 with (rfl|h3)|h3
   ·have:=hb.2; rwa [show p+x.2.2.1 - x.2.2.1=p by omega] at this
   ·omega
   ·omega
  ·intro hb
   refine⟨x,hx,?_⟩
   simp only[Bool.and_eq_true,inF,decide_eq_true_eq]
   exact⟨⟨by omega,by omega⟩,by rwa [show p+x.2.2.1 - x.2.2.1=p by omega]⟩
 ·rw[decide_eq_false hp,Bool.false_and]
  exact (Nat.testBit_lt_two_pow (Nat.lt_of_lt_of_le (SU i x) (Nat.pow_le_pow_right (by decide) (by omega)))).symm
def fxd (l:List (Nat × Nat × Nat × Nat)) (p:Nat):Bool:=l.all fun x=>!inF p x
theorem ER (i:IN) {l:List (Nat × Nat × Nat × Nat)} {W p:Nat} (h:fxd l p=true):(l.foldl (Cg i) W).testBit p=W.testBit p:=by
 rw[sY]
 have:(l.any fun x=>inF p x && (vF i x).testBit (p - x.2.2.1))=false:=by
  rw[List.any_eq_false]
  intro x hx
  have:=List.all_eq_true.1 h x hx
  simp only[Bool.not_eq_true'] at this
  rw[this]; simp
 rw[this,Bool.or_false]
def fbN (f:Nat):Nat:=(uT (f:Int)).toNat
def fdN (f:Nat):List (Nat × Nat × Nat × Nat):=ay (af (f:Int))
def Me (f g:Nat):Bool:=(fdN f).any fun x=>decide (x.1 < 4) && decide (x.2.1=0) && decide (x.2.2.2=4) && ([0,1,2,3].all fun k=>fxd (fdN g) (x.2.2.1+k) && (fbN g).testBit (x.2.2.1+k))
def Gu (f g:Nat):Bool:=decide (f=g) || ((List.range 32).any fun p=>fxd (fdN f) p && fxd (fdN g) p && ((fbN f).testBit p != (fbN g).testBit p)) || Me f g || Me g f
theorem Af:((List.range 47).all fun f=>(List.range 47).all fun g=>Gu (f+1) (g+1))=true:=by decide +kernel
theorem ES:((List.range 53).all fun f=>(List.range 53).all fun g=>Gu (f+48) (g+48))=true:=by decide +kernel
theorem Ag {c r:Int} (h:mJ c r):0<=r/\r < 15:=by unfold mJ at h; omega
theorem vU {i:IN} (h:cD i):(0<=i.rd/\i.rd < 15)/\(0<=i.rn/\i.rn < 15)/\(0<=i.rm/\i.rm < 15)/\(0<=i.ra/\i.ra < 15):=by
 obtain⟨_,h1,h2,h3,h4,_⟩:=h
 exact⟨Ag h1,Ag h2,Ag h3,Ag h4⟩
theorem ks (i:IN):(fx i).form=i.form:=by unfold fx; split<;>rfl
theorem Iw (i:IN) (f:Nat) (hf:f < 4):qe (fx i) f=qe i f:=by
 unfold fx
 split
 ·match f,hf with
  | 0,_|1,_|2,_|3,_=>rfl
 ·rfl
theorem qf (i:IN) {p:Nat} (h:fxd (ay (af i.form)) p=true):(dn i).toNat.testBit p=(uT i.form).toNat.testBit p:=by
 unfold dn yJ
 rw[Int.toNat_natCast,ER _ h,ks]
theorem vV (i:IN) {x:Nat × Nat × Nat × Nat} (hx:x∈ay (af i.form)):(dn i).toNat / 2 ^ x.2.2.1 % 2 ^ x.2.2.2=vF (fx i) x:=by
 unfold dn yJ
 rw[Int.toNat_natCast]
 have h:=Ci i.form
 rw[← ks i] at h
 refine EP (fx i) (Ae _) ?_ hx
 rw[ks] at h ⊢
 exact h
theorem ones4:∀ v:Fin 16,(v.1.testBit 0=true/\v.1.testBit 1=true/\v.1.testBit 2=true/\v.1.testBit 3=true)->v.1=15:=by decide
theorem Gv {a b:IN} (ha:cD a) (fa:a.form=((a.form.toNat:Nat):Int)) (fb:b.form=((b.form.toNat:Nat):Int)) (h:Me a.form.toNat b.form.toNat=true):dn a≠dn b:=fun e=>by
 obtain⟨x,hx,h⟩:=List.any_eq_true.1 h
 simp only[Bool.and_eq_true,decide_eq_true_eq] at h
 obtain⟨⟨⟨h1,h2⟩,h3⟩,h4⟩:=h
 have dE:x∈ay (af a.form):=by rw[fa]; exact hx
 have hf:=vV a dE
 have hr:vF (fx a) x < 15:=by
  unfold vF
  rw[Iw a x.1 h1,h2,h3]
  obtain⟨r0,r1,r2,r3⟩:=vU ha
  have key:∀ r:Int,0<=r/\r < 15->(aa r 0 4).toNat < 15:=fun r hr=>by
   unfold aa; rw[if_neg (by omega)]
   have e0:(2:Int) ^ 0=1:=rfl
   have e4:(2:Int) ^ 4=16:=rfl
   rw[e0,e4]; omega
  match x.1,h1 with
  | 0,_=>exact key _ r0
  | 1,_=>exact key _ r1
  | 2,_=>exact key _ r2
  | 3,_=>exact key _ r3
 have hv:∀ k,k∈[0,1,2,3]->(vF (fx a) x).testBit k=true:=fun k hk=>by
  have h5:=List.all_eq_true.1 h4 k hk
  simp only[Bool.and_eq_true] at h5
  have hk4:k < 4:=by simp at hk; omega
  rw[← hf,h3,Nat.testBit_mod_two_pow,Nat.testBit_div_two_pow,decide_eq_true hk4,Bool.true_and,e]
  have h6:fxd (ay (af b.form)) (x.2.2.1+k)=true:=by rw[fb]; exact h5.1
  rw[Nat.add_comm,qf b h6]
  have h7:=h5.2
  unfold fbN at h7
  rw[← fb] at h7
  exact h7
 have:=ones4 ⟨vF (fx a) x,by omega⟩ ⟨hv 0 (by simp),hv 1 (by simp),hv 2 (by simp),hv 3 (by simp)⟩
 simp only[] at this
 omega
theorem Gw {a b:IN} (ha:cD a) (hb:cD b) (h:Gu a.form.toNat b.form.toNat=true) (e:dn a=dn b):a.form=b.form:=by
 have f1:=ha.1
 have f2:=hb.1
 have fa:a.form=((a.form.toNat:Nat):Int):=by omega
 have fb:b.form=((b.form.toNat:Nat):Int):=by omega
 unfold Gu at h
 simp only[Bool.or_eq_true,decide_eq_true_eq] at h
 rcases h with ((h|h)|h)|h
 ·omega
 ·obtain⟨p,_,h⟩:=List.any_eq_true.1 h
  simp only[Bool.and_eq_true] at h
  obtain⟨⟨h1,h2⟩,h3⟩:=h
  have k1:=qf a (p:=p) (by rw[fa]; exact h1)
  have k2:=qf b (p:=p) (by rw[fb]; exact h2)
  unfold fbN at h3
  rw[← fa,← fb,← k1,← k2,e] at h3
  simp at h3
 ·exact absurd e (Gv ha fa fb h)
 ·exact absurd e.symm (Gv hb fb fa h)
theorem yL {a b:IN} (ha:cD a) (hb:cD b) (hw:48<=a.form↔48<=b.form) (e:dn a=dn b):a.form=b.form:=by
 have f1:=ha.1
 have f2:=hb.1
 by_cases h:48<=a.form
 ·have h1:=List.all_eq_true.1 (List.all_eq_true.1 ES (a.form.toNat - 48) (List.mem_range.2 (by omega))) (b.form.toNat - 48) (List.mem_range.2 (by have:=hw.1 h; omega))
  rw[show a.form.toNat - 48+48=a.form.toNat by omega,show b.form.toNat - 48+48=b.form.toNat by have:=hw.1 h; omega] at h1
  exact Gw ha hb h1 e
 ·have h1:=List.all_eq_true.1 (List.all_eq_true.1 Af (a.form.toNat - 1) (List.mem_range.2 (by omega))) (b.form.toNat - 1) (List.mem_range.2 (by omega))
  rw[show a.form.toNat - 1+1=a.form.toNat by omega,show b.form.toNat - 1+1=b.form.toNat by omega] at h1
  exact Gw ha hb h1 e
def xV (s w:Int) (f:Nat):Int:=((ay s).filter fun x=>decide (x.1=f)).foldl (fun a x=>a+aa w x.2.2.1 x.2.2.2*2 ^ x.2.1) 0
def uA (s f x:Int):Int:=if s=15 then df x 9 else if s=16 then df x 12 else if s=33 then df x 21 else if s=34 then df (bw x 2) 25 else if s=1/\1 < f/\x=0 then 32 else x
def SV (s k x:Int):Int:=if 21<=s/\s<=23/\x=0/\(k=1\/k=2) then 32 else x
def rmA (s w x:Int):Int:=if s=32 then aa w 0 4 else x
def aV (f w:Int):IN:=⟨f,xV (af f) w 0,xV (af f) w 1,rmA (af f) w (xV (af f) w 2),xV (af f) w 3,uA (af f) f (xV (af f) w 4),xV (af f) w 5,SV (af f) (xV (af f) w 5) (xV (af f) w 6),xV (af f) w 7,xV (af f) w 8,xV (af f) w 9⟩
def xR (s:Int) (i:IN) (f:Nat):Int:=((ay s).filter fun x=>decide (x.1=f)).foldl (fun a x=>a+aa (qe i x.1) x.2.1 x.2.2.2*2 ^ x.2.1) 0
theorem vW {α β:Type} {f g:β->α->β}:∀ {l:List α} {b:β},(∀ b x,x∈l->f b x=g b x)->l.foldl f b=l.foldl g b
 | [],_,_=>rfl
 | x::l,b,h=>by rw[List.foldl_cons,List.foldl_cons,h b x (List.mem_cons_self ..)]; exact vW fun b y hy=>h b y (List.mem_cons_of_mem _ hy)
theorem UC (i:IN) (x:Nat × Nat × Nat × Nat):((vF i x:Nat):Int)=aa (qe i x.1) x.2.1 x.2.2.2:=Int.toNat_of_nonneg (ae ..).1
theorem yM (i:IN) {x:Nat × Nat × Nat × Nat} (hx:x∈ay (af i.form)):aa (dn i) x.2.2.1 x.2.2.2=aa (qe (fx i) x.1) x.2.1 x.2.2.2:=by
 have h:=vV i hx
 have e:dn i=(((dn i).toNat:Nat):Int):=by unfold dn; rw[Int.toNat_natCast]
 rw[e,yK,h,UC]
theorem ja (i:IN) (f:Nat):xV (af i.form) (dn i) f=xR (af i.form) (fx i) f:=by
 unfold xV xR
 refine vW fun b x hx=>?_
 rw[yM i (List.mem_filter.1 hx).1]
theorem nU {f:Int} (h:1<=f/\f<=100):1<=af f/\af f<=34:=by
 have h1:((List.range 100).all fun k=>decide (1<=af ((k+1:Nat):Int)/\af ((k+1:Nat):Int)<=34))=true:=by decide +kernel
 have h2:=of_decide_eq_true (List.all_eq_true.1 h1 (f.toNat - 1) (List.mem_range.2 (by omega)))
 rwa [show (((f.toNat - 1+1:Nat)):Int)=f by omega] at h2
theorem yN {f:Int} (h:1<=f/\f<=100):af f=1->f=1\/f=2\/f=3:=by
 have h1:((List.range 100).all fun k=>decide (af ((k+1:Nat):Int)=1->k < 3))=true:=by decide +kernel
 have h2:=of_decide_eq_true (List.all_eq_true.1 h1 (f.toNat - 1) (List.mem_range.2 (by omega)))
 rw[show (((f.toNat - 1+1:Nat)):Int)=f by omega] at h2
 intro h3; have:=h2 h3; omega
theorem tm0 {n s:Int} (h:n.tmod s=0):n % s=0:=Int.emod_eq_zero_of_dvd (Int.dvd_of_tmod_eq_zero h)
theorem Cj {f t s n:Int} (h:lU f t s n):(s=0/\n=0)\/(s≠0/\f<=n/\n<=t/\n % s=0):=h.imp id fun ⟨a,b,c,d⟩=>⟨a,b,c,tm0 d⟩
theorem Mf (x k:Nat):x &&& 2 ^ k=(x / 2 ^ k % 2)*2 ^ k:=by
 apply Nat.eq_of_testBit_eq
 intro i
 rw[Nat.testBit_and,Nat.testBit_two_pow]
 rcases Nat.mod_two_eq_zero_or_one (x / 2 ^ k) with h|h
 ·rw[h,Nat.zero_mul,Nat.zero_testBit]
  by_cases hi:k=i
  ·subst hi; rw[Nat.testBit_eq_decide_div_mod_eq]; simp[h]
  ·simp[hi]
 ·rw[h,Nat.one_mul,Nat.testBit_two_pow]
  by_cases hi:k=i
  ·subst hi; rw[Nat.testBit_eq_decide_div_mod_eq]; simp[h]
  ·simp[hi]
theorem Ix (k x:Nat) (hk:8<=k):x &&& (2 ^ k ||| (2 ^ 8 - 1))=(x / 2 ^ k % 2)*2 ^ k+x % 256:=by
 rw[Nat.and_or_distrib_left,Nat.and_two_pow_sub_one_eq_mod,Mf]
 have ch:x % 2 ^ 8 < 2 ^ k:=Nat.lt_of_lt_of_le (Nat.mod_lt _ (by decide)) (Nat.pow_le_pow_right (by decide) hk)
 have:=Nat.two_pow_add_eq_or_of_lt ch (x / 2 ^ k % 2)
 rw[Nat.mul_comm,← this]
theorem Ck (a m:Nat) (ha:a < 9223372036854775808) (hm:m < 9223372036854775808) (h:bits .andNot .i64 (a:Int) (m:Int)=0):a &&& m=a:=by
 have e:∀ c:Nat,c < 9223372036854775808->(BitVec.ofInt 64 (c:Int)).toNat=c:=fun c hc=>by
  rw[BitVec.ofInt_natCast,BitVec.toNat_ofNat]; exact Nat.mod_eq_of_lt (by omega)
 have h1:IntKind.i64.wrap ((BitVec.ofInt 64 (a:Int) &&& ~~~ BitVec.ofInt 64 (m:Int)).toNat:Int)=0:=h
 have ch:(BitVec.ofInt 64 (a:Int) &&& ~~~ BitVec.ofInt 64 (m:Int)).toNat < 9223372036854775808:=by
  rw[BitVec.toNat_and,e a ha]
  exact Nat.lt_of_le_of_lt Nat.and_le_left ha
 rw[IntKind.wrap_i64] at h1
 have h2:(BitVec.ofInt 64 (a:Int) &&& ~~~ BitVec.ofInt 64 (m:Int))=0#64:=BitVec.eq_of_toNat_eq (by rw[BitVec.toNat_ofNat]; omega)
 have h3:BitVec.ofInt 64 (a:Int) &&& BitVec.ofInt 64 (m:Int)=BitVec.ofInt 64 (a:Int):=by
  apply BitVec.eq_of_getLsbD_eq
  intro i hi
  have h4:=congrArg (fun v=>v.getLsbD i) h2
  simp only[BitVec.getLsbD_and,BitVec.getLsbD_not,BitVec.getLsbD_zero,hi,decide_true,Bool.true_and] at h4
  rw[BitVec.getLsbD_and]
  cases ha:(BitVec.ofInt 64 (a:Int)).getLsbD i<;>cases hb:(BitVec.ofInt 64 (m:Int)).getLsbD i<;>simp_all
 have h5:=congrArg BitVec.toNat h3
 rwa [BitVec.toNat_and,e a ha,e m hm] at h5
theorem Ah (k:Nat) (hk:8<=k) (nq:k<=15) (r m:Int) (hm:m=2 ^ k+255) (h0:0 < r) (h1:r<=9223372036854775807) (h:bits .andNot .i64 r m=0):r / 2 ^ k % 2*2 ^ k+r % 256=r:=by
 have e:=Ck r.toNat (2 ^ k+255) (by omega) (by have:=Nat.pow_le_pow_right (n:=2) (by omega) nq; omega) (by
  rw[show ((r.toNat:Nat):Int)=r by omega,show (((2 ^ k+255:Nat)):Int)=m by rw[hm]; push_cast; rfl]; exact h)
 have e2:2 ^ k+255=2 ^ k ||| (2 ^ 8 - 1):=by
  have ch:255 < 2 ^ k:=Nat.lt_of_lt_of_le (show 255 < 2 ^ 8 by decide) (Nat.pow_le_pow_right (by decide) hk)
  have:=Nat.two_pow_add_eq_or_of_lt ch 1
  rwa [Nat.mul_one] at this
 rw[e2,Ix k _ hk] at e
 have e3:((r.toNat / 2 ^ k % 2*2 ^ k+r.toNat % 256:Nat):Int)=((r.toNat:Nat):Int):=congrArg _ e
 push_cast at e3
 rw[show ((r.toNat:Nat):Int)=r by omega] at e3
 exact e3
theorem Ai {n:Int} (h:0<=n/\n < 33554432):∃ a,0<=a/\a < 4194304/\(n=a\/n=4194304+a\/n=8388608+a\/n=12582912+a\/n=16777216+a\/n=20971520+a\/n=25165824+a\/n=29360128+a):=⟨n % 4194304,by omega⟩
theorem rp (n:Int) (h:0<=n/\n < 33554432):bw n 2=n+((if n / 4194304 % 2=n / 16777216 % 2 then 1 else 0) - n / 4194304 % 2)*4194304+((if n / 8388608 % 2=n / 16777216 % 2 then 1 else 0) - n / 8388608 % 2)*8388608:=by
 have p22:(2:Int) ^ 22=4194304:=by decide
 have p23:(2:Int) ^ 23=8388608:=by decide
 have p24:(2:Int) ^ 24=16777216:=by decide
 have p1:(2:Int) ^ 1=2:=by decide
 have b:∀ m:Int,0<=m->∀ k,aa m k 1=m / 2 ^ k % 2:=fun m hm k=>by unfold aa; rw[if_neg (by omega),p1]
 obtain⟨t,ht⟩:∃ t,t=pG (aa n 24 1) n 22:=⟨_,rfl⟩
 have e:bw n 2=pG (aa n 24 1) t 23:=by rw[ht]; rfl
 unfold pG at ht
 rw[b n h.1,b n h.1,p24,p22] at ht
 have ht0:0<=t/\t < 33554432/\t / 8388608 % 2=n / 8388608 % 2:=by
  obtain⟨a,a0,a1,h8⟩:=Ai h
  rcases h8 with h8|h8|h8|h8|h8|h8|h8|h8<;>split at ht<;>omega
 rw[e]
 unfold pG
 rw[b n h.1,b t ht0.1,p24,p23,ht0.2.2,ht]
theorem rq {n:Int} (h:0<=n/\n < 33554432):0<=bw n 2/\bw n 2 < 33554432:=by
 rw[rp n h]
 obtain⟨a,a0,a1,h8⟩:=Ai h
 rcases h8 with h8|h8|h8|h8|h8|h8|h8|h8<;>split<;>split<;>omega
theorem oN {n:Int} (h:0<=n/\n < 33554432):bw n 2 / 16777216=n / 16777216/\bw n 2 % 4194304=n % 4194304/\bw n 2 / 4194304 % 2=(if n / 4194304 % 2=n / 16777216 % 2 then 1 else 0)/\bw n 2 / 8388608 % 2=(if n / 8388608 % 2=n / 16777216 % 2 then 1 else 0):=by
 rw[rp n h]
 obtain⟨a,a0,a1,h8⟩:=Ai h
 rcases h8 with h8|h8|h8|h8|h8|h8|h8|h8<;>split<;>split<;>omega
theorem Iy {n:Int} (h:0<=n/\n < 33554432):bw (bw n 2) 2=n:=by
 have c:=oN h
 rw[rp _ (rq h),c.1,c.2.2.1,c.2.2.2,rp n h]
 clear c
 obtain⟨a,a0,a1,h8⟩:=Ai h
 have e24:n / 16777216 % 2=n / 16777216:=by omega
 rw[e24]
 rcases h8 with h8|h8|h8|h8|h8|h8|h8|h8
 ·have x:n / 4194304 % 2=0:=by omega
  have y:n / 8388608 % 2=0:=by omega
  have z:n / 16777216=0:=by omega
  rw[x,y,z]; simp<;>omega
 ·have x:n / 4194304 % 2=1:=by omega
  have y:n / 8388608 % 2=0:=by omega
  have z:n / 16777216=0:=by omega
  rw[x,y,z]; simp<;>omega
 ·have x:n / 4194304 % 2=0:=by omega
  have y:n / 8388608 % 2=1:=by omega
  have z:n / 16777216=0:=by omega
  rw[x,y,z]; simp<;>omega
 ·have x:n / 4194304 % 2=1:=by omega
  have y:n / 8388608 % 2=1:=by omega
  have z:n / 16777216=0:=by omega
  rw[x,y,z]; simp<;>omega
 ·have x:n / 4194304 % 2=0:=by omega
  have y:n / 8388608 % 2=0:=by omega
  have z:n / 16777216=1:=by omega
  rw[x,y,z]; simp<;>omega
 ·have x:n / 4194304 % 2=1:=by omega
  have y:n / 8388608 % 2=0:=by omega
  have z:n / 16777216=1:=by omega
  rw[x,y,z]; simp<;>omega
 ·have x:n / 4194304 % 2=0:=by omega
  have y:n / 8388608 % 2=1:=by omega
  have z:n / 16777216=1:=by omega
  rw[x,y,z]; simp<;>omega
 ·have x:n / 4194304 % 2=1:=by omega
  have y:n / 8388608 % 2=1:=by omega
  have z:n / 16777216=1:=by omega
  rw[x,y,z]; simp<;>omega
theorem aH {i:IN} (h:af i.form≠34):fx i=i:=if_neg h
theorem sh34 {i:IN} (h:af i.form=34):fx i = {i with aC:=bw (aa i.aC 0 25) 2}:=if_pos h
theorem aW {a b:IN} (h0:a.form=b.form) (h1:a.rd=b.rd) (h2:a.rn=b.rn) (h3:a.rm=b.rm) (h4:a.ra=b.ra) (h5:a.aC=b.aC) (h6:a.kind=b.kind) (h7:a.bD=b.bD) (h8:a.set=b.set) (h9:a.cond=b.cond) (cS:a.aA=b.aA):a=b:=by
 cases a; cases b; simp_all
def cT (s:Int) (i:IN):IN:=⟨i.form,xR s i 0,xR s i 1,if s=32 then aa i.rm 0 4 else xR s i 2,xR s i 3,uA s i.form (xR s i 4),xR s i 5,SV s (xR s i 5) (xR s i 6),xR s i 7,xR s i 8,xR s i 9⟩
theorem Iz (i:IN) (h32:af i.form=32->aa (dn i) 0 4=aa (fx i).rm 0 4):aV i.form (dn i) = {cT (af i.form) (fx i) with form:=i.form}:=by
 unfold aV cT
 rw[ja,ja,ja,ja,ja,ja,ja,ja,ja,ja,ks]
 unfold rmA
 by_cases h:af i.form=32
 ·rw[if_pos h,if_pos h,h32 h]
 ·rw[if_neg h,if_neg h]
theorem UD (k v:Int) (h:cV k v):(if 0+aa v 2 3*2 ^ 2+aa v 0 2*2 ^ 0=0/\(k=1\/k=2) then 32 else 0+aa v 2 3*2 ^ 2+aa v 0 2*2 ^ 0)=v:=by
 unfold cV at h; unfold aa; (repeat' split)<;>omega
theorem oO {k v:Int} (h:cV k v):0<=k/\k < 4:=by unfold cV at h; omega
theorem s_1_0 (v:Int) (h:0<=v/\v < 8):0+aa v 0 3*2 ^ 0=v:=by
 unfold aa; (repeat' split)<;>omega
theorem s_1_1 (v:Int) (h:v=0):0=v:=by
 omega
theorem s_1_2 (v:Int) (h:0<=v/\v < 8):0+aa v 0 3*2 ^ 0=v:=by
 unfold aa; (repeat' split)<;>omega
theorem s_1_3 (v:Int) (h:v=0):0=v:=by
 omega
theorem s_1_5 (v:Int) (h:v=0):0=v:=by
 omega
theorem s_1_6 (v:Int) (h:v=0):0=v:=by
 omega
theorem s_1_7 (v:Int) (h:v=0):0=v:=by
 omega
theorem s_1_8 (v:Int) (h:v=0):0=v:=by
 omega
theorem s_1_9 (v:Int) (h:v=0):0=v:=by
 omega
theorem s_1_4 (f v:Int) (h:0<=v/\v<=32) (h1:f=1->v < 32) (h2:f=2\/f=3->0 < v) (h3:f=1\/f=2\/f=3):(if 1 < f/\0+aa v 0 5*2 ^ 0=0 then 32 else 0+aa v 0 5*2 ^ 0)=v:=by
 unfold aa; (repeat' split)<;>omega
theorem s_2_0 (v:Int) (h:0<=v/\v < 8):0+aa v 0 3*2 ^ 0=v:=by
 unfold aa; (repeat' split)<;>omega
theorem s_2_1 (v:Int) (h:0<=v/\v < 8):0+aa v 0 3*2 ^ 0=v:=by
 unfold aa; (repeat' split)<;>omega
theorem s_2_2 (v:Int) (h:0<=v/\v < 8):0+aa v 0 3*2 ^ 0=v:=by
 unfold aa; (repeat' split)<;>omega
theorem s_2_3 (v:Int) (h:v=0):0=v:=by
 omega
theorem s_2_4 (v:Int) (h:v=0):0=v:=by
 omega
theorem s_2_5 (v:Int) (h:v=0):0=v:=by
 omega
theorem s_2_6 (v:Int) (h:v=0):0=v:=by
 omega
theorem s_2_7 (v:Int) (h:v=0):0=v:=by
 omega
theorem s_2_8 (v:Int) (h:v=0):0=v:=by
 omega
theorem s_2_9 (v:Int) (h:v=0):0=v:=by
 omega
theorem s_3_0 (v:Int) (h:0<=v/\v < 8):0+aa v 0 3*2 ^ 0=v:=by
 unfold aa; (repeat' split)<;>omega
theorem s_3_1 (v:Int) (h:0<=v/\v < 8):0+aa v 0 3*2 ^ 0=v:=by
 unfold aa; (repeat' split)<;>omega
theorem s_3_2 (v:Int) (h:v=0):0=v:=by
 omega
theorem s_3_3 (v:Int) (h:v=0):0=v:=by
 omega
theorem s_3_4 (v:Int) (h:0<=v/\v<=7/\v % 1=0):0+aa v 0 3*2 ^ 0=v:=by
 unfold aa; (repeat' split)<;>omega
theorem s_3_5 (v:Int) (h:v=0):0=v:=by
 omega
theorem s_3_6 (v:Int) (h:v=0):0=v:=by
 omega
theorem s_3_7 (v:Int) (h:v=0):0=v:=by
 omega
theorem s_3_8 (v:Int) (h:v=0):0=v:=by
 omega
theorem s_3_9 (v:Int) (h:v=0):0=v:=by
 omega
theorem s_4_0 (v:Int) (h:0<=v/\v < 8):0+aa v 0 3*2 ^ 0=v:=by
 unfold aa; (repeat' split)<;>omega
theorem s_4_1 (v:Int) (h:v=0):0=v:=by
 omega
theorem s_4_2 (v:Int) (h:v=0):0=v:=by
 omega
theorem s_4_3 (v:Int) (h:v=0):0=v:=by
 omega
theorem s_4_4 (v:Int) (h:0<=v/\v<=255/\v % 1=0):0+aa v 0 8*2 ^ 0=v:=by
 unfold aa; (repeat' split)<;>omega
theorem s_4_5 (v:Int) (h:v=0):0=v:=by
 omega
theorem s_4_6 (v:Int) (h:v=0):0=v:=by
 omega
theorem s_4_7 (v:Int) (h:v=0):0=v:=by
 omega
theorem s_4_8 (v:Int) (h:v=0):0=v:=by
 omega
theorem s_4_9 (v:Int) (h:v=0):0=v:=by
 omega
theorem s_5_0 (v:Int) (h:0<=v/\v < 8):0+aa v 0 3*2 ^ 0=v:=by
 unfold aa; (repeat' split)<;>omega
theorem s_5_1 (v:Int) (h:v=0):0=v:=by
 omega
theorem s_5_2 (v:Int) (h:0<=v/\v < 8):0+aa v 0 3*2 ^ 0=v:=by
 unfold aa; (repeat' split)<;>omega
theorem s_5_3 (v:Int) (h:v=0):0=v:=by
 omega
theorem s_5_4 (v:Int) (h:v=0):0=v:=by
 omega
theorem s_5_5 (v:Int) (h:v=0):0=v:=by
 omega
theorem s_5_6 (v:Int) (h:v=0):0=v:=by
 omega
theorem s_5_7 (v:Int) (h:v=0):0=v:=by
 omega
theorem s_5_8 (v:Int) (h:v=0):0=v:=by
 omega
theorem s_5_9 (v:Int) (h:v=0):0=v:=by
 omega
theorem s_6_0 (v:Int) (h:0<=v/\v < 15):0+aa v 3 1*2 ^ 3+aa v 0 3*2 ^ 0=v:=by
 unfold aa; (repeat' split)<;>omega
theorem s_6_1 (v:Int) (h:v=0):0=v:=by
 omega
theorem s_6_2 (v:Int) (h:0<=v/\v < 15):0+aa v 0 4*2 ^ 0=v:=by
 unfold aa; (repeat' split)<;>omega
theorem s_6_3 (v:Int) (h:v=0):0=v:=by
 omega
theorem s_6_4 (v:Int) (h:v=0):0=v:=by
 omega
theorem s_6_5 (v:Int) (h:v=0):0=v:=by
 omega
theorem s_6_6 (v:Int) (h:v=0):0=v:=by
 omega
theorem s_6_7 (v:Int) (h:v=0):0=v:=by
 omega
theorem s_6_8 (v:Int) (h:v=0):0=v:=by
 omega
theorem s_6_9 (v:Int) (h:v=0):0=v:=by
 omega
theorem s_7_0 (v:Int) (h:v=0):0=v:=by
 omega
theorem s_7_1 (v:Int) (h:v=0):0=v:=by
 omega
theorem s_7_2 (v:Int) (h:0<=v/\v < 15):0+aa v 0 4*2 ^ 0=v:=by
 unfold aa; (repeat' split)<;>omega
theorem s_7_3 (v:Int) (h:v=0):0=v:=by
 omega
theorem s_7_4 (v:Int) (h:v=0):0=v:=by
 omega
theorem s_7_5 (v:Int) (h:v=0):0=v:=by
 omega
theorem s_7_6 (v:Int) (h:v=0):0=v:=by
 omega
theorem s_7_7 (v:Int) (h:v=0):0=v:=by
 omega
theorem s_7_8 (v:Int) (h:v=0):0=v:=by
 omega
theorem s_7_9 (v:Int) (h:v=0):0=v:=by
 omega
theorem s_8_0 (v:Int) (h:0<=v/\v < 8):0+aa v 0 3*2 ^ 0=v:=by
 unfold aa; (repeat' split)<;>omega
theorem s_8_1 (v:Int) (h:v=0):0=v:=by
 omega
theorem s_8_2 (v:Int) (h:v=0):0=v:=by
 omega
theorem s_8_3 (v:Int) (h:v=0):0=v:=by
 omega
theorem s_8_4 (v:Int) (h:0<=v/\v<=1020/\v % 4=0):0+aa v 2 8*2 ^ 2=v:=by
 unfold aa; (repeat' split)<;>omega
theorem s_8_5 (v:Int) (h:v=0):0=v:=by
 omega
theorem s_8_6 (v:Int) (h:v=0):0=v:=by
 omega
theorem s_8_7 (v:Int) (h:v=0):0=v:=by
 omega
theorem s_8_8 (v:Int) (h:v=0):0=v:=by
 omega
theorem s_8_9 (v:Int) (h:v=0):0=v:=by
 omega
theorem s_9_0 (v:Int) (h:0<=v/\v < 8):0+aa v 0 3*2 ^ 0=v:=by
 unfold aa; (repeat' split)<;>omega
theorem s_9_1 (v:Int) (h:0<=v/\v < 8):0+aa v 0 3*2 ^ 0=v:=by
 unfold aa; (repeat' split)<;>omega
theorem s_9_2 (v:Int) (h:v=0):0=v:=by
 omega
theorem s_9_3 (v:Int) (h:v=0):0=v:=by
 omega
theorem s_9_4 (v:Int) (h:0<=v/\v<=124/\v % 4=0):0+aa v 2 5*2 ^ 2=v:=by
 unfold aa; (repeat' split)<;>omega
theorem s_9_5 (v:Int) (h:v=0):0=v:=by
 omega
theorem s_9_6 (v:Int) (h:v=0):0=v:=by
 omega
theorem s_9_7 (v:Int) (h:v=0):0=v:=by
 omega
theorem s_9_8 (v:Int) (h:v=0):0=v:=by
 omega
theorem s_9_9 (v:Int) (h:v=0):0=v:=by
 omega
theorem UE (v:Int) (h:v=0):0=v:=by
 omega
theorem UF (v:Int) (h:v=0):0=v:=by
 omega
theorem UG (v:Int) (h:v=0):0=v:=by
 omega
theorem UH (v:Int) (h:v=0):0=v:=by
 omega
theorem UI (v:Int) (h:0<=v/\v<=508/\v % 4=0):0+aa v 2 7*2 ^ 2=v:=by
 unfold aa; (repeat' split)<;>omega
theorem UJ (v:Int) (h:v=0):0=v:=by
 omega
theorem UK (v:Int) (h:v=0):0=v:=by
 omega
theorem UL (v:Int) (h:v=0):0=v:=by
 omega
theorem UM (v:Int) (h:v=0):0=v:=by
 omega
theorem UN (v:Int) (h:v=0):0=v:=by
 omega
theorem UO (v:Int) (h:v=0):0=v:=by
 omega
theorem UP (v:Int) (h:v=0):0=v:=by
 omega
theorem UQ (v:Int) (h:v=0):0=v:=by
 omega
theorem UR (v:Int) (h:v=0):0=v:=by
 omega
theorem US (v:Int) (h:v=0):0=v:=by
 omega
theorem UT (v:Int) (h:v=0):0=v:=by
 omega
theorem UU (v:Int) (h:v=0):0=v:=by
 omega
theorem UW (v:Int) (h:v=0):0=v:=by
 omega
theorem UX (v:Int) (h:v=0):0=v:=by
 omega
theorem UY (v:Int) (h:0 < v/\v / 16384 % 2*16384+v % 256=v):0+aa v 14 1*2 ^ 14+aa v 0 8*2 ^ 0=v:=by
 unfold aa; (repeat' split)<;>omega
theorem UZ (v:Int) (h:v=0):0=v:=by
 omega
theorem U0 (v:Int) (h:v=0):0=v:=by
 omega
theorem U1 (v:Int) (h:v=0):0=v:=by
 omega
theorem U2 (v:Int) (h:v=0):0=v:=by
 omega
theorem U3 (v:Int) (h:v=0):0=v:=by
 omega
theorem U4 (v:Int) (h:v=0):0=v:=by
 omega
theorem U5 (v:Int) (h:v=0):0=v:=by
 omega
theorem U6 (v:Int) (h:v=0):0=v:=by
 omega
theorem U7 (v:Int) (h:v=0):0=v:=by
 omega
theorem U8 (v:Int) (h:0 < v/\v / 32768 % 2*32768+v % 256=v):0+aa v 15 1*2 ^ 15+aa v 0 8*2 ^ 0=v:=by
 unfold aa; (repeat' split)<;>omega
theorem U9 (v:Int) (h:v=0):0=v:=by
 omega
theorem U' (v:Int) (h:v=0):0=v:=by
 omega
theorem U_ (v:Int) (h:v=0):0=v:=by
 omega
theorem Va (v:Int) (h:v=0):0=v:=by
 omega
theorem Vb (v:Int) (h:v=0):0=v:=by
 omega
theorem Vc (v:Int) (h:v=0):0=v:=by
 omega
theorem Vd (v:Int) (h:v=0):0=v:=by
 omega
theorem Ve (v:Int) (h:v=0):0=v:=by
 omega
theorem Vf (v:Int) (h:v=0):0=v:=by
 omega
theorem Vg (v:Int) (h:v=0):0=v:=by
 omega
theorem Vh (v:Int) (h:v=0):0=v:=by
 omega
theorem Vi (v:Int) (h:v=0):0=v:=by
 omega
theorem Vj (v:Int) (h:v=0):0=v:=by
 omega
theorem Vk (v:Int) (h:v=0):0=v:=by
 omega
theorem Vl (v:Int) (h:0<=v/\v<=255/\v % 1=0):0+aa v 0 8*2 ^ 0=v:=by
 unfold aa; (repeat' split)<;>omega
theorem Vm (v:Int) (h:v=0):0=v:=by
 omega
theorem Vn (v:Int) (h:v=0):0=v:=by
 omega
theorem Vo (v:Int) (h:v=0):0=v:=by
 omega
theorem Vp (v:Int) (h:v=0):0=v:=by
 omega
theorem Vq (v:Int) (h:v=0):0=v:=by
 omega
theorem Vr (v:Int) (h:v=0):0=v:=by
 omega
theorem Vs (v:Int) (h:v=0):0=v:=by
 omega
theorem Vt (v:Int) (h:v=0):0=v:=by
 omega
theorem Vu (v:Int) (h:v=0):0=v:=by
 omega
theorem Vv (v:Int) (h:-256<=v/\v<=254/\v % 2=0):df (0+aa v 1 8*2 ^ 1) 9=v:=by
 unfold df aa; (repeat' split)<;>omega
theorem Vw (v:Int) (h:v=0):0=v:=by
 omega
theorem Vx (v:Int) (h:v=0):0=v:=by
 omega
theorem Vy (v:Int) (h:v=0):0=v:=by
 omega
theorem Vz (v:Int) (h:0<=v/\v<=13):0+aa v 0 4*2 ^ 0=v:=by
 unfold aa; (repeat' split)<;>omega
theorem VA (v:Int) (h:v=0):0=v:=by
 omega
theorem VB (v:Int) (h:v=0):0=v:=by
 omega
theorem VC (v:Int) (h:v=0):0=v:=by
 omega
theorem VD (v:Int) (h:v=0):0=v:=by
 omega
theorem VE (v:Int) (h:v=0):0=v:=by
 omega
theorem VF (v:Int) (h:-2048<=v/\v<=2046/\v % 2=0):df (0+aa v 1 11*2 ^ 1) 12=v:=by
 unfold df aa; (repeat' split)<;>omega
theorem VG (v:Int) (h:v=0):0=v:=by
 omega
theorem VH (v:Int) (h:v=0):0=v:=by
 omega
theorem VI (v:Int) (h:v=0):0=v:=by
 omega
theorem VJ (v:Int) (h:v=0):0=v:=by
 omega
theorem VK (v:Int) (h:v=0):0=v:=by
 omega
theorem VL (v:Int) (h:0<=v/\v < 15):0+aa v 0 4*2 ^ 0=v:=by
 unfold aa; (repeat' split)<;>omega
theorem VM (v:Int) (h:v=0):0=v:=by
 omega
theorem VN (v:Int) (h:v=0):0=v:=by
 omega
theorem VO (v:Int) (h:v=0):0=v:=by
 omega
theorem VP (v:Int) (h:0<=v/\v<=65535/\v % 1=0):0+aa v 11 1*2 ^ 11+aa v 12 4*2 ^ 12+aa v 8 3*2 ^ 8+aa v 0 8*2 ^ 0=v:=by
 unfold aa; (repeat' split)<;>omega
theorem VQ (v:Int) (h:v=0):0=v:=by
 omega
theorem VR (v:Int) (h:v=0):0=v:=by
 omega
theorem VT (v:Int) (h:v=0):0=v:=by
 omega
theorem VU (v:Int) (h:v=0):0=v:=by
 omega
theorem VV (v:Int) (h:v=0):0=v:=by
 omega
theorem VW (v:Int) (h:0<=v/\v < 15):0+aa v 0 4*2 ^ 0=v:=by
 unfold aa; (repeat' split)<;>omega
theorem VX (v:Int) (h:0<=v/\v < 15):0+aa v 0 4*2 ^ 0=v:=by
 unfold aa; (repeat' split)<;>omega
theorem VY (v:Int) (h:v=0):0=v:=by
 omega
theorem VZ (v:Int) (h:v=0):0=v:=by
 omega
theorem V0 (v:Int) (h:0<=v/\v<=4095/\v % 1=0):0+aa v 11 1*2 ^ 11+aa v 8 3*2 ^ 8+aa v 0 8*2 ^ 0=v:=by
 unfold aa; (repeat' split)<;>omega
theorem V1 (v:Int) (h:v=0):0=v:=by
 omega
theorem V2 (v:Int) (h:v=0):0=v:=by
 omega
theorem V3 (v:Int) (h:v=0\/v=1):0+aa v 0 1*2 ^ 0=v:=by
 unfold aa; (repeat' split)<;>omega
theorem V4 (v:Int) (h:v=0):0=v:=by
 omega
theorem V5 (v:Int) (h:v=0):0=v:=by
 omega
theorem V6 (v:Int) (h:0<=v/\v < 15):0+aa v 0 4*2 ^ 0=v:=by
 unfold aa; (repeat' split)<;>omega
theorem V7 (v:Int) (h:v=0):0=v:=by
 omega
theorem V8 (v:Int) (h:v=0):0=v:=by
 omega
theorem V9 (v:Int) (h:v=0):0=v:=by
 omega
theorem V' (v:Int) (h:0<=v/\v<=4095/\v % 1=0):0+aa v 11 1*2 ^ 11+aa v 8 3*2 ^ 8+aa v 0 8*2 ^ 0=v:=by
 unfold aa; (repeat' split)<;>omega
theorem V_ (v:Int) (h:v=0):0=v:=by
 omega
theorem Wa (v:Int) (h:v=0):0=v:=by
 omega
theorem Wb (v:Int) (h:v=0\/v=1):0+aa v 0 1*2 ^ 0=v:=by
 unfold aa; (repeat' split)<;>omega
theorem Wc (v:Int) (h:v=0):0=v:=by
 omega
theorem We (v:Int) (h:v=0):0=v:=by
 omega
theorem Wg (v:Int) (h:v=0):0=v:=by
 omega
theorem Wh (v:Int) (h:0<=v/\v < 15):0+aa v 0 4*2 ^ 0=v:=by
 unfold aa; (repeat' split)<;>omega
theorem Wi (v:Int) (h:v=0):0=v:=by
 omega
theorem Wj (v:Int) (h:v=0):0=v:=by
 omega
theorem Wk (v:Int) (h:0<=v/\v<=4095/\v % 1=0):0+aa v 11 1*2 ^ 11+aa v 8 3*2 ^ 8+aa v 0 8*2 ^ 0=v:=by
 unfold aa; (repeat' split)<;>omega
theorem Wl (v:Int) (h:v=0):0=v:=by
 omega
theorem Wm (v:Int) (h:v=0):0=v:=by
 omega
theorem Wn (v:Int) (h:v=0):0=v:=by
 omega
theorem Wo (v:Int) (h:v=0):0=v:=by
 omega
theorem Wp (v:Int) (h:v=0):0=v:=by
 omega
theorem Wq (v:Int) (h:0<=v/\v < 15):0+aa v 0 4*2 ^ 0=v:=by
 unfold aa; (repeat' split)<;>omega
theorem Ws (v:Int) (h:0<=v/\v < 15):0+aa v 0 4*2 ^ 0=v:=by
 unfold aa; (repeat' split)<;>omega
theorem Wt (v:Int) (h:0<=v/\v < 15):0+aa v 0 4*2 ^ 0=v:=by
 unfold aa; (repeat' split)<;>omega
theorem Wu (v:Int) (h:v=0):0=v:=by
 omega
theorem Wv (v:Int) (h:v=0):0=v:=by
 omega
theorem Mg (v:Int) (h:0<=v/\v < 4):0+aa v 0 2*2 ^ 0=v:=by
 unfold aa; (repeat' split)<;>omega
theorem Ww (v:Int) (h:v=0\/v=1):0+aa v 0 1*2 ^ 0=v:=by
 unfold aa; (repeat' split)<;>omega
theorem Wx (v:Int) (h:v=0):0=v:=by
 omega
theorem Wy (v:Int) (h:v=0):0=v:=by
 omega
theorem Wz (v:Int) (h:0<=v/\v < 15):0+aa v 0 4*2 ^ 0=v:=by
 unfold aa; (repeat' split)<;>omega
theorem WA (v:Int) (h:v=0):0=v:=by
 omega
theorem WB (v:Int) (h:0<=v/\v < 15):0+aa v 0 4*2 ^ 0=v:=by
 unfold aa; (repeat' split)<;>omega
theorem WC (v:Int) (h:v=0):0=v:=by
 omega
theorem WD (v:Int) (h:v=0):0=v:=by
 omega
theorem Mh (v:Int) (h:0<=v/\v < 4):0+aa v 0 2*2 ^ 0=v:=by
 unfold aa; (repeat' split)<;>omega
theorem WE (v:Int) (h:v=0\/v=1):0+aa v 0 1*2 ^ 0=v:=by
 unfold aa; (repeat' split)<;>omega
theorem WG (v:Int) (h:v=0):0=v:=by
 omega
theorem WH (v:Int) (h:v=0):0=v:=by
 omega
theorem WI (v:Int) (h:v=0):0=v:=by
 omega
theorem WJ (v:Int) (h:0<=v/\v < 15):0+aa v 0 4*2 ^ 0=v:=by
 unfold aa; (repeat' split)<;>omega
theorem WL (v:Int) (h:0<=v/\v < 15):0+aa v 0 4*2 ^ 0=v:=by
 unfold aa; (repeat' split)<;>omega
theorem WM (v:Int) (h:v=0):0=v:=by
 omega
theorem WN (v:Int) (h:v=0):0=v:=by
 omega
theorem Mi (v:Int) (h:0<=v/\v < 4):0+aa v 0 2*2 ^ 0=v:=by
 unfold aa; (repeat' split)<;>omega
theorem WO (v:Int) (h:v=0):0=v:=by
 omega
theorem WQ (v:Int) (h:v=0):0=v:=by
 omega
theorem WR (v:Int) (h:v=0):0=v:=by
 omega
theorem WS (v:Int) (h:0<=v/\v < 15):0+aa v 0 4*2 ^ 0=v:=by
 unfold aa; (repeat' split)<;>omega
theorem WT (v:Int) (h:0<=v/\v < 15):0+aa v 0 4*2 ^ 0=v:=by
 unfold aa; (repeat' split)<;>omega
theorem WU (v:Int) (h:v=0):0=v:=by
 omega
theorem WV (v:Int) (h:v=0):0=v:=by
 omega
theorem WW (v:Int) (h:0<=v/\v<=4095/\v % 1=0):0+aa v 11 1*2 ^ 11+aa v 8 3*2 ^ 8+aa v 0 8*2 ^ 0=v:=by
 unfold aa; (repeat' split)<;>omega
theorem WX (v:Int) (h:v=0):0=v:=by
 omega
theorem WZ (v:Int) (h:v=0):0=v:=by
 omega
theorem W0 (v:Int) (h:v=0):0=v:=by
 omega
theorem W2 (v:Int) (h:v=0):0=v:=by
 omega
theorem W3 (v:Int) (h:v=0):0=v:=by
 omega
theorem W4 (v:Int) (h:0<=v/\v < 15):0+aa v 0 4*2 ^ 0=v:=by
 unfold aa; (repeat' split)<;>omega
theorem W5 (v:Int) (h:0<=v/\v < 15):0+aa v 0 4*2 ^ 0=v:=by
 unfold aa; (repeat' split)<;>omega
theorem W6 (v:Int) (h:v=0):0=v:=by
 omega
theorem W7 (v:Int) (h:v=0):0=v:=by
 omega
theorem W8 (v:Int) (h:0<=v/\v<=4095/\v % 1=0):0+aa v 0 12*2 ^ 0=v:=by
 unfold aa; (repeat' split)<;>omega
theorem W9 (v:Int) (h:v=0):0=v:=by
 omega
theorem W_ (v:Int) (h:v=0):0=v:=by
 omega
theorem Xa (v:Int) (h:v=0):0=v:=by
 omega
theorem Xb (v:Int) (h:v=0):0=v:=by
 omega
theorem Xc (v:Int) (h:v=0):0=v:=by
 omega
theorem Xd (v:Int) (h:0<=v/\v < 15):0+aa v 0 4*2 ^ 0=v:=by
 unfold aa; (repeat' split)<;>omega
theorem Xe (v:Int) (h:0<=v/\v < 15):0+aa v 0 4*2 ^ 0=v:=by
 unfold aa; (repeat' split)<;>omega
theorem Xf (v:Int) (h:0<=v/\v < 15):0+aa v 0 4*2 ^ 0=v:=by
 unfold aa; (repeat' split)<;>omega
theorem Xg (v:Int) (h:v=0):0=v:=by
 omega
theorem Xh (v:Int) (h:v=0):0=v:=by
 omega
theorem Xi (v:Int) (h:v=0):0=v:=by
 omega
theorem Xj (v:Int) (h:0<=v/\v<=3/\v % 1=0):0+aa v 0 2*2 ^ 0=v:=by
 unfold aa; (repeat' split)<;>omega
theorem Xk (v:Int) (h:v=0):0=v:=by
 omega
theorem Xl (v:Int) (h:v=0):0=v:=by
 omega
theorem Xm (v:Int) (h:v=0):0=v:=by
 omega
theorem Xn (v:Int) (h:0<=v/\v < 15):0+aa v 0 4*2 ^ 0=v:=by
 unfold aa; (repeat' split)<;>omega
theorem Xo (v:Int) (h:0<=v/\v < 15):0+aa v 0 4*2 ^ 0=v:=by
 unfold aa; (repeat' split)<;>omega
theorem Xp (v:Int) (h:0<=v/\v < 15):0+aa v 0 4*2 ^ 0=v:=by
 unfold aa; (repeat' split)<;>omega
theorem Xq (v:Int) (h:v=0):0=v:=by
 omega
theorem Xr (v:Int) (h:v=0):0=v:=by
 omega
theorem Xs (v:Int) (h:v=0):0=v:=by
 omega
theorem Xt (v:Int) (h:v=0):0=v:=by
 omega
theorem Xu (v:Int) (h:v=0\/v=1):0+aa v 0 1*2 ^ 0=v:=by
 unfold aa; (repeat' split)<;>omega
theorem Xv (v:Int) (h:v=0):0=v:=by
 omega
theorem Xw (v:Int) (h:v=0):0=v:=by
 omega
theorem Xx (v:Int) (h:0<=v/\v < 15):0+aa v 0 4*2 ^ 0=v:=by
 unfold aa; (repeat' split)<;>omega
theorem Xy (v:Int) (h:0<=v/\v < 15):0+aa v 0 4*2 ^ 0=v:=by
 unfold aa; (repeat' split)<;>omega
theorem Xz (v:Int) (h:0<=v/\v < 15):0+aa v 0 4*2 ^ 0=v:=by
 unfold aa; (repeat' split)<;>omega
theorem XA (v:Int) (h:v=0):0=v:=by
 omega
theorem XB (v:Int) (h:v=0):0=v:=by
 omega
theorem XC (v:Int) (h:v=0):0=v:=by
 omega
theorem XD (v:Int) (h:v=0):0=v:=by
 omega
theorem XE (v:Int) (h:v=0):0=v:=by
 omega
theorem XF (v:Int) (h:v=0):0=v:=by
 omega
theorem XG (v:Int) (h:v=0):0=v:=by
 omega
theorem XH (v:Int) (h:0<=v/\v < 15):0+aa v 0 4*2 ^ 0=v:=by
 unfold aa; (repeat' split)<;>omega
theorem XI (v:Int) (h:0<=v/\v < 15):0+aa v 0 4*2 ^ 0=v:=by
 unfold aa; (repeat' split)<;>omega
theorem XJ (v:Int) (h:0<=v/\v < 15):0+aa v 0 4*2 ^ 0=v:=by
 unfold aa; (repeat' split)<;>omega
theorem XK (v:Int) (h:0<=v/\v < 15):0+aa v 0 4*2 ^ 0=v:=by
 unfold aa; (repeat' split)<;>omega
theorem XL (v:Int) (h:v=0):0=v:=by
 omega
theorem XM (v:Int) (h:v=0):0=v:=by
 omega
theorem XN (v:Int) (h:v=0):0=v:=by
 omega
theorem XO (v:Int) (h:v=0):0=v:=by
 omega
theorem XP (v:Int) (h:v=0):0=v:=by
 omega
theorem XQ (v:Int) (h:v=0):0=v:=by
 omega
theorem XR (v:Int) (h:0<=v/\v < 15):0+aa v 0 4*2 ^ 0=v:=by
 unfold aa; (repeat' split)<;>omega
theorem XS (v:Int) (h:0<=v/\v < 15):0+aa v 0 4*2 ^ 0=v:=by
 unfold aa; (repeat' split)<;>omega
theorem XT (v:Int) (h:0<=v/\v < 15):0+aa v 0 4*2 ^ 0=v:=by
 unfold aa; (repeat' split)<;>omega
theorem XU (v:Int) (h:0<=v/\v < 15):0+aa v 0 4*2 ^ 0=v:=by
 unfold aa; (repeat' split)<;>omega
theorem XV (v:Int) (h:v=0):0=v:=by
 omega
theorem XW (v:Int) (h:v=0):0=v:=by
 omega
theorem XX (v:Int) (h:v=0):0=v:=by
 omega
theorem XY (v:Int) (h:v=0):0=v:=by
 omega
theorem XZ (v:Int) (h:v=0):0=v:=by
 omega
theorem X0 (v:Int) (h:v=0):0=v:=by
 omega
theorem X1 (v:Int) (h:0<=v/\v < 15):0+aa v 0 4*2 ^ 0=v:=by
 unfold aa; (repeat' split)<;>omega
theorem X2 (v:Int) (h:0<=v/\v < 15):0+aa v 0 4*2 ^ 0=v:=by
 unfold aa; (repeat' split)<;>omega
theorem X3 (v:Int) (h:0<=v/\v < 15):0+aa v 0 4*2 ^ 0=v:=by
 unfold aa; (repeat' split)<;>omega
theorem X4 (v:Int) (h:0<=v/\v < 15):0+aa v 0 4*2 ^ 0=v:=by
 unfold aa; (repeat' split)<;>omega
theorem X5 (v:Int) (h:v=0):0=v:=by
 omega
theorem X6 (v:Int) (h:v=0):0=v:=by
 omega
theorem X7 (v:Int) (h:v=0):0=v:=by
 omega
theorem X8 (v:Int) (h:v=0):0=v:=by
 omega
theorem X9 (v:Int) (h:v=0):0=v:=by
 omega
theorem X' (v:Int) (h:v=0):0=v:=by
 omega
theorem X_ (v:Int) (h:0<=v/\v < 15):0+aa v 0 4*2 ^ 0=v:=by
 unfold aa; (repeat' split)<;>omega
theorem Ya (v:Int) (h:v=0):0=v:=by
 omega
theorem Yb (v:Int) (h:0<=v/\v < 15):aa v 0 4=v:=by
 unfold aa; split<;>omega
theorem Yc (v:Int) (h:v=0):0=v:=by
 omega
theorem Yd (v:Int) (h:v=0):0=v:=by
 omega
theorem Ye (v:Int) (h:v=0):0=v:=by
 omega
theorem Yf (v:Int) (h:v=0):0=v:=by
 omega
theorem Yg (v:Int) (h:v=0):0=v:=by
 omega
theorem Yh (v:Int) (h:v=0):0=v:=by
 omega
theorem Yi (v:Int) (h:v=0):0=v:=by
 omega
theorem Yj (v:Int) (h:v=0):0=v:=by
 omega
theorem Yk (v:Int) (h:v=0):0=v:=by
 omega
theorem Yl (v:Int) (h:v=0):0=v:=by
 omega
theorem Ym (v:Int) (h:v=0):0=v:=by
 omega
theorem Yn (v:Int) (h:-1048576<=v/\v<=1048574/\v % 2=0):df (0+aa v 20 1*2 ^ 20+aa v 12 6*2 ^ 12+aa v 18 1*2 ^ 18+aa v 19 1*2 ^ 19+aa v 1 11*2 ^ 1) 21=v:=by
 unfold df aa; (repeat' split)<;>omega
theorem Yo (v:Int) (h:v=0):0=v:=by
 omega
theorem Yp (v:Int) (h:v=0):0=v:=by
 omega
theorem Yq (v:Int) (h:v=0):0=v:=by
 omega
theorem Yr (v:Int) (h:0<=v/\v<=13):0+aa v 0 4*2 ^ 0=v:=by
 unfold aa; (repeat' split)<;>omega
theorem Ys (v:Int) (h:v=0):0=v:=by
 omega
theorem Yt (v:Int) (h:v=0):0=v:=by
 omega
theorem Yu (v:Int) (h:v=0):0=v:=by
 omega
theorem Yv (v:Int) (h:v=0):0=v:=by
 omega
theorem Yw (v:Int) (h:v=0):0=v:=by
 omega
theorem Yx (v:Int) (h:v=0):0=v:=by
 omega
theorem Yy (v:Int) (h:v=0):0=v:=by
 omega
theorem Yz (v:Int) (h:v=0):0=v:=by
 omega
theorem YA (v:Int) (h:v=0):0=v:=by
 omega
theorem YD (v:Int) (h:v=0):0=v:=by
 omega
end Go.Proofs.YtnbhdacpogplgaaGreatDoor.Pw

/- What this claim is proved with: no condition. -/
import Derived.Test.YtbnoodjnpooocaaGreatDoorNw7
import Derived.Test.YtbnoodjnpooocaaGreatDoorNw8
import Derived.Test.YtbnoodjnpooocaaGreatDoorNw9
import Derived.Test.YtbnoodjnpooocaaGreatDoorNwImmD
import Derived.Laws.BitsLemmas
set_option maxRecDepth 100000
set_option maxHeartbeats 16000000
set_option linter.unusedVariables false
set_option linter.unusedSimpArgs false
namespace Go.Proofs.YtbnoodjnpooocaaGreatDoor.Pw
open Go Go.RowKit
theorem je {f:FuncId} {fn:Func} {c:Code} (hf:Tryz.prog.funcs[f]?=some fn) (hb:fn.body=some c) (hn:(fn.name == "runtime.NumGoroutine")=false):Ev.gz gT.cx.P f:=Ev.gi hf hb hn
theorem Am {w:World} {I:Nat->Prop} {β:an}:bg w I [] β []:=by simp only[bg]
theorem kz {w:World} {I:Nat->Prop} {β:an} {x:PV} {v:Value} {xs:List PV} {vs:List Value} (h:x.Is w I β v) (h':bg w I xs β vs):bg w I (x::xs) β (v::vs):=by simp only[bg]; exact⟨h,h'⟩
theorem eI {w:World} {I:Nat->Prop} {β:an} (k:IntKind) (n:Int):(PV.int k n).Is w I β (.int k n):=by simp only[PV.Is]
theorem nY {w:World} {I:Nat->Prop} {β:an} {xs:List PV} {vs:Array Value} (h:bg w I xs β vs.toList):(PV.tup xs).Is w I β (.tuple vs):=by simp only[PV.Is]; exact⟨vs,rfl,h⟩
theorem isL1 {w:World} {I:Nat->Prop} {β:an} {x:PV} {vals:List Value} (h:bg w I [x] β vals):∃ v,vals = [v]/\x.Is w I β v:=by
 match vals,h with
 | [v],h=>exact⟨v,rfl,by simpa only [bg,and_true] using h⟩
theorem Oa {G:Gx} {I:Nat->Prop} {w:World} (hM:cE G I w) {g:Nat} {k:IntKind} {l:List Int} (h:(g,l.map (PV.lit k))∈G.jl):∃ ty fr,w.heap[g]?=some (.cells (l.map (Value.int k)).toArray ty fr):=by
 obtain⟨arr,ty,fr,h1,h2⟩:=hM.row _ _ h
 obtain⟨_,h3⟩:=hM.lV _ _ h
 refine⟨ty,fr,?_⟩
 rw[h1]
 congr 2
 refine Array.ext' (List.ext_getElem? fun i=>?_)
 rw[List.length_map] at h2
 by_cases hi:i < l.length
 ·obtain⟨v,hv,hiv,_⟩:=h3.get (i:=i) (c:=PV.lit k l[i]) (by simp[hi])
  rw[Ev.fh h1,Nat.zero_add] at hv
  simp only[PV.Is] at hiv
  subst hiv
  simp only[Array.getElem?_toList,hv,List.getElem?_map,List.getElem?_eq_getElem hi,Option.map_some]
 ·rw[List.getElem?_eq_none (by simp; omega),List.getElem?_eq_none (by simp; omega)]
theorem al.Q4 {G:Gx} {f:FuncId} {args:List PV} {r:PV} (he:Ev.gz G.cx.P f)
  (h:∀ I β w vals,cE G I w->bg w I args β vals->∃ v,r.Is w I no v/\(∀ w' I' ay,r.Is w' I' ay v)/\Calls G.cx.P f vals.toArray w fun e w'=>e = .returned v/\Below w.heap.size w w'):al G f args r:=by
 refine Spec.intro he fun I β w vals hH hM hA=>?_
 obtain⟨v,_,hr,hc⟩:=h I β w vals hM hA
 refine hc.mono fun e w' ⟨he,hB⟩=>⟨v,r,[],I,β,he,rfl,hr _ _ _,hH.IU _ _,hM.below hB,⟨hB.os,hB.tape,hB.output,hB.size,fun g hg _=>hB.block g hg,fun g _ h=>h,fun _ h=>h,fun _ _ h=>.inl h⟩,Nat.le_refl _,fun _ _ _=>rfl⟩
theorem YF:IntKind.i64.wrap (0+1)=1:=by decide
structure IN where
 form:Int
 rd:Int
 rn:Int
 rm:Int
 ra:Int
 au:Int
 kind:Int
 bE:Int
 set:Int
 cond:Int
 aq:Int
def inFs (i:IN):List PV:=[.int .i64 i.form,.int .i64 i.rd,.int .i64 i.rn,.int .i64 i.rm,.int .i64 i.ra,.int .i64 i.au,.int .i64 i.kind,.int .i64 i.bE,.int .i64 i.set,.int .i64 i.cond,.int .i64 i.aq]
def dE (i:IN):PV:=.agg (inFs i)
def iZ:IN:=⟨0,0,0,0,0,0,0,0,0,0,0⟩
theorem Q5 {I:Nat->Prop} {w:World} (hM:cE gT I w):Q3 w :=
 Oa hM (g:=3) (k:=.u32) (l:=[1,65537,16777472,16843009]) (show (3,Su)∈gT.jl from List.mem_cons_self)
theorem pJ (f:Int):al gT 119 [.int .i64 f] (.bool (1<=f/\f<=100)):=by
 refine Spec.enter aA Z0 100 Tryz.func119 rfl (by kernel_rfl) ?_
 repeat' ((conv=>whnf); first|(refine (And.intro (fun _=>?_) (fun _=>?_):(_->_)/\(_->_))<;>(first|(exfalso; first|contradiction|omega)|skip))|refine Or.inl (And.intro (by first|exact bf (by omega)|exact ah (by omega)|exact gM (by omega)|exact j7 (by omega)) ?_)|(refine And.intro (show (_:Int)≠0 by omega) (Or.inl (And.intro (show (0:Int)<=_ by omega) (And.intro (show (0:Int) < _ by omega) ?_))))|(refine And.intro (show (_:Int)≠0 by omega) (Or.inl (And.intro (show (0:Int)<=_ by omega) (And.intro (by first|exact (show (_:Int)<=9223372036854775807 by omega)|exact (show (_:Int)<=4294967295 by omega)) (And.intro (show (0:Int) < _ by omega) ?_)))))|(refine aF ?_; show _↔_; omega)|(refine aF ?_; show ¬ _; omega)|(intro _))
theorem qC (f:Int):al gT 114 [.int .i64 f] (.bool (48<=f/\f<=100)):=by
 refine Spec.enter aA aaa 100 Tryz.func114 rfl (by kernel_rfl) ?_
 refine (pJ f).u ?_
 repeat' ((conv=>whnf); first|(refine (And.intro (fun _=>?_) (fun _=>?_):(_->_)/\(_->_))<;>(first|(exfalso; first|contradiction|omega)|skip))|refine Or.inl (And.intro (by first|exact bf (by omega)|exact ah (by omega)|exact gM (by omega)|exact j7 (by omega)) ?_)|(refine And.intro (show (_:Int)≠0 by omega) (Or.inl (And.intro (show (0:Int)<=_ by omega) (And.intro (show (0:Int) < _ by omega) ?_))))|(refine And.intro (show (_:Int)≠0 by omega) (Or.inl (And.intro (show (0:Int)<=_ by omega) (And.intro (by first|exact (show (_:Int)<=9223372036854775807 by omega)|exact (show (_:Int)<=4294967295 by omega)) (And.intro (show (0:Int) < _ by omega) ?_)))))|(refine aF ?_; show _↔_; omega)|(refine aF ?_; show ¬ _; omega)|(intro _))
def YN:List Int:=[0,1,1,1,2,2,3,3,4,4,4,4,5,5,5,5,5,5,5,5,5,5,5,5,5,5,5,5,6,6,6,7,8,2,2,9,9,8,8,8,10,10,11,12,13,14,15,16,17,17,18,18,18,18,18,18,18,18,18,18,19,19,20,20,20,20,21,21,21,21,21,21,21,21,21,21,22,22,23,23,23,23,24,24,25,25,26,26,27,27,27,27,28,29,30,31,31,28,32,33,34]
def ab (f:Int):Int:=if 1<=f/\f<=100 then YN.getD f.toNat 0 else 0
theorem J7 {f:Int} (h:1<=f/\f<=100) {c:PV} (hc:(YN.map (PV.lit .i64))[f.toNat]?=some c):c = .lit .i64 (ab f):=by
 rw[List.getElem?_map,Option.map_eq_some_iff] at hc
 obtain⟨z,hz,rfl⟩:=hc
 unfold ab
 rw[if_pos h,List.getD_eq_getElem?_getD,hz]; rfl
theorem gb (f:Int):al gT 137 [.int .i64 f] (.int .i64 (ab f)):=by
 refine Spec.enter aA Z1 100 Tryz.func137 rfl (by kernel_rfl) ?_
 refine (pJ f).u ?_
 refine⟨fun h=>?_,fun h=>?_⟩
 ·refine aF ?_
  exact (show (0:Int)=ab f by unfold ab; rw[if_neg h])
 have h':=Classical.not_not.1 h
 refine⟨by omega,show f < 101 by omega,.inr ⟨rfl,by omega,show 0+f.toNat*1 < 101 by omega,fun c hc=>?_⟩⟩
 have uT:(YN.map (PV.lit .i64))[f.toNat]?=some c:=by
  have e:0+f.toNat*1=f.toNat:=by omega
  have h0:(YN.map (PV.lit .i64))[0+f.toNat*1]?=some c:=hc
  rwa [e] at h0
 obtain rfl:=J7 h' uT
 exact aF rfl
structure RU where
 rd:Int
 rn:Int
 rm:Int
 ra:Int
 i0:Int
 i1:Int
 i2:Int
 b0:Int
 b1:Int
 b2:Int
 kind:Bool
 set:Bool
 cond:Bool
 aq:Int
def ruF (r:RU):List PV:=[.int .i64 r.rd,.int .i64 r.rn,.int .i64 r.rm,.int .i64 r.ra,.int .i64 r.i0,.int .i64 r.i1,.int .i64 r.i2,.int .i64 r.b0,.int .i64 r.b1,.int .i64 r.b2,.bool (r.kind=true),.bool (r.set=true),.bool (r.cond=true),.int .i64 r.aq]
def ruP (r:RU):PV:=.agg (ruF r)
def nm:RU:=⟨0,0,0,0,0,0,0,0,0,0,false,false,false,0⟩
def ruN (s:Int):RU :=
 if s=1 then { nm with rd:=1,rm:=1,i0:=0,i1:=32,i2:=1 } else if s=2 then { nm with rd:=1,rn:=1,rm:=1 } else if s=3 then { nm with rd:=1,rn:=1,i1:=7,i2:=1 }
 else if s=4 then { nm with rd:=1,i1:=255,i2:=1 } else if s=5 then { nm with rd:=1,rm:=1 } else if s=6 then { nm with rd:=2,rm:=2 } else if s=7 then { nm with rm:=2 }
 else if s=8 then { nm with rd:=1,i1:=1020,i2:=4 } else if s=9 then { nm with rd:=1,rn:=1,i1:=124,i2:=4 } else if s=10 then { nm with i1:=508,i2:=4 } else if s=11 then { nm with aq:=16639 } else if s=12 then { nm with aq:=33023 }
 else if s=13 then nm else if s=14 then { nm with i1:=255,i2:=1 } else if s=15 then { nm with cond:=true,i0:=-256,i1:=254,i2:=2 } else if s=16 then { nm with i0:=-2048,i1:=2046,i2:=2 } else nm
def eF (s:Int):RU :=
 if s=17 then { nm with rd:=3,i1:=65535,i2:=1 } else if s=18 then { nm with rd:=3,rn:=3,i1:=4095,i2:=1,set:=true } else if s=19 then { nm with rd:=3,i1:=4095,i2:=1,set:=true } else if s=20 then { nm with rn:=3,i1:=4095,i2:=1 }
 else if s=21 then { nm with rd:=3,rn:=3,rm:=3,kind:=true,set:=true } else if s=22 then { nm with rd:=3,rm:=3,kind:=true,set:=true } else if s=23 then { nm with rn:=3,rm:=3,kind:=true } else if s=24 then { nm with rd:=3,rn:=3,i1:=4095,i2:=1 }
 else if s=25 then { nm with rd:=3,rn:=2,i1:=4095,i2:=1 } else if s=26 then { nm with rd:=3,rn:=2,rm:=3,b1:=3,b2:=1 } else if s=27 then { nm with rd:=3,rn:=3,rm:=3,set:=true } else if s=28 then { nm with rd:=3,rn:=3,rm:=3 }
 else if s=29\/s=30\/s=31 then { nm with rd:=3,rn:=3,rm:=3,ra:=3 } else if s=32 then { nm with rd:=3,rm:=3 } else if s=33 then { nm with cond:=true,i0:=-1048576,i1:=1048574,i2:=2 } else if s=34 then { nm with i0:=-16777216,i1:=16777214,i2:=2 } else ruN s
theorem rR (s:Int):al gT 219 [.int .i64 s] (ruP (ruN s)):=by
 refine Spec.enter aA Z3 100 Tryz.func219 rfl (by kernel_rfl) ?_
 repeat' ((conv=>whnf); first|(refine (And.intro (fun _=>?_) (fun _=>?_):(_->_)/\(_->_))<;>(first|(exfalso; first|contradiction|omega)|skip))|refine Or.inl (And.intro (by first|exact bf (by omega)|exact ah (by omega)|exact gM (by omega)|exact j7 (by omega)) ?_)|(refine And.intro (show (_:Int)≠0 by omega) (Or.inl (And.intro (show (0:Int)<=_ by omega) (And.intro (show (0:Int) < _ by omega) ?_))))|(refine And.intro (show (_:Int)≠0 by omega) (Or.inl (And.intro (show (0:Int)<=_ by omega) (And.intro (by first|exact (show (_:Int)<=9223372036854775807 by omega)|exact (show (_:Int)<=4294967295 by omega)) (And.intro (show (0:Int) < _ by omega) ?_)))))|(simp only[ruN, *,if_true,if_false,reduceIte,Int.reduceEq]; refine aF ?_; (repeat' first|exact trivial|exact rfl|exact (show ¬ (false=true) from Bool.false_ne_true)|refine And.intro ?_ ?_))|(intro _))
theorem u_ (s:Int):al gT 136 [.int .i64 s] (ruP (eF s)):=by
 refine Spec.enter aA Z2 100 Tryz.func136 rfl (by kernel_rfl) ?_
 repeat' ((conv=>whnf); first|(refine (And.intro (fun _=>?_) (fun _=>?_):(_->_)/\(_->_))<;>(first|(exfalso; first|contradiction|omega)|skip))|refine Or.inl (And.intro (by first|exact bf (by omega)|exact ah (by omega)|exact gM (by omega)|exact j7 (by omega)) ?_)|(refine And.intro (show (_:Int)≠0 by omega) (Or.inl (And.intro (show (0:Int)<=_ by omega) (And.intro (show (0:Int) < _ by omega) ?_))))|(refine And.intro (show (_:Int)≠0 by omega) (Or.inl (And.intro (show (0:Int)<=_ by omega) (And.intro (by first|exact (show (_:Int)<=9223372036854775807 by omega)|exact (show (_:Int)<=4294967295 by omega)) (And.intro (show (0:Int) < _ by omega) ?_)))))|(refine Exists.intro [] (And.intro bI ((rR s).use (by repeat' first|exact trivial|exact rfl|exact Iff.rfl|exact Or.inl rfl|refine And.intro ?_ ?_) rfl rfl ?_)))|(simp only[eF, *,if_true,if_false,reduceIte,Int.reduceEq,or_true,true_or,or_false,false_or]; refine aF ?_; (repeat' first|exact trivial|exact rfl|exact (show ¬ (false=true) from Bool.false_ne_true)|exact Iff.rfl|refine And.intro ?_ ?_))|(intro _))
def gQ (c r:Int):Prop:=(c=1/\0<=r/\r < 8)\/(c=2/\0<=r/\r < 15)\/(c=3/\0<=r/\r < 15/\r≠13)\/(c≠1/\c≠2/\c≠3/\r=0)
theorem v9 (r:Int):al gT 220 [.int .i64 r] (.bool (0<=r/\r < 8)):=by
 refine Spec.enter aA Z5 100 Tryz.func220 rfl (by kernel_rfl) ?_
 repeat' ((conv=>whnf); first|(refine (And.intro (fun _=>?_) (fun _=>?_):(_->_)/\(_->_))<;>(first|(exfalso; first|contradiction|omega)|skip))|refine Or.inl (And.intro (by first|exact bf (by omega)|exact ah (by omega)|exact gM (by omega)|exact j7 (by omega)) ?_)|(refine And.intro (show (_:Int)≠0 by omega) (Or.inl (And.intro (show (0:Int)<=_ by omega) (And.intro (show (0:Int) < _ by omega) ?_))))|(refine And.intro (show (_:Int)≠0 by omega) (Or.inl (And.intro (show (0:Int)<=_ by omega) (And.intro (by first|exact (show (_:Int)<=9223372036854775807 by omega)|exact (show (_:Int)<=4294967295 by omega)) (And.intro (show (0:Int) < _ by omega) ?_)))))|(refine aF ?_; show _↔_; omega)|(refine aF ?_; show ¬ _; omega)|(intro _))
theorem J8 (c r:Int):al gT 138 [.int .i64 c,.int .i64 r] (.bool (gQ c r)):=by
 refine Spec.enter aA Z4 100 Tryz.func138 rfl (by kernel_rfl) ?_
 repeat' ((conv=>whnf); first|(refine (And.intro (fun _=>?_) (fun _=>?_):(_->_)/\(_->_))<;>(first|(exfalso; first|contradiction|omega)|skip))|refine Or.inl (And.intro (by first|exact bf (by omega)|exact ah (by omega)|exact gM (by omega)|exact j7 (by omega)) ?_)|(refine And.intro (show (_:Int)≠0 by omega) (Or.inl (And.intro (show (0:Int)<=_ by omega) (And.intro (show (0:Int) < _ by omega) ?_))))|(refine And.intro (show (_:Int)≠0 by omega) (Or.inl (And.intro (show (0:Int)<=_ by omega) (And.intro (by first|exact (show (_:Int)<=9223372036854775807 by omega)|exact (show (_:Int)<=4294967295 by omega)) (And.intro (show (0:Int) < _ by omega) ?_)))))|(refine Exists.intro [] (And.intro bI ((v9 r).use (by repeat' first|exact trivial|exact rfl|exact Iff.rfl|exact Or.inl rfl|refine And.intro ?_ ?_) rfl rfl ?_)))|(refine aF ?_; (show _↔gQ c r); unfold gQ; omega)|(refine aF ?_; (show ¬ gQ c r); unfold gQ; omega)|(intro _))
def dz (f t s n:Int):Prop:=(s=0/\n=0)\/(s≠0/\f<=n/\n<=t/\n.tmod s=0)
theorem v_ (f t s n:Int):al gT 140 [.agg [.int .i64 f,.int .i64 t,.int .i64 s],.int .i64 n] (.bool (dz f t s n)):=by
 refine Spec.enter aA Z7 100 Tryz.func140 rfl (by kernel_rfl) ?_
 refine⟨fun h=>?_,fun h=>?_⟩
 ·refine aF ?_
  exact (show n=0↔dz f t s n by unfold dz; exact⟨fun e=>.inl ⟨h,e⟩,fun e=>e.elim (fun e=>e.2) (fun e=>absurd h e.1)⟩)
 have h0:s≠0:=h
 refine⟨fun h1=>?_,fun h1=>?_⟩
 ·refine⟨fun h2=>?_,fun h2=>?_⟩
  ·refine⟨h0,.inr ?_⟩
   refine aF ?_
   exact (show n.tmod s=0↔dz f t s n from ⟨fun e=>.inr ⟨h0,h1,h2,e⟩,fun e=>e.elim (fun e=>absurd e.1 h0) (fun e=>e.2.2.2)⟩)
  ·refine aF ?_
   exact (show ¬ dz f t s n from fun e=>e.elim (fun e=>h0 e.1) (fun e=>h2 e.2.2.1))
 ·refine aF ?_
  exact (show ¬ dz f t s n from fun e=>e.elim (fun e=>h0 e.1) (fun e=>h1 e.2.1))
theorem J9 (n:Int) (ok:Prop):al gT 141 [.int .i64 n,.bool ok] (.bool (n=0\/(n=1/\ok))):=by
 refine Spec.enter aA Z8 100 Tryz.func141 rfl (by kernel_rfl) ?_
 refine⟨fun h=>?_,fun h=>And.intro (fun h1=>?_) (fun h1=>?_)⟩
 ·exact aF (show n=0\/(n=1/\ok) from .inl h)
 ·exact aF (show ok↔(n=0\/(n=1/\ok)) from ⟨fun k=>.inr ⟨h1,k⟩,fun k=>k.elim (fun e=>absurd e h) (fun e=>e.2)⟩)
 ·exact aF (show ¬ (n=0\/(n=1/\ok)) from fun k=>k.elim h (fun e=>h1 e.1))
def D5 (x:Int):Prop:=-9223372036854775808<=x/\x<=9223372036854775807
theorem pK (n:Int) (h:D5 n):al gT 212 [.int .i64 n] (.tup [.int .u32 (Rm.gZ n),.int .i64 (Rm.fU n)]) :=
 al.Q4 (je Tryz.func212 rfl (by kernel_rfl)) fun I β w vals hM hA=>by
  obtain⟨v,rfl,h1⟩:=isL1 hA
  simp only[PV.Is] at h1
  subst h1
  refine⟨.tuple #[.int .u32 (Rm.gZ n),.int .i64 (Rm.fU n)],nY (kz (eI ..) (kz (eI ..) Am)),fun _ _ _=>nY (kz (eI ..) (kz (eI ..) Am)),?_⟩
  refine (pI n w (Q5 hM) h.1 h.2).mono ?_
  rintro e w' ⟨rfl,rfl⟩
  exact⟨rfl,Below.refl _ _⟩
def b_ (k b:Int):Prop:=(k=0/\0<=b/\b < 32)\/((k=1\/k=2)/\1<=b/\b<=32)\/(k=3/\1<=b/\b < 32)
theorem An (k b:Int):al gT 221 [.int .i64 k,.int .i64 b] (.bool (b_ k b)):=by
 refine Spec.enter aA Z' 100 Tryz.func221 rfl (by kernel_rfl) ?_
 repeat' ((conv=>whnf); first|(refine (And.intro (fun _=>?_) (fun _=>?_):(_->_)/\(_->_))<;>(first|(exfalso; first|contradiction|omega)|skip))|refine Or.inl (And.intro (by first|exact bf (by omega)|exact ah (by omega)|exact gM (by omega)|exact j7 (by omega)) ?_)|(refine And.intro (show (_:Int)≠0 by omega) (Or.inl (And.intro (show (0:Int)<=_ by omega) (And.intro (show (0:Int) < _ by omega) ?_))))|(refine And.intro (show (_:Int)≠0 by omega) (Or.inl (And.intro (show (0:Int)<=_ by omega) (And.intro (by first|exact (show (_:Int)<=9223372036854775807 by omega)|exact (show (_:Int)<=4294967295 by omega)) (And.intro (show (0:Int) < _ by omega) ?_)))))|(refine aF ?_; (show _↔b_ k b); unfold b_; omega)|(refine aF ?_; (show ¬ b_ k b); unfold b_; omega)|(intro _))
def fu (i:IN) (r:RU):Prop:=(r.kind=true/\b_ i.kind i.bE)\/(¬ r.kind=true/\i.kind=0/\dz r.b0 r.b1 r.b2 i.bE)
theorem Ch (i:IN) (r:RU):al gT 142 [dE i,ruP r] (.bool (fu i r)):=by
 refine Spec.enter aA Z9 100 Tryz.func142 rfl (by kernel_rfl) ?_
 refine⟨fun h=>?_,fun h=>?_⟩
 ·refine (An i.kind i.bE).u ?_
  refine aF ?_
  exact (show b_ i.kind i.bE↔fu i r from ⟨fun k=>.inl ⟨h,k⟩,fun k=>k.elim (fun e=>e.2) (fun e=>absurd h e.1)⟩)
 ·refine⟨fun h1=>?_,fun h1=>?_⟩
  ·refine (v_ r.b0 r.b1 r.b2 i.bE).u ?_
   refine aF ?_
   exact (show dz r.b0 r.b1 r.b2 i.bE↔fu i r from ⟨fun k=>.inr ⟨h,h1,k⟩,fun k=>k.elim (fun e=>absurd e.1 h) (fun e=>e.2.2)⟩)
  ·refine aF ?_
   exact (show ¬ fu i r from fun k=>k.elim (fun e=>h e.1) (fun e=>h1 e.2.1))
def dV (i:IN) (r:RU):Prop:=(r.aq=0/\i.aq=0)\/(¬ r.aq=0/\0 < i.aq/\bits .andNot .i64 i.aq r.aq=0)
theorem Ao (i:IN) (r:RU):al gT 139 [dE i,ruP r] (.bool (dV i r)):=by
 refine Spec.enter aA Z6 100 Tryz.func139 rfl (by kernel_rfl) ?_
 refine⟨fun h=>?_,fun h=>?_⟩
 ·refine aF ?_
  exact (show i.aq=0↔dV i r from ⟨fun k=>.inl ⟨h,k⟩,fun k=>k.elim (fun e=>e.2) (fun e=>absurd h e.1)⟩)
 ·refine⟨fun h1=>?_,fun h1=>?_⟩
  ·refine aF ?_
   exact (show bits .andNot .i64 i.aq r.aq=0↔dV i r from ⟨fun k=>.inr ⟨h,h1,k⟩,fun k=>k.elim (fun e=>absurd e.1 h) (fun e=>e.2.2)⟩)
  ·refine aF ?_
   exact (show ¬ dV i r from fun k=>k.elim (fun e=>h e.1) (fun e=>h1 e.2.1))
def fv (i:IN):Prop:=(i.form=1->i.au < 32)/\(i.form=2\/i.form=3->0 < i.au)/\(i.form=29->¬ (0<=i.rd/\i.rd < 8)\/¬ (0<=i.rm/\i.rm < 8))/\(i.form=95\/i.form=96->i.rd≠i.ra)/\(ab i.form=18\/ab i.form=19\/ab i.form=20->Rm.fU i.au=0)
theorem Ob:ab 1=1/\ab 2=1/\ab 3=1/\ab 29=6/\ab 95=31/\ab 96=31:=by decide
theorem Ci (i:IN) (hi:D5 i.au):al gT 143 [dE i] (.bool (fv i)):=by
 obtain⟨s1,s2,s3,s29,s95,s96⟩:=Ob
 refine Spec.enter aA Z_ 100 Tryz.func143 rfl (by kernel_rfl) ?_
 have e:fv i↔((i.form=1->i.au < 32)/\(i.form=2\/i.form=3->0 < i.au)/\(i.form=29->¬ (0<=i.rd/\i.rd < 8)\/¬ (0<=i.rm/\i.rm < 8))/\(i.form=95\/i.form=96->i.rd≠i.ra)/\(ab i.form=18\/ab i.form=19\/ab i.form=20->Rm.fU i.au=0)):=Iff.rfl
 have f1:i.form=1->ab i.form=1:=fun h=>by rw[h]; exact s1
 have f2:i.form=2->ab i.form=1:=fun h=>by rw[h]; exact s2
 have f3:i.form=3->ab i.form=1:=fun h=>by rw[h]; exact s3
 have f29:i.form=29->ab i.form=6:=fun h=>by rw[h]; exact s29
 have f95:i.form=95->ab i.form=31:=fun h=>by rw[h]; exact s95
 have f96:i.form=96->ab i.form=31:=fun h=>by rw[h]; exact s96
 clear s1 s2 s3 s29 s95 s96
 repeat' ((conv=>whnf); first|(refine (And.intro (fun _=>?_) (fun _=>?_):(_->_)/\(_->_))<;>(first|(exfalso; first|contradiction|omega)|skip))|refine Or.inl (And.intro (by first|exact bf (by omega)|exact ah (by omega)|exact gM (by omega)|exact j7 (by omega)) ?_)|(refine And.intro (show (_:Int)≠0 by omega) (Or.inl (And.intro (show (0:Int)<=_ by omega) (And.intro (show (0:Int) < _ by omega) ?_))))|(refine And.intro (show (_:Int)≠0 by omega) (Or.inl (And.intro (show (0:Int)<=_ by omega) (And.intro (by first|exact (show (_:Int)<=9223372036854775807 by omega)|exact (show (_:Int)<=4294967295 by omega)) (And.intro (show (0:Int) < _ by omega) ?_)))))|(refine Exists.intro [] (And.intro bI ((v9 _).use (by repeat' first|exact trivial|exact rfl|exact Iff.rfl|exact Or.inl rfl|refine And.intro ?_ ?_) rfl rfl ?_)))|(refine Exists.intro [] (And.intro bI ((gb i.form).use (by repeat' first|exact trivial|exact rfl|exact Iff.rfl|exact Or.inl rfl|refine And.intro ?_ ?_) rfl rfl ?_)))|(refine Exists.intro [] (And.intro bI ((pK i.au hi).use (by repeat' first|exact trivial|exact rfl|exact Iff.rfl|exact Or.inl rfl|refine And.intro ?_ ?_) rfl rfl ?_)))|(refine aF ?_; (show fv i); rw[e]; clear e; omega)|(refine aF ?_; (show _↔fv i); rw[e]; clear e; omega)|(refine aF ?_; (show ¬ fv i); rw[e]; clear e; omega)|(intro _))
def aW (i:IN) (r:RU):Prop:=(1<=i.form/\i.form<=100)/\gQ r.rd i.rd/\gQ r.rn i.rn/\gQ r.rm i.rm/\gQ r.ra i.ra/\dV i r/\(i.cond=0\/(r.cond=true/\0 < i.cond/\i.cond<=13))/\dz r.i0 r.i1 r.i2 i.au/\(i.set=0\/(i.set=1/\r.set=true))/\fu i r/\fv i
def bV (i:IN):Prop:=aW i (eF (ab i.form))
theorem uc (i:IN) (hi:D5 i.au):al gT 77 [dE i] (.bool (bV i)):=by
 refine Spec.enter aA P77 100 Tryz.func77 rfl (by kernel_rfl) ?_
 refine (pJ i.form).u ?_
 refine⟨fun h=>?_,fun h=>?_⟩
 ·refine aF ?_
  exact (show ¬ bV i from fun k=>h k.1)
 have hF:=Classical.not_not.1 h
 clear h
 refine (gb i.form).u ?_
 refine (u_ _).u ?_
 unfold bV
 generalize eF (ab i.form)=r
 repeat' ((conv=>whnf); first|(refine (And.intro (fun _=>?_) (fun _=>?_):(_->_)/\(_->_))<;>(first|(exfalso; first|contradiction|omega)|skip))|refine Or.inl (And.intro (by first|exact bf (by omega)|exact ah (by omega)|exact gM (by omega)|exact j7 (by omega)) ?_)|(refine And.intro (show (_:Int)≠0 by omega) (Or.inl (And.intro (show (0:Int)<=_ by omega) (And.intro (show (0:Int) < _ by omega) ?_))))|(refine And.intro (show (_:Int)≠0 by omega) (Or.inl (And.intro (show (0:Int)<=_ by omega) (And.intro (by first|exact (show (_:Int)<=9223372036854775807 by omega)|exact (show (_:Int)<=4294967295 by omega)) (And.intro (show (0:Int) < _ by omega) ?_)))))|(refine Exists.intro [] (And.intro bI ((J8 _ _).use (by repeat' first|exact trivial|exact rfl|exact Iff.rfl|exact Or.inl rfl|refine And.intro ?_ ?_) rfl rfl ?_)))|(refine Exists.intro [] (And.intro bI ((Ao i r).use (by repeat' first|exact trivial|exact rfl|exact Iff.rfl|exact Or.inl rfl|refine And.intro ?_ ?_) rfl rfl ?_)))|(refine Exists.intro [] (And.intro bI ((v_ _ _ _ _).use (by repeat' first|exact trivial|exact rfl|exact Iff.rfl|exact Or.inl rfl|refine And.intro ?_ ?_) rfl rfl ?_)))|(refine Exists.intro [] (And.intro bI ((J9 _ _).use (by repeat' first|exact trivial|exact rfl|exact Iff.rfl|exact Or.inl rfl|refine And.intro ?_ ?_) rfl rfl ?_)))|(refine Exists.intro [] (And.intro bI ((Ch i r).use (by repeat' first|exact trivial|exact rfl|exact Iff.rfl|exact Or.inl rfl|refine And.intro ?_ ?_) rfl rfl ?_)))|(refine Exists.intro [] (And.intro bI ((Ci i hi).use (by repeat' first|exact trivial|exact rfl|exact Iff.rfl|exact Or.inl rfl|refine And.intro ?_ ?_) rfl rfl ?_)))|(refine aF ?_; (show fv i↔aW i r); (exact⟨fun k=>⟨hF,by assumption,by assumption,by assumption,by assumption,by assumption,by first|exact Or.inl (by assumption)|exact Or.inr ⟨by assumption,by assumption,by assumption⟩,by assumption,by assumption,by assumption,k⟩,fun k=>k.2.2.2.2.2.2.2.2.2.2⟩))|(refine aF ?_; (show ¬ aW i r); (rintro⟨a0,a1,a2,a3,a4,a5,a6,a7,a8,a9,R4⟩; first|contradiction|(rcases a6 with a6|⟨b1,b2,b3⟩<;>first|contradiction|omega)))|(intro _))
def Ap (x:Int) (l w:Nat):Int:=x / 2 ^ l % 2 ^ w
theorem Aq (x:Int) (w:Nat) (h0:0<=x) (h1:x<=4294967295) (hw:w<=31):bits .and .u32 x (2 ^ w - 1)=x % 2 ^ w:=by
 have hp:(2:Int) ^ w<=2 ^ 31:=by
  have:=Nat.pow_le_pow_right (n:=2) (by omega) hw
  exact_mod_cast this
 have hp0:(1:Int)<=2 ^ w:=by
  have:=Nat.one_le_two_pow (n:=w)
  exact_mod_cast this
 rw[u32_and x (2 ^ w - 1) h0 (by omega) (by omega) (by omega)]
 have e:x.toNat &&& ((2:Int) ^ w - 1).toNat=x.toNat % 2 ^ w:=by
  have:((2:Int) ^ w - 1).toNat=2 ^ w - 1:=by
   have e2:((2 ^ w:Nat):Int)=(2:Int) ^ w:=by norm_cast
   omega
  rw[this]
  exact Nat.and_two_pow_sub_one_eq_mod x.toNat w
 rw[e]
 have:((x.toNat % 2 ^ w:Nat):Int)=(x.toNat:Int) % ((2 ^ w:Nat):Int):=by norm_cast
 rw[this,Int.toNat_of_nonneg h0]
 norm_cast
theorem Ar (n:Nat) (h:n<=32):Ev.aQ .u32 (n:Int)=2 ^ n:=by
 unfold Ev.aQ
 rw[Int.toNat_natCast,show min n (IntKind.bits .u32)=n from Nat.min_eq_left h]
 norm_cast
theorem cQ (w:Nat):((2 ^ w:Nat):Int)=(2:Int) ^ w:=by norm_cast
theorem ud (w:Nat) (hw:w<=31):(1:Int)<=2 ^ w/\(2:Int) ^ w<=2147483648:=by
 have h1:=Nat.one_le_two_pow (n:=w)
 have h2:(2 ^ w:Nat)<=2147483648:=Nat.le_trans (Nat.pow_le_pow_right (n:=2) (by omega) hw) (by decide)
 have e:=cQ w
 omega
theorem S6 (x p:Int) (h0:0<=x) (h1:x<=4294967295) (hp:1<=p):0<=x / p/\x / p<=4294967295 :=
 ⟨Int.ediv_nonneg h0 (by omega),Int.le_trans (Int.ediv_le_self _ h0) h1⟩
theorem kA (x:Int) (l w:Nat) (hx:0<=x/\x<=4294967295) (hw:1<=w/\w<=31) (hl:l<=31):al gT 280 [.int .u32 x,.int .i64 ((l:Int)+w - 1),.int .i64 l] (.int .u32 (Ap x l w)):=by
 have p1:=Ar l (by omega)
 have p2:=Ar w (by omega)
 have b1:=ud l hl
 have b2:=ud w hw.2
 have d:=S6 x (2 ^ l) hx.1 hx.2 b1.1
 have e:((l:Int)+w - 1) - l+1=w:=by omega
 refine Spec.enter aA aag 100 Tryz.func280 rfl (by kernel_rfl) ?_
 refine⟨by omega,.inl ⟨bf (by omega),.inl ⟨bf (by omega),?_⟩⟩⟩
 refine⟨by omega,.inl ⟨ah (show 0<=1*Ev.aQ .u32 (((l:Int)+w - 1) - l+1)/\1*Ev.aQ .u32 (((l:Int)+w - 1) - l+1)<=4294967295 by rw[e,p2]; omega),?_⟩⟩
 refine lu ?_ (show 0<=1*Ev.aQ .u32 (((l:Int)+w - 1) - l+1) - 1/\1*Ev.aQ .u32 (((l:Int)+w - 1) - l+1) - 1<=4294967295 by rw[e,p2]; omega)
 refine aF ?_
 show bits .and .u32 (x / Ev.aQ .u32 l) (1*Ev.aQ .u32 (((l:Int)+w - 1) - l+1) - 1)=Ap x l w
 rw[e,p1,p2,Int.one_mul,Aq _ w d.1 d.2 hw.2]; rfl
theorem As (w:Nat) (hw:w<=62):(1:Int)<=2 ^ w/\(2:Int) ^ w<=4611686018427387904:=by
 have h1:=Nat.one_le_two_pow (n:=w)
 have h2:(2 ^ w:Nat)<=4611686018427387904:=Nat.le_trans (Nat.pow_le_pow_right (n:=2) (by omega) hw) (by decide)
 have e:=cQ w
 omega
def aa (n:Int) (l w:Nat):Int:=(if n < 0 then n+1099511627776 else n) / 2 ^ l % 2 ^ w
def ax (s:Int):List (Nat × Nat × Nat × Nat) :=
 if s=1 then [(4,0,6,5),(2,0,3,3),(0,0,0,3)]
 else if s=2 then [(2,0,6,3),(1,0,3,3),(0,0,0,3)]
 else if s=3 then [(4,0,6,3),(1,0,3,3),(0,0,0,3)]
 else if s=4 then [(0,0,8,3),(4,0,0,8)]
 else if s=5 then [(2,0,3,3),(0,0,0,3)]
 else if s=6 then [(0,3,7,1),(2,0,3,4),(0,0,0,3)]
 else if s=7 then [(2,0,3,4)]
 else if s=8 then [(0,0,8,3),(4,2,0,8)]
 else if s=9 then [(4,2,6,5),(1,0,3,3),(0,0,0,3)]
 else if s=10 then [(4,2,0,7)]
 else if s=11 then [(9,14,8,1),(9,0,0,8)]
 else if s=12 then [(9,15,8,1),(9,0,0,8)]
 else if s=14 then [(4,0,0,8)]
 else if s=15 then [(8,0,8,4),(4,1,0,8)]
 else if s=16 then [(4,1,0,11)]
 else if s=17 then [(4,11,26,1),(4,12,16,4),(4,8,12,3),(4,0,0,8),(0,0,8,4)]
 else if s=18 then [(4,11,26,1),(4,8,12,3),(4,0,0,8),(7,0,20,1),(1,0,16,4),(0,0,8,4)]
 else if s=19 then [(4,11,26,1),(4,8,12,3),(4,0,0,8),(7,0,20,1),(0,0,8,4)]
 else if s=20 then [(4,11,26,1),(4,8,12,3),(4,0,0,8),(1,0,16,4)]
 else if s=21 then [(6,2,12,3),(6,0,6,2),(5,0,4,2),(7,0,20,1),(1,0,16,4),(0,0,8,4),(2,0,0,4)]
 else if s=22 then [(6,2,12,3),(6,0,6,2),(5,0,4,2),(7,0,20,1),(0,0,8,4),(2,0,0,4)]
 else if s=23 then [(6,2,12,3),(6,0,6,2),(5,0,4,2),(1,0,16,4),(2,0,0,4)]
 else if s=24 then [(4,11,26,1),(4,8,12,3),(4,0,0,8),(1,0,16,4),(0,0,8,4)]
 else if s=25 then [(1,0,16,4),(0,0,12,4),(4,0,0,12)]
 else if s=26 then [(1,0,16,4),(0,0,12,4),(6,0,4,2),(2,0,0,4)]
 else if s=27 then [(7,0,20,1),(1,0,16,4),(0,0,8,4),(2,0,0,4)]
 else if s=28 then [(1,0,16,4),(0,0,8,4),(2,0,0,4)]
 else if s=29 then [(1,0,16,4),(3,0,12,4),(0,0,8,4),(2,0,0,4)]
 else if s=30 then [(1,0,16,4),(3,0,12,4),(0,0,8,4),(2,0,0,4)]
 else if s=31 then [(1,0,16,4),(0,0,12,4),(3,0,8,4),(2,0,0,4)]
 else if s=32 then [(2,0,16,4),(0,0,8,4),(2,0,0,4)]
 else if s=33 then [(4,20,26,1),(8,0,22,4),(4,12,16,6),(4,18,13,1),(4,19,11,1),(4,1,0,11)]
 else if s=34 then [(4,24,26,1),(4,12,16,10),(4,23,13,1),(4,22,11,1),(4,1,0,11)]
 else []
def lr (i:IN) (f:Nat):Int:=[i.rd,i.rn,i.rm,i.ra,i.au,i.kind,i.bE,i.set,i.cond,i.aq].getD f 0
theorem S7 (a b k:Nat) (h:b < 2 ^ k):2 ^ k*a+b=2 ^ k*a ||| b:=Nat.two_pow_add_eq_or_of_lt h a
def plus (w n at_ b:Nat):Nat:=w ||| (n % 2 ^ b) <<< at_
def YO:List Int:=[0,2048,4096,6144,6656,7168,7680,8192,10240,12288,14336,16384,16448,16512,16576,16640,16704,16768,16832,16896,16960,17024,17088,17152,17216,17280,17344,17408,17664,17920,18176,18432,20480,22528,24576,26624,36864,38912,43008,45056,45184,46080,48128,48896,48640,53248,57344,4064280576,4072669184,4026531840,4028628992,4030726144,4032823296,4034920448,4043309056,4047503360,4049600512,4053794816,4055891968,4031709184,4033806336,4027584256,4035972864,4044361472,4054847232,3925868544,3927965696,3930062848,3932160000,3934257152,3942645760,3946840064,3948937216,3953131520,3955228672,3931045888,3933143040,3926920960,3935309568,3943698176,3954183936,4060086272,4070572032,4173332480,4174381056,4164943872,4165992448,4194365440,4196462592,4198559744,4200656896,4211142656,4211081216,4211081232,4221566976,4225761280,4222677232,4205899904,4026564608,4026568704]
def om (f:Int):Int:=if 1<=f/\f<=100 then YO.getD (f - 1).toNat 0 else 0
theorem S8 {k:IntKind} {l:List Int} {n:Nat} {c:PV} (hc:(l.map (PV.lit k))[n]?=some c):c = .lit k (l.getD n 0):=by
 rw[List.getElem?_map,Option.map_eq_some_iff] at hc
 obtain⟨z,hz,rfl⟩:=hc
 rw[List.getD_eq_getElem?_getD,hz]; rfl
theorem At (f:Int) (hF:1<=f/\f<=100):al gT 199 [.int .i64 f] (.int .u32 (om f)):=by
 refine Spec.enter aA aad 100 Tryz.func199 rfl (by kernel_rfl) ?_
 refine⟨by omega,show f < 101 by omega,.inr ⟨rfl,by omega,show 0+f.toNat*1 < 101 by omega,fun c hc=>?_⟩⟩
 have uT:((0::YO).map (PV.lit .u32))[f.toNat]?=some c:=by
  have e:0+f.toNat*1=f.toNat:=by omega
  have h0:((0::YO).map (PV.lit .u32))[0+f.toNat*1]?=some c:=hc
  rwa [e] at h0
 obtain rfl:=S8 uT
 refine aF (show (0::YO).getD f.toNat 0=om f from ?_)
 unfold om
 rw[if_pos hF,show f.toNat=(f - 1).toNat+1 by omega]
 rfl
theorem iy (f:Int):al gT 115 [.int .i64 f] (.int .u32 (om f)):=by
 refine Spec.enter aA aac 100 Tryz.func115 rfl (by kernel_rfl) ?_
 refine (pJ f).u ?_
 refine⟨fun h=>?_,fun h=>?_⟩
 ·exact aF (show (0:Int)=om f by unfold om; rw[if_neg h])
 refine (At f (Classical.not_not.1 h)).u ?_
 exact aF rfl
def S9 (x:Nat × Nat × Nat × Nat):Prop:=x.1 < 10/\x.2.1<=40/\1<=x.2.2.2/\x.2.2.1+x.2.2.2<=32
theorem jW (s:Int) (h:s < 1\/34 < s):ax s = []:=by
 unfold ax
 repeat rw[if_neg (by omega)]
def fdB (l:List (Nat × Nat × Nat × Nat)):Bool:=l.all (fun x=>decide (x.1 < 10/\x.2.1<=40/\1<=x.2.2.2/\x.2.2.1+x.2.2.2<=32)) && decide (l.length<=7)
theorem Cj:∀ k:Fin 35,fdB (ax ((k.1:Nat):Int))=true:=by decide
theorem wa (s:Int):fdB (ax s)=true:=by
 by_cases h:s < 1\/34 < s
 ·rw[jW s h]; rfl
 ·have h1:=Cj ⟨s.toNat,by omega⟩
  rwa [show (((⟨s.toNat,by omega⟩:Fin 35).1:Nat):Int)=s by simp only[]; omega] at h1
theorem Ck (s:Int):(ax s).all (fun x=>decide (x.1 < 10/\x.2.1<=40/\1<=x.2.2.2/\x.2.2.1+x.2.2.2<=32))=true :=
 ((Bool.and_eq_true ..).mp (wa s)).1
theorem FH (s:Int):∀ x∈ax s,S9 x:=fun x hx=>by
 have:=List.all_eq_true.1 (Ck s) x hx
 exact (of_decide_eq_true (p:=x.1 < 10/\x.2.1<=40/\1<=x.2.2.2/\x.2.2.1+x.2.2.2<=32) this)
theorem Cl (s:Int):(ax s).length<=7 :=
 of_decide_eq_true ((Bool.and_eq_true ..).mp (wa s)).2
def Au (i:IN) (w:Nat) (x:Nat × Nat × Nat × Nat):Nat:=plus w (aa (lr i x.1) x.2.1 x.2.2.2).toNat x.2.2.1 x.2.2.2
def wc (i:IN) (l:List (Nat × Nat × Nat × Nat)):Nat:=l.foldl (Au i) (om i.form).toNat
theorem Oc (w n a b:Nat) (hw:w < 2 ^ 32) (h:a+b<=32):plus w n a b < 2 ^ 32:=by
 unfold plus
 refine Nat.or_lt_two_pow hw ?_
 rw[Nat.shiftLeft_eq]
 have h1:n % 2 ^ b < 2 ^ b:=Nat.mod_lt _ (Nat.two_pow_pos b)
 calc n % 2 ^ b*2 ^ a < 2 ^ b*2 ^ a:=Nat.mul_lt_mul_of_pos_right h1 (Nat.two_pow_pos a)
  _=2 ^ (b+a):=(Nat.pow_add ..).symm
  _<=2 ^ 32:=Nat.pow_le_pow_right (by omega) (by omega)
theorem ae (n:Int) (l w:Nat):0<=aa n l w/\aa n l w < 2 ^ w:=by
 have hp:(0:Int) < 2 ^ w:=by have:=cQ w; have:=Nat.two_pow_pos w; omega
 exact⟨Int.emod_nonneg _ (by omega),Int.emod_lt_of_pos _ hp⟩
theorem we (n l w:Nat):aa n l w=((n / 2 ^ l % 2 ^ w:Nat):Int):=by
 unfold aa
 rw[if_neg (by omega),← cQ,← cQ]
 norm_cast
def nE (s n:Int) (k:Nat):Int:=n+((if aa n k 1=s then 1 else 0) - aa n k 1)*2 ^ k
def bL (n:Int):Nat->Int
 | 0=>n
 | k+1=>nE (aa n 24 1) (bL n k) (22+k)
theorem lv (n:Int) (k:Nat):aa n k 1=0\/aa n k 1=1:=by
 have:=ae n k 1
 have e:(2:Int) ^ 1=2:=rfl
 omega
theorem Av (s n:Int) (k:Nat) (hk:k=22\/k=23):n - 8388608<=nE s n k/\nE s n k<=n+8388608:=by
 have hb:=lv n k
 have p:(2:Int) ^ 22=4194304:=by decide
 have q:(2:Int) ^ 23=8388608:=by decide
 unfold nE
 rcases hk with rfl|rfl<;>rcases hb with h|h<;>rw[h]<;>split<;>omega
theorem J' (n:Int) (k:Nat) (hk:k<=2):n - 16777216<=bL n k/\bL n k<=n+16777216:=by
 have h0:=Av (aa n 24 1) (bL n 0) 22 (.inl rfl)
 have h1:=Av (aa n 24 1) (bL n 1) 23 (.inr rfl)
 have e0:bL n 0=n:=rfl
 have e1:bL n 1=nE (aa n 24 1) (bL n 0) 22:=rfl
 have e2:bL n 2=nE (aa n 24 1) (bL n 1) 23:=rfl
 match k,hk with
 | 0,_=>omega
 | 1,_=>omega
 | 2,_=>omega
def dw (n:Int) (w:Nat):Int:=if aa n (w - 1) 1=1 then n - 2 ^ w else n
def eh (i:IN):IN:=if ab i.form=34 then {i with au:=bL (aa i.au 0 25) 2} else i
def bx (i:IN):Int:=((wc (eh i) (ax (ab i.form)):Nat):Int)
theorem S_:YO.all (fun z=>decide (0<=z/\z < 4294967296))=true:=by decide
theorem D6 (f:Int):0<=om f/\om f < 4294967296:=by
 unfold om
 split
 ·rw[List.getD_eq_getElem?_getD]
  cases h:YO[(f - 1).toNat]? with
  | none=>exact⟨Int.le_refl 0,by decide⟩
  | some z=>exact of_decide_eq_true (List.all_eq_true.1 S_ z (List.mem_of_getElem? h))
 ·omega
theorem J_ (i:IN) (l:List (Nat × Nat × Nat × Nat)) (h:∀ y∈l,S9 y):∀ w,w < 2 ^ 32->l.foldl (Au i) w < 2 ^ 32:=by
 induction l with
 | nil=>exact fun w hw=>hw
 | cons y l ih=>exact fun w hw=>ih (fun z hz=>h z (List.mem_cons_of_mem _ hz)) _ (Oc w _ _ _ hw (h y List.mem_cons_self).2.2.2)
theorem Ka (i:IN) (l:List (Nat × Nat × Nat × Nat)) (h:∀ y∈l,S9 y):wc i l < 2 ^ 32 :=
 J_ i l h _ (by have:=D6 i.form; omega)
def vF (i:IN) (x:Nat × Nat × Nat × Nat):Nat:=(aa (lr i x.1) x.2.1 x.2.2.2).toNat
theorem Q6 (i:IN) (x:Nat × Nat × Nat × Nat):vF i x < 2 ^ x.2.2.2:=by
 have:=ae (lr i x.1) x.2.1 x.2.2.2
 have e:=cQ x.2.2.2
 unfold vF; omega
theorem FI (w n a b p:Nat):(plus w n a b).testBit p=(w.testBit p || (decide (a<=p) && decide (p < a+b) && n.testBit (p - a))):=by
 unfold plus
 rw[Nat.testBit_or,Nat.testBit_shiftLeft,Nat.testBit_mod_two_pow]
 congr 1
 by_cases h:a<=p
 ·by_cases h2:p < a+b
  ·rw[decide_eq_true h2,decide_eq_true (show p - a < b by omega)]; simp[h]
  ·rw[decide_eq_false h2,decide_eq_false (show ¬ p - a < b by omega)]; simp
 ·simp[h]
def inF (p:Nat) (x:Nat × Nat × Nat × Nat):Bool:=decide (x.2.2.1<=p) && decide (p < x.2.2.1+x.2.2.2)
theorem qD (i:IN) (p:Nat):∀ (l:List (Nat × Nat × Nat × Nat)) (W:Nat),(l.foldl (Au i) W).testBit p=(W.testBit p || l.any fun x=>inF p x && (vF i x).testBit (p - x.2.2.1))
 | [],W=>by simp
 | x::l,W=>by
  rw[List.foldl_cons,qD i p l,List.any_cons,← Bool.or_assoc]
  congr 1
  exact FI W (vF i x) x.2.2.1 x.2.2.2 p
def Cm (l:List (Nat × Nat × Nat × Nat)):Bool:=l.all fun x=>l.all fun y=>decide (x=y) || decide (x.2.2.1+x.2.2.2<=y.2.2.1) || decide (y.2.2.1+y.2.2.2<=x.2.2.1)
def Kb (W:Nat) (l:List (Nat × Nat × Nat × Nat)):Bool:=l.all fun x=>decide (W / 2 ^ x.2.2.1 % 2 ^ x.2.2.2=0)
theorem FJ:∀ k:Fin 35,Cm (ax ((k.1:Nat):Int))=true:=by decide
theorem yi (s:Int):Cm (ax s)=true:=by
 by_cases h:s < 1\/34 < s
 ·rw[jW s h]; rfl
 ·have h1:=FJ ⟨s.toNat,by omega⟩
  rwa [show (((⟨s.toNat,by omega⟩:Fin 35).1:Nat):Int)=s by simp only[]; omega] at h1
theorem Kc:(List.range 101).all (fun k=>Kb (om (k:Int)).toNat (ax (ab (k:Int))))=true:=by decide +kernel
theorem Aw (f:Int):Kb (om f).toNat (ax (ab f))=true:=by
 by_cases h:1<=f/\f<=100
 ·have h1:=List.all_eq_true.1 Kc f.toNat (List.mem_range.2 (by omega))
  rwa [show ((f.toNat:Nat):Int)=f by omega] at h1
 ·unfold ab; rw[if_neg h,jW 0 (by omega)]; rfl
theorem Cn (i:IN) {l:List (Nat × Nat × Nat × Nat)} {W:Nat} (ha:Cm l=true) (hf:Kb W l=true) {x:Nat × Nat × Nat × Nat} (hx:x∈l):(l.foldl (Au i) W) / 2 ^ x.2.2.1 % 2 ^ x.2.2.2=vF i x:=by
 apply Nat.eq_of_testBit_eq
 intro p
 rw[Nat.testBit_mod_two_pow,Nat.testBit_div_two_pow]
 by_cases hp:p < x.2.2.2
 ·rw[decide_eq_true hp,Bool.true_and,qD]
  have h0:W.testBit (p+x.2.2.1)=false:=by
   have h1:=of_decide_eq_true (List.all_eq_true.1 hf x hx)
   have h2:(W / 2 ^ x.2.2.1 % 2 ^ x.2.2.2).testBit p=false:=by rw[h1]; simp
   rw[Nat.testBit_mod_two_pow,Nat.testBit_div_two_pow,decide_eq_true hp,Bool.true_and] at h2
   exact h2
  rw[h0,Bool.false_or,Bool.eq_iff_iff,List.any_eq_true]
  constructor
  ·rintro⟨y,hy,hb⟩
   simp only[Bool.and_eq_true,inF,decide_eq_true_eq] at hb
   have h3:=List.all_eq_true.1 (List.all_eq_true.1 ha x hx) y hy
   simp only[Bool.or_eq_true,decide_eq_true_eq] at h3
   rcases h3 with (rfl|h3)|h3
   ·have:=hb.2; rwa [show p+x.2.2.1 - x.2.2.1=p by omega] at this
   ·omega
   ·omega
  ·intro hb
   refine⟨x,hx,?_⟩
   simp only[Bool.and_eq_true,inF,decide_eq_true_eq]
   exact⟨⟨by omega,by omega⟩,by rwa [show p+x.2.2.1 - x.2.2.1=p by omega]⟩
 ·rw[decide_eq_false hp,Bool.false_and]
  exact (Nat.testBit_lt_two_pow (Nat.lt_of_lt_of_le (Q6 i x) (Nat.pow_le_pow_right (by decide) (by omega)))).symm
def YP (l:List (Nat × Nat × Nat × Nat)) (p:Nat):Bool:=l.all fun x=>!inF p x
theorem Co (i:IN) {l:List (Nat × Nat × Nat × Nat)} {W p:Nat} (h:YP l p=true):(l.foldl (Au i) W).testBit p=W.testBit p:=by
 rw[qD]
 have:(l.any fun x=>inF p x && (vF i x).testBit (p - x.2.2.1))=false:=by
  rw[List.any_eq_false]
  intro x hx
  have:=List.all_eq_true.1 h x hx
  simp only[Bool.not_eq_true'] at this
  rw[this]; simp
 rw[this,Bool.or_false]
def Od (f:Nat):Nat:=(om (f:Int)).toNat
def Ta (f:Nat):List (Nat × Nat × Nat × Nat):=ax (ab (f:Int))
def Kd (f g:Nat):Bool:=(Ta f).any fun x=>decide (x.1 < 4) && decide (x.2.1=0) && decide (x.2.2.2=4) && ([0,1,2,3].all fun k=>YP (Ta g) (x.2.2.1+k) && (Od g).testBit (x.2.2.1+k))
def D7 (f g:Nat):Bool:=decide (f=g) || ((List.range 32).any fun p=>YP (Ta f) p && YP (Ta g) p && ((Od f).testBit p != (Od g).testBit p)) || Kd f g || Kd g f
theorem yj:((List.range 47).all fun f=>(List.range 47).all fun g=>D7 (f+1) (g+1))=true:=by decide +kernel
theorem Cp:((List.range 53).all fun f=>(List.range 53).all fun g=>D7 (f+48) (g+48))=true:=by decide +kernel
theorem iU {c r:Int} (h:gQ c r):0<=r/\r < 15:=by unfold gQ at h; omega
theorem ue {i:IN} (h:bV i):(0<=i.rd/\i.rd < 15)/\(0<=i.rn/\i.rn < 15)/\(0<=i.rm/\i.rm < 15)/\(0<=i.ra/\i.ra < 15):=by
 obtain⟨_,h1,h2,h3,h4,_⟩:=h
 exact⟨iU h1,iU h2,iU h3,iU h4⟩
theorem jG (i:IN):(eh i).form=i.form:=by unfold eh; split<;>rfl
theorem FK (i:IN) (f:Nat) (hf:f < 4):lr (eh i) f=lr i f:=by
 unfold eh
 split
 ·match f,hf with
  | 0,_|1,_|2,_|3,_=>rfl
 ·rfl
theorem nZ (i:IN) {p:Nat} (h:YP (ax (ab i.form)) p=true):(bx i).toNat.testBit p=(om i.form).toNat.testBit p:=by
 unfold bx wc
 rw[Int.toNat_natCast,Co _ h,jG]
theorem uf (i:IN) {x:Nat × Nat × Nat × Nat} (hx:x∈ax (ab i.form)):(bx i).toNat / 2 ^ x.2.2.1 % 2 ^ x.2.2.2=vF (eh i) x:=by
 unfold bx wc
 rw[Int.toNat_natCast]
 have h:=Aw i.form
 rw[← jG i] at h
 refine Cn (eh i) (yi _) ?_ hx
 rw[jG] at h ⊢
 exact h
theorem ones4:∀ v:Fin 16,(v.1.testBit 0=true/\v.1.testBit 1=true/\v.1.testBit 2=true/\v.1.testBit 3=true)->v.1=15:=by decide
theorem D8 {a b:IN} (ha:bV a) (fa:a.form=((a.form.toNat:Nat):Int)) (fb:b.form=((b.form.toNat:Nat):Int)) (h:Kd a.form.toNat b.form.toNat=true):bx a≠bx b:=fun e=>by
 obtain⟨x,hx,h⟩:=List.any_eq_true.1 h
 simp only[Bool.and_eq_true,decide_eq_true_eq] at h
 obtain⟨⟨⟨h1,h2⟩,h3⟩,h4⟩:=h
 have xl:x∈ax (ab a.form):=by rw[fa]; exact hx
 have hf:=uf a xl
 have hr:vF (eh a) x < 15:=by
  unfold vF
  rw[FK a x.1 h1,h2,h3]
  obtain⟨r0,r1,r2,r3⟩:=ue ha
  have key:∀ r:Int,0<=r/\r < 15->(aa r 0 4).toNat < 15:=fun r hr=>by
   unfold aa; rw[if_neg (by omega)]
   have e0:(2:Int) ^ 0=1:=rfl
   have e4:(2:Int) ^ 4=16:=rfl
   rw[e0,e4]; omega
  match x.1,h1 with
  | 0,_=>exact key _ r0
  | 1,_=>exact key _ r1
  | 2,_=>exact key _ r2
  | 3,_=>exact key _ r3
 have hv:∀ k,k∈[0,1,2,3]->(vF (eh a) x).testBit k=true:=fun k hk=>by
  have h5:=List.all_eq_true.1 h4 k hk
  simp only[Bool.and_eq_true] at h5
  have hk4:k < 4:=by simp at hk; omega
  rw[← hf,h3,Nat.testBit_mod_two_pow,Nat.testBit_div_two_pow,decide_eq_true hk4,Bool.true_and,e]
  have h6:YP (ax (ab b.form)) (x.2.2.1+k)=true:=by rw[fb]; exact h5.1
  rw[Nat.add_comm,nZ b h6]
  have h7:=h5.2
  unfold Od at h7
  rw[← fb] at h7
  exact h7
 have:=ones4 ⟨vF (eh a) x,by omega⟩ ⟨hv 0 (by simp),hv 1 (by simp),hv 2 (by simp),hv 3 (by simp)⟩
 simp only[] at this
 omega
theorem D9 {a b:IN} (ha:bV a) (hb:bV b) (h:D7 a.form.toNat b.form.toNat=true) (e:bx a=bx b):a.form=b.form:=by
 have f1:=ha.1
 have f2:=hb.1
 have fa:a.form=((a.form.toNat:Nat):Int):=by omega
 have fb:b.form=((b.form.toNat:Nat):Int):=by omega
 unfold D7 at h
 simp only[Bool.or_eq_true,decide_eq_true_eq] at h
 rcases h with ((h|h)|h)|h
 ·omega
 ·obtain⟨p,_,h⟩:=List.any_eq_true.1 h
  simp only[Bool.and_eq_true] at h
  obtain⟨⟨h1,h2⟩,h3⟩:=h
  have k1:=nZ a (p:=p) (by rw[fa]; exact h1)
  have k2:=nZ b (p:=p) (by rw[fb]; exact h2)
  unfold Od at h3
  rw[← fa,← fb,← k1,← k2,e] at h3
  simp at h3
 ·exact absurd e (D8 ha fa fb h)
 ·exact absurd e.symm (D8 hb fb fa h)
theorem FM {a b:IN} (ha:bV a) (hb:bV b) (hw:48<=a.form↔48<=b.form) (e:bx a=bx b):a.form=b.form:=by
 have f1:=ha.1
 have f2:=hb.1
 by_cases h:48<=a.form
 ·have h1:=List.all_eq_true.1 (List.all_eq_true.1 Cp (a.form.toNat - 48) (List.mem_range.2 (by omega))) (b.form.toNat - 48) (List.mem_range.2 (by have:=hw.1 h; omega))
  rw[show a.form.toNat - 48+48=a.form.toNat by omega,show b.form.toNat - 48+48=b.form.toNat by have:=hw.1 h; omega] at h1
  exact D9 ha hb h1 e
 ·have h1:=List.all_eq_true.1 (List.all_eq_true.1 yj (a.form.toNat - 1) (List.mem_range.2 (by omega))) (b.form.toNat - 1) (List.mem_range.2 (by omega))
  rw[show a.form.toNat - 1+1=a.form.toNat by omega,show b.form.toNat - 1+1=b.form.toNat by omega] at h1
  exact D9 ha hb h1 e
def xV (s w:Int) (f:Nat):Int:=((ax s).filter fun x=>decide (x.1=f)).foldl (fun a x=>a+aa w x.2.2.1 x.2.2.2*2 ^ x.2.1) 0
def rT (s f x:Int):Int:=if s=15 then dw x 9 else if s=16 then dw x 12 else if s=33 then dw x 21 else if s=34 then dw (bL x 2) 25 else if s=1/\1 < f/\x=0 then 32 else x
def Q7 (s k x:Int):Int:=if 21<=s/\s<=23/\x=0/\(k=1\/k=2) then 32 else x
def rmA (s w x:Int):Int:=if s=32 then aa w 0 4 else x
def aX (f w:Int):IN:=⟨f,xV (ab f) w 0,xV (ab f) w 1,rmA (ab f) w (xV (ab f) w 2),xV (ab f) w 3,rT (ab f) f (xV (ab f) w 4),xV (ab f) w 5,Q7 (ab f) (xV (ab f) w 5) (xV (ab f) w 6),xV (ab f) w 7,xV (ab f) w 8,xV (ab f) w 9⟩
def xR (s:Int) (i:IN) (f:Nat):Int:=((ax s).filter fun x=>decide (x.1=f)).foldl (fun a x=>a+aa (lr i x.1) x.2.1 x.2.2.2*2 ^ x.2.1) 0
theorem ug {α β:Type} {f g:β->α->β}:∀ {l:List α} {b:β},(∀ b x,x∈l->f b x=g b x)->l.foldl f b=l.foldl g b
 | [],_,_=>rfl
 | x::l,b,h=>by rw[List.foldl_cons,List.foldl_cons,h b x (List.mem_cons_self ..)]; exact ug fun b y hy=>h b y (List.mem_cons_of_mem _ hy)
theorem Tb (i:IN) (x:Nat × Nat × Nat × Nat):((vF i x:Nat):Int)=aa (lr i x.1) x.2.1 x.2.2.2:=Int.toNat_of_nonneg (ae ..).1
theorem wg (i:IN) {x:Nat × Nat × Nat × Nat} (hx:x∈ax (ab i.form)):aa (bx i) x.2.2.1 x.2.2.2=aa (lr (eh i) x.1) x.2.1 x.2.2.2:=by
 have h:=uf i hx
 have e:bx i=(((bx i).toNat:Nat):Int):=by unfold bx; rw[Int.toNat_natCast]
 rw[e,we,h,Tb]
theorem iz (i:IN) (f:Nat):xV (ab i.form) (bx i) f=xR (ab i.form) (eh i) f:=by
 unfold xV xR
 refine ug fun b x hx=>?_
 rw[wg i (List.mem_filter.1 hx).1]
theorem mw {f:Int} (h:1<=f/\f<=100):1<=ab f/\ab f<=34:=by
 have h1:((List.range 100).all fun k=>decide (1<=ab ((k+1:Nat):Int)/\ab ((k+1:Nat):Int)<=34))=true:=by decide +kernel
 have h2:=of_decide_eq_true (List.all_eq_true.1 h1 (f.toNat - 1) (List.mem_range.2 (by omega)))
 rwa [show (((f.toNat - 1+1:Nat)):Int)=f by omega] at h2
theorem wh {f:Int} (h:1<=f/\f<=100):ab f=1->f=1\/f=2\/f=3:=by
 have h1:((List.range 100).all fun k=>decide (ab ((k+1:Nat):Int)=1->k < 3))=true:=by decide +kernel
 have h2:=of_decide_eq_true (List.all_eq_true.1 h1 (f.toNat - 1) (List.mem_range.2 (by omega)))
 rw[show (((f.toNat - 1+1:Nat)):Int)=f by omega] at h2
 intro h3; have:=h2 h3; omega
theorem tm0 {n s:Int} (h:n.tmod s=0):n % s=0:=Int.emod_eq_zero_of_dvd (Int.dvd_of_tmod_eq_zero h)
theorem Ay {f t s n:Int} (h:dz f t s n):(s=0/\n=0)\/(s≠0/\f<=n/\n<=t/\n % s=0):=h.imp id fun ⟨a,b,c,d⟩=>⟨a,b,c,tm0 d⟩
theorem Ke (x k:Nat):x &&& 2 ^ k=(x / 2 ^ k % 2)*2 ^ k:=by
 apply Nat.eq_of_testBit_eq
 intro i
 rw[Nat.testBit_and,Nat.testBit_two_pow]
 rcases Nat.mod_two_eq_zero_or_one (x / 2 ^ k) with h|h
 ·rw[h,Nat.zero_mul,Nat.zero_testBit]
  by_cases hi:k=i
  ·subst hi; rw[Nat.testBit_eq_decide_div_mod_eq]; simp[h]
  ·simp[hi]
 ·rw[h,Nat.one_mul,Nat.testBit_two_pow]
  by_cases hi:k=i
  ·subst hi; rw[Nat.testBit_eq_decide_div_mod_eq]; simp[h]
  ·simp[hi]
theorem FN (k x:Nat) (hk:8<=k):x &&& (2 ^ k ||| (2 ^ 8 - 1))=(x / 2 ^ k % 2)*2 ^ k+x % 256:=by
 rw[Nat.and_or_distrib_left,Nat.and_two_pow_sub_one_eq_mod,Ke]
 have bZ:x % 2 ^ 8 < 2 ^ k:=Nat.lt_of_lt_of_le (Nat.mod_lt _ (by decide)) (Nat.pow_le_pow_right (by decide) hk)
 have:=Nat.two_pow_add_eq_or_of_lt bZ (x / 2 ^ k % 2)
 rw[Nat.mul_comm,← this]
theorem Az (a m:Nat) (ha:a < 9223372036854775808) (hm:m < 9223372036854775808) (h:bits .andNot .i64 (a:Int) (m:Int)=0):a &&& m=a:=by
 have e:∀ c:Nat,c < 9223372036854775808->(BitVec.ofInt 64 (c:Int)).toNat=c:=fun c hc=>by
  rw[BitVec.ofInt_natCast,BitVec.toNat_ofNat]; exact Nat.mod_eq_of_lt (by omega)
 have h1:IntKind.i64.wrap ((BitVec.ofInt 64 (a:Int) &&& ~~~ BitVec.ofInt 64 (m:Int)).toNat:Int)=0:=h
 have bZ:(BitVec.ofInt 64 (a:Int) &&& ~~~ BitVec.ofInt 64 (m:Int)).toNat < 9223372036854775808:=by
  rw[BitVec.toNat_and,e a ha]
  exact Nat.lt_of_le_of_lt Nat.and_le_left ha
 rw[IntKind.wrap_i64] at h1
 have h2:(BitVec.ofInt 64 (a:Int) &&& ~~~ BitVec.ofInt 64 (m:Int))=0#64:=BitVec.eq_of_toNat_eq (by rw[BitVec.toNat_ofNat]; omega)
 have h3:BitVec.ofInt 64 (a:Int) &&& BitVec.ofInt 64 (m:Int)=BitVec.ofInt 64 (a:Int):=by
  apply BitVec.eq_of_getLsbD_eq
  intro i hi
  have h4:=congrArg (fun v=>v.getLsbD i) h2
  simp only[BitVec.getLsbD_and,BitVec.getLsbD_not,BitVec.getLsbD_zero,hi,decide_true,Bool.true_and] at h4
  rw[BitVec.getLsbD_and]
  cases ha:(BitVec.ofInt 64 (a:Int)).getLsbD i<;>cases hb:(BitVec.ofInt 64 (m:Int)).getLsbD i<;>simp_all
 have h5:=congrArg BitVec.toNat h3
 rwa [BitVec.toNat_and,e a ha,e m hm] at h5
theorem yk (k:Nat) (hk:8<=k) (qn:k<=15) (r m:Int) (hm:m=2 ^ k+255) (h0:0 < r) (h1:r<=9223372036854775807) (h:bits .andNot .i64 r m=0):r / 2 ^ k % 2*2 ^ k+r % 256=r:=by
 have e:=Az r.toNat (2 ^ k+255) (by omega) (by have:=Nat.pow_le_pow_right (n:=2) (by omega) qn; omega) (by
  rw[show ((r.toNat:Nat):Int)=r by omega,show (((2 ^ k+255:Nat)):Int)=m by rw[hm]; push_cast; rfl]; exact h)
 have e2:2 ^ k+255=2 ^ k ||| (2 ^ 8 - 1):=by
  have bZ:255 < 2 ^ k:=Nat.lt_of_lt_of_le (show 255 < 2 ^ 8 by decide) (Nat.pow_le_pow_right (by decide) hk)
  have:=Nat.two_pow_add_eq_or_of_lt bZ 1
  rwa [Nat.mul_one] at this
 rw[e2,FN k _ hk] at e
 have e3:((r.toNat / 2 ^ k % 2*2 ^ k+r.toNat % 256:Nat):Int)=((r.toNat:Nat):Int):=congrArg _ e
 push_cast at e3
 rw[show ((r.toNat:Nat):Int)=r by omega] at e3
 exact e3
theorem yl {n:Int} (h:0<=n/\n < 33554432):∃ a,0<=a/\a < 4194304/\(n=a\/n=4194304+a\/n=8388608+a\/n=12582912+a\/n=16777216+a\/n=20971520+a\/n=25165824+a\/n=29360128+a):=⟨n % 4194304,by omega⟩
theorem pL (n:Int) (h:0<=n/\n < 33554432):bL n 2=n+((if n / 4194304 % 2=n / 16777216 % 2 then 1 else 0) - n / 4194304 % 2)*4194304+((if n / 8388608 % 2=n / 16777216 % 2 then 1 else 0) - n / 8388608 % 2)*8388608:=by
 have p22:(2:Int) ^ 22=4194304:=by decide
 have p23:(2:Int) ^ 23=8388608:=by decide
 have p24:(2:Int) ^ 24=16777216:=by decide
 have p1:(2:Int) ^ 1=2:=by decide
 have b:∀ m:Int,0<=m->∀ k,aa m k 1=m / 2 ^ k % 2:=fun m hm k=>by unfold aa; rw[if_neg (by omega),p1]
 obtain⟨t,ht⟩:∃ t,t=nE (aa n 24 1) n 22:=⟨_,rfl⟩
 have e:bL n 2=nE (aa n 24 1) t 23:=by rw[ht]; rfl
 unfold nE at ht
 rw[b n h.1,b n h.1,p24,p22] at ht
 have ht0:0<=t/\t < 33554432/\t / 8388608 % 2=n / 8388608 % 2:=by
  obtain⟨a,a0,a1,h8⟩:=yl h
  rcases h8 with h8|h8|h8|h8|h8|h8|h8|h8<;>split at ht<;>omega
 rw[e]
 unfold nE
 rw[b n h.1,b t ht0.1,p24,p23,ht0.2.2,ht]
theorem pM {n:Int} (h:0<=n/\n < 33554432):0<=bL n 2/\bL n 2 < 33554432:=by
 rw[pL n h]
 obtain⟨a,a0,a1,h8⟩:=yl h
 rcases h8 with h8|h8|h8|h8|h8|h8|h8|h8<;>split<;>split<;>omega
theorem mS {n:Int} (h:0<=n/\n < 33554432):bL n 2 / 16777216=n / 16777216/\bL n 2 % 4194304=n % 4194304/\bL n 2 / 4194304 % 2=(if n / 4194304 % 2=n / 16777216 % 2 then 1 else 0)/\bL n 2 / 8388608 % 2=(if n / 8388608 % 2=n / 16777216 % 2 then 1 else 0):=by
 rw[pL n h]
 obtain⟨a,a0,a1,h8⟩:=yl h
 rcases h8 with h8|h8|h8|h8|h8|h8|h8|h8<;>split<;>split<;>omega
theorem FO {n:Int} (h:0<=n/\n < 33554432):bL (bL n 2) 2=n:=by
 have c:=mS h
 rw[pL _ (pM h),c.1,c.2.2.1,c.2.2.2,pL n h]
 clear c
 obtain⟨a,a0,a1,h8⟩:=yl h
 have e24:n / 16777216 % 2=n / 16777216:=by omega
 rw[e24]
 rcases h8 with h8|h8|h8|h8|h8|h8|h8|h8
 ·have x:n / 4194304 % 2=0:=by omega
  have y:n / 8388608 % 2=0:=by omega
  have z:n / 16777216=0:=by omega
  rw[x,y,z]; simp<;>omega
 ·have x:n / 4194304 % 2=1:=by omega
  have y:n / 8388608 % 2=0:=by omega
  have z:n / 16777216=0:=by omega
  rw[x,y,z]; simp<;>omega
 ·have x:n / 4194304 % 2=0:=by omega
  have y:n / 8388608 % 2=1:=by omega
  have z:n / 16777216=0:=by omega
  rw[x,y,z]; simp<;>omega
 ·have x:n / 4194304 % 2=1:=by omega
  have y:n / 8388608 % 2=1:=by omega
  have z:n / 16777216=0:=by omega
  rw[x,y,z]; simp<;>omega
 ·have x:n / 4194304 % 2=0:=by omega
  have y:n / 8388608 % 2=0:=by omega
  have z:n / 16777216=1:=by omega
  rw[x,y,z]; simp<;>omega
 ·have x:n / 4194304 % 2=1:=by omega
  have y:n / 8388608 % 2=0:=by omega
  have z:n / 16777216=1:=by omega
  rw[x,y,z]; simp<;>omega
 ·have x:n / 4194304 % 2=0:=by omega
  have y:n / 8388608 % 2=1:=by omega
  have z:n / 16777216=1:=by omega
  rw[x,y,z]; simp<;>omega
 ·have x:n / 4194304 % 2=1:=by omega
  have y:n / 8388608 % 2=1:=by omega
  have z:n / 16777216=1:=by omega
  rw[x,y,z]; simp<;>omega
theorem aH {i:IN} (h:ab i.form≠34):eh i=i:=if_neg h
theorem sh34 {i:IN} (h:ab i.form=34):eh i = {i with au:=bL (aa i.au 0 25) 2}:=if_pos h
theorem aZ {a b:IN} (h0:a.form=b.form) (h1:a.rd=b.rd) (h2:a.rn=b.rn) (h3:a.rm=b.rm) (h4:a.ra=b.ra) (h5:a.au=b.au) (h6:a.kind=b.kind) (h7:a.bE=b.bE) (h8:a.set=b.set) (h9:a.cond=b.cond) (dd:a.aq=b.aq):a=b:=by
 cases a; cases b; simp_all
def de (s:Int) (i:IN):IN:=⟨i.form,xR s i 0,xR s i 1,if s=32 then aa i.rm 0 4 else xR s i 2,xR s i 3,rT s i.form (xR s i 4),xR s i 5,Q7 s (xR s i 5) (xR s i 6),xR s i 7,xR s i 8,xR s i 9⟩
theorem FP (i:IN) (Oe:ab i.form=32->aa (bx i) 0 4=aa (eh i).rm 0 4):aX i.form (bx i) = {de (ab i.form) (eh i) with form:=i.form}:=by
 unfold aX de
 rw[iz,iz,iz,iz,iz,iz,iz,iz,iz,iz,jG]
 unfold rmA
 by_cases h:ab i.form=32
 ·rw[if_pos h,if_pos h,Oe h]
 ·rw[if_neg h,if_neg h]
theorem Tc (k v:Int) (h:b_ k v):(if 0+aa v 2 3*2 ^ 2+aa v 0 2*2 ^ 0=0/\(k=1\/k=2) then 32 else 0+aa v 2 3*2 ^ 2+aa v 0 2*2 ^ 0)=v:=by
 unfold b_ at h; unfold aa; (repeat' split)<;>omega
theorem mT {k v:Int} (h:b_ k v):0<=k/\k < 4:=by unfold b_ at h; omega
theorem s_1_0 (v:Int) (h:0<=v/\v < 8):0+aa v 0 3*2 ^ 0=v:=by
 unfold aa; (repeat' split)<;>omega
theorem s_1_1 (v:Int) (h:v=0):0=v:=by
 omega
theorem s_1_2 (v:Int) (h:0<=v/\v < 8):0+aa v 0 3*2 ^ 0=v:=by
 unfold aa; (repeat' split)<;>omega
theorem s_1_3 (v:Int) (h:v=0):0=v:=by
 omega
theorem s_1_5 (v:Int) (h:v=0):0=v:=by
 omega
theorem s_1_6 (v:Int) (h:v=0):0=v:=by
 omega
theorem s_1_7 (v:Int) (h:v=0):0=v:=by
 omega
theorem s_1_8 (v:Int) (h:v=0):0=v:=by
 omega
theorem s_1_9 (v:Int) (h:v=0):0=v:=by
 omega
theorem s_1_4 (f v:Int) (h:0<=v/\v<=32) (h1:f=1->v < 32) (h2:f=2\/f=3->0 < v) (h3:f=1\/f=2\/f=3):(if 1 < f/\0+aa v 0 5*2 ^ 0=0 then 32 else 0+aa v 0 5*2 ^ 0)=v:=by
 unfold aa; (repeat' split)<;>omega
theorem s_2_0 (v:Int) (h:0<=v/\v < 8):0+aa v 0 3*2 ^ 0=v:=by
 unfold aa; (repeat' split)<;>omega
theorem s_2_1 (v:Int) (h:0<=v/\v < 8):0+aa v 0 3*2 ^ 0=v:=by
 unfold aa; (repeat' split)<;>omega
theorem s_2_2 (v:Int) (h:0<=v/\v < 8):0+aa v 0 3*2 ^ 0=v:=by
 unfold aa; (repeat' split)<;>omega
theorem s_2_3 (v:Int) (h:v=0):0=v:=by
 omega
theorem s_2_4 (v:Int) (h:v=0):0=v:=by
 omega
theorem s_2_5 (v:Int) (h:v=0):0=v:=by
 omega
theorem s_2_6 (v:Int) (h:v=0):0=v:=by
 omega
theorem s_2_7 (v:Int) (h:v=0):0=v:=by
 omega
theorem s_2_8 (v:Int) (h:v=0):0=v:=by
 omega
theorem s_2_9 (v:Int) (h:v=0):0=v:=by
 omega
theorem s_3_0 (v:Int) (h:0<=v/\v < 8):0+aa v 0 3*2 ^ 0=v:=by
 unfold aa; (repeat' split)<;>omega
theorem s_3_1 (v:Int) (h:0<=v/\v < 8):0+aa v 0 3*2 ^ 0=v:=by
 unfold aa; (repeat' split)<;>omega
theorem s_3_2 (v:Int) (h:v=0):0=v:=by
 omega
theorem s_3_3 (v:Int) (h:v=0):0=v:=by
 omega
theorem s_3_4 (v:Int) (h:0<=v/\v<=7/\v % 1=0):0+aa v 0 3*2 ^ 0=v:=by
 unfold aa; (repeat' split)<;>omega
theorem s_3_5 (v:Int) (h:v=0):0=v:=by
 omega
theorem s_3_6 (v:Int) (h:v=0):0=v:=by
 omega
theorem s_3_7 (v:Int) (h:v=0):0=v:=by
 omega
theorem s_3_8 (v:Int) (h:v=0):0=v:=by
 omega
theorem s_3_9 (v:Int) (h:v=0):0=v:=by
 omega
theorem s_4_0 (v:Int) (h:0<=v/\v < 8):0+aa v 0 3*2 ^ 0=v:=by
 unfold aa; (repeat' split)<;>omega
theorem s_4_1 (v:Int) (h:v=0):0=v:=by
 omega
theorem s_4_2 (v:Int) (h:v=0):0=v:=by
 omega
theorem s_4_3 (v:Int) (h:v=0):0=v:=by
 omega
theorem s_4_4 (v:Int) (h:0<=v/\v<=255/\v % 1=0):0+aa v 0 8*2 ^ 0=v:=by
 unfold aa; (repeat' split)<;>omega
theorem s_4_5 (v:Int) (h:v=0):0=v:=by
 omega
theorem s_4_6 (v:Int) (h:v=0):0=v:=by
 omega
theorem s_4_7 (v:Int) (h:v=0):0=v:=by
 omega
theorem s_4_8 (v:Int) (h:v=0):0=v:=by
 omega
theorem s_4_9 (v:Int) (h:v=0):0=v:=by
 omega
theorem s_5_0 (v:Int) (h:0<=v/\v < 8):0+aa v 0 3*2 ^ 0=v:=by
 unfold aa; (repeat' split)<;>omega
theorem s_5_1 (v:Int) (h:v=0):0=v:=by
 omega
theorem s_5_2 (v:Int) (h:0<=v/\v < 8):0+aa v 0 3*2 ^ 0=v:=by
 unfold aa; (repeat' split)<;>omega
theorem s_5_3 (v:Int) (h:v=0):0=v:=by
 omega
theorem s_5_4 (v:Int) (h:v=0):0=v:=by
 omega
theorem s_5_5 (v:Int) (h:v=0):0=v:=by
 omega
theorem s_5_6 (v:Int) (h:v=0):0=v:=by
 omega
theorem s_5_7 (v:Int) (h:v=0):0=v:=by
 omega
theorem s_5_8 (v:Int) (h:v=0):0=v:=by
 omega
theorem s_5_9 (v:Int) (h:v=0):0=v:=by
 omega
theorem s_6_0 (v:Int) (h:0<=v/\v < 15):0+aa v 3 1*2 ^ 3+aa v 0 3*2 ^ 0=v:=by
 unfold aa; (repeat' split)<;>omega
theorem s_6_1 (v:Int) (h:v=0):0=v:=by
 omega
theorem s_6_2 (v:Int) (h:0<=v/\v < 15):0+aa v 0 4*2 ^ 0=v:=by
 unfold aa; (repeat' split)<;>omega
theorem s_6_3 (v:Int) (h:v=0):0=v:=by
 omega
theorem s_6_4 (v:Int) (h:v=0):0=v:=by
 omega
theorem s_6_5 (v:Int) (h:v=0):0=v:=by
 omega
theorem s_6_6 (v:Int) (h:v=0):0=v:=by
 omega
theorem s_6_7 (v:Int) (h:v=0):0=v:=by
 omega
theorem s_6_8 (v:Int) (h:v=0):0=v:=by
 omega
theorem s_6_9 (v:Int) (h:v=0):0=v:=by
 omega
theorem s_7_0 (v:Int) (h:v=0):0=v:=by
 omega
theorem s_7_1 (v:Int) (h:v=0):0=v:=by
 omega
theorem s_7_2 (v:Int) (h:0<=v/\v < 15):0+aa v 0 4*2 ^ 0=v:=by
 unfold aa; (repeat' split)<;>omega
theorem s_7_3 (v:Int) (h:v=0):0=v:=by
 omega
theorem s_7_4 (v:Int) (h:v=0):0=v:=by
 omega
theorem s_7_5 (v:Int) (h:v=0):0=v:=by
 omega
theorem s_7_6 (v:Int) (h:v=0):0=v:=by
 omega
theorem s_7_7 (v:Int) (h:v=0):0=v:=by
 omega
theorem s_7_8 (v:Int) (h:v=0):0=v:=by
 omega
theorem s_7_9 (v:Int) (h:v=0):0=v:=by
 omega
theorem s_8_0 (v:Int) (h:0<=v/\v < 8):0+aa v 0 3*2 ^ 0=v:=by
 unfold aa; (repeat' split)<;>omega
theorem s_8_1 (v:Int) (h:v=0):0=v:=by
 omega
theorem s_8_2 (v:Int) (h:v=0):0=v:=by
 omega
theorem s_8_3 (v:Int) (h:v=0):0=v:=by
 omega
theorem s_8_4 (v:Int) (h:0<=v/\v<=1020/\v % 4=0):0+aa v 2 8*2 ^ 2=v:=by
 unfold aa; (repeat' split)<;>omega
theorem s_8_5 (v:Int) (h:v=0):0=v:=by
 omega
theorem s_8_6 (v:Int) (h:v=0):0=v:=by
 omega
theorem s_8_7 (v:Int) (h:v=0):0=v:=by
 omega
theorem s_8_8 (v:Int) (h:v=0):0=v:=by
 omega
theorem s_8_9 (v:Int) (h:v=0):0=v:=by
 omega
theorem s_9_0 (v:Int) (h:0<=v/\v < 8):0+aa v 0 3*2 ^ 0=v:=by
 unfold aa; (repeat' split)<;>omega
theorem s_9_1 (v:Int) (h:0<=v/\v < 8):0+aa v 0 3*2 ^ 0=v:=by
 unfold aa; (repeat' split)<;>omega
theorem s_9_2 (v:Int) (h:v=0):0=v:=by
 omega
theorem s_9_3 (v:Int) (h:v=0):0=v:=by
 omega
theorem s_9_4 (v:Int) (h:0<=v/\v<=124/\v % 4=0):0+aa v 2 5*2 ^ 2=v:=by
 unfold aa; (repeat' split)<;>omega
theorem s_9_5 (v:Int) (h:v=0):0=v:=by
 omega
theorem s_9_6 (v:Int) (h:v=0):0=v:=by
 omega
theorem s_9_7 (v:Int) (h:v=0):0=v:=by
 omega
theorem s_9_8 (v:Int) (h:v=0):0=v:=by
 omega
theorem s_9_9 (v:Int) (h:v=0):0=v:=by
 omega
theorem Td (v:Int) (h:v=0):0=v:=by
 omega
theorem Te (v:Int) (h:v=0):0=v:=by
 omega
theorem Tf (v:Int) (h:v=0):0=v:=by
 omega
theorem Tg (v:Int) (h:v=0):0=v:=by
 omega
theorem Th (v:Int) (h:0<=v/\v<=508/\v % 4=0):0+aa v 2 7*2 ^ 2=v:=by
 unfold aa; (repeat' split)<;>omega
theorem Ti (v:Int) (h:v=0):0=v:=by
 omega
theorem Tj (v:Int) (h:v=0):0=v:=by
 omega
theorem Tk (v:Int) (h:v=0):0=v:=by
 omega
theorem Tl (v:Int) (h:v=0):0=v:=by
 omega
theorem Tm (v:Int) (h:v=0):0=v:=by
 omega
theorem Tn (v:Int) (h:v=0):0=v:=by
 omega
theorem To (v:Int) (h:v=0):0=v:=by
 omega
theorem Tp (v:Int) (h:v=0):0=v:=by
 omega
theorem Tq (v:Int) (h:v=0):0=v:=by
 omega
theorem Ts (v:Int) (h:v=0):0=v:=by
 omega
theorem Tt (v:Int) (h:v=0):0=v:=by
 omega
theorem Tu (v:Int) (h:v=0):0=v:=by
 omega
theorem Tv (v:Int) (h:v=0):0=v:=by
 omega
theorem Tw (v:Int) (h:v=0):0=v:=by
 omega
theorem Tx (v:Int) (h:0 < v/\v / 16384 % 2*16384+v % 256=v):0+aa v 14 1*2 ^ 14+aa v 0 8*2 ^ 0=v:=by
 unfold aa; (repeat' split)<;>omega
theorem Ty (v:Int) (h:v=0):0=v:=by
 omega
theorem Tz (v:Int) (h:v=0):0=v:=by
 omega
theorem TA (v:Int) (h:v=0):0=v:=by
 omega
theorem TB (v:Int) (h:v=0):0=v:=by
 omega
theorem TC (v:Int) (h:v=0):0=v:=by
 omega
theorem TD (v:Int) (h:v=0):0=v:=by
 omega
theorem TE (v:Int) (h:v=0):0=v:=by
 omega
theorem TF (v:Int) (h:v=0):0=v:=by
 omega
theorem TG (v:Int) (h:v=0):0=v:=by
 omega
theorem TH (v:Int) (h:0 < v/\v / 32768 % 2*32768+v % 256=v):0+aa v 15 1*2 ^ 15+aa v 0 8*2 ^ 0=v:=by
 unfold aa; (repeat' split)<;>omega
theorem TJ (v:Int) (h:v=0):0=v:=by
 omega
theorem TK (v:Int) (h:v=0):0=v:=by
 omega
theorem TL (v:Int) (h:v=0):0=v:=by
 omega
theorem TN (v:Int) (h:v=0):0=v:=by
 omega
theorem TO (v:Int) (h:v=0):0=v:=by
 omega
theorem TP (v:Int) (h:v=0):0=v:=by
 omega
theorem TQ (v:Int) (h:v=0):0=v:=by
 omega
theorem TR (v:Int) (h:v=0):0=v:=by
 omega
theorem TS (v:Int) (h:v=0):0=v:=by
 omega
theorem TT (v:Int) (h:v=0):0=v:=by
 omega
theorem TU (v:Int) (h:v=0):0=v:=by
 omega
theorem TV (v:Int) (h:v=0):0=v:=by
 omega
theorem TW (v:Int) (h:v=0):0=v:=by
 omega
theorem TX (v:Int) (h:v=0):0=v:=by
 omega
theorem TY (v:Int) (h:0<=v/\v<=255/\v % 1=0):0+aa v 0 8*2 ^ 0=v:=by
 unfold aa; (repeat' split)<;>omega
theorem TZ (v:Int) (h:v=0):0=v:=by
 omega
theorem T0 (v:Int) (h:v=0):0=v:=by
 omega
theorem T1 (v:Int) (h:v=0):0=v:=by
 omega
theorem T2 (v:Int) (h:v=0):0=v:=by
 omega
theorem T3 (v:Int) (h:v=0):0=v:=by
 omega
theorem T4 (v:Int) (h:v=0):0=v:=by
 omega
theorem T5 (v:Int) (h:v=0):0=v:=by
 omega
theorem T6 (v:Int) (h:v=0):0=v:=by
 omega
theorem T7 (v:Int) (h:v=0):0=v:=by
 omega
theorem T8 (v:Int) (h:-256<=v/\v<=254/\v % 2=0):dw (0+aa v 1 8*2 ^ 1) 9=v:=by
 unfold dw aa; (repeat' split)<;>omega
theorem T9 (v:Int) (h:v=0):0=v:=by
 omega
theorem T' (v:Int) (h:v=0):0=v:=by
 omega
theorem T_ (v:Int) (h:v=0):0=v:=by
 omega
theorem Ua (v:Int) (h:0<=v/\v<=13):0+aa v 0 4*2 ^ 0=v:=by
 unfold aa; (repeat' split)<;>omega
theorem Ub (v:Int) (h:v=0):0=v:=by
 omega
theorem Uc (v:Int) (h:v=0):0=v:=by
 omega
theorem Ud (v:Int) (h:v=0):0=v:=by
 omega
theorem Ue (v:Int) (h:v=0):0=v:=by
 omega
theorem Uf (v:Int) (h:v=0):0=v:=by
 omega
theorem Ug (v:Int) (h:-2048<=v/\v<=2046/\v % 2=0):dw (0+aa v 1 11*2 ^ 1) 12=v:=by
 unfold dw aa; (repeat' split)<;>omega
theorem Uh (v:Int) (h:v=0):0=v:=by
 omega
theorem Ui (v:Int) (h:v=0):0=v:=by
 omega
theorem Uj (v:Int) (h:v=0):0=v:=by
 omega
theorem Uk (v:Int) (h:v=0):0=v:=by
 omega
theorem Ul (v:Int) (h:v=0):0=v:=by
 omega
theorem Um (v:Int) (h:0<=v/\v < 15):0+aa v 0 4*2 ^ 0=v:=by
 unfold aa; (repeat' split)<;>omega
theorem Un (v:Int) (h:v=0):0=v:=by
 omega
theorem Uo (v:Int) (h:v=0):0=v:=by
 omega
theorem Up (v:Int) (h:v=0):0=v:=by
 omega
theorem Uq (v:Int) (h:0<=v/\v<=65535/\v % 1=0):0+aa v 11 1*2 ^ 11+aa v 12 4*2 ^ 12+aa v 8 3*2 ^ 8+aa v 0 8*2 ^ 0=v:=by
 unfold aa; (repeat' split)<;>omega
theorem Ur (v:Int) (h:v=0):0=v:=by
 omega
theorem Us (v:Int) (h:v=0):0=v:=by
 omega
theorem Ut (v:Int) (h:v=0):0=v:=by
 omega
theorem Uu (v:Int) (h:v=0):0=v:=by
 omega
theorem Uv (v:Int) (h:v=0):0=v:=by
 omega
theorem Uw (v:Int) (h:0<=v/\v < 15):0+aa v 0 4*2 ^ 0=v:=by
 unfold aa; (repeat' split)<;>omega
theorem Ux (v:Int) (h:0<=v/\v < 15):0+aa v 0 4*2 ^ 0=v:=by
 unfold aa; (repeat' split)<;>omega
theorem Uy (v:Int) (h:v=0):0=v:=by
 omega
theorem Uz (v:Int) (h:v=0):0=v:=by
 omega
theorem UA (v:Int) (h:0<=v/\v<=4095/\v % 1=0):0+aa v 11 1*2 ^ 11+aa v 8 3*2 ^ 8+aa v 0 8*2 ^ 0=v:=by
 unfold aa; (repeat' split)<;>omega
theorem UB (v:Int) (h:v=0):0=v:=by
 omega
theorem UC (v:Int) (h:v=0):0=v:=by
 omega
theorem UD (v:Int) (h:v=0\/v=1):0+aa v 0 1*2 ^ 0=v:=by
 unfold aa; (repeat' split)<;>omega
theorem UE (v:Int) (h:v=0):0=v:=by
 omega
theorem UF (v:Int) (h:v=0):0=v:=by
 omega
theorem UG (v:Int) (h:0<=v/\v < 15):0+aa v 0 4*2 ^ 0=v:=by
 unfold aa; (repeat' split)<;>omega
theorem UH (v:Int) (h:v=0):0=v:=by
 omega
theorem UI (v:Int) (h:v=0):0=v:=by
 omega
theorem UJ (v:Int) (h:v=0):0=v:=by
 omega
theorem UK (v:Int) (h:0<=v/\v<=4095/\v % 1=0):0+aa v 11 1*2 ^ 11+aa v 8 3*2 ^ 8+aa v 0 8*2 ^ 0=v:=by
 unfold aa; (repeat' split)<;>omega
theorem UL (v:Int) (h:v=0):0=v:=by
 omega
theorem UM (v:Int) (h:v=0):0=v:=by
 omega
theorem UN (v:Int) (h:v=0\/v=1):0+aa v 0 1*2 ^ 0=v:=by
 unfold aa; (repeat' split)<;>omega
theorem UO (v:Int) (h:v=0):0=v:=by
 omega
theorem UP (v:Int) (h:v=0):0=v:=by
 omega
theorem UQ (v:Int) (h:v=0):0=v:=by
 omega
theorem UR (v:Int) (h:0<=v/\v < 15):0+aa v 0 4*2 ^ 0=v:=by
 unfold aa; (repeat' split)<;>omega
theorem US (v:Int) (h:v=0):0=v:=by
 omega
theorem UT (v:Int) (h:v=0):0=v:=by
 omega
theorem UU (v:Int) (h:0<=v/\v<=4095/\v % 1=0):0+aa v 11 1*2 ^ 11+aa v 8 3*2 ^ 8+aa v 0 8*2 ^ 0=v:=by
 unfold aa; (repeat' split)<;>omega
theorem UW (v:Int) (h:v=0):0=v:=by
 omega
theorem UX (v:Int) (h:v=0):0=v:=by
 omega
theorem UY (v:Int) (h:v=0):0=v:=by
 omega
theorem UZ (v:Int) (h:v=0):0=v:=by
 omega
theorem U0 (v:Int) (h:v=0):0=v:=by
 omega
theorem U1 (v:Int) (h:0<=v/\v < 15):0+aa v 0 4*2 ^ 0=v:=by
 unfold aa; (repeat' split)<;>omega
theorem U2 (v:Int) (h:0<=v/\v < 15):0+aa v 0 4*2 ^ 0=v:=by
 unfold aa; (repeat' split)<;>omega
theorem U3 (v:Int) (h:0<=v/\v < 15):0+aa v 0 4*2 ^ 0=v:=by
 unfold aa; (repeat' split)<;>omega
theorem U4 (v:Int) (h:v=0):0=v:=by
 omega
theorem U5 (v:Int) (h:v=0):0=v:=by
 omega
theorem Kf (v:Int) (h:0<=v/\v < 4):0+aa v 0 2*2 ^ 0=v:=by
 unfold aa; (repeat' split)<;>omega
theorem U6 (v:Int) (h:v=0\/v=1):0+aa v 0 1*2 ^ 0=v:=by
 unfold aa; (repeat' split)<;>omega
theorem U7 (v:Int) (h:v=0):0=v:=by
 omega
theorem U8 (v:Int) (h:v=0):0=v:=by
 omega
theorem U9 (v:Int) (h:0<=v/\v < 15):0+aa v 0 4*2 ^ 0=v:=by
 unfold aa; (repeat' split)<;>omega
theorem U' (v:Int) (h:v=0):0=v:=by
 omega
theorem U_ (v:Int) (h:0<=v/\v < 15):0+aa v 0 4*2 ^ 0=v:=by
 unfold aa; (repeat' split)<;>omega
theorem Va (v:Int) (h:v=0):0=v:=by
 omega
theorem Vb (v:Int) (h:v=0):0=v:=by
 omega
theorem Kg (v:Int) (h:0<=v/\v < 4):0+aa v 0 2*2 ^ 0=v:=by
 unfold aa; (repeat' split)<;>omega
theorem Vc (v:Int) (h:v=0\/v=1):0+aa v 0 1*2 ^ 0=v:=by
 unfold aa; (repeat' split)<;>omega
theorem Vd (v:Int) (h:v=0):0=v:=by
 omega
theorem Ve (v:Int) (h:v=0):0=v:=by
 omega
theorem Vf (v:Int) (h:v=0):0=v:=by
 omega
theorem Vg (v:Int) (h:0<=v/\v < 15):0+aa v 0 4*2 ^ 0=v:=by
 unfold aa; (repeat' split)<;>omega
theorem Vh (v:Int) (h:0<=v/\v < 15):0+aa v 0 4*2 ^ 0=v:=by
 unfold aa; (repeat' split)<;>omega
theorem Vi (v:Int) (h:v=0):0=v:=by
 omega
theorem Vj (v:Int) (h:v=0):0=v:=by
 omega
theorem Kh (v:Int) (h:0<=v/\v < 4):0+aa v 0 2*2 ^ 0=v:=by
 unfold aa; (repeat' split)<;>omega
theorem Vk (v:Int) (h:v=0):0=v:=by
 omega
theorem Vl (v:Int) (h:v=0):0=v:=by
 omega
theorem Vm (v:Int) (h:v=0):0=v:=by
 omega
theorem Vn (v:Int) (h:0<=v/\v < 15):0+aa v 0 4*2 ^ 0=v:=by
 unfold aa; (repeat' split)<;>omega
theorem Vo (v:Int) (h:0<=v/\v < 15):0+aa v 0 4*2 ^ 0=v:=by
 unfold aa; (repeat' split)<;>omega
theorem Vp (v:Int) (h:v=0):0=v:=by
 omega
theorem Vq (v:Int) (h:v=0):0=v:=by
 omega
theorem Vr (v:Int) (h:0<=v/\v<=4095/\v % 1=0):0+aa v 11 1*2 ^ 11+aa v 8 3*2 ^ 8+aa v 0 8*2 ^ 0=v:=by
 unfold aa; (repeat' split)<;>omega
theorem Vs (v:Int) (h:v=0):0=v:=by
 omega
theorem Vt (v:Int) (h:v=0):0=v:=by
 omega
theorem Vu (v:Int) (h:v=0):0=v:=by
 omega
theorem Vv (v:Int) (h:v=0):0=v:=by
 omega
theorem Vw (v:Int) (h:v=0):0=v:=by
 omega
theorem Vx (v:Int) (h:0<=v/\v < 15):0+aa v 0 4*2 ^ 0=v:=by
 unfold aa; (repeat' split)<;>omega
theorem Vy (v:Int) (h:0<=v/\v < 15):0+aa v 0 4*2 ^ 0=v:=by
 unfold aa; (repeat' split)<;>omega
theorem Vz (v:Int) (h:v=0):0=v:=by
 omega
theorem VA (v:Int) (h:v=0):0=v:=by
 omega
theorem VB (v:Int) (h:0<=v/\v<=4095/\v % 1=0):0+aa v 0 12*2 ^ 0=v:=by
 unfold aa; (repeat' split)<;>omega
theorem VC (v:Int) (h:v=0):0=v:=by
 omega
theorem VD (v:Int) (h:v=0):0=v:=by
 omega
theorem VE (v:Int) (h:v=0):0=v:=by
 omega
theorem VF (v:Int) (h:v=0):0=v:=by
 omega
theorem VG (v:Int) (h:v=0):0=v:=by
 omega
theorem VH (v:Int) (h:0<=v/\v < 15):0+aa v 0 4*2 ^ 0=v:=by
 unfold aa; (repeat' split)<;>omega
theorem VI (v:Int) (h:0<=v/\v < 15):0+aa v 0 4*2 ^ 0=v:=by
 unfold aa; (repeat' split)<;>omega
theorem VJ (v:Int) (h:0<=v/\v < 15):0+aa v 0 4*2 ^ 0=v:=by
 unfold aa; (repeat' split)<;>omega
theorem VK (v:Int) (h:v=0):0=v:=by
 omega
theorem VL (v:Int) (h:v=0):0=v:=by
 omega
theorem VM (v:Int) (h:v=0):0=v:=by
 omega
theorem VN (v:Int) (h:0<=v/\v<=3/\v % 1=0):0+aa v 0 2*2 ^ 0=v:=by
 unfold aa; (repeat' split)<;>omega
theorem VO (v:Int) (h:v=0):0=v:=by
 omega
theorem VP (v:Int) (h:v=0):0=v:=by
 omega
theorem VQ (v:Int) (h:v=0):0=v:=by
 omega
theorem VR (v:Int) (h:0<=v/\v < 15):0+aa v 0 4*2 ^ 0=v:=by
 unfold aa; (repeat' split)<;>omega
theorem VS (v:Int) (h:0<=v/\v < 15):0+aa v 0 4*2 ^ 0=v:=by
 unfold aa; (repeat' split)<;>omega
theorem VT (v:Int) (h:0<=v/\v < 15):0+aa v 0 4*2 ^ 0=v:=by
 unfold aa; (repeat' split)<;>omega
theorem VU (v:Int) (h:v=0):0=v:=by
 omega
theorem VV (v:Int) (h:v=0):0=v:=by
 omega
theorem VW (v:Int) (h:v=0):0=v:=by
 omega
theorem VX (v:Int) (h:v=0):0=v:=by
 omega
theorem VY (v:Int) (h:v=0\/v=1):0+aa v 0 1*2 ^ 0=v:=by
 unfold aa; (repeat' split)<;>omega
theorem VZ (v:Int) (h:v=0):0=v:=by
 omega
theorem V0 (v:Int) (h:v=0):0=v:=by
 omega
theorem V3 (v:Int) (h:0<=v/\v < 15):0+aa v 0 4*2 ^ 0=v:=by
 unfold aa; (repeat' split)<;>omega
theorem V4 (v:Int) (h:0<=v/\v < 15):0+aa v 0 4*2 ^ 0=v:=by
 unfold aa; (repeat' split)<;>omega
theorem V5 (v:Int) (h:0<=v/\v < 15):0+aa v 0 4*2 ^ 0=v:=by
 unfold aa; (repeat' split)<;>omega
theorem V6 (v:Int) (h:v=0):0=v:=by
 omega
theorem V7 (v:Int) (h:v=0):0=v:=by
 omega
theorem V8 (v:Int) (h:v=0):0=v:=by
 omega
theorem V9 (v:Int) (h:v=0):0=v:=by
 omega
theorem V' (v:Int) (h:v=0):0=v:=by
 omega
theorem V_ (v:Int) (h:v=0):0=v:=by
 omega
theorem Wb (v:Int) (h:v=0):0=v:=by
 omega
theorem Wc (v:Int) (h:0<=v/\v < 15):0+aa v 0 4*2 ^ 0=v:=by
 unfold aa; (repeat' split)<;>omega
theorem Wd (v:Int) (h:0<=v/\v < 15):0+aa v 0 4*2 ^ 0=v:=by
 unfold aa; (repeat' split)<;>omega
theorem We (v:Int) (h:0<=v/\v < 15):0+aa v 0 4*2 ^ 0=v:=by
 unfold aa; (repeat' split)<;>omega
theorem Wf (v:Int) (h:0<=v/\v < 15):0+aa v 0 4*2 ^ 0=v:=by
 unfold aa; (repeat' split)<;>omega
theorem Wg (v:Int) (h:v=0):0=v:=by
 omega
theorem Wh (v:Int) (h:v=0):0=v:=by
 omega
theorem Wi (v:Int) (h:v=0):0=v:=by
 omega
theorem Wj (v:Int) (h:v=0):0=v:=by
 omega
theorem Wk (v:Int) (h:v=0):0=v:=by
 omega
theorem Wl (v:Int) (h:v=0):0=v:=by
 omega
theorem Wm (v:Int) (h:0<=v/\v < 15):0+aa v 0 4*2 ^ 0=v:=by
 unfold aa; (repeat' split)<;>omega
theorem Wn (v:Int) (h:0<=v/\v < 15):0+aa v 0 4*2 ^ 0=v:=by
 unfold aa; (repeat' split)<;>omega
theorem Wo (v:Int) (h:0<=v/\v < 15):0+aa v 0 4*2 ^ 0=v:=by
 unfold aa; (repeat' split)<;>omega
theorem Wp (v:Int) (h:0<=v/\v < 15):0+aa v 0 4*2 ^ 0=v:=by
 unfold aa; (repeat' split)<;>omega
theorem Wq (v:Int) (h:v=0):0=v:=by
 omega
theorem Ws (v:Int) (h:v=0):0=v:=by
 omega
theorem Wt (v:Int) (h:v=0):0=v:=by
 omega
theorem Wu (v:Int) (h:v=0):0=v:=by
 omega
theorem Wv (v:Int) (h:v=0):0=v:=by
 omega
theorem Ww (v:Int) (h:v=0):0=v:=by
 omega
theorem Wx (v:Int) (h:0<=v/\v < 15):0+aa v 0 4*2 ^ 0=v:=by
 unfold aa; (repeat' split)<;>omega
theorem Wy (v:Int) (h:0<=v/\v < 15):0+aa v 0 4*2 ^ 0=v:=by
 unfold aa; (repeat' split)<;>omega
theorem Wz (v:Int) (h:0<=v/\v < 15):0+aa v 0 4*2 ^ 0=v:=by
 unfold aa; (repeat' split)<;>omega
theorem WA (v:Int) (h:0<=v/\v < 15):0+aa v 0 4*2 ^ 0=v:=by
 unfold aa; (repeat' split)<;>omega
theorem WB (v:Int) (h:v=0):0=v:=by
 omega
theorem WC (v:Int) (h:v=0):0=v:=by
 omega
theorem WD (v:Int) (h:v=0):0=v:=by
 omega
theorem WE (v:Int) (h:v=0):0=v:=by
 omega
theorem WG (v:Int) (h:v=0):0=v:=by
 omega
theorem WH (v:Int) (h:v=0):0=v:=by
 omega
theorem WI (v:Int) (h:0<=v/\v < 15):0+aa v 0 4*2 ^ 0=v:=by
 unfold aa; (repeat' split)<;>omega
theorem WJ (v:Int) (h:v=0):0=v:=by
 omega
theorem WK (v:Int) (h:0<=v/\v < 15):aa v 0 4=v:=by
 unfold aa; split<;>omega
theorem WL (v:Int) (h:v=0):0=v:=by
 omega
theorem WM (v:Int) (h:v=0):0=v:=by
 omega
theorem WN (v:Int) (h:v=0):0=v:=by
 omega
theorem WO (v:Int) (h:v=0):0=v:=by
 omega
theorem WQ (v:Int) (h:v=0):0=v:=by
 omega
theorem WR (v:Int) (h:v=0):0=v:=by
 omega
theorem WS (v:Int) (h:v=0):0=v:=by
 omega
theorem WT (v:Int) (h:v=0):0=v:=by
 omega
theorem WU (v:Int) (h:v=0):0=v:=by
 omega
theorem WV (v:Int) (h:v=0):0=v:=by
 omega
theorem WW (v:Int) (h:v=0):0=v:=by
 omega
theorem WX (v:Int) (h:-1048576<=v/\v<=1048574/\v % 2=0):dw (0+aa v 20 1*2 ^ 20+aa v 12 6*2 ^ 12+aa v 18 1*2 ^ 18+aa v 19 1*2 ^ 19+aa v 1 11*2 ^ 1) 21=v:=by
 unfold dw aa; (repeat' split)<;>omega
theorem WY (v:Int) (h:v=0):0=v:=by
 omega
theorem WZ (v:Int) (h:v=0):0=v:=by
 omega
theorem W0 (v:Int) (h:v=0):0=v:=by
 omega
theorem W6 (v:Int) (h:0<=v/\v<=13):0+aa v 0 4*2 ^ 0=v:=by
 unfold aa; (repeat' split)<;>omega
theorem W_ (v:Int) (h:v=0):0=v:=by
 omega
theorem Xa (v:Int) (h:v=0):0=v:=by
 omega
theorem Xb (v:Int) (h:v=0):0=v:=by
 omega
theorem Xc (v:Int) (h:v=0):0=v:=by
 omega
theorem Xd (v:Int) (h:v=0):0=v:=by
 omega
theorem Xe (v:Int) (h:v=0):0=v:=by
 omega
theorem Xf (v:Int) (h:v=0):0=v:=by
 omega
theorem Xg (v:Int) (h:v=0):0=v:=by
 omega
theorem Xh (v:Int) (h:v=0):0=v:=by
 omega
theorem Xi (v:Int) (h:v=0):0=v:=by
 omega
end Go.Proofs.YtbnoodjnpooocaaGreatDoor.Pw

/- What this claim is proved with: no condition. -/
import Derived.Test.YtnbhdacpogplgaaGreatDoorPn9
import Derived.Test.YtnbhdacpogplgaaGreatDoorPn10
import Derived.Test.YtnbhdacpogplgaaGreatDoorPnImmD
import Derived.Laws.BitsLemmas
set_option maxRecDepth 100000
set_option maxHeartbeats 16000000
set_option linter.unusedVariables false
set_option linter.unusedSimpArgs false
namespace Go.Proofs.YtnbhdacpogplgaaGreatDoor.Pw
open Go Go.RowKit
theorem pZ {f:FuncId} {fn:Func} {c:Code} (hf:Tryz.prog.funcs[f]?=some fn) (hb:fn.body=some c) (hn:(fn.name == "runtime.NumGoroutine")=false):Ev.fB gT.cx.P f:=Ev.kt hf hb hn
theorem Gb {w:World} {I:Nat->Prop} {β:au}:aU w I [] β []:=by simp only[aU]
theorem ub {w:World} {I:Nat->Prop} {β:au} {x:PV} {v:Value} {xs:List PV} {vs:List Value} (h:x.Is w I β v) (h':aU w I xs β vs):aU w I (x::xs) β (v::vs):=by simp only[aU]; exact⟨h,h'⟩
theorem kO {w:World} {I:Nat->Prop} {β:au} (k:IntKind) (n:Int):(PV.int k n).Is w I β (.int k n):=by simp only[PV.Is]
theorem zL {w:World} {I:Nat->Prop} {β:au} {xs:List PV} {vs:Array Value} (h:aU w I xs β vs.toList):(PV.tup xs).Is w I β (.tuple vs):=by simp only[PV.Is]; exact⟨vs,rfl,h⟩
theorem RE {w:World} {I:Nat->Prop} {β:au} {x:PV} {aS:List Value} (h:aU w I [x] β aS):∃ v,aS = [v]/\x.Is w I β v:=by
 match aS,h with
 | [v],h=>exact⟨v,rfl,by simpa only [aU,and_true] using h⟩
theorem CO {G:Gx} {I:Nat->Prop} {w:World} (hM:cg G I w) {g:Nat} {k:IntKind} {l:List Int} (h:(g,l.map (PV.lit k))∈G.jh):∃ ty fr,w.heap[g]?=some (.cells (l.map (Value.int k)).toArray ty fr):=by
 obtain⟨arr,ty,fr,h1,h2⟩:=hM.row _ _ h
 obtain⟨_,h3⟩:=hM.mg _ _ h
 refine⟨ty,fr,?_⟩
 rw[h1]
 congr 2
 refine Array.ext' (List.ext_getElem? fun i=>?_)
 rw[List.length_map] at h2
 by_cases hi:i < l.length
 ·obtain⟨v,hv,Tq,_⟩:=h3.get (i:=i) (c:=PV.lit k l[i]) (by simp[hi])
  rw[Ev.c8 h1,Nat.zero_add] at hv
  simp only[PV.Is] at Tq
  subst Tq
  simp only[Array.getElem?_toList,hv,List.getElem?_map,List.getElem?_eq_getElem hi,Option.map_some]
 ·rw[List.getElem?_eq_none (by simp; omega),List.getElem?_eq_none (by simp; omega)]
theorem ai.MF {G:Gx} {f:FuncId} {args:List PV} {r:PV} (he:Ev.fB G.cx.P f)
  (h:∀ I β w aS,cg G I w->aU w I args β aS->∃ v,r.Is w I no v/\(∀ w' I' aG,r.Is w' I' aG v)/\Calls G.cx.P f aS.toArray w fun e w'=>e = .returned v/\Below w.heap.size w w'):ai G f args r:=by
 refine Spec.intro he fun I β w aS hH hM hA=>?_
 obtain⟨v,_,hr,hc⟩:=h I β w aS hM hA
 refine hc.mono fun e w' ⟨he,hB⟩=>⟨v,r,[],I,β,he,rfl,hr _ _ _,hH.zq _ _,hM.below hB,⟨hB.os,hB.tape,hB.output,hB.size,fun g hg _=>hB.block g hg,fun g _ h=>h,fun _ h=>h,fun _ _ h=>.inl h⟩,Nat.le_refl _,fun _ _ _=>rfl⟩
theorem Ls:IntKind.i64.wrap (0+1)=1:=by decide
structure IN where
 form:Int
 rd:Int
 rn:Int
 rm:Int
 ra:Int
 av:Int
 kind:Int
 ba:Int
 set:Int
 cond:Int
 aq:Int
def RF (i:IN):List PV:=[.int .i64 i.form,.int .i64 i.rd,.int .i64 i.rn,.int .i64 i.rm,.int .i64 i.ra,.int .i64 i.av,.int .i64 i.kind,.int .i64 i.ba,.int .i64 i.set,.int .i64 i.cond,.int .i64 i.aq]
def bJ (i:IN):PV:=.agg (RF i)
def iZ:IN:=⟨0,0,0,0,0,0,0,0,0,0,0⟩
theorem MG {I:Nat->Prop} {w:World} (hM:cg gT I w):Ga w :=
 CO hM (g:=2) (k:=.u32) (l:=[1,65537,16777472,16843009]) (show (2,FZ)∈gT.jh from List.mem_cons_self)
theorem kb (f:Int):ai gT 54 [.int .i64 f] (.bool (1<=f/\f<=100)):=by
 refine Spec.enter aw Vc 100 Tryz.func54 rfl (by kernel_rfl) ?_
 repeat' ((conv=>whnf); first|(refine (And.intro (fun _=>?_) (fun _=>?_):(_->_)/\(_->_))<;>(first|(exfalso; first|contradiction|omega)|skip))|refine Or.inl (And.intro (by first|exact aA (by omega)|exact ah (by omega)|exact cH (by omega)|exact dF (by omega)) ?_)|(refine And.intro (show (_:Int)≠0 by omega) (Or.inl (And.intro (show (0:Int)<=_ by omega) (And.intro (show (0:Int) < _ by omega) ?_))))|(refine And.intro (show (_:Int)≠0 by omega) (Or.inl (And.intro (show (0:Int)<=_ by omega) (And.intro (by first|exact (show (_:Int)<=9223372036854775807 by omega)|exact (show (_:Int)<=4294967295 by omega)) (And.intro (show (0:Int) < _ by omega) ?_)))))|(refine al ?_; show _↔_; omega)|(refine al ?_; show ¬ _; omega)|(intro _))
theorem kP (f:Int):ai gT 49 [.int .i64 f] (.bool (48<=f/\f<=100)):=by
 refine Spec.enter aw Vb 100 Tryz.func49 rfl (by kernel_rfl) ?_
 refine (kb f).u ?_
 repeat' ((conv=>whnf); first|(refine (And.intro (fun _=>?_) (fun _=>?_):(_->_)/\(_->_))<;>(first|(exfalso; first|contradiction|omega)|skip))|refine Or.inl (And.intro (by first|exact aA (by omega)|exact ah (by omega)|exact cH (by omega)|exact dF (by omega)) ?_)|(refine And.intro (show (_:Int)≠0 by omega) (Or.inl (And.intro (show (0:Int)<=_ by omega) (And.intro (show (0:Int) < _ by omega) ?_))))|(refine And.intro (show (_:Int)≠0 by omega) (Or.inl (And.intro (show (0:Int)<=_ by omega) (And.intro (by first|exact (show (_:Int)<=9223372036854775807 by omega)|exact (show (_:Int)<=4294967295 by omega)) (And.intro (show (0:Int) < _ by omega) ?_)))))|(refine al ?_; show _↔_; omega)|(refine al ?_; show ¬ _; omega)|(intro _))
def Lu:List Int:=[0,1,1,1,2,2,3,3,4,4,4,4,5,5,5,5,5,5,5,5,5,5,5,5,5,5,5,5,6,6,6,7,8,2,2,9,9,8,8,8,10,10,11,12,13,14,15,16,17,17,18,18,18,18,18,18,18,18,18,18,19,19,20,20,20,20,21,21,21,21,21,21,21,21,21,21,22,22,23,23,23,23,24,24,25,25,26,26,27,27,27,27,28,29,30,31,31,28,32,33,34]
def af (f:Int):Int:=if 1<=f/\f<=100 then Lu.getD f.toNat 0 else 0
theorem zM {f:Int} (h:1<=f/\f<=100) {c:PV} (hc:(Lu.map (PV.lit .i64))[f.toNat]?=some c):c = .lit .i64 (af f):=by
 rw[List.getElem?_map,Option.map_eq_some_iff] at hc
 obtain⟨z,hz,rfl⟩:=hc
 unfold af
 rw[if_pos h,List.getD_eq_getElem?_getD,hz]; rfl
theorem gr (f:Int):ai gT 56 [.int .i64 f] (.int .i64 (af f)):=by
 refine Spec.enter aw Vf 100 Tryz.func56 rfl (by kernel_rfl) ?_
 refine (kb f).u ?_
 refine⟨fun h=>?_,fun h=>?_⟩
 ·refine al ?_
  exact (show (0:Int)=af f by unfold af; rw[if_neg h])
 have h':=Classical.not_not.1 h
 refine⟨by omega,show f < 101 by omega,.inr ⟨rfl,by omega,show 0+f.toNat*1 < 101 by omega,fun c hc=>?_⟩⟩
 have qx:(Lu.map (PV.lit .i64))[f.toNat]?=some c:=by
  have e:0+f.toNat*1=f.toNat:=by omega
  have h0:(Lu.map (PV.lit .i64))[0+f.toNat*1]?=some c:=hc
  rwa [e] at h0
 obtain rfl:=zM h' qx
 exact al rfl
structure RU where
 rd:Int
 rn:Int
 rm:Int
 ra:Int
 i0:Int
 i1:Int
 i2:Int
 b0:Int
 b1:Int
 b2:Int
 kind:Bool
 set:Bool
 cond:Bool
 aq:Int
def VT (r:RU):List PV:=[.int .i64 r.rd,.int .i64 r.rn,.int .i64 r.rm,.int .i64 r.ra,.int .i64 r.i0,.int .i64 r.i1,.int .i64 r.i2,.int .i64 r.b0,.int .i64 r.b1,.int .i64 r.b2,.bool (r.kind=true),.bool (r.set=true),.bool (r.cond=true),.int .i64 r.aq]
def Pu (r:RU):PV:=.agg (VT r)
def hZ:RU:=⟨0,0,0,0,0,0,0,0,0,0,false,false,false,0⟩
def RG (s:Int):RU :=
 if s=1 then { hZ with rd:=1,rm:=1,i0:=0,i1:=32,i2:=1 } else if s=2 then { hZ with rd:=1,rn:=1,rm:=1 } else if s=3 then { hZ with rd:=1,rn:=1,i1:=7,i2:=1 }
 else if s=4 then { hZ with rd:=1,i1:=255,i2:=1 } else if s=5 then { hZ with rd:=1,rm:=1 } else if s=6 then { hZ with rd:=2,rm:=2 } else if s=7 then { hZ with rm:=2 }
 else if s=8 then { hZ with rd:=1,i1:=1020,i2:=4 } else if s=9 then { hZ with rd:=1,rn:=1,i1:=124,i2:=4 } else if s=10 then { hZ with i1:=508,i2:=4 } else if s=11 then { hZ with aq:=16639 } else if s=12 then { hZ with aq:=33023 }
 else if s=13 then hZ else if s=14 then { hZ with i1:=255,i2:=1 } else if s=15 then { hZ with cond:=true,i0:=-256,i1:=254,i2:=2 } else if s=16 then { hZ with i0:=-2048,i1:=2046,i2:=2 } else hZ
def cw (s:Int):RU :=
 if s=17 then { hZ with rd:=3,i1:=65535,i2:=1 } else if s=18 then { hZ with rd:=3,rn:=3,i1:=4095,i2:=1,set:=true } else if s=19 then { hZ with rd:=3,i1:=4095,i2:=1,set:=true } else if s=20 then { hZ with rn:=3,i1:=4095,i2:=1 }
 else if s=21 then { hZ with rd:=3,rn:=3,rm:=3,kind:=true,set:=true } else if s=22 then { hZ with rd:=3,rm:=3,kind:=true,set:=true } else if s=23 then { hZ with rn:=3,rm:=3,kind:=true } else if s=24 then { hZ with rd:=3,rn:=3,i1:=4095,i2:=1 }
 else if s=25 then { hZ with rd:=3,rn:=2,i1:=4095,i2:=1 } else if s=26 then { hZ with rd:=3,rn:=2,rm:=3,b1:=3,b2:=1 } else if s=27 then { hZ with rd:=3,rn:=3,rm:=3,set:=true } else if s=28 then { hZ with rd:=3,rn:=3,rm:=3 }
 else if s=29\/s=30\/s=31 then { hZ with rd:=3,rn:=3,rm:=3,ra:=3 } else if s=32 then { hZ with rd:=3,rm:=3 } else if s=33 then { hZ with cond:=true,i0:=-1048576,i1:=1048574,i2:=2 } else if s=34 then { hZ with i0:=-16777216,i1:=16777214,i2:=2 } else RG s
theorem lO (s:Int):ai gT 105 [.int .i64 s] (Pu (RG s)):=by
 refine Spec.enter aw Rb 100 Tryz.func105 rfl (by kernel_rfl) ?_
 repeat' ((conv=>whnf); first|(refine (And.intro (fun _=>?_) (fun _=>?_):(_->_)/\(_->_))<;>(first|(exfalso; first|contradiction|omega)|skip))|refine Or.inl (And.intro (by first|exact aA (by omega)|exact ah (by omega)|exact cH (by omega)|exact dF (by omega)) ?_)|(refine And.intro (show (_:Int)≠0 by omega) (Or.inl (And.intro (show (0:Int)<=_ by omega) (And.intro (show (0:Int) < _ by omega) ?_))))|(refine And.intro (show (_:Int)≠0 by omega) (Or.inl (And.intro (show (0:Int)<=_ by omega) (And.intro (by first|exact (show (_:Int)<=9223372036854775807 by omega)|exact (show (_:Int)<=4294967295 by omega)) (And.intro (show (0:Int) < _ by omega) ?_)))))|(simp only[RG, *,if_true,if_false,reduceIte,Int.reduceEq]; refine al ?_; (repeat' first|exact trivial|exact rfl|exact (show ¬ (false=true) from Bool.false_ne_true)|refine And.intro ?_ ?_))|(intro _))
theorem nY (s:Int):ai gT 55 [.int .i64 s] (Pu (cw s)):=by
 refine Spec.enter aw Vm 100 Tryz.func55 rfl (by kernel_rfl) ?_
 repeat' ((conv=>whnf); first|(refine (And.intro (fun _=>?_) (fun _=>?_):(_->_)/\(_->_))<;>(first|(exfalso; first|contradiction|omega)|skip))|refine Or.inl (And.intro (by first|exact aA (by omega)|exact ah (by omega)|exact cH (by omega)|exact dF (by omega)) ?_)|(refine And.intro (show (_:Int)≠0 by omega) (Or.inl (And.intro (show (0:Int)<=_ by omega) (And.intro (show (0:Int) < _ by omega) ?_))))|(refine And.intro (show (_:Int)≠0 by omega) (Or.inl (And.intro (show (0:Int)<=_ by omega) (And.intro (by first|exact (show (_:Int)<=9223372036854775807 by omega)|exact (show (_:Int)<=4294967295 by omega)) (And.intro (show (0:Int) < _ by omega) ?_)))))|(refine Exists.intro [] (And.intro aE ((lO s).use (by repeat' first|exact trivial|exact rfl|exact Iff.rfl|exact Or.inl rfl|refine And.intro ?_ ?_) rfl rfl ?_)))|(simp only[cw, *,if_true,if_false,reduceIte,Int.reduceEq,or_true,true_or,or_false,false_or]; refine al ?_; (repeat' first|exact trivial|exact rfl|exact (show ¬ (false=true) from Bool.false_ne_true)|exact Iff.rfl|refine And.intro ?_ ?_))|(intro _))
def gu (c r:Int):Prop:=(c=1/\0<=r/\r < 8)\/(c=2/\0<=r/\r < 15)\/(c=3/\0<=r/\r < 15/\r≠13)\/(c≠1/\c≠2/\c≠3/\r=0)
theorem oJ (r:Int):ai gT 106 [.int .i64 r] (.bool (0<=r/\r < 8)):=by
 refine Spec.enter aw Rc 100 Tryz.func106 rfl (by kernel_rfl) ?_
 repeat' ((conv=>whnf); first|(refine (And.intro (fun _=>?_) (fun _=>?_):(_->_)/\(_->_))<;>(first|(exfalso; first|contradiction|omega)|skip))|refine Or.inl (And.intro (by first|exact aA (by omega)|exact ah (by omega)|exact cH (by omega)|exact dF (by omega)) ?_)|(refine And.intro (show (_:Int)≠0 by omega) (Or.inl (And.intro (show (0:Int)<=_ by omega) (And.intro (show (0:Int) < _ by omega) ?_))))|(refine And.intro (show (_:Int)≠0 by omega) (Or.inl (And.intro (show (0:Int)<=_ by omega) (And.intro (by first|exact (show (_:Int)<=9223372036854775807 by omega)|exact (show (_:Int)<=4294967295 by omega)) (And.intro (show (0:Int) < _ by omega) ?_)))))|(refine al ?_; show _↔_; omega)|(refine al ?_; show ¬ _; omega)|(intro _))
theorem zN (c r:Int):ai gT 57 [.int .i64 c,.int .i64 r] (.bool (gu c r)):=by
 refine Spec.enter aw Vn 100 Tryz.func57 rfl (by kernel_rfl) ?_
 repeat' ((conv=>whnf); first|(refine (And.intro (fun _=>?_) (fun _=>?_):(_->_)/\(_->_))<;>(first|(exfalso; first|contradiction|omega)|skip))|refine Or.inl (And.intro (by first|exact aA (by omega)|exact ah (by omega)|exact cH (by omega)|exact dF (by omega)) ?_)|(refine And.intro (show (_:Int)≠0 by omega) (Or.inl (And.intro (show (0:Int)<=_ by omega) (And.intro (show (0:Int) < _ by omega) ?_))))|(refine And.intro (show (_:Int)≠0 by omega) (Or.inl (And.intro (show (0:Int)<=_ by omega) (And.intro (by first|exact (show (_:Int)<=9223372036854775807 by omega)|exact (show (_:Int)<=4294967295 by omega)) (And.intro (show (0:Int) < _ by omega) ?_)))))|(refine Exists.intro [] (And.intro aE ((oJ r).use (by repeat' first|exact trivial|exact rfl|exact Iff.rfl|exact Or.inl rfl|refine And.intro ?_ ?_) rfl rfl ?_)))|(refine al ?_; (show _↔gu c r); unfold gu; omega)|(refine al ?_; (show ¬ gu c r); unfold gu; omega)|(intro _))
def fV (f t s n:Int):Prop:=(s=0/\n=0)\/(s≠0/\f<=n/\n<=t/\n.tmod s=0)
theorem oK (f t s n:Int):ai gT 59 [.agg [.int .i64 f,.int .i64 t,.int .i64 s],.int .i64 n] (.bool (fV f t s n)):=by
 refine Spec.enter aw Vp 100 Tryz.func59 rfl (by kernel_rfl) ?_
 refine⟨fun h=>?_,fun h=>?_⟩
 ·refine al ?_
  exact (show n=0↔fV f t s n by unfold fV; exact⟨fun e=>.inl ⟨h,e⟩,fun e=>e.elim (fun e=>e.2) (fun e=>absurd h e.1)⟩)
 have h0:s≠0:=h
 refine⟨fun h1=>?_,fun h1=>?_⟩
 ·refine⟨fun h2=>?_,fun h2=>?_⟩
  ·refine⟨h0,.inr ?_⟩
   refine al ?_
   exact (show n.tmod s=0↔fV f t s n from ⟨fun e=>.inr ⟨h0,h1,h2,e⟩,fun e=>e.elim (fun e=>absurd e.1 h0) (fun e=>e.2.2.2)⟩)
  ·refine al ?_
   exact (show ¬ fV f t s n from fun e=>e.elim (fun e=>h0 e.1) (fun e=>h2 e.2.2.1))
 ·refine al ?_
  exact (show ¬ fV f t s n from fun e=>e.elim (fun e=>h0 e.1) (fun e=>h1 e.2.1))
theorem zO (n:Int) (ok:Prop):ai gT 60 [.int .i64 n,.bool ok] (.bool (n=0\/(n=1/\ok))):=by
 refine Spec.enter aw Vq 100 Tryz.func60 rfl (by kernel_rfl) ?_
 refine⟨fun h=>?_,fun h=>And.intro (fun h1=>?_) (fun h1=>?_)⟩
 ·exact al (show n=0\/(n=1/\ok) from .inl h)
 ·exact al (show ok↔(n=0\/(n=1/\ok)) from ⟨fun k=>.inr ⟨h1,k⟩,fun k=>k.elim (fun e=>absurd e h) (fun e=>e.2)⟩)
 ·exact al (show ¬ (n=0\/(n=1/\ok)) from fun k=>k.elim h (fun e=>h1 e.1))
def gM (x:Int):Prop:=-9223372036854775808<=x/\x<=9223372036854775807
theorem p6 (n:Int) (h:gM n):ai gT 108 [.int .i64 n] (.tup [.int .u32 (Rm.hU n),.int .i64 (Rm.fU n)]) :=
 ai.MF (pZ Tryz.func108 rfl (by kernel_rfl)) fun I β w aS hM hA=>by
  obtain⟨v,rfl,h1⟩:=RE hA
  simp only[PV.Is] at h1
  subst h1
  refine⟨.tuple #[.int .u32 (Rm.hU n),.int .i64 (Rm.fU n)],zL (ub (kO ..) (ub (kO ..) Gb)),fun _ _ _=>zL (ub (kO ..) (ub (kO ..) Gb)),?_⟩
  refine (zK n w (MG hM) h.1 h.2).mono ?_
  rintro e w' ⟨rfl,rfl⟩
  exact⟨rfl,Below.refl _ _⟩
def bE (k b:Int):Prop:=(k=0/\0<=b/\b < 32)\/((k=1\/k=2)/\1<=b/\b<=32)\/(k=3/\1<=b/\b < 32)
theorem rU (k b:Int):ai gT 107 [.int .i64 k,.int .i64 b] (.bool (bE k b)):=by
 refine Spec.enter aw Rd 100 Tryz.func107 rfl (by kernel_rfl) ?_
 repeat' ((conv=>whnf); first|(refine (And.intro (fun _=>?_) (fun _=>?_):(_->_)/\(_->_))<;>(first|(exfalso; first|contradiction|omega)|skip))|refine Or.inl (And.intro (by first|exact aA (by omega)|exact ah (by omega)|exact cH (by omega)|exact dF (by omega)) ?_)|(refine And.intro (show (_:Int)≠0 by omega) (Or.inl (And.intro (show (0:Int)<=_ by omega) (And.intro (show (0:Int) < _ by omega) ?_))))|(refine And.intro (show (_:Int)≠0 by omega) (Or.inl (And.intro (show (0:Int)<=_ by omega) (And.intro (by first|exact (show (_:Int)<=9223372036854775807 by omega)|exact (show (_:Int)<=4294967295 by omega)) (And.intro (show (0:Int) < _ by omega) ?_)))))|(refine al ?_; (show _↔bE k b); unfold bE; omega)|(refine al ?_; (show ¬ bE k b); unfold bE; omega)|(intro _))
def js (i:IN) (r:RU):Prop:=(r.kind=true/\bE i.kind i.ba)\/(¬ r.kind=true/\i.kind=0/\fV r.b0 r.b1 r.b2 i.ba)
theorem uc (i:IN) (r:RU):ai gT 61 [bJ i,Pu r] (.bool (js i r)):=by
 refine Spec.enter aw Vr 100 Tryz.func61 rfl (by kernel_rfl) ?_
 refine⟨fun h=>?_,fun h=>?_⟩
 ·refine (rU i.kind i.ba).u ?_
  refine al ?_
  exact (show bE i.kind i.ba↔js i r from ⟨fun k=>.inl ⟨h,k⟩,fun k=>k.elim (fun e=>e.2) (fun e=>absurd h e.1)⟩)
 ·refine⟨fun h1=>?_,fun h1=>?_⟩
  ·refine (oK r.b0 r.b1 r.b2 i.ba).u ?_
   refine al ?_
   exact (show fV r.b0 r.b1 r.b2 i.ba↔js i r from ⟨fun k=>.inr ⟨h,h1,k⟩,fun k=>k.elim (fun e=>absurd e.1 h) (fun e=>e.2.2)⟩)
  ·refine al ?_
   exact (show ¬ js i r from fun k=>k.elim (fun e=>h e.1) (fun e=>h1 e.2.1))
def ey (i:IN) (r:RU):Prop:=(r.aq=0/\i.aq=0)\/(¬ r.aq=0/\0 < i.aq/\bits .andNot .i64 i.aq r.aq=0)
theorem rV (i:IN) (r:RU):ai gT 58 [bJ i,Pu r] (.bool (ey i r)):=by
 refine Spec.enter aw Vo 100 Tryz.func58 rfl (by kernel_rfl) ?_
 refine⟨fun h=>?_,fun h=>?_⟩
 ·refine al ?_
  exact (show i.aq=0↔ey i r from ⟨fun k=>.inl ⟨h,k⟩,fun k=>k.elim (fun e=>e.2) (fun e=>absurd h e.1)⟩)
 ·refine⟨fun h1=>?_,fun h1=>?_⟩
  ·refine al ?_
   exact (show bits .andNot .i64 i.aq r.aq=0↔ey i r from ⟨fun k=>.inr ⟨h,h1,k⟩,fun k=>k.elim (fun e=>absurd e.1 h) (fun e=>e.2.2)⟩)
  ·refine al ?_
   exact (show ¬ ey i r from fun k=>k.elim (fun e=>h e.1) (fun e=>h1 e.2.1))
def ju (i:IN):Prop:=(i.form=1->i.av < 32)/\(i.form=2\/i.form=3->0 < i.av)/\(i.form=29->¬ (0<=i.rd/\i.rd < 8)\/¬ (0<=i.rm/\i.rm < 8))/\(i.form=95\/i.form=96->i.rd≠i.ra)/\(af i.form=18\/af i.form=19\/af i.form=20->Rm.fU i.av=0)
theorem CP:af 1=1/\af 2=1/\af 3=1/\af 29=6/\af 95=31/\af 96=31:=by decide
theorem ud (i:IN) (hi:gM i.av):ai gT 62 [bJ i] (.bool (ju i)):=by
 obtain⟨s1,s2,s3,Ts,Tt,Tu⟩:=CP
 refine Spec.enter aw Vs 100 Tryz.func62 rfl (by kernel_rfl) ?_
 have e:ju i↔((i.form=1->i.av < 32)/\(i.form=2\/i.form=3->0 < i.av)/\(i.form=29->¬ (0<=i.rd/\i.rd < 8)\/¬ (0<=i.rm/\i.rm < 8))/\(i.form=95\/i.form=96->i.rd≠i.ra)/\(af i.form=18\/af i.form=19\/af i.form=20->Rm.fU i.av=0)):=Iff.rfl
 have f1:i.form=1->af i.form=1:=fun h=>by rw[h]; exact s1
 have f2:i.form=2->af i.form=1:=fun h=>by rw[h]; exact s2
 have f3:i.form=3->af i.form=1:=fun h=>by rw[h]; exact s3
 have f29:i.form=29->af i.form=6:=fun h=>by rw[h]; exact Ts
 have f95:i.form=95->af i.form=31:=fun h=>by rw[h]; exact Tt
 have f96:i.form=96->af i.form=31:=fun h=>by rw[h]; exact Tu
 clear s1 s2 s3 Ts Tt Tu
 repeat' ((conv=>whnf); first|(refine (And.intro (fun _=>?_) (fun _=>?_):(_->_)/\(_->_))<;>(first|(exfalso; first|contradiction|omega)|skip))|refine Or.inl (And.intro (by first|exact aA (by omega)|exact ah (by omega)|exact cH (by omega)|exact dF (by omega)) ?_)|(refine And.intro (show (_:Int)≠0 by omega) (Or.inl (And.intro (show (0:Int)<=_ by omega) (And.intro (show (0:Int) < _ by omega) ?_))))|(refine And.intro (show (_:Int)≠0 by omega) (Or.inl (And.intro (show (0:Int)<=_ by omega) (And.intro (by first|exact (show (_:Int)<=9223372036854775807 by omega)|exact (show (_:Int)<=4294967295 by omega)) (And.intro (show (0:Int) < _ by omega) ?_)))))|(refine Exists.intro [] (And.intro aE ((oJ _).use (by repeat' first|exact trivial|exact rfl|exact Iff.rfl|exact Or.inl rfl|refine And.intro ?_ ?_) rfl rfl ?_)))|(refine Exists.intro [] (And.intro aE ((gr i.form).use (by repeat' first|exact trivial|exact rfl|exact Iff.rfl|exact Or.inl rfl|refine And.intro ?_ ?_) rfl rfl ?_)))|(refine Exists.intro [] (And.intro aE ((p6 i.av hi).use (by repeat' first|exact trivial|exact rfl|exact Iff.rfl|exact Or.inl rfl|refine And.intro ?_ ?_) rfl rfl ?_)))|(refine al ?_; (show ju i); rw[e]; clear e; omega)|(refine al ?_; (show _↔ju i); rw[e]; clear e; omega)|(refine al ?_; (show ¬ ju i); rw[e]; clear e; omega)|(intro _))
def aD (i:IN) (r:RU):Prop:=(1<=i.form/\i.form<=100)/\gu r.rd i.rd/\gu r.rn i.rn/\gu r.rm i.rm/\gu r.ra i.ra/\ey i r/\(i.cond=0\/(r.cond=true/\0 < i.cond/\i.cond<=13))/\fV r.i0 r.i1 r.i2 i.av/\(i.set=0\/(i.set=1/\r.set=true))/\js i r/\ju i
def bC (i:IN):Prop:=aD i (cw (af i.form))
theorem jv (i:IN) (hi:gM i.av):ai gT 27 [bJ i] (.bool (bC i)):=by
 refine Spec.enter aw Vl 100 Tryz.func27 rfl (by kernel_rfl) ?_
 refine (kb i.form).u ?_
 refine⟨fun h=>?_,fun h=>?_⟩
 ·refine al ?_
  exact (show ¬ bC i from fun k=>h k.1)
 have hF:=Classical.not_not.1 h
 clear h
 refine (gr i.form).u ?_
 refine (nY _).u ?_
 unfold bC
 generalize cw (af i.form)=r
 repeat' ((conv=>whnf); first|(refine (And.intro (fun _=>?_) (fun _=>?_):(_->_)/\(_->_))<;>(first|(exfalso; first|contradiction|omega)|skip))|refine Or.inl (And.intro (by first|exact aA (by omega)|exact ah (by omega)|exact cH (by omega)|exact dF (by omega)) ?_)|(refine And.intro (show (_:Int)≠0 by omega) (Or.inl (And.intro (show (0:Int)<=_ by omega) (And.intro (show (0:Int) < _ by omega) ?_))))|(refine And.intro (show (_:Int)≠0 by omega) (Or.inl (And.intro (show (0:Int)<=_ by omega) (And.intro (by first|exact (show (_:Int)<=9223372036854775807 by omega)|exact (show (_:Int)<=4294967295 by omega)) (And.intro (show (0:Int) < _ by omega) ?_)))))|(refine Exists.intro [] (And.intro aE ((zN _ _).use (by repeat' first|exact trivial|exact rfl|exact Iff.rfl|exact Or.inl rfl|refine And.intro ?_ ?_) rfl rfl ?_)))|(refine Exists.intro [] (And.intro aE ((rV i r).use (by repeat' first|exact trivial|exact rfl|exact Iff.rfl|exact Or.inl rfl|refine And.intro ?_ ?_) rfl rfl ?_)))|(refine Exists.intro [] (And.intro aE ((oK _ _ _ _).use (by repeat' first|exact trivial|exact rfl|exact Iff.rfl|exact Or.inl rfl|refine And.intro ?_ ?_) rfl rfl ?_)))|(refine Exists.intro [] (And.intro aE ((zO _ _).use (by repeat' first|exact trivial|exact rfl|exact Iff.rfl|exact Or.inl rfl|refine And.intro ?_ ?_) rfl rfl ?_)))|(refine Exists.intro [] (And.intro aE ((uc i r).use (by repeat' first|exact trivial|exact rfl|exact Iff.rfl|exact Or.inl rfl|refine And.intro ?_ ?_) rfl rfl ?_)))|(refine Exists.intro [] (And.intro aE ((ud i hi).use (by repeat' first|exact trivial|exact rfl|exact Iff.rfl|exact Or.inl rfl|refine And.intro ?_ ?_) rfl rfl ?_)))|(refine al ?_; (show ju i↔aD i r); (exact⟨fun k=>⟨hF,by assumption,by assumption,by assumption,by assumption,by assumption,by first|exact Or.inl (by assumption)|exact Or.inr ⟨by assumption,by assumption,by assumption⟩,by assumption,by assumption,by assumption,k⟩,fun k=>k.2.2.2.2.2.2.2.2.2.2⟩))|(refine al ?_; (show ¬ aD i r); (rintro⟨a0,a1,a2,a3,a4,a5,a6,a7,a8,a9,Tv⟩; first|contradiction|(rcases a6 with a6|⟨b1,b2,b3⟩<;>first|contradiction|omega)))|(intro _))
def rW (x:Int) (l w:Nat):Int:=x / 2 ^ l % 2 ^ w
theorem rX (x:Int) (w:Nat) (h0:0<=x) (h1:x<=4294967295) (hw:w<=31):bits .and .u32 x (2 ^ w - 1)=x % 2 ^ w:=by
 have hp:(2:Int) ^ w<=2 ^ 31:=by
  have:=Nat.pow_le_pow_right (n:=2) (by omega) hw
  exact_mod_cast this
 have Pt:(1:Int)<=2 ^ w:=by
  have:=Nat.one_le_two_pow (n:=w)
  exact_mod_cast this
 rw[u32_and x (2 ^ w - 1) h0 (by omega) (by omega) (by omega)]
 have e:x.toNat &&& ((2:Int) ^ w - 1).toNat=x.toNat % 2 ^ w:=by
  have:((2:Int) ^ w - 1).toNat=2 ^ w - 1:=by
   have e2:((2 ^ w:Nat):Int)=(2:Int) ^ w:=by norm_cast
   omega
  rw[this]
  exact Nat.and_two_pow_sub_one_eq_mod x.toNat w
 rw[e]
 have:((x.toNat % 2 ^ w:Nat):Int)=(x.toNat:Int) % ((2 ^ w:Nat):Int):=by norm_cast
 rw[this,Int.toNat_of_nonneg h0]
 norm_cast
theorem rY (n:Nat) (h:n<=32):Ev.aC .u32 (n:Int)=2 ^ n:=by
 unfold Ev.aC
 rw[Int.toNat_natCast,show min n (IntKind.bits .u32)=n from Nat.min_eq_left h]
 norm_cast
theorem bx (w:Nat):((2 ^ w:Nat):Int)=(2:Int) ^ w:=by norm_cast
theorem mW (w:Nat) (hw:w<=31):(1:Int)<=2 ^ w/\(2:Int) ^ w<=2147483648:=by
 have h1:=Nat.one_le_two_pow (n:=w)
 have h2:(2 ^ w:Nat)<=2147483648:=Nat.le_trans (Nat.pow_le_pow_right (n:=2) (by omega) hw) (by decide)
 have e:=bx w
 omega
theorem Gc (x p:Int) (h0:0<=x) (h1:x<=4294967295) (hp:1<=p):0<=x / p/\x / p<=4294967295 :=
 ⟨Int.ediv_nonneg h0 (by omega),Int.le_trans (Int.ediv_le_self _ h0) h1⟩
theorem fW (x:Int) (l w:Nat) (hx:0<=x/\x<=4294967295) (hw:1<=w/\w<=31) (hl:l<=31):ai gT 128 [.int .u32 x,.int .i64 ((l:Int)+w - 1),.int .i64 l] (.int .u32 (rW x l w)):=by
 have p1:=rY l (by omega)
 have p2:=rY w (by omega)
 have b1:=mW l hl
 have b2:=mW w hw.2
 have d:=Gc x (2 ^ l) hx.1 hx.2 b1.1
 have e:((l:Int)+w - 1) - l+1=w:=by omega
 refine Spec.enter aw Q8 100 Tryz.func128 rfl (by kernel_rfl) ?_
 refine⟨by omega,.inl ⟨aA (by omega),.inl ⟨aA (by omega),?_⟩⟩⟩
 refine⟨by omega,.inl ⟨ah (show 0<=1*Ev.aC .u32 (((l:Int)+w - 1) - l+1)/\1*Ev.aC .u32 (((l:Int)+w - 1) - l+1)<=4294967295 by rw[e,p2]; omega),?_⟩⟩
 refine lu ?_ (show 0<=1*Ev.aC .u32 (((l:Int)+w - 1) - l+1) - 1/\1*Ev.aC .u32 (((l:Int)+w - 1) - l+1) - 1<=4294967295 by rw[e,p2]; omega)
 refine al ?_
 show bits .and .u32 (x / Ev.aC .u32 l) (1*Ev.aC .u32 (((l:Int)+w - 1) - l+1) - 1)=rW x l w
 rw[e,p1,p2,Int.one_mul,rX _ w d.1 d.2 hw.2]; rfl
theorem rZ (w:Nat) (hw:w<=62):(1:Int)<=2 ^ w/\(2:Int) ^ w<=4611686018427387904:=by
 have h1:=Nat.one_le_two_pow (n:=w)
 have h2:(2 ^ w:Nat)<=4611686018427387904:=Nat.le_trans (Nat.pow_le_pow_right (n:=2) (by omega) hw) (by decide)
 have e:=bx w
 omega
def aa (n:Int) (l w:Nat):Int:=(if n < 0 then n+1099511627776 else n) / 2 ^ l % 2 ^ w
def ao (s:Int):List (Nat × Nat × Nat × Nat) :=
 if s=1 then [(4,0,6,5),(2,0,3,3),(0,0,0,3)]
 else if s=2 then [(2,0,6,3),(1,0,3,3),(0,0,0,3)]
 else if s=3 then [(4,0,6,3),(1,0,3,3),(0,0,0,3)]
 else if s=4 then [(0,0,8,3),(4,0,0,8)]
 else if s=5 then [(2,0,3,3),(0,0,0,3)]
 else if s=6 then [(0,3,7,1),(2,0,3,4),(0,0,0,3)]
 else if s=7 then [(2,0,3,4)]
 else if s=8 then [(0,0,8,3),(4,2,0,8)]
 else if s=9 then [(4,2,6,5),(1,0,3,3),(0,0,0,3)]
 else if s=10 then [(4,2,0,7)]
 else if s=11 then [(9,14,8,1),(9,0,0,8)]
 else if s=12 then [(9,15,8,1),(9,0,0,8)]
 else if s=14 then [(4,0,0,8)]
 else if s=15 then [(8,0,8,4),(4,1,0,8)]
 else if s=16 then [(4,1,0,11)]
 else if s=17 then [(4,11,26,1),(4,12,16,4),(4,8,12,3),(4,0,0,8),(0,0,8,4)]
 else if s=18 then [(4,11,26,1),(4,8,12,3),(4,0,0,8),(7,0,20,1),(1,0,16,4),(0,0,8,4)]
 else if s=19 then [(4,11,26,1),(4,8,12,3),(4,0,0,8),(7,0,20,1),(0,0,8,4)]
 else if s=20 then [(4,11,26,1),(4,8,12,3),(4,0,0,8),(1,0,16,4)]
 else if s=21 then [(6,2,12,3),(6,0,6,2),(5,0,4,2),(7,0,20,1),(1,0,16,4),(0,0,8,4),(2,0,0,4)]
 else if s=22 then [(6,2,12,3),(6,0,6,2),(5,0,4,2),(7,0,20,1),(0,0,8,4),(2,0,0,4)]
 else if s=23 then [(6,2,12,3),(6,0,6,2),(5,0,4,2),(1,0,16,4),(2,0,0,4)]
 else if s=24 then [(4,11,26,1),(4,8,12,3),(4,0,0,8),(1,0,16,4),(0,0,8,4)]
 else if s=25 then [(1,0,16,4),(0,0,12,4),(4,0,0,12)]
 else if s=26 then [(1,0,16,4),(0,0,12,4),(6,0,4,2),(2,0,0,4)]
 else if s=27 then [(7,0,20,1),(1,0,16,4),(0,0,8,4),(2,0,0,4)]
 else if s=28 then [(1,0,16,4),(0,0,8,4),(2,0,0,4)]
 else if s=29 then [(1,0,16,4),(3,0,12,4),(0,0,8,4),(2,0,0,4)]
 else if s=30 then [(1,0,16,4),(3,0,12,4),(0,0,8,4),(2,0,0,4)]
 else if s=31 then [(1,0,16,4),(0,0,12,4),(3,0,8,4),(2,0,0,4)]
 else if s=32 then [(2,0,16,4),(0,0,8,4),(2,0,0,4)]
 else if s=33 then [(4,20,26,1),(8,0,22,4),(4,12,16,6),(4,18,13,1),(4,19,11,1),(4,1,0,11)]
 else if s=34 then [(4,24,26,1),(4,12,16,10),(4,23,13,1),(4,22,11,1),(4,1,0,11)]
 else []
def jx (i:IN) (f:Nat):Int:=[i.rd,i.rn,i.rm,i.ra,i.av,i.kind,i.ba,i.set,i.cond,i.aq].getD f 0
theorem Gd (a b k:Nat) (h:b < 2 ^ k):2 ^ k*a+b=2 ^ k*a ||| b:=Nat.two_pow_add_eq_or_of_lt h a
def plus (w n at_ b:Nat):Nat:=w ||| (n % 2 ^ b) <<< at_
def Lv:List Int:=[0,2048,4096,6144,6656,7168,7680,8192,10240,12288,14336,16384,16448,16512,16576,16640,16704,16768,16832,16896,16960,17024,17088,17152,17216,17280,17344,17408,17664,17920,18176,18432,20480,22528,24576,26624,36864,38912,43008,45056,45184,46080,48128,48896,48640,53248,57344,4064280576,4072669184,4026531840,4028628992,4030726144,4032823296,4034920448,4043309056,4047503360,4049600512,4053794816,4055891968,4031709184,4033806336,4027584256,4035972864,4044361472,4054847232,3925868544,3927965696,3930062848,3932160000,3934257152,3942645760,3946840064,3948937216,3953131520,3955228672,3931045888,3933143040,3926920960,3935309568,3943698176,3954183936,4060086272,4070572032,4173332480,4174381056,4164943872,4165992448,4194365440,4196462592,4198559744,4200656896,4211142656,4211081216,4211081232,4221566976,4225761280,4222677232,4205899904,4026564608,4026568704]
def l8 (f:Int):Int:=if 1<=f/\f<=100 then Lv.getD (f - 1).toNat 0 else 0
theorem Ge {k:IntKind} {l:List Int} {n:Nat} {c:PV} (hc:(l.map (PV.lit k))[n]?=some c):c = .lit k (l.getD n 0):=by
 rw[List.getElem?_map,Option.map_eq_some_iff] at hc
 obtain⟨z,hz,rfl⟩:=hc
 rw[List.getD_eq_getElem?_getD,hz]; rfl
theorem r9 (f:Int) (hF:1<=f/\f<=100):ai gT 92 [.int .i64 f] (.int .u32 (l8 f)):=by
 refine Spec.enter aw Ve 100 Tryz.func92 rfl (by kernel_rfl) ?_
 refine⟨by omega,show f < 101 by omega,.inr ⟨rfl,by omega,show 0+f.toNat*1 < 101 by omega,fun c hc=>?_⟩⟩
 have qx:((0::Lv).map (PV.lit .u32))[f.toNat]?=some c:=by
  have e:0+f.toNat*1=f.toNat:=by omega
  have h0:((0::Lv).map (PV.lit .u32))[0+f.toNat*1]?=some c:=hc
  rwa [e] at h0
 obtain rfl:=Ge qx
 refine al (show (0::Lv).getD f.toNat 0=l8 f from ?_)
 unfold l8
 rw[if_pos hF,show f.toNat=(f - 1).toNat+1 by omega]
 rfl
theorem dO (f:Int):ai gT 50 [.int .i64 f] (.int .u32 (l8 f)):=by
 refine Spec.enter aw Vd 100 Tryz.func50 rfl (by kernel_rfl) ?_
 refine (kb f).u ?_
 refine⟨fun h=>?_,fun h=>?_⟩
 ·exact al (show (0:Int)=l8 f by unfold l8; rw[if_neg h])
 refine (r9 f (Classical.not_not.1 h)).u ?_
 exact al rfl
def Gf (x:Nat × Nat × Nat × Nat):Prop:=x.1 < 10/\x.2.1<=40/\1<=x.2.2.2/\x.2.2.1+x.2.2.2<=32
theorem ft (s:Int) (h:s < 1\/34 < s):ao s = []:=by
 unfold ao
 repeat rw[if_neg (by omega)]
def Tw (l:List (Nat × Nat × Nat × Nat)):Bool:=l.all (fun x=>decide (x.1 < 10/\x.2.1<=40/\1<=x.2.2.2/\x.2.2.1+x.2.2.2<=32)) && decide (l.length<=7)
theorem ue:∀ k:Fin 35,Tw (ao ((k.1:Nat):Int))=true:=by decide
theorem oL (s:Int):Tw (ao s)=true:=by
 by_cases h:s < 1\/34 < s
 ·rw[ft s h]; rfl
 ·have h1:=ue ⟨s.toNat,by omega⟩
  rwa [show (((⟨s.toNat,by omega⟩:Fin 35).1:Nat):Int)=s by simp only[]; omega] at h1
theorem uf (s:Int):(ao s).all (fun x=>decide (x.1 < 10/\x.2.1<=40/\1<=x.2.2.2/\x.2.2.1+x.2.2.2<=32))=true :=
 ((Bool.and_eq_true ..).mp (oL s)).1
theorem wM (s:Int):∀ x∈ao s,Gf x:=fun x hx=>by
 have:=List.all_eq_true.1 (uf s) x hx
 exact (of_decide_eq_true (p:=x.1 < 10/\x.2.1<=40/\1<=x.2.2.2/\x.2.2.1+x.2.2.2<=32) this)
theorem ug (s:Int):(ao s).length<=7 :=
 of_decide_eq_true ((Bool.and_eq_true ..).mp (oL s)).2
def r_ (i:IN) (w:Nat) (x:Nat × Nat × Nat × Nat):Nat:=plus w (aa (jx i x.1) x.2.1 x.2.2.2).toNat x.2.2.1 x.2.2.2
def oM (i:IN) (l:List (Nat × Nat × Nat × Nat)):Nat:=l.foldl (r_ i) (l8 i.form).toNat
theorem CQ (w n a b:Nat) (hw:w < 2 ^ 32) (h:a+b<=32):plus w n a b < 2 ^ 32:=by
 unfold plus
 refine Nat.or_lt_two_pow hw ?_
 rw[Nat.shiftLeft_eq]
 have h1:n % 2 ^ b < 2 ^ b:=Nat.mod_lt _ (Nat.two_pow_pos b)
 calc n % 2 ^ b*2 ^ a < 2 ^ b*2 ^ a:=Nat.mul_lt_mul_of_pos_right h1 (Nat.two_pow_pos a)
  _=2 ^ (b+a):=(Nat.pow_add ..).symm
  _<=2 ^ 32:=Nat.pow_le_pow_right (by omega) (by omega)
theorem ae (n:Int) (l w:Nat):0<=aa n l w/\aa n l w < 2 ^ w:=by
 have hp:(0:Int) < 2 ^ w:=by have:=bx w; have:=Nat.two_pow_pos w; omega
 exact⟨Int.emod_nonneg _ (by omega),Int.emod_lt_of_pos _ hp⟩
theorem oN (n l w:Nat):aa n l w=((n / 2 ^ l % 2 ^ w:Nat):Int):=by
 unfold aa
 rw[if_neg (by omega),← bx,← bx]
 norm_cast
def iW (s n:Int) (k:Nat):Int:=n+((if aa n k 1=s then 1 else 0) - aa n k 1)*2 ^ k
def aV (n:Int):Nat->Int
 | 0=>n
 | k+1=>iW (aa n 24 1) (aV n k) (22+k)
theorem gv (n:Int) (k:Nat):aa n k 1=0\/aa n k 1=1:=by
 have:=ae n k 1
 have e:(2:Int) ^ 1=2:=rfl
 omega
theorem sc (s n:Int) (k:Nat) (hk:k=22\/k=23):n - 8388608<=iW s n k/\iW s n k<=n+8388608:=by
 have hb:=gv n k
 have p:(2:Int) ^ 22=4194304:=by decide
 have q:(2:Int) ^ 23=8388608:=by decide
 unfold iW
 rcases hk with rfl|rfl<;>rcases hb with h|h<;>rw[h]<;>split<;>omega
theorem zP (n:Int) (k:Nat) (hk:k<=2):n - 16777216<=aV n k/\aV n k<=n+16777216:=by
 have h0:=sc (aa n 24 1) (aV n 0) 22 (.inl rfl)
 have h1:=sc (aa n 24 1) (aV n 1) 23 (.inr rfl)
 have e0:aV n 0=n:=rfl
 have e1:aV n 1=iW (aa n 24 1) (aV n 0) 22:=rfl
 have e2:aV n 2=iW (aa n 24 1) (aV n 1) 23:=rfl
 match k,hk with
 | 0,_=>omega
 | 1,_=>omega
 | 2,_=>omega
def bO (n:Int) (w:Nat):Int:=if aa n (w - 1) 1=1 then n - 2 ^ w else n
def cI (i:IN):IN:=if af i.form=34 then {i with av:=aV (aa i.av 0 25) 2} else i
def bZ (i:IN):Int:=((oM (cI i) (ao (af i.form)):Nat):Int)
theorem Gg:Lv.all (fun z=>decide (0<=z/\z < 4294967296))=true:=by decide
theorem zQ (f:Int):0<=l8 f/\l8 f < 4294967296:=by
 unfold l8
 split
 ·rw[List.getD_eq_getElem?_getD]
  cases h:Lv[(f - 1).toNat]? with
  | none=>exact⟨Int.le_refl 0,by decide⟩
  | some z=>exact of_decide_eq_true (List.all_eq_true.1 Gg z (List.mem_of_getElem? h))
 ·omega
theorem zR (i:IN) (l:List (Nat × Nat × Nat × Nat)) (h:∀ y∈l,Gf y):∀ w,w < 2 ^ 32->l.foldl (r_ i) w < 2 ^ 32:=by
 induction l with
 | nil=>exact fun w hw=>hw
 | cons y l ih=>exact fun w hw=>ih (fun z hz=>h z (List.mem_cons_of_mem _ hz)) _ (CQ w _ _ _ hw (h y List.mem_cons_self).2.2.2)
theorem zS (i:IN) (l:List (Nat × Nat × Nat × Nat)) (h:∀ y∈l,Gf y):oM i l < 2 ^ 32 :=
 zR i l h _ (by have:=zQ i.form; omega)
def vF (i:IN) (x:Nat × Nat × Nat × Nat):Nat:=(aa (jx i x.1) x.2.1 x.2.2.2).toNat
theorem EU (i:IN) (x:Nat × Nat × Nat × Nat):vF i x < 2 ^ x.2.2.2:=by
 have:=ae (jx i x.1) x.2.1 x.2.2.2
 have e:=bx x.2.2.2
 unfold vF; omega
theorem wN (w n a b p:Nat):(plus w n a b).testBit p=(w.testBit p || (decide (a<=p) && decide (p < a+b) && n.testBit (p - a))):=by
 unfold plus
 rw[Nat.testBit_or,Nat.testBit_shiftLeft,Nat.testBit_mod_two_pow]
 congr 1
 by_cases h:a<=p
 ·by_cases h2:p < a+b
  ·rw[decide_eq_true h2,decide_eq_true (show p - a < b by omega)]; simp[h]
  ·rw[decide_eq_false h2,decide_eq_false (show ¬ p - a < b by omega)]; simp
 ·simp[h]
def MH (p:Nat) (x:Nat × Nat × Nat × Nat):Bool:=decide (x.2.2.1<=p) && decide (p < x.2.2.1+x.2.2.2)
theorem kQ (i:IN) (p:Nat):∀ (l:List (Nat × Nat × Nat × Nat)) (W:Nat),(l.foldl (r_ i) W).testBit p=(W.testBit p || l.any fun x=>MH p x && (vF i x).testBit (p - x.2.2.1))
 | [],W=>by simp
 | x::l,W=>by
  rw[List.foldl_cons,kQ i p l,List.any_cons,← Bool.or_assoc]
  congr 1
  exact wN W (vF i x) x.2.2.1 x.2.2.2 p
def ui (l:List (Nat × Nat × Nat × Nat)):Bool:=l.all fun x=>l.all fun y=>decide (x=y) || decide (x.2.2.1+x.2.2.2<=y.2.2.1) || decide (y.2.2.1+y.2.2.2<=x.2.2.1)
def zT (W:Nat) (l:List (Nat × Nat × Nat × Nat)):Bool:=l.all fun x=>decide (W / 2 ^ x.2.2.1 % 2 ^ x.2.2.2=0)
theorem wO:∀ k:Fin 35,ui (ao ((k.1:Nat):Int))=true:=by decide
theorem p7 (s:Int):ui (ao s)=true:=by
 by_cases h:s < 1\/34 < s
 ·rw[ft s h]; rfl
 ·have h1:=wO ⟨s.toNat,by omega⟩
  rwa [show (((⟨s.toNat,by omega⟩:Fin 35).1:Nat):Int)=s by simp only[]; omega] at h1
theorem zU:(List.range 101).all (fun k=>zT (l8 (k:Int)).toNat (ao (af (k:Int))))=true:=by decide +kernel
theorem sd (f:Int):zT (l8 f).toNat (ao (af f))=true:=by
 by_cases h:1<=f/\f<=100
 ·have h1:=List.all_eq_true.1 zU f.toNat (List.mem_range.2 (by omega))
  rwa [show ((f.toNat:Nat):Int)=f by omega] at h1
 ·unfold af; rw[if_neg h,ft 0 (by omega)]; rfl
theorem uj (i:IN) {l:List (Nat × Nat × Nat × Nat)} {W:Nat} (ha:ui l=true) (hf:zT W l=true) {x:Nat × Nat × Nat × Nat} (hx:x∈l):(l.foldl (r_ i) W) / 2 ^ x.2.2.1 % 2 ^ x.2.2.2=vF i x:=by
 apply Nat.eq_of_testBit_eq
 intro p
 rw[Nat.testBit_mod_two_pow,Nat.testBit_div_two_pow]
 by_cases hp:p < x.2.2.2
 ·rw[decide_eq_true hp,Bool.true_and,kQ]
  have h0:W.testBit (p+x.2.2.1)=false:=by
   have h1:=of_decide_eq_true (List.all_eq_true.1 hf x hx)
   have h2:(W / 2 ^ x.2.2.1 % 2 ^ x.2.2.2).testBit p=false:=by rw[h1]; simp
   rw[Nat.testBit_mod_two_pow,Nat.testBit_div_two_pow,decide_eq_true hp,Bool.true_and] at h2
   exact h2
  rw[h0,Bool.false_or,Bool.eq_iff_iff,List.any_eq_true]
  constructor
  ·rintro⟨y,hy,hb⟩
   simp only[Bool.and_eq_true,MH,decide_eq_true_eq] at hb
   have h3:=List.all_eq_true.1 (List.all_eq_true.1 ha x hx) y hy
   simp only[Bool.or_eq_true,decide_eq_true_eq] at h3
   rcases h3 with (rfl|h3)|h3
   ·have:=hb.2; rwa [show p+x.2.2.1 - x.2.2.1=p by omega] at this
   ·omega
   ·omega
  ·intro hb
   refine⟨x,hx,?_⟩
   simp only[Bool.and_eq_true,MH,decide_eq_true_eq]
   exact⟨⟨by omega,by omega⟩,by rwa [show p+x.2.2.1 - x.2.2.1=p by omega]⟩
 ·rw[decide_eq_false hp,Bool.false_and]
  exact (Nat.testBit_lt_two_pow (Nat.lt_of_lt_of_le (EU i x) (Nat.pow_le_pow_right (by decide) (by omega)))).symm
def Lw (l:List (Nat × Nat × Nat × Nat)) (p:Nat):Bool:=l.all fun x=>!MH p x
theorem uk (i:IN) {l:List (Nat × Nat × Nat × Nat)} {W p:Nat} (h:Lw l p=true):(l.foldl (r_ i) W).testBit p=W.testBit p:=by
 rw[kQ]
 have:(l.any fun x=>MH p x && (vF i x).testBit (p - x.2.2.1))=false:=by
  rw[List.any_eq_false]
  intro x hx
  have:=List.all_eq_true.1 h x hx
  simp only[Bool.not_eq_true'] at this
  rw[this]; simp
 rw[this,Bool.or_false]
def MI (f:Nat):Nat:=(l8 (f:Int)).toNat
def Pv (f:Nat):List (Nat × Nat × Nat × Nat):=ao (af (f:Int))
def zV (f g:Nat):Bool:=(Pv f).any fun x=>decide (x.1 < 4) && decide (x.2.1=0) && decide (x.2.2.2=4) && ([0,1,2,3].all fun k=>Lw (Pv g) (x.2.2.1+k) && (MI g).testBit (x.2.2.1+k))
def vm (f g:Nat):Bool:=decide (f=g) || ((List.range 32).any fun p=>Lw (Pv f) p && Lw (Pv g) p && ((MI f).testBit p != (MI g).testBit p)) || zV f g || zV g f
theorem p8:((List.range 47).all fun f=>(List.range 47).all fun g=>vm (f+1) (g+1))=true:=by decide +kernel
theorem um:((List.range 53).all fun f=>(List.range 53).all fun g=>vm (f+48) (g+48))=true:=by decide +kernel
theorem p9 {c r:Int} (h:gu c r):0<=r/\r < 15:=by unfold gu at h; omega
theorem mX {i:IN} (h:bC i):(0<=i.rd/\i.rd < 15)/\(0<=i.rn/\i.rn < 15)/\(0<=i.rm/\i.rm < 15)/\(0<=i.ra/\i.ra < 15):=by
 obtain⟨_,h1,h2,h3,h4,_⟩:=h
 exact⟨p9 h1,p9 h2,p9 h3,p9 h4⟩
theorem eV (i:IN):(cI i).form=i.form:=by unfold cI; split<;>rfl
theorem wP (i:IN) (f:Nat) (hf:f < 4):jx (cI i) f=jx i f:=by
 unfold cI
 split
 ·match f,hf with
  | 0,_|1,_|2,_|3,_=>rfl
 ·rfl
theorem jy (i:IN) {p:Nat} (h:Lw (ao (af i.form)) p=true):(bZ i).toNat.testBit p=(l8 i.form).toNat.testBit p:=by
 unfold bZ oM
 rw[Int.toNat_natCast,uk _ h,eV]
theorem mY (i:IN) {x:Nat × Nat × Nat × Nat} (hx:x∈ao (af i.form)):(bZ i).toNat / 2 ^ x.2.2.1 % 2 ^ x.2.2.2=vF (cI i) x:=by
 unfold bZ oM
 rw[Int.toNat_natCast]
 have h:=sd i.form
 rw[← eV i] at h
 refine uj (cI i) (p7 _) ?_ hx
 rw[eV] at h ⊢
 exact h
theorem MJ:∀ v:Fin 16,(v.1.testBit 0=true/\v.1.testBit 1=true/\v.1.testBit 2=true/\v.1.testBit 3=true)->v.1=15:=by decide
theorem vn {a b:IN} (ha:bC a) (fa:a.form=((a.form.toNat:Nat):Int)) (fb:b.form=((b.form.toNat:Nat):Int)) (h:zV a.form.toNat b.form.toNat=true):bZ a≠bZ b:=fun e=>by
 obtain⟨x,hx,h⟩:=List.any_eq_true.1 h
 simp only[Bool.and_eq_true,decide_eq_true_eq] at h
 obtain⟨⟨⟨h1,h2⟩,h3⟩,h4⟩:=h
 have fh:x∈ao (af a.form):=by rw[fa]; exact hx
 have hf:=mY a fh
 have hr:vF (cI a) x < 15:=by
  unfold vF
  rw[wP a x.1 h1,h2,h3]
  obtain⟨r0,r1,r2,r3⟩:=mX ha
  have key:∀ r:Int,0<=r/\r < 15->(aa r 0 4).toNat < 15:=fun r hr=>by
   unfold aa; rw[if_neg (by omega)]
   have e0:(2:Int) ^ 0=1:=rfl
   have e4:(2:Int) ^ 4=16:=rfl
   rw[e0,e4]; omega
  match x.1,h1 with
  | 0,_=>exact key _ r0
  | 1,_=>exact key _ r1
  | 2,_=>exact key _ r2
  | 3,_=>exact key _ r3
 have hv:∀ k,k∈[0,1,2,3]->(vF (cI a) x).testBit k=true:=fun k hk=>by
  have h5:=List.all_eq_true.1 h4 k hk
  simp only[Bool.and_eq_true] at h5
  have VU:k < 4:=by simp at hk; omega
  rw[← hf,h3,Nat.testBit_mod_two_pow,Nat.testBit_div_two_pow,decide_eq_true VU,Bool.true_and,e]
  have h6:Lw (ao (af b.form)) (x.2.2.1+k)=true:=by rw[fb]; exact h5.1
  rw[Nat.add_comm,jy b h6]
  have h7:=h5.2
  unfold MI at h7
  rw[← fb] at h7
  exact h7
 have:=MJ ⟨vF (cI a) x,by omega⟩ ⟨hv 0 (by simp),hv 1 (by simp),hv 2 (by simp),hv 3 (by simp)⟩
 simp only[] at this
 omega
theorem vo {a b:IN} (ha:bC a) (hb:bC b) (h:vm a.form.toNat b.form.toNat=true) (e:bZ a=bZ b):a.form=b.form:=by
 have f1:=ha.1
 have f2:=hb.1
 have fa:a.form=((a.form.toNat:Nat):Int):=by omega
 have fb:b.form=((b.form.toNat:Nat):Int):=by omega
 unfold vm at h
 simp only[Bool.or_eq_true,decide_eq_true_eq] at h
 rcases h with ((h|h)|h)|h
 ·omega
 ·obtain⟨p,_,h⟩:=List.any_eq_true.1 h
  simp only[Bool.and_eq_true] at h
  obtain⟨⟨h1,h2⟩,h3⟩:=h
  have k1:=jy a (p:=p) (by rw[fa]; exact h1)
  have k2:=jy b (p:=p) (by rw[fb]; exact h2)
  unfold MI at h3
  rw[← fa,← fb,← k1,← k2,e] at h3
  simp at h3
 ·exact absurd e (vn ha fa fb h)
 ·exact absurd e.symm (vn hb fb fa h)
theorem wQ {a b:IN} (ha:bC a) (hb:bC b) (hw:48<=a.form↔48<=b.form) (e:bZ a=bZ b):a.form=b.form:=by
 have f1:=ha.1
 have f2:=hb.1
 by_cases h:48<=a.form
 ·have h1:=List.all_eq_true.1 (List.all_eq_true.1 um (a.form.toNat - 48) (List.mem_range.2 (by omega))) (b.form.toNat - 48) (List.mem_range.2 (by have:=hw.1 h; omega))
  rw[show a.form.toNat - 48+48=a.form.toNat by omega,show b.form.toNat - 48+48=b.form.toNat by have:=hw.1 h; omega] at h1
  exact vo ha hb h1 e
 ·have h1:=List.all_eq_true.1 (List.all_eq_true.1 p8 (a.form.toNat - 1) (List.mem_range.2 (by omega))) (b.form.toNat - 1) (List.mem_range.2 (by omega))
  rw[show a.form.toNat - 1+1=a.form.toNat by omega,show b.form.toNat - 1+1=b.form.toNat by omega] at h1
  exact vo ha hb h1 e
def xV (s w:Int) (f:Nat):Int:=((ao s).filter fun x=>decide (x.1=f)).foldl (fun a x=>a+aa w x.2.2.1 x.2.2.2*2 ^ x.2.1) 0
def lP (s f x:Int):Int:=if s=15 then bO x 9 else if s=16 then bO x 12 else if s=33 then bO x 21 else if s=34 then bO (aV x 2) 25 else if s=1/\1 < f/\x=0 then 32 else x
def EV (s k x:Int):Int:=if 21<=s/\s<=23/\x=0/\(k=1\/k=2) then 32 else x
def MK (s w x:Int):Int:=if s=32 then aa w 0 4 else x
def aF (f w:Int):IN:=⟨f,xV (af f) w 0,xV (af f) w 1,MK (af f) w (xV (af f) w 2),xV (af f) w 3,lP (af f) f (xV (af f) w 4),xV (af f) w 5,EV (af f) (xV (af f) w 5) (xV (af f) w 6),xV (af f) w 7,xV (af f) w 8,xV (af f) w 9⟩
def xR (s:Int) (i:IN) (f:Nat):Int:=((ao s).filter fun x=>decide (x.1=f)).foldl (fun a x=>a+aa (jx i x.1) x.2.1 x.2.2.2*2 ^ x.2.1) 0
theorem mZ {α β:Type} {f g:β->α->β}:∀ {l:List α} {b:β},(∀ b x,x∈l->f b x=g b x)->l.foldl f b=l.foldl g b
 | [],_,_=>rfl
 | x::l,b,h=>by rw[List.foldl_cons,List.foldl_cons,h b x (List.mem_cons_self ..)]; exact mZ fun b y hy=>h b y (List.mem_cons_of_mem _ hy)
theorem Gh (i:IN) (x:Nat × Nat × Nat × Nat):((vF i x:Nat):Int)=aa (jx i x.1) x.2.1 x.2.2.2:=Int.toNat_of_nonneg (ae ..).1
theorem oO (i:IN) {x:Nat × Nat × Nat × Nat} (hx:x∈ao (af i.form)):aa (bZ i) x.2.2.1 x.2.2.2=aa (jx (cI i) x.1) x.2.1 x.2.2.2:=by
 have h:=mY i hx
 have e:bZ i=(((bZ i).toNat:Nat):Int):=by unfold bZ; rw[Int.toNat_natCast]
 rw[e,oN,h,Gh]
theorem dP (i:IN) (f:Nat):xV (af i.form) (bZ i) f=xR (af i.form) (cI i) f:=by
 unfold xV xR
 refine mZ fun b x hx=>?_
 rw[oO i (List.mem_filter.1 hx).1]
theorem h_ {f:Int} (h:1<=f/\f<=100):1<=af f/\af f<=34:=by
 have h1:((List.range 100).all fun k=>decide (1<=af ((k+1:Nat):Int)/\af ((k+1:Nat):Int)<=34))=true:=by decide +kernel
 have h2:=of_decide_eq_true (List.all_eq_true.1 h1 (f.toNat - 1) (List.mem_range.2 (by omega)))
 rwa [show (((f.toNat - 1+1:Nat)):Int)=f by omega] at h2
theorem oP {f:Int} (h:1<=f/\f<=100):af f=1->f=1\/f=2\/f=3:=by
 have h1:((List.range 100).all fun k=>decide (af ((k+1:Nat):Int)=1->k < 3))=true:=by decide +kernel
 have h2:=of_decide_eq_true (List.all_eq_true.1 h1 (f.toNat - 1) (List.mem_range.2 (by omega)))
 rw[show (((f.toNat - 1+1:Nat)):Int)=f by omega] at h2
 intro h3; have:=h2 h3; omega
theorem VV {n s:Int} (h:n.tmod s=0):n % s=0:=Int.emod_eq_zero_of_dvd (Int.dvd_of_tmod_eq_zero h)
theorem se {f t s n:Int} (h:fV f t s n):(s=0/\n=0)\/(s≠0/\f<=n/\n<=t/\n % s=0):=h.imp id fun ⟨a,b,c,d⟩=>⟨a,b,c,VV d⟩
theorem zW (x k:Nat):x &&& 2 ^ k=(x / 2 ^ k % 2)*2 ^ k:=by
 apply Nat.eq_of_testBit_eq
 intro i
 rw[Nat.testBit_and,Nat.testBit_two_pow]
 rcases Nat.mod_two_eq_zero_or_one (x / 2 ^ k) with h|h
 ·rw[h,Nat.zero_mul,Nat.zero_testBit]
  by_cases hi:k=i
  ·subst hi; rw[Nat.testBit_eq_decide_div_mod_eq]; simp[h]
  ·simp[hi]
 ·rw[h,Nat.one_mul,Nat.testBit_two_pow]
  by_cases hi:k=i
  ·subst hi; rw[Nat.testBit_eq_decide_div_mod_eq]; simp[h]
  ·simp[hi]
theorem wR (k x:Nat) (hk:8<=k):x &&& (2 ^ k ||| (2 ^ 8 - 1))=(x / 2 ^ k % 2)*2 ^ k+x % 256:=by
 rw[Nat.and_or_distrib_left,Nat.and_two_pow_sub_one_eq_mod,zW]
 have bA:x % 2 ^ 8 < 2 ^ k:=Nat.lt_of_lt_of_le (Nat.mod_lt _ (by decide)) (Nat.pow_le_pow_right (by decide) hk)
 have:=Nat.two_pow_add_eq_or_of_lt bA (x / 2 ^ k % 2)
 rw[Nat.mul_comm,← this]
theorem sg (a m:Nat) (ha:a < 9223372036854775808) (hm:m < 9223372036854775808) (h:bits .andNot .i64 (a:Int) (m:Int)=0):a &&& m=a:=by
 have e:∀ c:Nat,c < 9223372036854775808->(BitVec.ofInt 64 (c:Int)).toNat=c:=fun c hc=>by
  rw[BitVec.ofInt_natCast,BitVec.toNat_ofNat]; exact Nat.mod_eq_of_lt (by omega)
 have h1:IntKind.i64.wrap ((BitVec.ofInt 64 (a:Int) &&& ~~~ BitVec.ofInt 64 (m:Int)).toNat:Int)=0:=h
 have bA:(BitVec.ofInt 64 (a:Int) &&& ~~~ BitVec.ofInt 64 (m:Int)).toNat < 9223372036854775808:=by
  rw[BitVec.toNat_and,e a ha]
  exact Nat.lt_of_le_of_lt Nat.and_le_left ha
 rw[IntKind.wrap_i64] at h1
 have h2:(BitVec.ofInt 64 (a:Int) &&& ~~~ BitVec.ofInt 64 (m:Int))=0#64:=BitVec.eq_of_toNat_eq (by rw[BitVec.toNat_ofNat]; omega)
 have h3:BitVec.ofInt 64 (a:Int) &&& BitVec.ofInt 64 (m:Int)=BitVec.ofInt 64 (a:Int):=by
  apply BitVec.eq_of_getLsbD_eq
  intro i hi
  have h4:=congrArg (fun v=>v.getLsbD i) h2
  simp only[BitVec.getLsbD_and,BitVec.getLsbD_not,BitVec.getLsbD_zero,hi,decide_true,Bool.true_and] at h4
  rw[BitVec.getLsbD_and]
  cases ha:(BitVec.ofInt 64 (a:Int)).getLsbD i<;>cases hb:(BitVec.ofInt 64 (m:Int)).getLsbD i<;>simp_all
 have h5:=congrArg BitVec.toNat h3
 rwa [BitVec.toNat_and,e a ha,e m hm] at h5
theorem p_ (k:Nat) (hk:8<=k) (l4:k<=15) (r m:Int) (hm:m=2 ^ k+255) (h0:0 < r) (h1:r<=9223372036854775807) (h:bits .andNot .i64 r m=0):r / 2 ^ k % 2*2 ^ k+r % 256=r:=by
 have e:=sg r.toNat (2 ^ k+255) (by omega) (by have:=Nat.pow_le_pow_right (n:=2) (by omega) l4; omega) (by
  rw[show ((r.toNat:Nat):Int)=r by omega,show (((2 ^ k+255:Nat)):Int)=m by rw[hm]; push_cast; rfl]; exact h)
 have e2:2 ^ k+255=2 ^ k ||| (2 ^ 8 - 1):=by
  have bA:255 < 2 ^ k:=Nat.lt_of_lt_of_le (show 255 < 2 ^ 8 by decide) (Nat.pow_le_pow_right (by decide) hk)
  have:=Nat.two_pow_add_eq_or_of_lt bA 1
  rwa [Nat.mul_one] at this
 rw[e2,wR k _ hk] at e
 have e3:((r.toNat / 2 ^ k % 2*2 ^ k+r.toNat % 256:Nat):Int)=((r.toNat:Nat):Int):=congrArg _ e
 push_cast at e3
 rw[show ((r.toNat:Nat):Int)=r by omega] at e3
 exact e3
theorem qa {n:Int} (h:0<=n/\n < 33554432):∃ a,0<=a/\a < 4194304/\(n=a\/n=4194304+a\/n=8388608+a\/n=12582912+a\/n=16777216+a\/n=20971520+a\/n=25165824+a\/n=29360128+a):=⟨n % 4194304,by omega⟩
theorem kc (n:Int) (h:0<=n/\n < 33554432):aV n 2=n+((if n / 4194304 % 2=n / 16777216 % 2 then 1 else 0) - n / 4194304 % 2)*4194304+((if n / 8388608 % 2=n / 16777216 % 2 then 1 else 0) - n / 8388608 % 2)*8388608:=by
 have VW:(2:Int) ^ 22=4194304:=by decide
 have VX:(2:Int) ^ 23=8388608:=by decide
 have Tx:(2:Int) ^ 24=16777216:=by decide
 have p1:(2:Int) ^ 1=2:=by decide
 have b:∀ m:Int,0<=m->∀ k,aa m k 1=m / 2 ^ k % 2:=fun m hm k=>by unfold aa; rw[if_neg (by omega),p1]
 obtain⟨t,ht⟩:∃ t,t=iW (aa n 24 1) n 22:=⟨_,rfl⟩
 have e:aV n 2=iW (aa n 24 1) t 23:=by rw[ht]; rfl
 unfold iW at ht
 rw[b n h.1,b n h.1,Tx,VW] at ht
 have Ty:0<=t/\t < 33554432/\t / 8388608 % 2=n / 8388608 % 2:=by
  obtain⟨a,a0,a1,h8⟩:=qa h
  rcases h8 with h8|h8|h8|h8|h8|h8|h8|h8<;>split at ht<;>omega
 rw[e]
 unfold iW
 rw[b n h.1,b t Ty.1,Tx,VX,Ty.2.2,ht]
theorem kd {n:Int} (h:0<=n/\n < 33554432):0<=aV n 2/\aV n 2 < 33554432:=by
 rw[kc n h]
 obtain⟨a,a0,a1,h8⟩:=qa h
 rcases h8 with h8|h8|h8|h8|h8|h8|h8|h8<;>split<;>split<;>omega
theorem iH {n:Int} (h:0<=n/\n < 33554432):aV n 2 / 16777216=n / 16777216/\aV n 2 % 4194304=n % 4194304/\aV n 2 / 4194304 % 2=(if n / 4194304 % 2=n / 16777216 % 2 then 1 else 0)/\aV n 2 / 8388608 % 2=(if n / 8388608 % 2=n / 16777216 % 2 then 1 else 0):=by
 rw[kc n h]
 obtain⟨a,a0,a1,h8⟩:=qa h
 rcases h8 with h8|h8|h8|h8|h8|h8|h8|h8<;>split<;>split<;>omega
theorem wS {n:Int} (h:0<=n/\n < 33554432):aV (aV n 2) 2=n:=by
 have c:=iH h
 rw[kc _ (kd h),c.1,c.2.2.1,c.2.2.2,kc n h]
 clear c
 obtain⟨a,a0,a1,h8⟩:=qa h
 have VY:n / 16777216 % 2=n / 16777216:=by omega
 rw[VY]
 rcases h8 with h8|h8|h8|h8|h8|h8|h8|h8
 ·have x:n / 4194304 % 2=0:=by omega
  have y:n / 8388608 % 2=0:=by omega
  have z:n / 16777216=0:=by omega
  rw[x,y,z]; simp<;>omega
 ·have x:n / 4194304 % 2=1:=by omega
  have y:n / 8388608 % 2=0:=by omega
  have z:n / 16777216=0:=by omega
  rw[x,y,z]; simp<;>omega
 ·have x:n / 4194304 % 2=0:=by omega
  have y:n / 8388608 % 2=1:=by omega
  have z:n / 16777216=0:=by omega
  rw[x,y,z]; simp<;>omega
 ·have x:n / 4194304 % 2=1:=by omega
  have y:n / 8388608 % 2=1:=by omega
  have z:n / 16777216=0:=by omega
  rw[x,y,z]; simp<;>omega
 ·have x:n / 4194304 % 2=0:=by omega
  have y:n / 8388608 % 2=0:=by omega
  have z:n / 16777216=1:=by omega
  rw[x,y,z]; simp<;>omega
 ·have x:n / 4194304 % 2=1:=by omega
  have y:n / 8388608 % 2=0:=by omega
  have z:n / 16777216=1:=by omega
  rw[x,y,z]; simp<;>omega
 ·have x:n / 4194304 % 2=0:=by omega
  have y:n / 8388608 % 2=1:=by omega
  have z:n / 16777216=1:=by omega
  rw[x,y,z]; simp<;>omega
 ·have x:n / 4194304 % 2=1:=by omega
  have y:n / 8388608 % 2=1:=by omega
  have z:n / 16777216=1:=by omega
  rw[x,y,z]; simp<;>omega
theorem ay {i:IN} (h:af i.form≠34):cI i=i:=if_neg h
theorem ML {i:IN} (h:af i.form=34):cI i = {i with av:=aV (aa i.av 0 25) 2}:=if_pos h
theorem aH {a b:IN} (h0:a.form=b.form) (h1:a.rd=b.rd) (h2:a.rn=b.rn) (h3:a.rm=b.rm) (h4:a.ra=b.ra) (h5:a.av=b.av) (h6:a.kind=b.kind) (h7:a.ba=b.ba) (h8:a.set=b.set) (h9:a.cond=b.cond) (bI:a.aq=b.aq):a=b:=by
 cases a; cases b; simp_all
def bD (s:Int) (i:IN):IN:=⟨i.form,xR s i 0,xR s i 1,if s=32 then aa i.rm 0 4 else xR s i 2,xR s i 3,lP s i.form (xR s i 4),xR s i 5,EV s (xR s i 5) (xR s i 6),xR s i 7,xR s i 8,xR s i 9⟩
theorem wT (i:IN) (Lx:af i.form=32->aa (bZ i) 0 4=aa (cI i).rm 0 4):aF i.form (bZ i) = {bD (af i.form) (cI i) with form:=i.form}:=by
 unfold aF bD
 rw[dP,dP,dP,dP,dP,dP,dP,dP,dP,dP,eV]
 unfold MK
 by_cases h:af i.form=32
 ·rw[if_pos h,if_pos h,Lx h]
 ·rw[if_neg h,if_neg h]
end Go.Proofs.YtnbhdacpogplgaaGreatDoor.Pw

/- What this claim is proved with: no condition. -/
import Derived.Test.YtnbhdacpogplgaaGreatDoorPd9
import Derived.Test.YtnbhdacpogplgaaGreatDoorPd10
import Derived.Test.YtnbhdacpogplgaaGreatDoorPdImmD
import Derived.Laws.BitsLemmas
set_option maxRecDepth 100000
set_option maxHeartbeats 16000000
set_option linter.unusedVariables false
set_option linter.unusedSimpArgs false
namespace Go.Proofs.YtnbhdacpogplgaaGreatDoor.Pw
open Go Go.RowKit
theorem tE {f:FuncId} {fn:Func} {c:Code} (hf:Tryz.prog.funcs[f]?=some fn) (hb:fn.body=some c) (hn:(fn.name == "runtime.NumGoroutine")=false):Ev.ij gT.cx.P f:=Ev.mW hf hb hn
theorem Lr {w:World} {I:Nat->Prop} {β:ax}:a_ w I [] β []:=by simp only[a_]
theorem x5 {w:World} {I:Nat->Prop} {β:ax} {x:PV} {v:Value} {xs:List PV} {vs:List Value} (h:x.Is w I β v) (h':a_ w I xs β vs):a_ w I (x::xs) β (v::vs):=by simp only[a_]; exact⟨h,h'⟩
theorem nk {w:World} {I:Nat->Prop} {β:ax} (k:IntKind) (n:Int):(PV.int k n).Is w I β (.int k n):=by simp only[PV.Is]
theorem D5 {w:World} {I:Nat->Prop} {β:ax} {xs:List PV} {vs:Array Value} (h:a_ w I xs β vs.toList):(PV.tup xs).Is w I β (.tuple vs):=by simp only[PV.Is]; exact⟨vs,rfl,h⟩
theorem XT {w:World} {I:Nat->Prop} {β:ax} {x:PV} {aZ:List Value} (h:a_ w I [x] β aZ):∃ v,aZ = [v]/\x.Is w I β v:=by
 match aZ,h with
 | [v],h=>exact⟨v,rfl,by simpa only [a_,and_true] using h⟩
theorem HH {G:Gx} {I:Nat->Prop} {w:World} (hM:cL G I w) {g:Nat} {k:IntKind} {l:List Int} (h:(g,l.map (PV.lit k))∈G.k8):∃ ty fr,w.heap[g]?=some (.cells (l.map (Value.int k)).toArray ty fr):=by
 obtain⟨arr,ty,fr,h1,h2⟩:=hM.row _ _ h
 obtain⟨_,h3⟩:=hM.pd _ _ h
 refine⟨ty,fr,?_⟩
 rw[h1]
 congr 2
 refine Array.ext' (List.ext_getElem? fun i=>?_)
 rw[List.length_map] at h2
 by_cases hi:i < l.length
 ·obtain⟨v,hv,ZY,_⟩:=h3.get (i:=i) (c:=PV.lit k l[i]) (by simp[hi])
  rw[Ev.dN h1,Nat.zero_add] at hv
  simp only[PV.Is] at ZY
  subst ZY
  simp only[Array.getElem?_toList,hv,List.getElem?_map,List.getElem?_eq_getElem hi,Option.map_some]
 ·rw[List.getElem?_eq_none (by simp; omega),List.getElem?_eq_none (by simp; omega)]
theorem ai.Sh {G:Gx} {f:FuncId} {args:List PV} {r:PV} (he:Ev.ij G.cx.P f)
  (h:∀ I β w aZ,cL G I w->a_ w I args β aZ->∃ v,r.Is w I no v/\(∀ w' I' aI,r.Is w' I' aI v)/\Calls G.cx.P f aZ.toArray w fun e w'=>e = .returned v/\Below w.heap.size w w'):ai G f args r:=by
 refine Spec.intro he fun I β w aZ hH hM hA=>?_
 obtain⟨v,_,hr,hc⟩:=h I β w aZ hM hA
 refine hc.mono fun e w' ⟨he,hB⟩=>⟨v,r,[],I,β,he,rfl,hr _ _ _,hH.DK _ _,hM.below hB,⟨hB.os,hB.tape,hB.output,hB.size,fun g hg _=>hB.block g hg,fun g _ h=>h,fun _ h=>h,fun _ _ h=>.inl h⟩,Nat.le_refl _,fun _ _ _=>rfl⟩
theorem QY:IntKind.i64.wrap (0+1)=1:=by decide
structure IN where
 form:Int
 rd:Int
 rn:Int
 rm:Int
 ra:Int
 aw:Int
 kind:Int
 bm:Int
 set:Int
 cond:Int
 an:Int
def Si (i:IN):List PV:=[.int .i64 i.form,.int .i64 i.rd,.int .i64 i.rn,.int .i64 i.rm,.int .i64 i.ra,.int .i64 i.aw,.int .i64 i.kind,.int .i64 i.bm,.int .i64 i.set,.int .i64 i.cond,.int .i64 i.an]
def bX (i:IN):PV:=.agg (Si i)
def iZ:IN:=⟨0,0,0,0,0,0,0,0,0,0,0⟩
theorem Sj {I:Nat->Prop} {w:World} (hM:cL gT I w):Lq w :=
 HH hM (g:=2) (k:=.u32) (l:=[1,65537,16777472,16843009]) (show (2,Lc)∈gT.k8 from List.mem_cons_self)
theorem mo (f:Int):ai gT 54 [.int .i64 f] (.bool (1<=f/\f<=100)):=by
 refine Spec.enter al P54 100 Tryz.func54 rfl (by kernel_rfl) ?_
 repeat' ((conv=>whnf); first|(refine (And.intro (fun _=>?_) (fun _=>?_):(_->_)/\(_->_))<;>(first|(exfalso; first|contradiction|omega)|skip))|refine Or.inl (And.intro (by first|exact ay (by omega)|exact ah (by omega)|exact c_ (by omega)|exact ey (by omega)) ?_)|(refine And.intro (show (_:Int)≠0 by omega) (Or.inl (And.intro (show (0:Int)<=_ by omega) (And.intro (show (0:Int) < _ by omega) ?_))))|(refine And.intro (show (_:Int)≠0 by omega) (Or.inl (And.intro (show (0:Int)<=_ by omega) (And.intro (by first|exact (show (_:Int)<=9223372036854775807 by omega)|exact (show (_:Int)<=4294967295 by omega)) (And.intro (show (0:Int) < _ by omega) ?_)))))|(refine aj ?_; show _↔_; omega)|(refine aj ?_; show ¬ _; omega)|(intro _))
theorem nm (f:Int):ai gT 49 [.int .i64 f] (.bool (48<=f/\f<=100)):=by
 refine Spec.enter al P49 100 Tryz.func49 rfl (by kernel_rfl) ?_
 refine (mo f).u ?_
 repeat' ((conv=>whnf); first|(refine (And.intro (fun _=>?_) (fun _=>?_):(_->_)/\(_->_))<;>(first|(exfalso; first|contradiction|omega)|skip))|refine Or.inl (And.intro (by first|exact ay (by omega)|exact ah (by omega)|exact c_ (by omega)|exact ey (by omega)) ?_)|(refine And.intro (show (_:Int)≠0 by omega) (Or.inl (And.intro (show (0:Int)<=_ by omega) (And.intro (show (0:Int) < _ by omega) ?_))))|(refine And.intro (show (_:Int)≠0 by omega) (Or.inl (And.intro (show (0:Int)<=_ by omega) (And.intro (by first|exact (show (_:Int)<=9223372036854775807 by omega)|exact (show (_:Int)<=4294967295 by omega)) (And.intro (show (0:Int) < _ by omega) ?_)))))|(refine aj ?_; show _↔_; omega)|(refine aj ?_; show ¬ _; omega)|(intro _))
def Q1:List Int:=[0,1,1,1,2,2,3,3,4,4,4,4,5,5,5,5,5,5,5,5,5,5,5,5,5,5,5,5,6,6,6,7,8,2,2,9,9,8,8,8,10,10,11,12,13,14,15,16,17,17,18,18,18,18,18,18,18,18,18,18,19,19,20,20,20,20,21,21,21,21,21,21,21,21,21,21,22,22,23,23,23,23,24,24,25,25,26,26,27,27,27,27,28,29,30,31,31,28,32,33,34]
def af (f:Int):Int:=if 1<=f/\f<=100 then Q1.getD f.toNat 0 else 0
theorem D6 {f:Int} (h:1<=f/\f<=100) {c:PV} (hc:(Q1.map (PV.lit .i64))[f.toNat]?=some c):c = .lit .i64 (af f):=by
 rw[List.getElem?_map,Option.map_eq_some_iff] at hc
 obtain⟨z,hz,rfl⟩:=hc
 unfold af
 rw[if_pos h,List.getD_eq_getElem?_getD,hz]; rfl
theorem jk (f:Int):ai gT 56 [.int .i64 f] (.int .i64 (af f)):=by
 refine Spec.enter al P56 100 Tryz.func56 rfl (by kernel_rfl) ?_
 refine (mo f).u ?_
 refine⟨fun h=>?_,fun h=>?_⟩
 ·refine aj ?_
  exact (show (0:Int)=af f by unfold af; rw[if_neg h])
 have h':=Classical.not_not.1 h
 refine⟨by omega,show f < 101 by omega,.inr ⟨rfl,by omega,show 0+f.toNat*1 < 101 by omega,fun c hc=>?_⟩⟩
 have rO:(Q1.map (PV.lit .i64))[f.toNat]?=some c:=by
  have e:0+f.toNat*1=f.toNat:=by omega
  have h0:(Q1.map (PV.lit .i64))[0+f.toNat*1]?=some c:=hc
  rwa [e] at h0
 obtain rfl:=D6 h' rO
 exact aj rfl
structure RU where
 rd:Int
 rn:Int
 rm:Int
 ra:Int
 i0:Int
 i1:Int
 i2:Int
 b0:Int
 b1:Int
 b2:Int
 kind:Bool
 set:Bool
 cond:Bool
 an:Int
def ruF (r:RU):List PV:=[.int .i64 r.rd,.int .i64 r.rn,.int .i64 r.rm,.int .i64 r.ra,.int .i64 r.i0,.int .i64 r.i1,.int .i64 r.i2,.int .i64 r.b0,.int .i64 r.b1,.int .i64 r.b2,.bool (r.kind=true),.bool (r.set=true),.bool (r.cond=true),.int .i64 r.an]
def VE (r:RU):PV:=.agg (ruF r)
def j4:RU:=⟨0,0,0,0,0,0,0,0,0,0,false,false,false,0⟩
def XU (s:Int):RU :=
 if s=1 then { j4 with rd:=1,rm:=1,i0:=0,i1:=32,i2:=1 } else if s=2 then { j4 with rd:=1,rn:=1,rm:=1 } else if s=3 then { j4 with rd:=1,rn:=1,i1:=7,i2:=1 }
 else if s=4 then { j4 with rd:=1,i1:=255,i2:=1 } else if s=5 then { j4 with rd:=1,rm:=1 } else if s=6 then { j4 with rd:=2,rm:=2 } else if s=7 then { j4 with rm:=2 }
 else if s=8 then { j4 with rd:=1,i1:=1020,i2:=4 } else if s=9 then { j4 with rd:=1,rn:=1,i1:=124,i2:=4 } else if s=10 then { j4 with i1:=508,i2:=4 } else if s=11 then { j4 with an:=16639 } else if s=12 then { j4 with an:=33023 }
 else if s=13 then j4 else if s=14 then { j4 with i1:=255,i2:=1 } else if s=15 then { j4 with cond:=true,i0:=-256,i1:=254,i2:=2 } else if s=16 then { j4 with i0:=-2048,i1:=2046,i2:=2 } else j4
def cW (s:Int):RU :=
 if s=17 then { j4 with rd:=3,i1:=65535,i2:=1 } else if s=18 then { j4 with rd:=3,rn:=3,i1:=4095,i2:=1,set:=true } else if s=19 then { j4 with rd:=3,i1:=4095,i2:=1,set:=true } else if s=20 then { j4 with rn:=3,i1:=4095,i2:=1 }
 else if s=21 then { j4 with rd:=3,rn:=3,rm:=3,kind:=true,set:=true } else if s=22 then { j4 with rd:=3,rm:=3,kind:=true,set:=true } else if s=23 then { j4 with rn:=3,rm:=3,kind:=true } else if s=24 then { j4 with rd:=3,rn:=3,i1:=4095,i2:=1 }
 else if s=25 then { j4 with rd:=3,rn:=2,i1:=4095,i2:=1 } else if s=26 then { j4 with rd:=3,rn:=2,rm:=3,b1:=3,b2:=1 } else if s=27 then { j4 with rd:=3,rn:=3,rm:=3,set:=true } else if s=28 then { j4 with rd:=3,rn:=3,rm:=3 }
 else if s=29\/s=30\/s=31 then { j4 with rd:=3,rn:=3,rm:=3,ra:=3 } else if s=32 then { j4 with rd:=3,rm:=3 } else if s=33 then { j4 with cond:=true,i0:=-1048576,i1:=1048574,i2:=2 } else if s=34 then { j4 with i0:=-16777216,i1:=16777214,i2:=2 } else XU s
theorem oH (s:Int):ai gT 105 [.int .i64 s] (VE (XU s)):=by
 refine Spec.enter al Xp 100 Tryz.func105 rfl (by kernel_rfl) ?_
 repeat' ((conv=>whnf); first|(refine (And.intro (fun _=>?_) (fun _=>?_):(_->_)/\(_->_))<;>(first|(exfalso; first|contradiction|omega)|skip))|refine Or.inl (And.intro (by first|exact ay (by omega)|exact ah (by omega)|exact c_ (by omega)|exact ey (by omega)) ?_)|(refine And.intro (show (_:Int)≠0 by omega) (Or.inl (And.intro (show (0:Int)<=_ by omega) (And.intro (show (0:Int) < _ by omega) ?_))))|(refine And.intro (show (_:Int)≠0 by omega) (Or.inl (And.intro (show (0:Int)<=_ by omega) (And.intro (by first|exact (show (_:Int)<=9223372036854775807 by omega)|exact (show (_:Int)<=4294967295 by omega)) (And.intro (show (0:Int) < _ by omega) ?_)))))|(simp only[XU, *,if_true,if_false,reduceIte,Int.reduceEq]; refine aj ?_; (repeat' first|exact trivial|exact rfl|exact (show ¬ (false=true) from Bool.false_ne_true)|refine And.intro ?_ ?_))|(intro _))
theorem qX (s:Int):ai gT 55 [.int .i64 s] (VE (cW s)):=by
 refine Spec.enter al P55 100 Tryz.func55 rfl (by kernel_rfl) ?_
 repeat' ((conv=>whnf); first|(refine (And.intro (fun _=>?_) (fun _=>?_):(_->_)/\(_->_))<;>(first|(exfalso; first|contradiction|omega)|skip))|refine Or.inl (And.intro (by first|exact ay (by omega)|exact ah (by omega)|exact c_ (by omega)|exact ey (by omega)) ?_)|(refine And.intro (show (_:Int)≠0 by omega) (Or.inl (And.intro (show (0:Int)<=_ by omega) (And.intro (show (0:Int) < _ by omega) ?_))))|(refine And.intro (show (_:Int)≠0 by omega) (Or.inl (And.intro (show (0:Int)<=_ by omega) (And.intro (by first|exact (show (_:Int)<=9223372036854775807 by omega)|exact (show (_:Int)<=4294967295 by omega)) (And.intro (show (0:Int) < _ by omega) ?_)))))|(refine Exists.intro [] (And.intro av ((oH s).use (by repeat' first|exact trivial|exact rfl|exact Iff.rfl|exact Or.inl rfl|refine And.intro ?_ ?_) rfl rfl ?_)))|(simp only[cW, *,if_true,if_false,reduceIte,Int.reduceEq,or_true,true_or,or_false,false_or]; refine aj ?_; (repeat' first|exact trivial|exact rfl|exact (show ¬ (false=true) from Bool.false_ne_true)|exact Iff.rfl|refine And.intro ?_ ?_))|(intro _))
def jl (c r:Int):Prop:=(c=1/\0<=r/\r < 8)\/(c=2/\0<=r/\r < 15)\/(c=3/\0<=r/\r < 15/\r≠13)\/(c≠1/\c≠2/\c≠3/\r=0)
theorem rV (r:Int):ai gT 106 [.int .i64 r] (.bool (0<=r/\r < 8)):=by
 refine Spec.enter al Xq 100 Tryz.func106 rfl (by kernel_rfl) ?_
 repeat' ((conv=>whnf); first|(refine (And.intro (fun _=>?_) (fun _=>?_):(_->_)/\(_->_))<;>(first|(exfalso; first|contradiction|omega)|skip))|refine Or.inl (And.intro (by first|exact ay (by omega)|exact ah (by omega)|exact c_ (by omega)|exact ey (by omega)) ?_)|(refine And.intro (show (_:Int)≠0 by omega) (Or.inl (And.intro (show (0:Int)<=_ by omega) (And.intro (show (0:Int) < _ by omega) ?_))))|(refine And.intro (show (_:Int)≠0 by omega) (Or.inl (And.intro (show (0:Int)<=_ by omega) (And.intro (by first|exact (show (_:Int)<=9223372036854775807 by omega)|exact (show (_:Int)<=4294967295 by omega)) (And.intro (show (0:Int) < _ by omega) ?_)))))|(refine aj ?_; show _↔_; omega)|(refine aj ?_; show ¬ _; omega)|(intro _))
theorem D7 (c r:Int):ai gT 57 [.int .i64 c,.int .i64 r] (.bool (jl c r)):=by
 refine Spec.enter al P57 100 Tryz.func57 rfl (by kernel_rfl) ?_
 repeat' ((conv=>whnf); first|(refine (And.intro (fun _=>?_) (fun _=>?_):(_->_)/\(_->_))<;>(first|(exfalso; first|contradiction|omega)|skip))|refine Or.inl (And.intro (by first|exact ay (by omega)|exact ah (by omega)|exact c_ (by omega)|exact ey (by omega)) ?_)|(refine And.intro (show (_:Int)≠0 by omega) (Or.inl (And.intro (show (0:Int)<=_ by omega) (And.intro (show (0:Int) < _ by omega) ?_))))|(refine And.intro (show (_:Int)≠0 by omega) (Or.inl (And.intro (show (0:Int)<=_ by omega) (And.intro (by first|exact (show (_:Int)<=9223372036854775807 by omega)|exact (show (_:Int)<=4294967295 by omega)) (And.intro (show (0:Int) < _ by omega) ?_)))))|(refine Exists.intro [] (And.intro av ((rV r).use (by repeat' first|exact trivial|exact rfl|exact Iff.rfl|exact Or.inl rfl|refine And.intro ?_ ?_) rfl rfl ?_)))|(refine aj ?_; (show _↔jl c r); unfold jl; omega)|(refine aj ?_; (show ¬ jl c r); unfold jl; omega)|(intro _))
def hZ (f t s n:Int):Prop:=(s=0/\n=0)\/(s≠0/\f<=n/\n<=t/\n.tmod s=0)
theorem rW (f t s n:Int):ai gT 59 [.agg [.int .i64 f,.int .i64 t,.int .i64 s],.int .i64 n] (.bool (hZ f t s n)):=by
 refine Spec.enter al P59 100 Tryz.func59 rfl (by kernel_rfl) ?_
 refine⟨fun h=>?_,fun h=>?_⟩
 ·refine aj ?_
  exact (show n=0↔hZ f t s n by unfold hZ; exact⟨fun e=>.inl ⟨h,e⟩,fun e=>e.elim (fun e=>e.2) (fun e=>absurd h e.1)⟩)
 have h0:s≠0:=h
 refine⟨fun h1=>?_,fun h1=>?_⟩
 ·refine⟨fun h2=>?_,fun h2=>?_⟩
  ·refine⟨h0,.inr ?_⟩
   refine aj ?_
   exact (show n.tmod s=0↔hZ f t s n from ⟨fun e=>.inr ⟨h0,h1,h2,e⟩,fun e=>e.elim (fun e=>absurd e.1 h0) (fun e=>e.2.2.2)⟩)
  ·refine aj ?_
   exact (show ¬ hZ f t s n from fun e=>e.elim (fun e=>h0 e.1) (fun e=>h2 e.2.2.1))
 ·refine aj ?_
  exact (show ¬ hZ f t s n from fun e=>e.elim (fun e=>h0 e.1) (fun e=>h1 e.2.1))
theorem D8 (n:Int) (ok:Prop):ai gT 60 [.int .i64 n,.bool ok] (.bool (n=0\/(n=1/\ok))):=by
 refine Spec.enter al P60 100 Tryz.func60 rfl (by kernel_rfl) ?_
 refine⟨fun h=>?_,fun h=>And.intro (fun h1=>?_) (fun h1=>?_)⟩
 ·exact aj (show n=0\/(n=1/\ok) from .inl h)
 ·exact aj (show ok↔(n=0\/(n=1/\ok)) from ⟨fun k=>.inr ⟨h1,k⟩,fun k=>k.elim (fun e=>absurd e h) (fun e=>e.2)⟩)
 ·exact aj (show ¬ (n=0\/(n=1/\ok)) from fun k=>k.elim h (fun e=>h1 e.1))
def ck (x:Int):Prop:=-9223372036854775808<=x/\x<=9223372036854775807
theorem tF (n:Int) (h:ck n):ai gT 108 [.int .i64 n] (.tup [.int .u32 (Rm.j3 n),.int .i64 (Rm.iO n)]) :=
 ai.Sh (tE Tryz.func108 rfl (by kernel_rfl)) fun I β w aZ hM hA=>by
  obtain⟨v,rfl,h1⟩:=XT hA
  simp only[PV.Is] at h1
  subst h1
  refine⟨.tuple #[.int .u32 (Rm.j3 n),.int .i64 (Rm.iO n)],D5 (x5 (nk ..) (x5 (nk ..) Lr)),fun _ _ _=>D5 (x5 (nk ..) (x5 (nk ..) Lr)),?_⟩
  refine (D4 n w (Sj hM) h.1 h.2).mono ?_
  rintro e w' ⟨rfl,rfl⟩
  exact⟨rfl,Below.refl _ _⟩
def bU (k b:Int):Prop:=(k=0/\0<=b/\b < 32)\/((k=1\/k=2)/\1<=b/\b<=32)\/(k=3/\1<=b/\b < 32)
theorem vx (k b:Int):ai gT 107 [.int .i64 k,.int .i64 b] (.bool (bU k b)):=by
 refine Spec.enter al Xr 100 Tryz.func107 rfl (by kernel_rfl) ?_
 repeat' ((conv=>whnf); first|(refine (And.intro (fun _=>?_) (fun _=>?_):(_->_)/\(_->_))<;>(first|(exfalso; first|contradiction|omega)|skip))|refine Or.inl (And.intro (by first|exact ay (by omega)|exact ah (by omega)|exact c_ (by omega)|exact ey (by omega)) ?_)|(refine And.intro (show (_:Int)≠0 by omega) (Or.inl (And.intro (show (0:Int)<=_ by omega) (And.intro (show (0:Int) < _ by omega) ?_))))|(refine And.intro (show (_:Int)≠0 by omega) (Or.inl (And.intro (show (0:Int)<=_ by omega) (And.intro (by first|exact (show (_:Int)<=9223372036854775807 by omega)|exact (show (_:Int)<=4294967295 by omega)) (And.intro (show (0:Int) < _ by omega) ?_)))))|(refine aj ?_; (show _↔bU k b); unfold bU; omega)|(refine aj ?_; (show ¬ bU k b); unfold bU; omega)|(intro _))
def lq (i:IN) (r:RU):Prop:=(r.kind=true/\bU i.kind i.bm)\/(¬ r.kind=true/\i.kind=0/\hZ r.b0 r.b1 r.b2 i.bm)
theorem x6 (i:IN) (r:RU):ai gT 61 [bX i,VE r] (.bool (lq i r)):=by
 refine Spec.enter al P61 100 Tryz.func61 rfl (by kernel_rfl) ?_
 refine⟨fun h=>?_,fun h=>?_⟩
 ·refine (vx i.kind i.bm).u ?_
  refine aj ?_
  exact (show bU i.kind i.bm↔lq i r from ⟨fun k=>.inl ⟨h,k⟩,fun k=>k.elim (fun e=>e.2) (fun e=>absurd h e.1)⟩)
 ·refine⟨fun h1=>?_,fun h1=>?_⟩
  ·refine (rW r.b0 r.b1 r.b2 i.bm).u ?_
   refine aj ?_
   exact (show hZ r.b0 r.b1 r.b2 i.bm↔lq i r from ⟨fun k=>.inr ⟨h,h1,k⟩,fun k=>k.elim (fun e=>absurd e.1 h) (fun e=>e.2.2)⟩)
  ·refine aj ?_
   exact (show ¬ lq i r from fun k=>k.elim (fun e=>h e.1) (fun e=>h1 e.2.1))
def fW (i:IN) (r:RU):Prop:=(r.an=0/\i.an=0)\/(¬ r.an=0/\0 < i.an/\bits .andNot .i64 i.an r.an=0)
theorem vy (i:IN) (r:RU):ai gT 58 [bX i,VE r] (.bool (fW i r)):=by
 refine Spec.enter al P58 100 Tryz.func58 rfl (by kernel_rfl) ?_
 refine⟨fun h=>?_,fun h=>?_⟩
 ·refine aj ?_
  exact (show i.an=0↔fW i r from ⟨fun k=>.inl ⟨h,k⟩,fun k=>k.elim (fun e=>e.2) (fun e=>absurd h e.1)⟩)
 ·refine⟨fun h1=>?_,fun h1=>?_⟩
  ·refine aj ?_
   exact (show bits .andNot .i64 i.an r.an=0↔fW i r from ⟨fun k=>.inr ⟨h,h1,k⟩,fun k=>k.elim (fun e=>absurd e.1 h) (fun e=>e.2.2)⟩)
  ·refine aj ?_
   exact (show ¬ fW i r from fun k=>k.elim (fun e=>h e.1) (fun e=>h1 e.2.1))
def lr (i:IN):Prop:=(i.form=1->i.aw < 32)/\(i.form=2\/i.form=3->0 < i.aw)/\(i.form=29->¬ (0<=i.rd/\i.rd < 8)\/¬ (0<=i.rm/\i.rm < 8))/\(i.form=95\/i.form=96->i.rd≠i.ra)/\(af i.form=18\/af i.form=19\/af i.form=20->Rm.iO i.aw=0)
theorem HI:af 1=1/\af 2=1/\af 3=1/\af 29=6/\af 95=31/\af 96=31:=by decide
theorem x7 (i:IN) (hi:ck i.aw):ai gT 62 [bX i] (.bool (lr i)):=by
 obtain⟨s1,s2,s3,ZZ,Z0,Z1⟩:=HI
 refine Spec.enter al P62 100 Tryz.func62 rfl (by kernel_rfl) ?_
 have e:lr i↔((i.form=1->i.aw < 32)/\(i.form=2\/i.form=3->0 < i.aw)/\(i.form=29->¬ (0<=i.rd/\i.rd < 8)\/¬ (0<=i.rm/\i.rm < 8))/\(i.form=95\/i.form=96->i.rd≠i.ra)/\(af i.form=18\/af i.form=19\/af i.form=20->Rm.iO i.aw=0)):=Iff.rfl
 have f1:i.form=1->af i.form=1:=fun h=>by rw[h]; exact s1
 have f2:i.form=2->af i.form=1:=fun h=>by rw[h]; exact s2
 have f3:i.form=3->af i.form=1:=fun h=>by rw[h]; exact s3
 have f29:i.form=29->af i.form=6:=fun h=>by rw[h]; exact ZZ
 have f95:i.form=95->af i.form=31:=fun h=>by rw[h]; exact Z0
 have f96:i.form=96->af i.form=31:=fun h=>by rw[h]; exact Z1
 clear s1 s2 s3 ZZ Z0 Z1
 repeat' ((conv=>whnf); first|(refine (And.intro (fun _=>?_) (fun _=>?_):(_->_)/\(_->_))<;>(first|(exfalso; first|contradiction|omega)|skip))|refine Or.inl (And.intro (by first|exact ay (by omega)|exact ah (by omega)|exact c_ (by omega)|exact ey (by omega)) ?_)|(refine And.intro (show (_:Int)≠0 by omega) (Or.inl (And.intro (show (0:Int)<=_ by omega) (And.intro (show (0:Int) < _ by omega) ?_))))|(refine And.intro (show (_:Int)≠0 by omega) (Or.inl (And.intro (show (0:Int)<=_ by omega) (And.intro (by first|exact (show (_:Int)<=9223372036854775807 by omega)|exact (show (_:Int)<=4294967295 by omega)) (And.intro (show (0:Int) < _ by omega) ?_)))))|(refine Exists.intro [] (And.intro av ((rV _).use (by repeat' first|exact trivial|exact rfl|exact Iff.rfl|exact Or.inl rfl|refine And.intro ?_ ?_) rfl rfl ?_)))|(refine Exists.intro [] (And.intro av ((jk i.form).use (by repeat' first|exact trivial|exact rfl|exact Iff.rfl|exact Or.inl rfl|refine And.intro ?_ ?_) rfl rfl ?_)))|(refine Exists.intro [] (And.intro av ((tF i.aw hi).use (by repeat' first|exact trivial|exact rfl|exact Iff.rfl|exact Or.inl rfl|refine And.intro ?_ ?_) rfl rfl ?_)))|(refine aj ?_; (show lr i); rw[e]; clear e; omega)|(refine aj ?_; (show _↔lr i); rw[e]; clear e; omega)|(refine aj ?_; (show ¬ lr i); rw[e]; clear e; omega)|(intro _))
def aH (i:IN) (r:RU):Prop:=(1<=i.form/\i.form<=100)/\jl r.rd i.rd/\jl r.rn i.rn/\jl r.rm i.rm/\jl r.ra i.ra/\fW i r/\(i.cond=0\/(r.cond=true/\0 < i.cond/\i.cond<=13))/\hZ r.i0 r.i1 r.i2 i.aw/\(i.set=0\/(i.set=1/\r.set=true))/\lq i r/\lr i
def bD (i:IN):Prop:=aH i (cW (af i.form))
theorem lx (i:IN) (hi:ck i.aw):ai gT 27 [bX i] (.bool (bD i)):=by
 refine Spec.enter al P27 100 Tryz.func27 rfl (by kernel_rfl) ?_
 refine (mo i.form).u ?_
 refine⟨fun h=>?_,fun h=>?_⟩
 ·refine aj ?_
  exact (show ¬ bD i from fun k=>h k.1)
 have hF:=Classical.not_not.1 h
 clear h
 refine (jk i.form).u ?_
 refine (qX _).u ?_
 unfold bD
 generalize cW (af i.form)=r
 repeat' ((conv=>whnf); first|(refine (And.intro (fun _=>?_) (fun _=>?_):(_->_)/\(_->_))<;>(first|(exfalso; first|contradiction|omega)|skip))|refine Or.inl (And.intro (by first|exact ay (by omega)|exact ah (by omega)|exact c_ (by omega)|exact ey (by omega)) ?_)|(refine And.intro (show (_:Int)≠0 by omega) (Or.inl (And.intro (show (0:Int)<=_ by omega) (And.intro (show (0:Int) < _ by omega) ?_))))|(refine And.intro (show (_:Int)≠0 by omega) (Or.inl (And.intro (show (0:Int)<=_ by omega) (And.intro (by first|exact (show (_:Int)<=9223372036854775807 by omega)|exact (show (_:Int)<=4294967295 by omega)) (And.intro (show (0:Int) < _ by omega) ?_)))))|(refine Exists.intro [] (And.intro av ((D7 _ _).use (by repeat' first|exact trivial|exact rfl|exact Iff.rfl|exact Or.inl rfl|refine And.intro ?_ ?_) rfl rfl ?_)))|(refine Exists.intro [] (And.intro av ((vy i r).use (by repeat' first|exact trivial|exact rfl|exact Iff.rfl|exact Or.inl rfl|refine And.intro ?_ ?_) rfl rfl ?_)))|(refine Exists.intro [] (And.intro av ((rW _ _ _ _).use (by repeat' first|exact trivial|exact rfl|exact Iff.rfl|exact Or.inl rfl|refine And.intro ?_ ?_) rfl rfl ?_)))|(refine Exists.intro [] (And.intro av ((D8 _ _).use (by repeat' first|exact trivial|exact rfl|exact Iff.rfl|exact Or.inl rfl|refine And.intro ?_ ?_) rfl rfl ?_)))|(refine Exists.intro [] (And.intro av ((x6 i r).use (by repeat' first|exact trivial|exact rfl|exact Iff.rfl|exact Or.inl rfl|refine And.intro ?_ ?_) rfl rfl ?_)))|(refine Exists.intro [] (And.intro av ((x7 i hi).use (by repeat' first|exact trivial|exact rfl|exact Iff.rfl|exact Or.inl rfl|refine And.intro ?_ ?_) rfl rfl ?_)))|(refine aj ?_; (show lr i↔aH i r); (exact⟨fun k=>⟨hF,by assumption,by assumption,by assumption,by assumption,by assumption,by first|exact Or.inl (by assumption)|exact Or.inr ⟨by assumption,by assumption,by assumption⟩,by assumption,by assumption,by assumption,k⟩,fun k=>k.2.2.2.2.2.2.2.2.2.2⟩))|(refine aj ?_; (show ¬ aH i r); (rintro⟨a0,a1,a2,a3,a4,a5,a6,a7,a8,a9,Z2⟩; first|contradiction|(rcases a6 with a6|⟨b1,b2,b3⟩<;>first|contradiction|omega)))|(intro _))
def vz (x:Int) (l w:Nat):Int:=x / 2 ^ l % 2 ^ w
theorem vA (x:Int) (w:Nat) (h0:0<=x) (h1:x<=4294967295) (hw:w<=31):bits .and .u32 x (2 ^ w - 1)=x % 2 ^ w:=by
 have hp:(2:Int) ^ w<=2 ^ 31:=by
  have:=Nat.pow_le_pow_right (n:=2) (by omega) hw
  exact_mod_cast this
 have VD:(1:Int)<=2 ^ w:=by
  have:=Nat.one_le_two_pow (n:=w)
  exact_mod_cast this
 rw[u32_and x (2 ^ w - 1) h0 (by omega) (by omega) (by omega)]
 have e:x.toNat &&& ((2:Int) ^ w - 1).toNat=x.toNat % 2 ^ w:=by
  have:((2:Int) ^ w - 1).toNat=2 ^ w - 1:=by
   have e2:((2 ^ w:Nat):Int)=(2:Int) ^ w:=by norm_cast
   omega
  rw[this]
  exact Nat.and_two_pow_sub_one_eq_mod x.toNat w
 rw[e]
 have:((x.toNat % 2 ^ w:Nat):Int)=(x.toNat:Int) % ((2 ^ w:Nat):Int):=by norm_cast
 rw[this,Int.toNat_of_nonneg h0]
 norm_cast
theorem vB (n:Nat) (h:n<=32):Ev.aG .u32 (n:Int)=2 ^ n:=by
 unfold Ev.aG
 rw[Int.toNat_natCast,show min n (IntKind.bits .u32)=n from Nat.min_eq_left h]
 norm_cast
theorem bM (w:Nat):((2 ^ w:Nat):Int)=(2:Int) ^ w:=by norm_cast
theorem pX (w:Nat) (hw:w<=31):(1:Int)<=2 ^ w/\(2:Int) ^ w<=2147483648:=by
 have h1:=Nat.one_le_two_pow (n:=w)
 have h2:(2 ^ w:Nat)<=2147483648:=Nat.le_trans (Nat.pow_le_pow_right (n:=2) (by omega) hw) (by decide)
 have e:=bM w
 omega
theorem Ls (x p:Int) (h0:0<=x) (h1:x<=4294967295) (hp:1<=p):0<=x / p/\x / p<=4294967295 :=
 ⟨Int.ediv_nonneg h0 (by omega),Int.le_trans (Int.ediv_le_self _ h0) h1⟩
theorem iP (x:Int) (l w:Nat) (hx:0<=x/\x<=4294967295) (hw:1<=w/\w<=31) (hl:l<=31):ai gT 128 [.int .u32 x,.int .i64 ((l:Int)+w - 1),.int .i64 l] (.int .u32 (vz x l w)):=by
 have p1:=vB l (by omega)
 have p2:=vB w (by omega)
 have b1:=pX l hl
 have b2:=pX w hw.2
 have d:=Ls x (2 ^ l) hx.1 hx.2 b1.1
 have e:((l:Int)+w - 1) - l+1=w:=by omega
 refine Spec.enter al Xl 100 Tryz.func128 rfl (by kernel_rfl) ?_
 refine⟨by omega,.inl ⟨ay (by omega),.inl ⟨ay (by omega),?_⟩⟩⟩
 refine⟨by omega,.inl ⟨ah (show 0<=1*Ev.aG .u32 (((l:Int)+w - 1) - l+1)/\1*Ev.aG .u32 (((l:Int)+w - 1) - l+1)<=4294967295 by rw[e,p2]; omega),?_⟩⟩
 refine lu ?_ (show 0<=1*Ev.aG .u32 (((l:Int)+w - 1) - l+1) - 1/\1*Ev.aG .u32 (((l:Int)+w - 1) - l+1) - 1<=4294967295 by rw[e,p2]; omega)
 refine aj ?_
 show bits .and .u32 (x / Ev.aG .u32 l) (1*Ev.aG .u32 (((l:Int)+w - 1) - l+1) - 1)=vz x l w
 rw[e,p1,p2,Int.one_mul,vA _ w d.1 d.2 hw.2]; rfl
theorem vC (w:Nat) (hw:w<=62):(1:Int)<=2 ^ w/\(2:Int) ^ w<=4611686018427387904:=by
 have h1:=Nat.one_le_two_pow (n:=w)
 have h2:(2 ^ w:Nat)<=4611686018427387904:=Nat.le_trans (Nat.pow_le_pow_right (n:=2) (by omega) hw) (by decide)
 have e:=bM w
 omega
def aa (n:Int) (l w:Nat):Int:=(if n < 0 then n+1099511627776 else n) / 2 ^ l % 2 ^ w
def ar (s:Int):List (Nat × Nat × Nat × Nat) :=
 if s=1 then [(4,0,6,5),(2,0,3,3),(0,0,0,3)]
 else if s=2 then [(2,0,6,3),(1,0,3,3),(0,0,0,3)]
 else if s=3 then [(4,0,6,3),(1,0,3,3),(0,0,0,3)]
 else if s=4 then [(0,0,8,3),(4,0,0,8)]
 else if s=5 then [(2,0,3,3),(0,0,0,3)]
 else if s=6 then [(0,3,7,1),(2,0,3,4),(0,0,0,3)]
 else if s=7 then [(2,0,3,4)]
 else if s=8 then [(0,0,8,3),(4,2,0,8)]
 else if s=9 then [(4,2,6,5),(1,0,3,3),(0,0,0,3)]
 else if s=10 then [(4,2,0,7)]
 else if s=11 then [(9,14,8,1),(9,0,0,8)]
 else if s=12 then [(9,15,8,1),(9,0,0,8)]
 else if s=14 then [(4,0,0,8)]
 else if s=15 then [(8,0,8,4),(4,1,0,8)]
 else if s=16 then [(4,1,0,11)]
 else if s=17 then [(4,11,26,1),(4,12,16,4),(4,8,12,3),(4,0,0,8),(0,0,8,4)]
 else if s=18 then [(4,11,26,1),(4,8,12,3),(4,0,0,8),(7,0,20,1),(1,0,16,4),(0,0,8,4)]
 else if s=19 then [(4,11,26,1),(4,8,12,3),(4,0,0,8),(7,0,20,1),(0,0,8,4)]
 else if s=20 then [(4,11,26,1),(4,8,12,3),(4,0,0,8),(1,0,16,4)]
 else if s=21 then [(6,2,12,3),(6,0,6,2),(5,0,4,2),(7,0,20,1),(1,0,16,4),(0,0,8,4),(2,0,0,4)]
 else if s=22 then [(6,2,12,3),(6,0,6,2),(5,0,4,2),(7,0,20,1),(0,0,8,4),(2,0,0,4)]
 else if s=23 then [(6,2,12,3),(6,0,6,2),(5,0,4,2),(1,0,16,4),(2,0,0,4)]
 else if s=24 then [(4,11,26,1),(4,8,12,3),(4,0,0,8),(1,0,16,4),(0,0,8,4)]
 else if s=25 then [(1,0,16,4),(0,0,12,4),(4,0,0,12)]
 else if s=26 then [(1,0,16,4),(0,0,12,4),(6,0,4,2),(2,0,0,4)]
 else if s=27 then [(7,0,20,1),(1,0,16,4),(0,0,8,4),(2,0,0,4)]
 else if s=28 then [(1,0,16,4),(0,0,8,4),(2,0,0,4)]
 else if s=29 then [(1,0,16,4),(3,0,12,4),(0,0,8,4),(2,0,0,4)]
 else if s=30 then [(1,0,16,4),(3,0,12,4),(0,0,8,4),(2,0,0,4)]
 else if s=31 then [(1,0,16,4),(0,0,12,4),(3,0,8,4),(2,0,0,4)]
 else if s=32 then [(2,0,16,4),(0,0,8,4),(2,0,0,4)]
 else if s=33 then [(4,20,26,1),(8,0,22,4),(4,12,16,6),(4,18,13,1),(4,19,11,1),(4,1,0,11)]
 else if s=34 then [(4,24,26,1),(4,12,16,10),(4,23,13,1),(4,22,11,1),(4,1,0,11)]
 else []
def ly (i:IN) (f:Nat):Int:=[i.rd,i.rn,i.rm,i.ra,i.aw,i.kind,i.bm,i.set,i.cond,i.an].getD f 0
theorem Lt (a b k:Nat) (h:b < 2 ^ k):2 ^ k*a+b=2 ^ k*a ||| b:=Nat.two_pow_add_eq_or_of_lt h a
def plus (w n at_ b:Nat):Nat:=w ||| (n % 2 ^ b) <<< at_
def Q2:List Int:=[0,2048,4096,6144,6656,7168,7680,8192,10240,12288,14336,16384,16448,16512,16576,16640,16704,16768,16832,16896,16960,17024,17088,17152,17216,17280,17344,17408,17664,17920,18176,18432,20480,22528,24576,26624,36864,38912,43008,45056,45184,46080,48128,48896,48640,53248,57344,4064280576,4072669184,4026531840,4028628992,4030726144,4032823296,4034920448,4043309056,4047503360,4049600512,4053794816,4055891968,4031709184,4033806336,4027584256,4035972864,4044361472,4054847232,3925868544,3927965696,3930062848,3932160000,3934257152,3942645760,3946840064,3948937216,3953131520,3955228672,3931045888,3933143040,3926920960,3935309568,3943698176,3954183936,4060086272,4070572032,4173332480,4174381056,4164943872,4165992448,4194365440,4196462592,4198559744,4200656896,4211142656,4211081216,4211081232,4221566976,4225761280,4222677232,4205899904,4026564608,4026568704]
def oZ (f:Int):Int:=if 1<=f/\f<=100 then Q2.getD (f - 1).toNat 0 else 0
theorem Lu {k:IntKind} {l:List Int} {n:Nat} {c:PV} (hc:(l.map (PV.lit k))[n]?=some c):c = .lit k (l.getD n 0):=by
 rw[List.getElem?_map,Option.map_eq_some_iff] at hc
 obtain⟨z,hz,rfl⟩:=hc
 rw[List.getD_eq_getElem?_getD,hz]; rfl
theorem vD (f:Int) (hF:1<=f/\f<=100):ai gT 92 [.int .i64 f] (.int .u32 (oZ f)):=by
 refine Spec.enter al P92 100 Tryz.func92 rfl (by kernel_rfl) ?_
 refine⟨by omega,show f < 101 by omega,.inr ⟨rfl,by omega,show 0+f.toNat*1 < 101 by omega,fun c hc=>?_⟩⟩
 have rO:((0::Q2).map (PV.lit .u32))[f.toNat]?=some c:=by
  have e:0+f.toNat*1=f.toNat:=by omega
  have h0:((0::Q2).map (PV.lit .u32))[0+f.toNat*1]?=some c:=hc
  rwa [e] at h0
 obtain rfl:=Lu rO
 refine aj (show (0::Q2).getD f.toNat 0=oZ f from ?_)
 unfold oZ
 rw[if_pos hF,show f.toNat=(f - 1).toNat+1 by omega]
 rfl
theorem fy (f:Int):ai gT 50 [.int .i64 f] (.int .u32 (oZ f)):=by
 refine Spec.enter al P50 100 Tryz.func50 rfl (by kernel_rfl) ?_
 refine (mo f).u ?_
 refine⟨fun h=>?_,fun h=>?_⟩
 ·exact aj (show (0:Int)=oZ f by unfold oZ; rw[if_neg h])
 refine (vD f (Classical.not_not.1 h)).u ?_
 exact aj rfl
def Lv (x:Nat × Nat × Nat × Nat):Prop:=x.1 < 10/\x.2.1<=40/\1<=x.2.2.2/\x.2.2.1+x.2.2.2<=32
theorem h_ (s:Int) (h:s < 1\/34 < s):ar s = []:=by
 unfold ar
 repeat rw[if_neg (by omega)]
def Z3 (l:List (Nat × Nat × Nat × Nat)):Bool:=l.all (fun x=>decide (x.1 < 10/\x.2.1<=40/\1<=x.2.2.2/\x.2.2.1+x.2.2.2<=32)) && decide (l.length<=7)
theorem x8:∀ k:Fin 35,Z3 (ar ((k.1:Nat):Int))=true:=by decide
theorem rX (s:Int):Z3 (ar s)=true:=by
 by_cases h:s < 1\/34 < s
 ·rw[h_ s h]; rfl
 ·have h1:=x8 ⟨s.toNat,by omega⟩
  rwa [show (((⟨s.toNat,by omega⟩:Fin 35).1:Nat):Int)=s by simp only[]; omega] at h1
theorem x9 (s:Int):(ar s).all (fun x=>decide (x.1 < 10/\x.2.1<=40/\1<=x.2.2.2/\x.2.2.1+x.2.2.2<=32))=true :=
 ((Bool.and_eq_true ..).mp (rX s)).1
theorem AS (s:Int):∀ x∈ar s,Lv x:=fun x hx=>by
 have:=List.all_eq_true.1 (x9 s) x hx
 exact (of_decide_eq_true (p:=x.1 < 10/\x.2.1<=40/\1<=x.2.2.2/\x.2.2.1+x.2.2.2<=32) this)
theorem x_ (s:Int):(ar s).length<=7 :=
 of_decide_eq_true ((Bool.and_eq_true ..).mp (rX s)).2
def vE (i:IN) (w:Nat) (x:Nat × Nat × Nat × Nat):Nat:=plus w (aa (ly i x.1) x.2.1 x.2.2.2).toNat x.2.2.1 x.2.2.2
def rY (i:IN) (l:List (Nat × Nat × Nat × Nat)):Nat:=l.foldl (vE i) (oZ i.form).toNat
theorem HJ (w n a b:Nat) (hw:w < 2 ^ 32) (h:a+b<=32):plus w n a b < 2 ^ 32:=by
 unfold plus
 refine Nat.or_lt_two_pow hw ?_
 rw[Nat.shiftLeft_eq]
 have h1:n % 2 ^ b < 2 ^ b:=Nat.mod_lt _ (Nat.two_pow_pos b)
 calc n % 2 ^ b*2 ^ a < 2 ^ b*2 ^ a:=Nat.mul_lt_mul_of_pos_right h1 (Nat.two_pow_pos a)
  _=2 ^ (b+a):=(Nat.pow_add ..).symm
  _<=2 ^ 32:=Nat.pow_le_pow_right (by omega) (by omega)
theorem ae (n:Int) (l w:Nat):0<=aa n l w/\aa n l w < 2 ^ w:=by
 have hp:(0:Int) < 2 ^ w:=by have:=bM w; have:=Nat.two_pow_pos w; omega
 exact⟨Int.emod_nonneg _ (by omega),Int.emod_lt_of_pos _ hp⟩
theorem rZ (n l w:Nat):aa n l w=((n / 2 ^ l % 2 ^ w:Nat):Int):=by
 unfold aa
 rw[if_neg (by omega),← bM,← bM]
 norm_cast
def kP (s n:Int) (k:Nat):Int:=n+((if aa n k 1=s then 1 else 0) - aa n k 1)*2 ^ k
def bc (n:Int):Nat->Int
 | 0=>n
 | k+1=>kP (aa n 24 1) (bc n k) (22+k)
theorem jm (n:Int) (k:Nat):aa n k 1=0\/aa n k 1=1:=by
 have:=ae n k 1
 have e:(2:Int) ^ 1=2:=rfl
 omega
theorem vG (s n:Int) (k:Nat) (hk:k=22\/k=23):n - 8388608<=kP s n k/\kP s n k<=n+8388608:=by
 have hb:=jm n k
 have p:(2:Int) ^ 22=4194304:=by decide
 have q:(2:Int) ^ 23=8388608:=by decide
 unfold kP
 rcases hk with rfl|rfl<;>rcases hb with h|h<;>rw[h]<;>split<;>omega
theorem D9 (n:Int) (k:Nat) (hk:k<=2):n - 16777216<=bc n k/\bc n k<=n+16777216:=by
 have h0:=vG (aa n 24 1) (bc n 0) 22 (.inl rfl)
 have h1:=vG (aa n 24 1) (bc n 1) 23 (.inr rfl)
 have e0:bc n 0=n:=rfl
 have e1:bc n 1=kP (aa n 24 1) (bc n 0) 22:=rfl
 have e2:bc n 2=kP (aa n 24 1) (bc n 1) 23:=rfl
 match k,hk with
 | 0,_=>omega
 | 1,_=>omega
 | 2,_=>omega
def cg (n:Int) (w:Nat):Int:=if aa n (w - 1) 1=1 then n - 2 ^ w else n
def dq (i:IN):IN:=if af i.form=34 then {i with aw:=bc (aa i.aw 0 25) 2} else i
def cl (i:IN):Int:=((rY (dq i) (ar (af i.form)):Nat):Int)
theorem Lw:Q2.all (fun z=>decide (0<=z/\z < 4294967296))=true:=by decide
theorem D' (f:Int):0<=oZ f/\oZ f < 4294967296:=by
 unfold oZ
 split
 ·rw[List.getD_eq_getElem?_getD]
  cases h:Q2[(f - 1).toNat]? with
  | none=>exact⟨Int.le_refl 0,by decide⟩
  | some z=>exact of_decide_eq_true (List.all_eq_true.1 Lw z (List.mem_of_getElem? h))
 ·omega
theorem D_ (i:IN) (l:List (Nat × Nat × Nat × Nat)) (h:∀ y∈l,Lv y):∀ w,w < 2 ^ 32->l.foldl (vE i) w < 2 ^ 32:=by
 induction l with
 | nil=>exact fun w hw=>hw
 | cons y l ih=>exact fun w hw=>ih (fun z hz=>h z (List.mem_cons_of_mem _ hz)) _ (HJ w _ _ _ hw (h y List.mem_cons_self).2.2.2)
theorem Ea (i:IN) (l:List (Nat × Nat × Nat × Nat)) (h:∀ y∈l,Lv y):rY i l < 2 ^ 32 :=
 D_ i l h _ (by have:=D' i.form; omega)
def vF (i:IN) (x:Nat × Nat × Nat × Nat):Nat:=(aa (ly i x.1) x.2.1 x.2.2.2).toNat
theorem J7 (i:IN) (x:Nat × Nat × Nat × Nat):vF i x < 2 ^ x.2.2.2:=by
 have:=ae (ly i x.1) x.2.1 x.2.2.2
 have e:=bM x.2.2.2
 unfold vF; omega
theorem AU (w n a b p:Nat):(plus w n a b).testBit p=(w.testBit p || (decide (a<=p) && decide (p < a+b) && n.testBit (p - a))):=by
 unfold plus
 rw[Nat.testBit_or,Nat.testBit_shiftLeft,Nat.testBit_mod_two_pow]
 congr 1
 by_cases h:a<=p
 ·by_cases h2:p < a+b
  ·rw[decide_eq_true h2,decide_eq_true (show p - a < b by omega)]; simp[h]
  ·rw[decide_eq_false h2,decide_eq_false (show ¬ p - a < b by omega)]; simp
 ·simp[h]
def Sk (p:Nat) (x:Nat × Nat × Nat × Nat):Bool:=decide (x.2.2.1<=p) && decide (p < x.2.2.1+x.2.2.2)
theorem np (i:IN) (p:Nat):∀ (l:List (Nat × Nat × Nat × Nat)) (W:Nat),(l.foldl (vE i) W).testBit p=(W.testBit p || l.any fun x=>Sk p x && (vF i x).testBit (p - x.2.2.1))
 | [],W=>by simp
 | x::l,W=>by
  rw[List.foldl_cons,np i p l,List.any_cons,← Bool.or_assoc]
  congr 1
  exact AU W (vF i x) x.2.2.1 x.2.2.2 p
def ya (l:List (Nat × Nat × Nat × Nat)):Bool:=l.all fun x=>l.all fun y=>decide (x=y) || decide (x.2.2.1+x.2.2.2<=y.2.2.1) || decide (y.2.2.1+y.2.2.2<=x.2.2.1)
def Eb (W:Nat) (l:List (Nat × Nat × Nat × Nat)):Bool:=l.all fun x=>decide (W / 2 ^ x.2.2.1 % 2 ^ x.2.2.2=0)
theorem AW:∀ k:Fin 35,ya (ar ((k.1:Nat):Int))=true:=by decide
theorem tG (s:Int):ya (ar s)=true:=by
 by_cases h:s < 1\/34 < s
 ·rw[h_ s h]; rfl
 ·have h1:=AW ⟨s.toNat,by omega⟩
  rwa [show (((⟨s.toNat,by omega⟩:Fin 35).1:Nat):Int)=s by simp only[]; omega] at h1
theorem Ec:(List.range 101).all (fun k=>Eb (oZ (k:Int)).toNat (ar (af (k:Int))))=true:=by decide +kernel
theorem vH (f:Int):Eb (oZ f).toNat (ar (af f))=true:=by
 by_cases h:1<=f/\f<=100
 ·have h1:=List.all_eq_true.1 Ec f.toNat (List.mem_range.2 (by omega))
  rwa [show ((f.toNat:Nat):Int)=f by omega] at h1
 ·unfold af; rw[if_neg h,h_ 0 (by omega)]; rfl
theorem yb (i:IN) {l:List (Nat × Nat × Nat × Nat)} {W:Nat} (ha:ya l=true) (hf:Eb W l=true) {x:Nat × Nat × Nat × Nat} (hx:x∈l):(l.foldl (vE i) W) / 2 ^ x.2.2.1 % 2 ^ x.2.2.2=vF i x:=by
 apply Nat.eq_of_testBit_eq
 intro p
 rw[Nat.testBit_mod_two_pow,Nat.testBit_div_two_pow]
 by_cases hp:p < x.2.2.2
 ·rw[decide_eq_true hp,Bool.true_and,np]
  have h0:W.testBit (p+x.2.2.1)=false:=by
   have h1:=of_decide_eq_true (List.all_eq_true.1 hf x hx)
   have h2:(W / 2 ^ x.2.2.1 % 2 ^ x.2.2.2).testBit p=false:=by rw[h1]; simp
   rw[Nat.testBit_mod_two_pow,Nat.testBit_div_two_pow,decide_eq_true hp,Bool.true_and] at h2
   exact h2
  rw[h0,Bool.false_or,Bool.eq_iff_iff,List.any_eq_true]
  constructor
  ·rintro⟨y,hy,hb⟩
   simp only[Bool.and_eq_true,Sk,decide_eq_true_eq] at hb
   have h3:=List.all_eq_true.1 (List.all_eq_true.1 ha x hx) y hy
   simp only[Bool.or_eq_true,decide_eq_true_eq] at h3
   rcases h3 with (rfl|h3)|h3
   ·have:=hb.2; rwa [show p+x.2.2.1 - x.2.2.1=p by omega] at this
   ·omega
   ·omega
  ·intro hb
   refine⟨x,hx,?_⟩
   simp only[Bool.and_eq_true,Sk,decide_eq_true_eq]
   exact⟨⟨by omega,by omega⟩,by rwa [show p+x.2.2.1 - x.2.2.1=p by omega]⟩
 ·rw[decide_eq_false hp,Bool.false_and]
  exact (Nat.testBit_lt_two_pow (Nat.lt_of_lt_of_le (J7 i x) (Nat.pow_le_pow_right (by decide) (by omega)))).symm
def Q3 (l:List (Nat × Nat × Nat × Nat)) (p:Nat):Bool:=l.all fun x=>!Sk p x
theorem yc (i:IN) {l:List (Nat × Nat × Nat × Nat)} {W p:Nat} (h:Q3 l p=true):(l.foldl (vE i) W).testBit p=W.testBit p:=by
 rw[np]
 have:(l.any fun x=>Sk p x && (vF i x).testBit (p - x.2.2.1))=false:=by
  rw[List.any_eq_false]
  intro x hx
  have:=List.all_eq_true.1 h x hx
  simp only[Bool.not_eq_true'] at this
  rw[this]; simp
 rw[this,Bool.or_false]
def Sl (f:Nat):Nat:=(oZ (f:Int)).toNat
def VF (f:Nat):List (Nat × Nat × Nat × Nat):=ar (af (f:Int))
def Ed (f g:Nat):Bool:=(VF f).any fun x=>decide (x.1 < 4) && decide (x.2.1=0) && decide (x.2.2.2=4) && ([0,1,2,3].all fun k=>Q3 (VF g) (x.2.2.1+k) && (Sl g).testBit (x.2.2.1+k))
def zr (f g:Nat):Bool:=decide (f=g) || ((List.range 32).any fun p=>Q3 (VF f) p && Q3 (VF g) p && ((Sl f).testBit p != (Sl g).testBit p)) || Ed f g || Ed g f
theorem tH:((List.range 47).all fun f=>(List.range 47).all fun g=>zr (f+1) (g+1))=true:=by decide +kernel
theorem yd:((List.range 53).all fun f=>(List.range 53).all fun g=>zr (f+48) (g+48))=true:=by decide +kernel
theorem tI {c r:Int} (h:jl c r):0<=r/\r < 15:=by unfold jl at h; omega
theorem pY {i:IN} (h:bD i):(0<=i.rd/\i.rd < 15)/\(0<=i.rn/\i.rn < 15)/\(0<=i.rm/\i.rm < 15)/\(0<=i.ra/\i.ra < 15):=by
 obtain⟨_,h1,h2,h3,h4,_⟩:=h
 exact⟨tI h1,tI h2,tI h3,tI h4⟩
theorem gy (i:IN):(dq i).form=i.form:=by unfold dq; split<;>rfl
theorem AX (i:IN) (f:Nat) (hf:f < 4):ly (dq i) f=ly i f:=by
 unfold dq
 split
 ·match f,hf with
  | 0,_|1,_|2,_|3,_=>rfl
 ·rfl
theorem lz (i:IN) {p:Nat} (h:Q3 (ar (af i.form)) p=true):(cl i).toNat.testBit p=(oZ i.form).toNat.testBit p:=by
 unfold cl rY
 rw[Int.toNat_natCast,yc _ h,gy]
theorem pZ (i:IN) {x:Nat × Nat × Nat × Nat} (hx:x∈ar (af i.form)):(cl i).toNat / 2 ^ x.2.2.1 % 2 ^ x.2.2.2=vF (dq i) x:=by
 unfold cl rY
 rw[Int.toNat_natCast]
 have h:=vH i.form
 rw[← gy i] at h
 refine yb (dq i) (tG _) ?_ hx
 rw[gy] at h ⊢
 exact h
theorem Sn:∀ v:Fin 16,(v.1.testBit 0=true/\v.1.testBit 1=true/\v.1.testBit 2=true/\v.1.testBit 3=true)->v.1=15:=by decide
theorem zs {a b:IN} (ha:bD a) (fa:a.form=((a.form.toNat:Nat):Int)) (fb:b.form=((b.form.toNat:Nat):Int)) (h:Ed a.form.toNat b.form.toNat=true):cl a≠cl b:=fun e=>by
 obtain⟨x,hx,h⟩:=List.any_eq_true.1 h
 simp only[Bool.and_eq_true,decide_eq_true_eq] at h
 obtain⟨⟨⟨h1,h2⟩,h3⟩,h4⟩:=h
 have dp:x∈ar (af a.form):=by rw[fa]; exact hx
 have hf:=pZ a dp
 have hr:vF (dq a) x < 15:=by
  unfold vF
  rw[AX a x.1 h1,h2,h3]
  obtain⟨r0,r1,r2,r3⟩:=pY ha
  have key:∀ r:Int,0<=r/\r < 15->(aa r 0 4).toNat < 15:=fun r hr=>by
   unfold aa; rw[if_neg (by omega)]
   have e0:(2:Int) ^ 0=1:=rfl
   have e4:(2:Int) ^ 4=16:=rfl
   rw[e0,e4]; omega
  match x.1,h1 with
  | 0,_=>exact key _ r0
  | 1,_=>exact key _ r1
  | 2,_=>exact key _ r2
  | 3,_=>exact key _ r3
 have hv:∀ k,k∈[0,1,2,3]->(vF (dq a) x).testBit k=true:=fun k hk=>by
  have h5:=List.all_eq_true.1 h4 k hk
  simp only[Bool.and_eq_true] at h5
  have Q4:k < 4:=by simp at hk; omega
  rw[← hf,h3,Nat.testBit_mod_two_pow,Nat.testBit_div_two_pow,decide_eq_true Q4,Bool.true_and,e]
  have h6:Q3 (ar (af b.form)) (x.2.2.1+k)=true:=by rw[fb]; exact h5.1
  rw[Nat.add_comm,lz b h6]
  have h7:=h5.2
  unfold Sl at h7
  rw[← fb] at h7
  exact h7
 have:=Sn ⟨vF (dq a) x,by omega⟩ ⟨hv 0 (by simp),hv 1 (by simp),hv 2 (by simp),hv 3 (by simp)⟩
 simp only[] at this
 omega
theorem zt {a b:IN} (ha:bD a) (hb:bD b) (h:zr a.form.toNat b.form.toNat=true) (e:cl a=cl b):a.form=b.form:=by
 have f1:=ha.1
 have f2:=hb.1
 have fa:a.form=((a.form.toNat:Nat):Int):=by omega
 have fb:b.form=((b.form.toNat:Nat):Int):=by omega
 unfold zr at h
 simp only[Bool.or_eq_true,decide_eq_true_eq] at h
 rcases h with ((h|h)|h)|h
 ·omega
 ·obtain⟨p,_,h⟩:=List.any_eq_true.1 h
  simp only[Bool.and_eq_true] at h
  obtain⟨⟨h1,h2⟩,h3⟩:=h
  have k1:=lz a (p:=p) (by rw[fa]; exact h1)
  have k2:=lz b (p:=p) (by rw[fb]; exact h2)
  unfold Sl at h3
  rw[← fa,← fb,← k1,← k2,e] at h3
  simp at h3
 ·exact absurd e (zs ha fa fb h)
 ·exact absurd e.symm (zs hb fb fa h)
theorem r9 {a b:IN} (ha:bD a) (hb:bD b) (hw:48<=a.form↔48<=b.form) (e:cl a=cl b):a.form=b.form:=by
 have f1:=ha.1
 have f2:=hb.1
 by_cases h:48<=a.form
 ·have h1:=List.all_eq_true.1 (List.all_eq_true.1 yd (a.form.toNat - 48) (List.mem_range.2 (by omega))) (b.form.toNat - 48) (List.mem_range.2 (by have:=hw.1 h; omega))
  rw[show a.form.toNat - 48+48=a.form.toNat by omega,show b.form.toNat - 48+48=b.form.toNat by have:=hw.1 h; omega] at h1
  exact zt ha hb h1 e
 ·have h1:=List.all_eq_true.1 (List.all_eq_true.1 tH (a.form.toNat - 1) (List.mem_range.2 (by omega))) (b.form.toNat - 1) (List.mem_range.2 (by omega))
  rw[show a.form.toNat - 1+1=a.form.toNat by omega,show b.form.toNat - 1+1=b.form.toNat by omega] at h1
  exact zt ha hb h1 e
def xV (s w:Int) (f:Nat):Int:=((ar s).filter fun x=>decide (x.1=f)).foldl (fun a x=>a+aa w x.2.2.1 x.2.2.2*2 ^ x.2.1) 0
def oI (s f x:Int):Int:=if s=15 then cg x 9 else if s=16 then cg x 12 else if s=33 then cg x 21 else if s=34 then cg (bc x 2) 25 else if s=1/\1 < f/\x=0 then 32 else x
def J8 (s k x:Int):Int:=if 21<=s/\s<=23/\x=0/\(k=1\/k=2) then 32 else x
def So (s w x:Int):Int:=if s=32 then aa w 0 4 else x
def aJ (f w:Int):IN:=⟨f,xV (af f) w 0,xV (af f) w 1,So (af f) w (xV (af f) w 2),xV (af f) w 3,oI (af f) f (xV (af f) w 4),xV (af f) w 5,J8 (af f) (xV (af f) w 5) (xV (af f) w 6),xV (af f) w 7,xV (af f) w 8,xV (af f) w 9⟩
def xR (s:Int) (i:IN) (f:Nat):Int:=((ar s).filter fun x=>decide (x.1=f)).foldl (fun a x=>a+aa (ly i x.1) x.2.1 x.2.2.2*2 ^ x.2.1) 0
theorem p6 {α β:Type} {f g:β->α->β}:∀ {l:List α} {b:β},(∀ b x,x∈l->f b x=g b x)->l.foldl f b=l.foldl g b
 | [],_,_=>rfl
 | x::l,b,h=>by rw[List.foldl_cons,List.foldl_cons,h b x (List.mem_cons_self ..)]; exact p6 fun b y hy=>h b y (List.mem_cons_of_mem _ hy)
theorem Lx (i:IN) (x:Nat × Nat × Nat × Nat):((vF i x:Nat):Int)=aa (ly i x.1) x.2.1 x.2.2.2:=Int.toNat_of_nonneg (ae ..).1
theorem r_ (i:IN) {x:Nat × Nat × Nat × Nat} (hx:x∈ar (af i.form)):aa (cl i) x.2.2.1 x.2.2.2=aa (ly (dq i) x.1) x.2.1 x.2.2.2:=by
 have h:=pZ i hx
 have e:cl i=(((cl i).toNat:Nat):Int):=by unfold cl; rw[Int.toNat_natCast]
 rw[e,rZ,h,Lx]
theorem fA (i:IN) (f:Nat):xV (af i.form) (cl i) f=xR (af i.form) (dq i) f:=by
 unfold xV xR
 refine p6 fun b x hx=>?_
 rw[r_ i (List.mem_filter.1 hx).1]
theorem j5 {f:Int} (h:1<=f/\f<=100):1<=af f/\af f<=34:=by
 have h1:((List.range 100).all fun k=>decide (1<=af ((k+1:Nat):Int)/\af ((k+1:Nat):Int)<=34))=true:=by decide +kernel
 have h2:=of_decide_eq_true (List.all_eq_true.1 h1 (f.toNat - 1) (List.mem_range.2 (by omega)))
 rwa [show (((f.toNat - 1+1:Nat)):Int)=f by omega] at h2
theorem sc {f:Int} (h:1<=f/\f<=100):af f=1->f=1\/f=2\/f=3:=by
 have h1:((List.range 100).all fun k=>decide (af ((k+1:Nat):Int)=1->k < 3))=true:=by decide +kernel
 have h2:=of_decide_eq_true (List.all_eq_true.1 h1 (f.toNat - 1) (List.mem_range.2 (by omega)))
 rw[show (((f.toNat - 1+1:Nat)):Int)=f by omega] at h2
 intro h3; have:=h2 h3; omega
theorem tm0 {n s:Int} (h:n.tmod s=0):n % s=0:=Int.emod_eq_zero_of_dvd (Int.dvd_of_tmod_eq_zero h)
theorem vI {f t s n:Int} (h:hZ f t s n):(s=0/\n=0)\/(s≠0/\f<=n/\n<=t/\n % s=0):=h.imp id fun ⟨a,b,c,d⟩=>⟨a,b,c,tm0 d⟩
theorem Ee (x k:Nat):x &&& 2 ^ k=(x / 2 ^ k % 2)*2 ^ k:=by
 apply Nat.eq_of_testBit_eq
 intro i
 rw[Nat.testBit_and,Nat.testBit_two_pow]
 rcases Nat.mod_two_eq_zero_or_one (x / 2 ^ k) with h|h
 ·rw[h,Nat.zero_mul,Nat.zero_testBit]
  by_cases hi:k=i
  ·subst hi; rw[Nat.testBit_eq_decide_div_mod_eq]; simp[h]
  ·simp[hi]
 ·rw[h,Nat.one_mul,Nat.testBit_two_pow]
  by_cases hi:k=i
  ·subst hi; rw[Nat.testBit_eq_decide_div_mod_eq]; simp[h]
  ·simp[hi]
theorem AY (k x:Nat) (hk:8<=k):x &&& (2 ^ k ||| (2 ^ 8 - 1))=(x / 2 ^ k % 2)*2 ^ k+x % 256:=by
 rw[Nat.and_or_distrib_left,Nat.and_two_pow_sub_one_eq_mod,Ee]
 have bG:x % 2 ^ 8 < 2 ^ k:=Nat.lt_of_lt_of_le (Nat.mod_lt _ (by decide)) (Nat.pow_le_pow_right (by decide) hk)
 have:=Nat.two_pow_add_eq_or_of_lt bG (x / 2 ^ k % 2)
 rw[Nat.mul_comm,← this]
theorem vJ (a m:Nat) (ha:a < 9223372036854775808) (hm:m < 9223372036854775808) (h:bits .andNot .i64 (a:Int) (m:Int)=0):a &&& m=a:=by
 have e:∀ c:Nat,c < 9223372036854775808->(BitVec.ofInt 64 (c:Int)).toNat=c:=fun c hc=>by
  rw[BitVec.ofInt_natCast,BitVec.toNat_ofNat]; exact Nat.mod_eq_of_lt (by omega)
 have h1:IntKind.i64.wrap ((BitVec.ofInt 64 (a:Int) &&& ~~~ BitVec.ofInt 64 (m:Int)).toNat:Int)=0:=h
 have bG:(BitVec.ofInt 64 (a:Int) &&& ~~~ BitVec.ofInt 64 (m:Int)).toNat < 9223372036854775808:=by
  rw[BitVec.toNat_and,e a ha]
  exact Nat.lt_of_le_of_lt Nat.and_le_left ha
 rw[IntKind.wrap_i64] at h1
 have h2:(BitVec.ofInt 64 (a:Int) &&& ~~~ BitVec.ofInt 64 (m:Int))=0#64:=BitVec.eq_of_toNat_eq (by rw[BitVec.toNat_ofNat]; omega)
 have h3:BitVec.ofInt 64 (a:Int) &&& BitVec.ofInt 64 (m:Int)=BitVec.ofInt 64 (a:Int):=by
  apply BitVec.eq_of_getLsbD_eq
  intro i hi
  have h4:=congrArg (fun v=>v.getLsbD i) h2
  simp only[BitVec.getLsbD_and,BitVec.getLsbD_not,BitVec.getLsbD_zero,hi,decide_true,Bool.true_and] at h4
  rw[BitVec.getLsbD_and]
  cases ha:(BitVec.ofInt 64 (a:Int)).getLsbD i<;>cases hb:(BitVec.ofInt 64 (m:Int)).getLsbD i<;>simp_all
 have h5:=congrArg BitVec.toNat h3
 rwa [BitVec.toNat_and,e a ha,e m hm] at h5
theorem tJ (k:Nat) (hk:8<=k) (kO:k<=15) (r m:Int) (hm:m=2 ^ k+255) (h0:0 < r) (h1:r<=9223372036854775807) (h:bits .andNot .i64 r m=0):r / 2 ^ k % 2*2 ^ k+r % 256=r:=by
 have e:=vJ r.toNat (2 ^ k+255) (by omega) (by have:=Nat.pow_le_pow_right (n:=2) (by omega) kO; omega) (by
  rw[show ((r.toNat:Nat):Int)=r by omega,show (((2 ^ k+255:Nat)):Int)=m by rw[hm]; push_cast; rfl]; exact h)
 have e2:2 ^ k+255=2 ^ k ||| (2 ^ 8 - 1):=by
  have bG:255 < 2 ^ k:=Nat.lt_of_lt_of_le (show 255 < 2 ^ 8 by decide) (Nat.pow_le_pow_right (by decide) hk)
  have:=Nat.two_pow_add_eq_or_of_lt bG 1
  rwa [Nat.mul_one] at this
 rw[e2,AY k _ hk] at e
 have e3:((r.toNat / 2 ^ k % 2*2 ^ k+r.toNat % 256:Nat):Int)=((r.toNat:Nat):Int):=congrArg _ e
 push_cast at e3
 rw[show ((r.toNat:Nat):Int)=r by omega] at e3
 exact e3
theorem tK {n:Int} (h:0<=n/\n < 33554432):∃ a,0<=a/\a < 4194304/\(n=a\/n=4194304+a\/n=8388608+a\/n=12582912+a\/n=16777216+a\/n=20971520+a\/n=25165824+a\/n=29360128+a):=⟨n % 4194304,by omega⟩
theorem mq (n:Int) (h:0<=n/\n < 33554432):bc n 2=n+((if n / 4194304 % 2=n / 16777216 % 2 then 1 else 0) - n / 4194304 % 2)*4194304+((if n / 8388608 % 2=n / 16777216 % 2 then 1 else 0) - n / 8388608 % 2)*8388608:=by
 have p22:(2:Int) ^ 22=4194304:=by decide
 have p23:(2:Int) ^ 23=8388608:=by decide
 have Z4:(2:Int) ^ 24=16777216:=by decide
 have p1:(2:Int) ^ 1=2:=by decide
 have b:∀ m:Int,0<=m->∀ k,aa m k 1=m / 2 ^ k % 2:=fun m hm k=>by unfold aa; rw[if_neg (by omega),p1]
 obtain⟨t,ht⟩:∃ t,t=kP (aa n 24 1) n 22:=⟨_,rfl⟩
 have e:bc n 2=kP (aa n 24 1) t 23:=by rw[ht]; rfl
 unfold kP at ht
 rw[b n h.1,b n h.1,Z4,p22] at ht
 have Z5:0<=t/\t < 33554432/\t / 8388608 % 2=n / 8388608 % 2:=by
  obtain⟨a,a0,a1,h8⟩:=tK h
  rcases h8 with h8|h8|h8|h8|h8|h8|h8|h8<;>split at ht<;>omega
 rw[e]
 unfold kP
 rw[b n h.1,b t Z5.1,Z4,p23,Z5.2.2,ht]
theorem mr {n:Int} (h:0<=n/\n < 33554432):0<=bc n 2/\bc n 2 < 33554432:=by
 rw[mq n h]
 obtain⟨a,a0,a1,h8⟩:=tK h
 rcases h8 with h8|h8|h8|h8|h8|h8|h8|h8<;>split<;>split<;>omega
theorem ku {n:Int} (h:0<=n/\n < 33554432):bc n 2 / 16777216=n / 16777216/\bc n 2 % 4194304=n % 4194304/\bc n 2 / 4194304 % 2=(if n / 4194304 % 2=n / 16777216 % 2 then 1 else 0)/\bc n 2 / 8388608 % 2=(if n / 8388608 % 2=n / 16777216 % 2 then 1 else 0):=by
 rw[mq n h]
 obtain⟨a,a0,a1,h8⟩:=tK h
 rcases h8 with h8|h8|h8|h8|h8|h8|h8|h8<;>split<;>split<;>omega
theorem AZ {n:Int} (h:0<=n/\n < 33554432):bc (bc n 2) 2=n:=by
 have c:=ku h
 rw[mq _ (mr h),c.1,c.2.2.1,c.2.2.2,mq n h]
 clear c
 obtain⟨a,a0,a1,h8⟩:=tK h
 have e24:n / 16777216 % 2=n / 16777216:=by omega
 rw[e24]
 rcases h8 with h8|h8|h8|h8|h8|h8|h8|h8
 ·have x:n / 4194304 % 2=0:=by omega
  have y:n / 8388608 % 2=0:=by omega
  have z:n / 16777216=0:=by omega
  rw[x,y,z]; simp<;>omega
 ·have x:n / 4194304 % 2=1:=by omega
  have y:n / 8388608 % 2=0:=by omega
  have z:n / 16777216=0:=by omega
  rw[x,y,z]; simp<;>omega
 ·have x:n / 4194304 % 2=0:=by omega
  have y:n / 8388608 % 2=1:=by omega
  have z:n / 16777216=0:=by omega
  rw[x,y,z]; simp<;>omega
 ·have x:n / 4194304 % 2=1:=by omega
  have y:n / 8388608 % 2=1:=by omega
  have z:n / 16777216=0:=by omega
  rw[x,y,z]; simp<;>omega
 ·have x:n / 4194304 % 2=0:=by omega
  have y:n / 8388608 % 2=0:=by omega
  have z:n / 16777216=1:=by omega
  rw[x,y,z]; simp<;>omega
 ·have x:n / 4194304 % 2=1:=by omega
  have y:n / 8388608 % 2=0:=by omega
  have z:n / 16777216=1:=by omega
  rw[x,y,z]; simp<;>omega
 ·have x:n / 4194304 % 2=0:=by omega
  have y:n / 8388608 % 2=1:=by omega
  have z:n / 16777216=1:=by omega
  rw[x,y,z]; simp<;>omega
 ·have x:n / 4194304 % 2=1:=by omega
  have y:n / 8388608 % 2=1:=by omega
  have z:n / 16777216=1:=by omega
  rw[x,y,z]; simp<;>omega
theorem aA {i:IN} (h:af i.form≠34):dq i=i:=if_neg h
theorem Sp {i:IN} (h:af i.form=34):dq i = {i with aw:=bc (aa i.aw 0 25) 2}:=if_pos h
theorem aK {a b:IN} (h0:a.form=b.form) (h1:a.rd=b.rd) (h2:a.rn=b.rn) (h3:a.rm=b.rm) (h4:a.ra=b.ra) (h5:a.aw=b.aw) (h6:a.kind=b.kind) (h7:a.bm=b.bm) (h8:a.set=b.set) (h9:a.cond=b.cond) (bY:a.an=b.an):a=b:=by
 cases a; cases b; simp_all
def bT (s:Int) (i:IN):IN:=⟨i.form,xR s i 0,xR s i 1,if s=32 then aa i.rm 0 4 else xR s i 2,xR s i 3,oI s i.form (xR s i 4),xR s i 5,J8 s (xR s i 5) (xR s i 6),xR s i 7,xR s i 8,xR s i 9⟩
theorem A0 (i:IN) (Q5:af i.form=32->aa (cl i) 0 4=aa (dq i).rm 0 4):aJ i.form (cl i) = {bT (af i.form) (dq i) with form:=i.form}:=by
 unfold aJ bT
 rw[fA,fA,fA,fA,fA,fA,fA,fA,fA,fA,gy]
 unfold So
 by_cases h:af i.form=32
 ·rw[if_pos h,if_pos h,Q5 h]
 ·rw[if_neg h,if_neg h]
end Go.Proofs.YtnbhdacpogplgaaGreatDoor.Pw

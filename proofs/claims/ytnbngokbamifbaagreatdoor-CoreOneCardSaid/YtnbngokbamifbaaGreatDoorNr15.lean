/- What this claim is proved with: no condition. -/
import Derived.Test.YtnbngokbamifbaaGreatDoorNr8
import Derived.Test.YtnbngokbamifbaaGreatDoorNr9
import Derived.Test.YtnbngokbamifbaaGreatDoorNr10
import Derived.Test.YtnbngokbamifbaaGreatDoorNrImmD
set_option maxRecDepth 100000
set_option maxHeartbeats 16000000
set_option linter.unusedVariables false
set_option linter.unusedSimpArgs false
namespace Go.Proofs.YtnbngokbamifbaaGreatDoor.Pw
open Go Go.RowKit
theorem ft {f:FuncId} {fn:Func} {c:Code} (hf:Tryz.prog.funcs[f]?=some fn) (hb:fn.body=some c) (hn:(fn.name == "runtime.NumGoroutine")=false):Ev.ia gT.cx.P f:=Ev.mi hf hb hn
theorem qF {w:World} {I:Nat->Prop} {β:ay}:bJ w I [] β []:=by simp only[bJ]
theorem fP {w:World} {I:Nat->Prop} {β:ay} {x:PV} {v:Value} {xs:List PV} {vs:List Value} (h:x.Is w I β v) (h':bJ w I xs β vs):bJ w I (x::xs) β (v::vs):=by simp only[bJ]; exact⟨h,h'⟩
theorem dh {w:World} {I:Nat->Prop} {β:ay} (k:IntKind) (n:Int):(PV.int k n).Is w I β (.int k n):=by simp only[PV.Is]
theorem jz {w:World} {I:Nat->Prop} {β:ay} {xs:List PV} {vs:Array Value} (h:bJ w I xs β vs.toList):(PV.tup xs).Is w I β (.tuple vs):=by simp only[PV.Is]; exact⟨vs,rfl,h⟩
theorem isL1 {w:World} {I:Nat->Prop} {β:ay} {x:PV} {vals:List Value} (h:bJ w I [x] β vals):∃ v,vals = [v]/\x.Is w I β v:=by
 match vals,h with
 | [v],h=>exact⟨v,rfl,by simpa only [bJ,and_true] using h⟩
theorem Le {G:Gx} {I:Nat->Prop} {w:World} (hM:dd G I w) {g:Nat} {k:IntKind} {l:List Int} (h:(g,l.map (PV.lit k))∈G.nt):∃ ty fr,w.heap[g]?=some (.cells (l.map (Value.int k)).toArray ty fr):=by
 obtain⟨arr,ty,fr,h1,h2⟩:=hM.row _ _ h
 obtain⟨_,h3⟩:=hM.nY _ _ h
 refine⟨ty,fr,?_⟩
 rw[h1]
 congr 2
 refine Array.ext' (List.ext_getElem? fun i=>?_)
 rw[List.length_map] at h2
 by_cases hi:i < l.length
 ·obtain⟨v,hv,hiv,_⟩:=h3.get (i:=i) (c:=PV.lit k l[i]) (by simp[hi])
  rw[Ev.f_ h1,Nat.zero_add] at hv
  simp only[PV.Is] at hiv
  subst hiv
  simp only[Array.getElem?_toList,hv,List.getElem?_map,List.getElem?_eq_getElem hi,Option.map_some]
 ·rw[List.getElem?_eq_none (by simp; omega),List.getElem?_eq_none (by simp; omega)]
theorem ah.OM {G:Gx} {f:FuncId} {args:List PV} {r:PV} (he:Ev.ia G.cx.P f)
  (h:∀ I β w vals,dd G I w->bJ w I args β vals->∃ v,r.Is w I no v/\(∀ w' I' aN,r.Is w' I' aN v)/\Calls G.cx.P f vals.toArray w fun e w'=>e = .returned v/\Below w.heap.size w w'):ah G f args r:=by
 refine Spec.intro he fun I β w vals hH hM hA=>?_
 obtain⟨v,_,hr,hc⟩:=h I β w vals hM hA
 refine hc.mono fun e w' ⟨he,hB⟩=>⟨v,r,[],I,β,he,rfl,hr _ _ _,hH.G5 _ _,hM.below hB,⟨hB.os,hB.tape,hB.output,hB.size,fun g hg _=>hB.block g hg,fun g _ h=>h,fun _ h=>h,fun _ _ h=>.inl h⟩,Nat.le_refl _,fun _ _ _=>rfl⟩
theorem V9:IntKind.i64.wrap (0+1)=1:=by decide
structure IN where
 form:Int
 rd:Int
 rn:Int
 rm:Int
 ra:Int
 av:Int
 kind:Int
 bG:Int
 set:Int
 cond:Int
 an:Int
def inFs (i:IN):List PV:=[.int .i64 i.form,.int .i64 i.rd,.int .i64 i.rn,.int .i64 i.rm,.int .i64 i.ra,.int .i64 i.av,.int .i64 i.kind,.int .i64 i.bG,.int .i64 i.set,.int .i64 i.cond,.int .i64 i.an]
def bX (i:IN):PV:=.agg (inFs i)
def lQ (l:List IN):List PV:=l.map bX
def iZ:IN:=⟨0,0,0,0,0,0,0,0,0,0,0⟩
theorem ON {I:Nat->Prop} {w:World} (hM:dd gT I w):OL w :=
 Le hM (g:=1) (k:=.u32) (l:=[1,65537,16777472,16843009]) (show (1,Qk)∈gT.nt from List.mem_cons_self)
theorem oM (f:Int):ah gT 131 [.int .i64 f] (.bool (1<=f/\f<=100)):=by
 refine Spec.enter ar P131 100 Tryz.func131 rfl (by kernel_rfl) ?_
 repeat' ((conv=>whnf); first|(refine (And.intro (fun _=>?_) (fun _=>?_):(_->_)/\(_->_))<;>(first|(exfalso; first|contradiction|omega)|skip))|refine Or.inl (And.intro (by first|exact ax (by omega)|exact af (by omega)|exact bV (by omega)|exact cK (by omega)) ?_)|(refine And.intro (show (_:Int)≠0 by omega) (Or.inl (And.intro (show (0:Int)<=_ by omega) (And.intro (show (0:Int) < _ by omega) ?_))))|(refine And.intro (show (_:Int)≠0 by omega) (Or.inl (And.intro (show (0:Int)<=_ by omega) (And.intro (by first|exact (show (_:Int)<=9223372036854775807 by omega)|exact (show (_:Int)<=4294967295 by omega)) (And.intro (show (0:Int) < _ by omega) ?_)))))|(refine ao ?_; show _↔_; omega)|(refine ao ?_; show ¬ _; omega)|(intro _))
theorem mA (f:Int):ah gT 85 [.int .i64 f] (.bool (48<=f/\f<=100)):=by
 refine Spec.enter ar P85 100 Tryz.func85 rfl (by kernel_rfl) ?_
 refine (oM f).u ?_
 repeat' ((conv=>whnf); first|(refine (And.intro (fun _=>?_) (fun _=>?_):(_->_)/\(_->_))<;>(first|(exfalso; first|contradiction|omega)|skip))|refine Or.inl (And.intro (by first|exact ax (by omega)|exact af (by omega)|exact bV (by omega)|exact cK (by omega)) ?_)|(refine And.intro (show (_:Int)≠0 by omega) (Or.inl (And.intro (show (0:Int)<=_ by omega) (And.intro (show (0:Int) < _ by omega) ?_))))|(refine And.intro (show (_:Int)≠0 by omega) (Or.inl (And.intro (show (0:Int)<=_ by omega) (And.intro (by first|exact (show (_:Int)<=9223372036854775807 by omega)|exact (show (_:Int)<=4294967295 by omega)) (And.intro (show (0:Int) < _ by omega) ?_)))))|(refine ao ?_; show _↔_; omega)|(refine ao ?_; show ¬ _; omega)|(intro _))
def Kc:List Int:=[0,1,1,1,2,2,3,3,4,4,4,4,5,5,5,5,5,5,5,5,5,5,5,5,5,5,5,5,6,6,6,7,8,2,2,9,9,8,8,8,10,10,11,12,13,14,15,16,17,17,18,18,18,18,18,18,18,18,18,18,19,19,20,20,20,20,21,21,21,21,21,21,21,21,21,21,22,22,23,23,23,23,24,24,25,25,26,26,27,27,27,27,28,29,30,31,31,28,32,33,34]
def ae (f:Int):Int:=if 1<=f/\f<=100 then Kc.getD f.toNat 0 else 0
theorem Hp {f:Int} (h:1<=f/\f<=100) {c:PV} (hc:(Kc.map (PV.lit .i64))[f.toNat]?=some c):c = .lit .i64 (ae f):=by
 rw[List.getElem?_map,Option.map_eq_some_iff] at hc
 obtain⟨z,hz,rfl⟩:=hc
 unfold ae
 rw[if_pos h,List.getD_eq_getElem?_getD,hz]; rfl
theorem fQ (f:Int):ah gT 149 [.int .i64 f] (.int .i64 (ae f)):=by
 refine Spec.enter ar P149 100 Tryz.func149 rfl (by kernel_rfl) ?_
 refine (oM f).u ?_
 refine⟨fun h=>?_,fun h=>?_⟩
 ·refine ao ?_
  exact (show (0:Int)=ae f by unfold ae; rw[if_neg h])
 have h':=Classical.not_not.1 h
 refine⟨by omega,show f < 101 by omega,.inr ⟨rfl,by omega,show 0+f.toNat*1 < 101 by omega,fun c hc=>?_⟩⟩
 have vO:(Kc.map (PV.lit .i64))[f.toNat]?=some c:=by
  have e:0+f.toNat*1=f.toNat:=by omega
  have h0:(Kc.map (PV.lit .i64))[0+f.toNat*1]?=some c:=hc
  rwa [e] at h0
 obtain rfl:=Hp h' vO
 exact ao rfl
structure RU where
 rd:Int
 rn:Int
 rm:Int
 ra:Int
 i0:Int
 i1:Int
 i2:Int
 b0:Int
 b1:Int
 b2:Int
 kind:Bool
 set:Bool
 cond:Bool
 an:Int
def ruF (r:RU):List PV:=[.int .i64 r.rd,.int .i64 r.rn,.int .i64 r.rm,.int .i64 r.ra,.int .i64 r.i0,.int .i64 r.i1,.int .i64 r.i2,.int .i64 r.b0,.int .i64 r.b1,.int .i64 r.b2,.bool (r.kind=true),.bool (r.set=true),.bool (r.cond=true),.int .i64 r.an]
def ruP (r:RU):PV:=.agg (ruF r)
def jU:RU:=⟨0,0,0,0,0,0,0,0,0,0,false,false,false,0⟩
def Lf (s:Int):RU :=
 if s=1 then { jU with rd:=1,rm:=1,i0:=0,i1:=32,i2:=1 } else if s=2 then { jU with rd:=1,rn:=1,rm:=1 } else if s=3 then { jU with rd:=1,rn:=1,i1:=7,i2:=1 }
 else if s=4 then { jU with rd:=1,i1:=255,i2:=1 } else if s=5 then { jU with rd:=1,rm:=1 } else if s=6 then { jU with rd:=2,rm:=2 } else if s=7 then { jU with rm:=2 }
 else if s=8 then { jU with rd:=1,i1:=1020,i2:=4 } else if s=9 then { jU with rd:=1,rn:=1,i1:=124,i2:=4 } else if s=10 then { jU with i1:=508,i2:=4 } else if s=11 then { jU with an:=16639 } else if s=12 then { jU with an:=33023 }
 else if s=13 then jU else if s=14 then { jU with i1:=255,i2:=1 } else if s=15 then { jU with cond:=true,i0:=-256,i1:=254,i2:=2 } else if s=16 then { jU with i0:=-2048,i1:=2046,i2:=2 } else jU
def cU (s:Int):RU :=
 if s=17 then { jU with rd:=3,i1:=65535,i2:=1 } else if s=18 then { jU with rd:=3,rn:=3,i1:=4095,i2:=1,set:=true } else if s=19 then { jU with rd:=3,i1:=4095,i2:=1,set:=true } else if s=20 then { jU with rn:=3,i1:=4095,i2:=1 }
 else if s=21 then { jU with rd:=3,rn:=3,rm:=3,kind:=true,set:=true } else if s=22 then { jU with rd:=3,rm:=3,kind:=true,set:=true } else if s=23 then { jU with rn:=3,rm:=3,kind:=true } else if s=24 then { jU with rd:=3,rn:=3,i1:=4095,i2:=1 }
 else if s=25 then { jU with rd:=3,rn:=2,i1:=4095,i2:=1 } else if s=26 then { jU with rd:=3,rn:=2,rm:=3,b1:=3,b2:=1 } else if s=27 then { jU with rd:=3,rn:=3,rm:=3,set:=true } else if s=28 then { jU with rd:=3,rn:=3,rm:=3 }
 else if s=29\/s=30\/s=31 then { jU with rd:=3,rn:=3,rm:=3,ra:=3 } else if s=32 then { jU with rd:=3,rm:=3 } else if s=33 then { jU with cond:=true,i0:=-1048576,i1:=1048574,i2:=2 } else if s=34 then { jU with i0:=-16777216,i1:=16777214,i2:=2 } else Lf s
theorem qG (s:Int):ah gT 188 [.int .i64 s] (ruP (Lf s)):=by
 refine Spec.enter ar P188 100 Tryz.func188 rfl (by kernel_rfl) ?_
 repeat' ((conv=>whnf); first|(refine (And.intro (fun _=>?_) (fun _=>?_):(_->_)/\(_->_))<;>(first|(exfalso; first|contradiction|omega)|skip))|refine Or.inl (And.intro (by first|exact ax (by omega)|exact af (by omega)|exact bV (by omega)|exact cK (by omega)) ?_)|(refine And.intro (show (_:Int)≠0 by omega) (Or.inl (And.intro (show (0:Int)<=_ by omega) (And.intro (show (0:Int) < _ by omega) ?_))))|(refine And.intro (show (_:Int)≠0 by omega) (Or.inl (And.intro (show (0:Int)<=_ by omega) (And.intro (by first|exact (show (_:Int)<=9223372036854775807 by omega)|exact (show (_:Int)<=4294967295 by omega)) (And.intro (show (0:Int) < _ by omega) ?_)))))|(simp only[Lf, *,if_true,if_false,reduceIte,Int.reduceEq]; refine ao ?_; (repeat' first|exact trivial|exact rfl|exact (show ¬ (false=true) from Bool.false_ne_true)|refine And.intro ?_ ?_))|(intro _))
theorem tZ (s:Int):ah gT 148 [.int .i64 s] (ruP (cU s)):=by
 refine Spec.enter ar P148 100 Tryz.func148 rfl (by kernel_rfl) ?_
 repeat' ((conv=>whnf); first|(refine (And.intro (fun _=>?_) (fun _=>?_):(_->_)/\(_->_))<;>(first|(exfalso; first|contradiction|omega)|skip))|refine Or.inl (And.intro (by first|exact ax (by omega)|exact af (by omega)|exact bV (by omega)|exact cK (by omega)) ?_)|(refine And.intro (show (_:Int)≠0 by omega) (Or.inl (And.intro (show (0:Int)<=_ by omega) (And.intro (show (0:Int) < _ by omega) ?_))))|(refine And.intro (show (_:Int)≠0 by omega) (Or.inl (And.intro (show (0:Int)<=_ by omega) (And.intro (by first|exact (show (_:Int)<=9223372036854775807 by omega)|exact (show (_:Int)<=4294967295 by omega)) (And.intro (show (0:Int) < _ by omega) ?_)))))|(refine Exists.intro [] (And.intro aT ((qG s).use (by repeat' first|exact trivial|exact rfl|exact Iff.rfl|exact Or.inl rfl|refine And.intro ?_ ?_) rfl rfl ?_)))|(simp only[cU, *,if_true,if_false,reduceIte,Int.reduceEq,or_true,true_or,or_false,false_or]; refine ao ?_; (repeat' first|exact trivial|exact rfl|exact (show ¬ (false=true) from Bool.false_ne_true)|exact Iff.rfl|refine And.intro ?_ ?_))|(intro _))
def ij (c r:Int):Prop:=(c=1/\0<=r/\r < 8)\/(c=2/\0<=r/\r < 15)\/(c=3/\0<=r/\r < 15/\r≠13)\/(c≠1/\c≠2/\c≠3/\r=0)
theorem uH (r:Int):ah gT 189 [.int .i64 r] (.bool (0<=r/\r < 8)):=by
 refine Spec.enter ar P189 100 Tryz.func189 rfl (by kernel_rfl) ?_
 repeat' ((conv=>whnf); first|(refine (And.intro (fun _=>?_) (fun _=>?_):(_->_)/\(_->_))<;>(first|(exfalso; first|contradiction|omega)|skip))|refine Or.inl (And.intro (by first|exact ax (by omega)|exact af (by omega)|exact bV (by omega)|exact cK (by omega)) ?_)|(refine And.intro (show (_:Int)≠0 by omega) (Or.inl (And.intro (show (0:Int)<=_ by omega) (And.intro (show (0:Int) < _ by omega) ?_))))|(refine And.intro (show (_:Int)≠0 by omega) (Or.inl (And.intro (show (0:Int)<=_ by omega) (And.intro (by first|exact (show (_:Int)<=9223372036854775807 by omega)|exact (show (_:Int)<=4294967295 by omega)) (And.intro (show (0:Int) < _ by omega) ?_)))))|(refine ao ?_; show _↔_; omega)|(refine ao ?_; show ¬ _; omega)|(intro _))
theorem Hq (c r:Int):ah gT 150 [.int .i64 c,.int .i64 r] (.bool (ij c r)):=by
 refine Spec.enter ar P150 100 Tryz.func150 rfl (by kernel_rfl) ?_
 repeat' ((conv=>whnf); first|(refine (And.intro (fun _=>?_) (fun _=>?_):(_->_)/\(_->_))<;>(first|(exfalso; first|contradiction|omega)|skip))|refine Or.inl (And.intro (by first|exact ax (by omega)|exact af (by omega)|exact bV (by omega)|exact cK (by omega)) ?_)|(refine And.intro (show (_:Int)≠0 by omega) (Or.inl (And.intro (show (0:Int)<=_ by omega) (And.intro (show (0:Int) < _ by omega) ?_))))|(refine And.intro (show (_:Int)≠0 by omega) (Or.inl (And.intro (show (0:Int)<=_ by omega) (And.intro (by first|exact (show (_:Int)<=9223372036854775807 by omega)|exact (show (_:Int)<=4294967295 by omega)) (And.intro (show (0:Int) < _ by omega) ?_)))))|(refine Exists.intro [] (And.intro aT ((uH r).use (by repeat' first|exact trivial|exact rfl|exact Iff.rfl|exact Or.inl rfl|refine And.intro ?_ ?_) rfl rfl ?_)))|(refine ao ?_; (show _↔ij c r); unfold ij; omega)|(refine ao ?_; (show ¬ ij c r); unfold ij; omega)|(intro _))
def gr (f t s n:Int):Prop:=(s=0/\n=0)\/(s≠0/\f<=n/\n<=t/\n.tmod s=0)
theorem uI (f t s n:Int):ah gT 152 [.agg [.int .i64 f,.int .i64 t,.int .i64 s],.int .i64 n] (.bool (gr f t s n)):=by
 refine Spec.enter ar P152 100 Tryz.func152 rfl (by kernel_rfl) ?_
 refine⟨fun h=>?_,fun h=>?_⟩
 ·refine ao ?_
  exact (show n=0↔gr f t s n by unfold gr; exact⟨fun e=>.inl ⟨h,e⟩,fun e=>e.elim (fun e=>e.2) (fun e=>absurd h e.1)⟩)
 have h0:s≠0:=h
 refine⟨fun h1=>?_,fun h1=>?_⟩
 ·refine⟨fun h2=>?_,fun h2=>?_⟩
  ·refine⟨h0,.inr ?_⟩
   refine ao ?_
   exact (show n.tmod s=0↔gr f t s n from ⟨fun e=>.inr ⟨h0,h1,h2,e⟩,fun e=>e.elim (fun e=>absurd e.1 h0) (fun e=>e.2.2.2)⟩)
  ·refine ao ?_
   exact (show ¬ gr f t s n from fun e=>e.elim (fun e=>h0 e.1) (fun e=>h2 e.2.2.1))
 ·refine ao ?_
  exact (show ¬ gr f t s n from fun e=>e.elim (fun e=>h0 e.1) (fun e=>h1 e.2.1))
theorem Hr (n:Int) (ok:Prop):ah gT 153 [.int .i64 n,.bool ok] (.bool (n=0\/(n=1/\ok))):=by
 refine Spec.enter ar P153 100 Tryz.func153 rfl (by kernel_rfl) ?_
 refine⟨fun h=>?_,fun h=>And.intro (fun h1=>?_) (fun h1=>?_)⟩
 ·exact ao (show n=0\/(n=1/\ok) from .inl h)
 ·exact ao (show ok↔(n=0\/(n=1/\ok)) from ⟨fun k=>.inr ⟨h1,k⟩,fun k=>k.elim (fun e=>absurd e h) (fun e=>e.2)⟩)
 ·exact ao (show ¬ (n=0\/(n=1/\ok)) from fun k=>k.elim h (fun e=>h1 e.1))
def fe (x:Int):Prop:=-9223372036854775808<=x/\x<=9223372036854775807
theorem oN (n:Int) (h:fe n):ah gT 181 [.int .i64 n] (.tup [.int .u32 (Rm.e_ n),.int .i64 (Rm.eG n)]) :=
 ah.OM (ft Tryz.func181 rfl (by kernel_rfl)) fun I β w vals hM hA=>by
  obtain⟨v,rfl,h1⟩:=isL1 hA
  simp only[PV.Is] at h1
  subst h1
  refine⟨.tuple #[.int .u32 (Rm.e_ n),.int .i64 (Rm.eG n)],jz (fP (dh ..) (fP (dh ..) qF)),fun _ _ _=>jz (fP (dh ..) (fP (dh ..) qF)),?_⟩
  refine (oL n w (ON hM) h.1 h.2).mono ?_
  rintro e w' ⟨rfl,rfl⟩
  exact⟨rfl,Below.refl _ _⟩
def bM (k b:Int):Prop:=(k=0/\0<=b/\b < 32)\/((k=1\/k=2)/\1<=b/\b<=32)\/(k=3/\1<=b/\b < 32)
theorem yy (k b:Int):ah gT 190 [.int .i64 k,.int .i64 b] (.bool (bM k b)):=by
 refine Spec.enter ar P190 100 Tryz.func190 rfl (by kernel_rfl) ?_
 repeat' ((conv=>whnf); first|(refine (And.intro (fun _=>?_) (fun _=>?_):(_->_)/\(_->_))<;>(first|(exfalso; first|contradiction|omega)|skip))|refine Or.inl (And.intro (by first|exact ax (by omega)|exact af (by omega)|exact bV (by omega)|exact cK (by omega)) ?_)|(refine And.intro (show (_:Int)≠0 by omega) (Or.inl (And.intro (show (0:Int)<=_ by omega) (And.intro (show (0:Int) < _ by omega) ?_))))|(refine And.intro (show (_:Int)≠0 by omega) (Or.inl (And.intro (show (0:Int)<=_ by omega) (And.intro (by first|exact (show (_:Int)<=9223372036854775807 by omega)|exact (show (_:Int)<=4294967295 by omega)) (And.intro (show (0:Int) < _ by omega) ?_)))))|(refine ao ?_; (show _↔bM k b); unfold bM; omega)|(refine ao ?_; (show ¬ bM k b); unfold bM; omega)|(intro _))
def gK (i:IN) (r:RU):Prop:=(r.kind=true/\bM i.kind i.bG)\/(¬ r.kind=true/\i.kind=0/\gr r.b0 r.b1 r.b2 i.bG)
theorem AX (i:IN) (r:RU):ah gT 154 [bX i,ruP r] (.bool (gK i r)):=by
 refine Spec.enter ar P154 100 Tryz.func154 rfl (by kernel_rfl) ?_
 refine⟨fun h=>?_,fun h=>?_⟩
 ·refine (yy i.kind i.bG).u ?_
  refine ao ?_
  exact (show bM i.kind i.bG↔gK i r from ⟨fun k=>.inl ⟨h,k⟩,fun k=>k.elim (fun e=>e.2) (fun e=>absurd h e.1)⟩)
 ·refine⟨fun h1=>?_,fun h1=>?_⟩
  ·refine (uI r.b0 r.b1 r.b2 i.bG).u ?_
   refine ao ?_
   exact (show gr r.b0 r.b1 r.b2 i.bG↔gK i r from ⟨fun k=>.inr ⟨h,h1,k⟩,fun k=>k.elim (fun e=>absurd e.1 h) (fun e=>e.2.2)⟩)
  ·refine ao ?_
   exact (show ¬ gK i r from fun k=>k.elim (fun e=>h e.1) (fun e=>h1 e.2.1))
def fu (i:IN) (r:RU):Prop:=(r.an=0/\i.an=0)\/(¬ r.an=0/\0 < i.an/\bits .andNot .i64 i.an r.an=0)
theorem yz (i:IN) (r:RU):ah gT 151 [bX i,ruP r] (.bool (fu i r)):=by
 refine Spec.enter ar P151 100 Tryz.func151 rfl (by kernel_rfl) ?_
 refine⟨fun h=>?_,fun h=>?_⟩
 ·refine ao ?_
  exact (show i.an=0↔fu i r from ⟨fun k=>.inl ⟨h,k⟩,fun k=>k.elim (fun e=>e.2) (fun e=>absurd h e.1)⟩)
 ·refine⟨fun h1=>?_,fun h1=>?_⟩
  ·refine ao ?_
   exact (show bits .andNot .i64 i.an r.an=0↔fu i r from ⟨fun k=>.inr ⟨h,h1,k⟩,fun k=>k.elim (fun e=>absurd e.1 h) (fun e=>e.2.2)⟩)
  ·refine ao ?_
   exact (show ¬ fu i r from fun k=>k.elim (fun e=>h e.1) (fun e=>h1 e.2.1))
def gL (i:IN):Prop:=(i.form=1->i.av < 32)/\(i.form=2\/i.form=3->0 < i.av)/\(i.form=29->¬ (0<=i.rd/\i.rd < 8)\/¬ (0<=i.rm/\i.rm < 8))/\(i.form=95\/i.form=96->i.rd≠i.ra)/\(ae i.form=18\/ae i.form=19\/ae i.form=20->Rm.eG i.av=0)
theorem Lg:ae 1=1/\ae 2=1/\ae 3=1/\ae 29=6/\ae 95=31/\ae 96=31:=by decide
theorem AY (i:IN) (hi:fe i.av):ah gT 155 [bX i] (.bool (gL i)):=by
 obtain⟨s1,s2,s3,s29,s95,s96⟩:=Lg
 refine Spec.enter ar P155 100 Tryz.func155 rfl (by kernel_rfl) ?_
 have e:gL i↔((i.form=1->i.av < 32)/\(i.form=2\/i.form=3->0 < i.av)/\(i.form=29->¬ (0<=i.rd/\i.rd < 8)\/¬ (0<=i.rm/\i.rm < 8))/\(i.form=95\/i.form=96->i.rd≠i.ra)/\(ae i.form=18\/ae i.form=19\/ae i.form=20->Rm.eG i.av=0)):=Iff.rfl
 have f1:i.form=1->ae i.form=1:=fun h=>by rw[h]; exact s1
 have f2:i.form=2->ae i.form=1:=fun h=>by rw[h]; exact s2
 have f3:i.form=3->ae i.form=1:=fun h=>by rw[h]; exact s3
 have f29:i.form=29->ae i.form=6:=fun h=>by rw[h]; exact s29
 have f95:i.form=95->ae i.form=31:=fun h=>by rw[h]; exact s95
 have f96:i.form=96->ae i.form=31:=fun h=>by rw[h]; exact s96
 clear s1 s2 s3 s29 s95 s96
 repeat' ((conv=>whnf); first|(refine (And.intro (fun _=>?_) (fun _=>?_):(_->_)/\(_->_))<;>(first|(exfalso; first|contradiction|omega)|skip))|refine Or.inl (And.intro (by first|exact ax (by omega)|exact af (by omega)|exact bV (by omega)|exact cK (by omega)) ?_)|(refine And.intro (show (_:Int)≠0 by omega) (Or.inl (And.intro (show (0:Int)<=_ by omega) (And.intro (show (0:Int) < _ by omega) ?_))))|(refine And.intro (show (_:Int)≠0 by omega) (Or.inl (And.intro (show (0:Int)<=_ by omega) (And.intro (by first|exact (show (_:Int)<=9223372036854775807 by omega)|exact (show (_:Int)<=4294967295 by omega)) (And.intro (show (0:Int) < _ by omega) ?_)))))|(refine Exists.intro [] (And.intro aT ((uH _).use (by repeat' first|exact trivial|exact rfl|exact Iff.rfl|exact Or.inl rfl|refine And.intro ?_ ?_) rfl rfl ?_)))|(refine Exists.intro [] (And.intro aT ((fQ i.form).use (by repeat' first|exact trivial|exact rfl|exact Iff.rfl|exact Or.inl rfl|refine And.intro ?_ ?_) rfl rfl ?_)))|(refine Exists.intro [] (And.intro aT ((oN i.av hi).use (by repeat' first|exact trivial|exact rfl|exact Iff.rfl|exact Or.inl rfl|refine And.intro ?_ ?_) rfl rfl ?_)))|(refine ao ?_; (show gL i); rw[e]; clear e; omega)|(refine ao ?_; (show _↔gL i); rw[e]; clear e; omega)|(refine ao ?_; (show ¬ gL i); rw[e]; clear e; omega)|(intro _))
def aC (i:IN) (r:RU):Prop:=(1<=i.form/\i.form<=100)/\ij r.rd i.rd/\ij r.rn i.rn/\ij r.rm i.rm/\ij r.ra i.ra/\fu i r/\(i.cond=0\/(r.cond=true/\0 < i.cond/\i.cond<=13))/\gr r.i0 r.i1 r.i2 i.av/\(i.set=0\/(i.set=1/\r.set=true))/\gK i r/\gL i
def bQ (i:IN):Prop:=aC i (cU (ae i.form))
theorem kD (i:IN) (hi:fe i.av):ah gT 99 [bX i] (.bool (bQ i)):=by
 refine Spec.enter ar P99 100 Tryz.func99 rfl (by kernel_rfl) ?_
 refine (oM i.form).u ?_
 refine⟨fun h=>?_,fun h=>?_⟩
 ·refine ao ?_
  exact (show ¬ bQ i from fun k=>h k.1)
 have hF:=Classical.not_not.1 h
 clear h
 refine (fQ i.form).u ?_
 refine (tZ _).u ?_
 unfold bQ
 generalize cU (ae i.form)=r
 repeat' ((conv=>whnf); first|(refine (And.intro (fun _=>?_) (fun _=>?_):(_->_)/\(_->_))<;>(first|(exfalso; first|contradiction|omega)|skip))|refine Or.inl (And.intro (by first|exact ax (by omega)|exact af (by omega)|exact bV (by omega)|exact cK (by omega)) ?_)|(refine And.intro (show (_:Int)≠0 by omega) (Or.inl (And.intro (show (0:Int)<=_ by omega) (And.intro (show (0:Int) < _ by omega) ?_))))|(refine And.intro (show (_:Int)≠0 by omega) (Or.inl (And.intro (show (0:Int)<=_ by omega) (And.intro (by first|exact (show (_:Int)<=9223372036854775807 by omega)|exact (show (_:Int)<=4294967295 by omega)) (And.intro (show (0:Int) < _ by omega) ?_)))))|(refine Exists.intro [] (And.intro aT ((Hq _ _).use (by repeat' first|exact trivial|exact rfl|exact Iff.rfl|exact Or.inl rfl|refine And.intro ?_ ?_) rfl rfl ?_)))|(refine Exists.intro [] (And.intro aT ((yz i r).use (by repeat' first|exact trivial|exact rfl|exact Iff.rfl|exact Or.inl rfl|refine And.intro ?_ ?_) rfl rfl ?_)))|(refine Exists.intro [] (And.intro aT ((uI _ _ _ _).use (by repeat' first|exact trivial|exact rfl|exact Iff.rfl|exact Or.inl rfl|refine And.intro ?_ ?_) rfl rfl ?_)))|(refine Exists.intro [] (And.intro aT ((Hr _ _).use (by repeat' first|exact trivial|exact rfl|exact Iff.rfl|exact Or.inl rfl|refine And.intro ?_ ?_) rfl rfl ?_)))|(refine Exists.intro [] (And.intro aT ((AX i r).use (by repeat' first|exact trivial|exact rfl|exact Iff.rfl|exact Or.inl rfl|refine And.intro ?_ ?_) rfl rfl ?_)))|(refine Exists.intro [] (And.intro aT ((AY i hi).use (by repeat' first|exact trivial|exact rfl|exact Iff.rfl|exact Or.inl rfl|refine And.intro ?_ ?_) rfl rfl ?_)))|(refine ao ?_; (show gL i↔aC i r); (exact⟨fun k=>⟨hF,by assumption,by assumption,by assumption,by assumption,by assumption,by first|exact Or.inl (by assumption)|exact Or.inr ⟨by assumption,by assumption,by assumption⟩,by assumption,by assumption,by assumption,k⟩,fun k=>k.2.2.2.2.2.2.2.2.2.2⟩))|(refine ao ?_; (show ¬ aC i r); (rintro⟨a0,a1,a2,a3,a4,a5,a6,a7,a8,a9,XH⟩; first|contradiction|(rcases a6 with a6|⟨b1,b2,b3⟩<;>first|contradiction|omega)))|(intro _))
def yA (x:Int) (l w:Nat):Int:=x / 2 ^ l % 2 ^ w
theorem yB (x:Int) (w:Nat) (h0:0<=x) (h1:x<=4294967295) (hw:w<=31):bits .and .u32 x (2 ^ w - 1)=x % 2 ^ w:=by
 have hp:(2:Int) ^ w<=2 ^ 31:=by
  have:=Nat.pow_le_pow_right (n:=2) (by omega) hw
  exact_mod_cast this
 have hp0:(1:Int)<=2 ^ w:=by
  have:=Nat.one_le_two_pow (n:=w)
  exact_mod_cast this
 rw[u32_and x (2 ^ w - 1) h0 (by omega) (by omega) (by omega)]
 have e:x.toNat &&& ((2:Int) ^ w - 1).toNat=x.toNat % 2 ^ w:=by
  have:((2:Int) ^ w - 1).toNat=2 ^ w - 1:=by
   have e2:((2 ^ w:Nat):Int)=(2:Int) ^ w:=by norm_cast
   omega
  rw[this]
  exact Nat.and_two_pow_sub_one_eq_mod x.toNat w
 rw[e]
 have:((x.toNat % 2 ^ w:Nat):Int)=(x.toNat:Int) % ((2 ^ w:Nat):Int):=by norm_cast
 rw[this,Int.toNat_of_nonneg h0]
 norm_cast
theorem yC (n:Nat) (h:n<=32):Ev.aD .u32 (n:Int)=2 ^ n:=by
 unfold Ev.aD
 rw[Int.toNat_natCast,show min n (IntKind.bits .u32)=n from Nat.min_eq_left h]
 norm_cast
theorem cl (w:Nat):((2 ^ w:Nat):Int)=(2:Int) ^ w:=by norm_cast
theorem sL (w:Nat) (hw:w<=31):(1:Int)<=2 ^ w/\(2:Int) ^ w<=2147483648:=by
 have h1:=Nat.one_le_two_pow (n:=w)
 have h2:(2 ^ w:Nat)<=2147483648:=Nat.le_trans (Nat.pow_le_pow_right (n:=2) (by omega) hw) (by decide)
 have e:=cl w
 omega
theorem Qt (x p:Int) (h0:0<=x) (h1:x<=4294967295) (hp:1<=p):0<=x / p/\x / p<=4294967295 :=
 ⟨Int.ediv_nonneg h0 (by omega),Int.le_trans (Int.ediv_le_self _ h0) h1⟩
theorem jV (x:Int) (l w:Nat) (hx:0<=x/\x<=4294967295) (hw:1<=w/\w<=31) (hl:l<=31):ah gT 195 [.int .u32 x,.int .i64 ((l:Int)+w - 1),.int .i64 l] (.int .u32 (yA x l w)):=by
 have p1:=yC l (by omega)
 have p2:=yC w (by omega)
 have b1:=sL l hl
 have b2:=sL w hw.2
 have d:=Qt x (2 ^ l) hx.1 hx.2 b1.1
 have e:((l:Int)+w - 1) - l+1=w:=by omega
 refine Spec.enter ar P195 100 Tryz.func195 rfl (by kernel_rfl) ?_
 refine⟨by omega,.inl ⟨ax (by omega),.inl ⟨ax (by omega),?_⟩⟩⟩
 refine⟨by omega,.inl ⟨af (show 0<=1*Ev.aD .u32 (((l:Int)+w - 1) - l+1)/\1*Ev.aD .u32 (((l:Int)+w - 1) - l+1)<=4294967295 by rw[e,p2]; omega),?_⟩⟩
 refine lu ?_ (show 0<=1*Ev.aD .u32 (((l:Int)+w - 1) - l+1) - 1/\1*Ev.aD .u32 (((l:Int)+w - 1) - l+1) - 1<=4294967295 by rw[e,p2]; omega)
 refine ao ?_
 show bits .and .u32 (x / Ev.aD .u32 l) (1*Ev.aD .u32 (((l:Int)+w - 1) - l+1) - 1)=yA x l w
 rw[e,p1,p2,Int.one_mul,yB _ w d.1 d.2 hw.2]; rfl
theorem fF (w:Nat) (hw:w<=62):(1:Int)<=2 ^ w/\(2:Int) ^ w<=4611686018427387904:=by
 have h1:=Nat.one_le_two_pow (n:=w)
 have h2:(2 ^ w:Nat)<=4611686018427387904:=Nat.le_trans (Nat.pow_le_pow_right (n:=2) (by omega) hw) (by decide)
 have e:=cl w
 omega
theorem ai (n:Nat) (hn:n<=62):ah gT 83 [.int .i64 n] (.int .i64 (2 ^ n)):=by
 refine Spec.enter ar P83 100 Tryz.func83 rfl (by kernel_rfl) ?_
 refine SW.iw ar P83 (by kernel_rfl) (α:={i:Nat // i<=n}) (fun i=>[(4,.int .i64 i.1),(3,.int .i64 (2 ^ i.1))]) (fun i=>n - i.1) ⟨0,Nat.zero_le _⟩ 60 ?_ ?_
 ·repeat' first|exact Iff.rfl|exact trivial|exact rfl|refine And.intro ?_ ?_
 rintro⟨i,hi⟩
 have b:=fF i (by omega)
 refine⟨fun h=>?_,fun h=>?_⟩
 ·have h':(i:Int) < (n:Int):=h
  have b2:=fF (i+1) (by omega)
  have e:(2:Int) ^ i*2=2 ^ (i+1):=(Int.pow_succ 2 i).symm
  refine li ?_ (show _<=(2:Int) ^ i*2/\(2:Int) ^ i*2<=_ by omega)
  refine .inl ⟨ax (show _<=(i:Int)+1/\(i:Int)+1<=_ by omega),⟨⟨i+1,by omega⟩,show n - (i+1) < n - i by omega,?_⟩⟩
  repeat' first|exact Iff.rfl|exact trivial|exact rfl|refine And.intro ?_ ?_
 ·have h':¬ (i:Int) < (n:Int):=h
  refine ao ?_
  exact (show (2:Int) ^ i=2 ^ n by rw[show i=n by omega])
def aa (n:Int) (l w:Nat):Int:=(if n < 0 then n+1099511627776 else n) / 2 ^ l % 2 ^ w
theorem aj (n:Int) (l w:Nat) (hn:-1099511627776<=n/\n<=9223372036854775807) (hl:l<=62) (hw:w<=62):ah gT 78 [.int .i64 n,.int .i64 l,.int .i64 w] (.int .i64 (aa n l w)):=by
 have b1:=fF l hl
 have b2:=fF w hw
 have p40:(2:Int) ^ 40=1099511627776:=by decide
 have key:∀ m:Int,0<=m->0<=m / 2 ^ l:=fun m h=>Int.ediv_nonneg h (by omega)
 refine Spec.enter ar P78 100 Tryz.func78 rfl (by kernel_rfl) ?_
 refine⟨fun h=>?_,fun h=>?_⟩
 ·refine (ai 40 (by omega)).u ?_
  refine li ?_ (show _<=n+(2:Int) ^ 40/\n+(2:Int) ^ 40<=_ by rw[p40]; omega)
  refine (ai l hl).u ?_
  have h0:0<=n+(2:Int) ^ 40:=by rw[p40]; omega
  refine⟨show (2:Int) ^ l≠0 by omega,.inl ⟨h0,show n+(2:Int) ^ 40<=9223372036854775807 by rw[p40]; omega,show (0:Int) < 2 ^ l by omega,?_⟩⟩
  refine (ai w hw).u ?_
  refine⟨show (2:Int) ^ w≠0 by omega,.inl ⟨key _ h0,show (0:Int) < 2 ^ w by omega,?_⟩⟩
  refine ao ?_
  exact (show (n+(2:Int) ^ 40) / 2 ^ l % 2 ^ w=aa n l w by unfold aa; rw[if_pos h,p40])
 ·have h0:0<=n:=Int.not_lt.1 h
  refine (ai l hl).u ?_
  refine⟨show (2:Int) ^ l≠0 by omega,.inl ⟨h0,show n<=9223372036854775807 from hn.2,show (0:Int) < 2 ^ l by omega,?_⟩⟩
  refine (ai w hw).u ?_
  refine⟨show (2:Int) ^ w≠0 by omega,.inl ⟨key _ h0,show (0:Int) < 2 ^ w by omega,?_⟩⟩
  refine ao ?_
  exact (show n / 2 ^ l % 2 ^ w=aa n l w by unfold aa; rw[if_neg h])
def Aa (x:Nat × Nat × Nat × Nat):PV:=.agg [.int .i64 x.1,.int .i64 x.2.1,.int .i64 x.2.2.1,.int .i64 x.2.2.2]
def aq (s:Int):List (Nat × Nat × Nat × Nat) :=
 if s=1 then [(4,0,6,5),(2,0,3,3),(0,0,0,3)]
 else if s=2 then [(2,0,6,3),(1,0,3,3),(0,0,0,3)]
 else if s=3 then [(4,0,6,3),(1,0,3,3),(0,0,0,3)]
 else if s=4 then [(0,0,8,3),(4,0,0,8)]
 else if s=5 then [(2,0,3,3),(0,0,0,3)]
 else if s=6 then [(0,3,7,1),(2,0,3,4),(0,0,0,3)]
 else if s=7 then [(2,0,3,4)]
 else if s=8 then [(0,0,8,3),(4,2,0,8)]
 else if s=9 then [(4,2,6,5),(1,0,3,3),(0,0,0,3)]
 else if s=10 then [(4,2,0,7)]
 else if s=11 then [(9,14,8,1),(9,0,0,8)]
 else if s=12 then [(9,15,8,1),(9,0,0,8)]
 else if s=14 then [(4,0,0,8)]
 else if s=15 then [(8,0,8,4),(4,1,0,8)]
 else if s=16 then [(4,1,0,11)]
 else if s=17 then [(4,11,26,1),(4,12,16,4),(4,8,12,3),(4,0,0,8),(0,0,8,4)]
 else if s=18 then [(4,11,26,1),(4,8,12,3),(4,0,0,8),(7,0,20,1),(1,0,16,4),(0,0,8,4)]
 else if s=19 then [(4,11,26,1),(4,8,12,3),(4,0,0,8),(7,0,20,1),(0,0,8,4)]
 else if s=20 then [(4,11,26,1),(4,8,12,3),(4,0,0,8),(1,0,16,4)]
 else if s=21 then [(6,2,12,3),(6,0,6,2),(5,0,4,2),(7,0,20,1),(1,0,16,4),(0,0,8,4),(2,0,0,4)]
 else if s=22 then [(6,2,12,3),(6,0,6,2),(5,0,4,2),(7,0,20,1),(0,0,8,4),(2,0,0,4)]
 else if s=23 then [(6,2,12,3),(6,0,6,2),(5,0,4,2),(1,0,16,4),(2,0,0,4)]
 else if s=24 then [(4,11,26,1),(4,8,12,3),(4,0,0,8),(1,0,16,4),(0,0,8,4)]
 else if s=25 then [(1,0,16,4),(0,0,12,4),(4,0,0,12)]
 else if s=26 then [(1,0,16,4),(0,0,12,4),(6,0,4,2),(2,0,0,4)]
 else if s=27 then [(7,0,20,1),(1,0,16,4),(0,0,8,4),(2,0,0,4)]
 else if s=28 then [(1,0,16,4),(0,0,8,4),(2,0,0,4)]
 else if s=29 then [(1,0,16,4),(3,0,12,4),(0,0,8,4),(2,0,0,4)]
 else if s=30 then [(1,0,16,4),(3,0,12,4),(0,0,8,4),(2,0,0,4)]
 else if s=31 then [(1,0,16,4),(0,0,12,4),(3,0,8,4),(2,0,0,4)]
 else if s=32 then [(2,0,16,4),(0,0,8,4),(2,0,0,4)]
 else if s=33 then [(4,20,26,1),(8,0,22,4),(4,12,16,6),(4,18,13,1),(4,19,11,1),(4,1,0,11)]
 else if s=34 then [(4,24,26,1),(4,12,16,10),(4,23,13,1),(4,22,11,1),(4,1,0,11)]
 else []
theorem lR (s:Int):ah gT 81 [.int .i64 s] (.sl 4 ((aq s).map Aa)):=by
 refine Spec.enter ar P81 100 Tryz.func81 rfl (by kernel_rfl) ?_
 repeat' ((conv=>whnf); first|(refine (And.intro (fun _=>?_) (fun _=>?_):(_->_)/\(_->_))<;>(first|(exfalso; first|contradiction|omega)|skip))|refine Or.inl (And.intro (by first|exact ax (by omega)|exact af (by omega)|exact bV (by omega)|exact cK (by omega)) ?_)|(refine And.intro (show (_:Int)≠0 by omega) (Or.inl (And.intro (show (0:Int)<=_ by omega) (And.intro (show (0:Int) < _ by omega) ?_))))|(refine And.intro (show (_:Int)≠0 by omega) (Or.inl (And.intro (show (0:Int)<=_ by omega) (And.intro (by first|exact (show (_:Int)<=9223372036854775807 by omega)|exact (show (_:Int)<=4294967295 by omega)) (And.intro (show (0:Int) < _ by omega) ?_)))))|(refine ao ?_; (show _=_); simp only[aq, *,if_true,if_false,reduceIte,Int.reduceEq]; rfl)|(intro _))
def ca (i:IN) (f:Nat):Int:=[i.rd,i.rn,i.rm,i.ra,i.av,i.kind,i.bG,i.set,i.cond,i.an].getD f 0
theorem XI (i:IN):ah gT 82 [bX i,.int .i64 0] (.int .i64 (ca i 0)):=by
 refine Spec.enter ar Ka 100 Tryz.func82 rfl (by kernel_rfl) ?_
 repeat' ((conv=>whnf); first|(refine (And.intro (fun _=>?_) (fun _=>?_):(_->_)/\(_->_))<;>(first|(exfalso; first|contradiction|omega)|skip))|refine Or.inl (And.intro (by first|exact ax (by omega)|exact af (by omega)|exact bV (by omega)|exact cK (by omega)) ?_)|(refine And.intro (show (_:Int)≠0 by omega) (Or.inl (And.intro (show (0:Int)<=_ by omega) (And.intro (show (0:Int) < _ by omega) ?_))))|(refine And.intro (show (_:Int)≠0 by omega) (Or.inl (And.intro (show (0:Int)<=_ by omega) (And.intro (by first|exact (show (_:Int)<=9223372036854775807 by omega)|exact (show (_:Int)<=4294967295 by omega)) (And.intro (show (0:Int) < _ by omega) ?_)))))|(refine Or.inl (Exists.intro 0 (And.intro rfl ?_)))|(exact rA)|(refine And.intro (show (0:Int)<=_ by omega) (And.intro (show _ < (_:Int) by omega) ?_))|(intro _))
theorem XJ (i:IN):ah gT 82 [bX i,.int .i64 1] (.int .i64 (ca i 1)):=by
 refine Spec.enter ar Ka 100 Tryz.func82 rfl (by kernel_rfl) ?_
 repeat' ((conv=>whnf); first|(refine (And.intro (fun _=>?_) (fun _=>?_):(_->_)/\(_->_))<;>(first|(exfalso; first|contradiction|omega)|skip))|refine Or.inl (And.intro (by first|exact ax (by omega)|exact af (by omega)|exact bV (by omega)|exact cK (by omega)) ?_)|(refine And.intro (show (_:Int)≠0 by omega) (Or.inl (And.intro (show (0:Int)<=_ by omega) (And.intro (show (0:Int) < _ by omega) ?_))))|(refine And.intro (show (_:Int)≠0 by omega) (Or.inl (And.intro (show (0:Int)<=_ by omega) (And.intro (by first|exact (show (_:Int)<=9223372036854775807 by omega)|exact (show (_:Int)<=4294967295 by omega)) (And.intro (show (0:Int) < _ by omega) ?_)))))|(refine Or.inl (Exists.intro 1 (And.intro rfl ?_)))|(exact rA)|(refine And.intro (show (0:Int)<=_ by omega) (And.intro (show _ < (_:Int) by omega) ?_))|(intro _))
theorem XK (i:IN):ah gT 82 [bX i,.int .i64 2] (.int .i64 (ca i 2)):=by
 refine Spec.enter ar Ka 100 Tryz.func82 rfl (by kernel_rfl) ?_
 repeat' ((conv=>whnf); first|(refine (And.intro (fun _=>?_) (fun _=>?_):(_->_)/\(_->_))<;>(first|(exfalso; first|contradiction|omega)|skip))|refine Or.inl (And.intro (by first|exact ax (by omega)|exact af (by omega)|exact bV (by omega)|exact cK (by omega)) ?_)|(refine And.intro (show (_:Int)≠0 by omega) (Or.inl (And.intro (show (0:Int)<=_ by omega) (And.intro (show (0:Int) < _ by omega) ?_))))|(refine And.intro (show (_:Int)≠0 by omega) (Or.inl (And.intro (show (0:Int)<=_ by omega) (And.intro (by first|exact (show (_:Int)<=9223372036854775807 by omega)|exact (show (_:Int)<=4294967295 by omega)) (And.intro (show (0:Int) < _ by omega) ?_)))))|(refine Or.inl (Exists.intro 2 (And.intro rfl ?_)))|(exact rA)|(refine And.intro (show (0:Int)<=_ by omega) (And.intro (show _ < (_:Int) by omega) ?_))|(intro _))
theorem XL (i:IN):ah gT 82 [bX i,.int .i64 3] (.int .i64 (ca i 3)):=by
 refine Spec.enter ar Ka 100 Tryz.func82 rfl (by kernel_rfl) ?_
 repeat' ((conv=>whnf); first|(refine (And.intro (fun _=>?_) (fun _=>?_):(_->_)/\(_->_))<;>(first|(exfalso; first|contradiction|omega)|skip))|refine Or.inl (And.intro (by first|exact ax (by omega)|exact af (by omega)|exact bV (by omega)|exact cK (by omega)) ?_)|(refine And.intro (show (_:Int)≠0 by omega) (Or.inl (And.intro (show (0:Int)<=_ by omega) (And.intro (show (0:Int) < _ by omega) ?_))))|(refine And.intro (show (_:Int)≠0 by omega) (Or.inl (And.intro (show (0:Int)<=_ by omega) (And.intro (by first|exact (show (_:Int)<=9223372036854775807 by omega)|exact (show (_:Int)<=4294967295 by omega)) (And.intro (show (0:Int) < _ by omega) ?_)))))|(refine Or.inl (Exists.intro 3 (And.intro rfl ?_)))|(exact rA)|(refine And.intro (show (0:Int)<=_ by omega) (And.intro (show _ < (_:Int) by omega) ?_))|(intro _))
theorem XM (i:IN):ah gT 82 [bX i,.int .i64 4] (.int .i64 (ca i 4)):=by
 refine Spec.enter ar Ka 100 Tryz.func82 rfl (by kernel_rfl) ?_
 repeat' ((conv=>whnf); first|(refine (And.intro (fun _=>?_) (fun _=>?_):(_->_)/\(_->_))<;>(first|(exfalso; first|contradiction|omega)|skip))|refine Or.inl (And.intro (by first|exact ax (by omega)|exact af (by omega)|exact bV (by omega)|exact cK (by omega)) ?_)|(refine And.intro (show (_:Int)≠0 by omega) (Or.inl (And.intro (show (0:Int)<=_ by omega) (And.intro (show (0:Int) < _ by omega) ?_))))|(refine And.intro (show (_:Int)≠0 by omega) (Or.inl (And.intro (show (0:Int)<=_ by omega) (And.intro (by first|exact (show (_:Int)<=9223372036854775807 by omega)|exact (show (_:Int)<=4294967295 by omega)) (And.intro (show (0:Int) < _ by omega) ?_)))))|(refine Or.inl (Exists.intro 4 (And.intro rfl ?_)))|(exact rA)|(refine And.intro (show (0:Int)<=_ by omega) (And.intro (show _ < (_:Int) by omega) ?_))|(intro _))
theorem XN (i:IN):ah gT 82 [bX i,.int .i64 5] (.int .i64 (ca i 5)):=by
 refine Spec.enter ar Ka 100 Tryz.func82 rfl (by kernel_rfl) ?_
 repeat' ((conv=>whnf); first|(refine (And.intro (fun _=>?_) (fun _=>?_):(_->_)/\(_->_))<;>(first|(exfalso; first|contradiction|omega)|skip))|refine Or.inl (And.intro (by first|exact ax (by omega)|exact af (by omega)|exact bV (by omega)|exact cK (by omega)) ?_)|(refine And.intro (show (_:Int)≠0 by omega) (Or.inl (And.intro (show (0:Int)<=_ by omega) (And.intro (show (0:Int) < _ by omega) ?_))))|(refine And.intro (show (_:Int)≠0 by omega) (Or.inl (And.intro (show (0:Int)<=_ by omega) (And.intro (by first|exact (show (_:Int)<=9223372036854775807 by omega)|exact (show (_:Int)<=4294967295 by omega)) (And.intro (show (0:Int) < _ by omega) ?_)))))|(refine Or.inl (Exists.intro 5 (And.intro rfl ?_)))|(exact rA)|(refine And.intro (show (0:Int)<=_ by omega) (And.intro (show _ < (_:Int) by omega) ?_))|(intro _))
theorem XO (i:IN):ah gT 82 [bX i,.int .i64 6] (.int .i64 (ca i 6)):=by
 refine Spec.enter ar Ka 100 Tryz.func82 rfl (by kernel_rfl) ?_
 repeat' ((conv=>whnf); first|(refine (And.intro (fun _=>?_) (fun _=>?_):(_->_)/\(_->_))<;>(first|(exfalso; first|contradiction|omega)|skip))|refine Or.inl (And.intro (by first|exact ax (by omega)|exact af (by omega)|exact bV (by omega)|exact cK (by omega)) ?_)|(refine And.intro (show (_:Int)≠0 by omega) (Or.inl (And.intro (show (0:Int)<=_ by omega) (And.intro (show (0:Int) < _ by omega) ?_))))|(refine And.intro (show (_:Int)≠0 by omega) (Or.inl (And.intro (show (0:Int)<=_ by omega) (And.intro (by first|exact (show (_:Int)<=9223372036854775807 by omega)|exact (show (_:Int)<=4294967295 by omega)) (And.intro (show (0:Int) < _ by omega) ?_)))))|(refine Or.inl (Exists.intro 6 (And.intro rfl ?_)))|(exact rA)|(refine And.intro (show (0:Int)<=_ by omega) (And.intro (show _ < (_:Int) by omega) ?_))|(intro _))
theorem XP (i:IN):ah gT 82 [bX i,.int .i64 7] (.int .i64 (ca i 7)):=by
 refine Spec.enter ar Ka 100 Tryz.func82 rfl (by kernel_rfl) ?_
 repeat' ((conv=>whnf); first|(refine (And.intro (fun _=>?_) (fun _=>?_):(_->_)/\(_->_))<;>(first|(exfalso; first|contradiction|omega)|skip))|refine Or.inl (And.intro (by first|exact ax (by omega)|exact af (by omega)|exact bV (by omega)|exact cK (by omega)) ?_)|(refine And.intro (show (_:Int)≠0 by omega) (Or.inl (And.intro (show (0:Int)<=_ by omega) (And.intro (show (0:Int) < _ by omega) ?_))))|(refine And.intro (show (_:Int)≠0 by omega) (Or.inl (And.intro (show (0:Int)<=_ by omega) (And.intro (by first|exact (show (_:Int)<=9223372036854775807 by omega)|exact (show (_:Int)<=4294967295 by omega)) (And.intro (show (0:Int) < _ by omega) ?_)))))|(refine Or.inl (Exists.intro 7 (And.intro rfl ?_)))|(exact rA)|(refine And.intro (show (0:Int)<=_ by omega) (And.intro (show _ < (_:Int) by omega) ?_))|(intro _))
theorem XQ (i:IN):ah gT 82 [bX i,.int .i64 8] (.int .i64 (ca i 8)):=by
 refine Spec.enter ar Ka 100 Tryz.func82 rfl (by kernel_rfl) ?_
 repeat' ((conv=>whnf); first|(refine (And.intro (fun _=>?_) (fun _=>?_):(_->_)/\(_->_))<;>(first|(exfalso; first|contradiction|omega)|skip))|refine Or.inl (And.intro (by first|exact ax (by omega)|exact af (by omega)|exact bV (by omega)|exact cK (by omega)) ?_)|(refine And.intro (show (_:Int)≠0 by omega) (Or.inl (And.intro (show (0:Int)<=_ by omega) (And.intro (show (0:Int) < _ by omega) ?_))))|(refine And.intro (show (_:Int)≠0 by omega) (Or.inl (And.intro (show (0:Int)<=_ by omega) (And.intro (by first|exact (show (_:Int)<=9223372036854775807 by omega)|exact (show (_:Int)<=4294967295 by omega)) (And.intro (show (0:Int) < _ by omega) ?_)))))|(refine Or.inl (Exists.intro 8 (And.intro rfl ?_)))|(exact rA)|(refine And.intro (show (0:Int)<=_ by omega) (And.intro (show _ < (_:Int) by omega) ?_))|(intro _))
theorem XR (i:IN):ah gT 82 [bX i,.int .i64 9] (.int .i64 (ca i 9)):=by
 refine Spec.enter ar Ka 100 Tryz.func82 rfl (by kernel_rfl) ?_
 repeat' ((conv=>whnf); first|(refine (And.intro (fun _=>?_) (fun _=>?_):(_->_)/\(_->_))<;>(first|(exfalso; first|contradiction|omega)|skip))|refine Or.inl (And.intro (by first|exact ax (by omega)|exact af (by omega)|exact bV (by omega)|exact cK (by omega)) ?_)|(refine And.intro (show (_:Int)≠0 by omega) (Or.inl (And.intro (show (0:Int)<=_ by omega) (And.intro (show (0:Int) < _ by omega) ?_))))|(refine And.intro (show (_:Int)≠0 by omega) (Or.inl (And.intro (show (0:Int)<=_ by omega) (And.intro (by first|exact (show (_:Int)<=9223372036854775807 by omega)|exact (show (_:Int)<=4294967295 by omega)) (And.intro (show (0:Int) < _ by omega) ?_)))))|(refine Or.inl (Exists.intro 9 (And.intro rfl ?_)))|(exact rA)|(refine And.intro (show (0:Int)<=_ by omega) (And.intro (show _ < (_:Int) by omega) ?_))|(intro _))
theorem yD (i:IN) (f:Nat) (hf:f < 10):ah gT 82 [bX i,.int .i64 f] (.int .i64 (ca i f)):=by
 match f,hf with
 | 0,_=>exact XI i
 | 1,_=>exact XJ i
 | 2,_=>exact XK i
 | 3,_=>exact XL i
 | 4,_=>exact XM i
 | 5,_=>exact XN i
 | 6,_=>exact XO i
 | 7,_=>exact XP i
 | 8,_=>exact XQ i
 | 9,_=>exact XR i
 
theorem yE (x k:Nat) (h:x / 2 ^ k % 2=0):x % 2 ^ (k+1)=x % 2 ^ k:=by
 rw[Nat.mod_pow_succ,h]; omega
theorem Hs (x k:Nat) (h:x / 2 ^ k % 2=1):x % 2 ^ (k+1)=x % 2 ^ k+2 ^ k:=by
 rw[Nat.mod_pow_succ,h]; omega
theorem we (a b k:Nat) (h:b < 2 ^ k):2 ^ k*a+b=2 ^ k*a ||| b:=Nat.two_pow_add_eq_or_of_lt h a
theorem Cl (x k:Nat) (h:x / 2 ^ k % 2=0):x+2 ^ k=x ||| 2 ^ k:=by
 have hx:x=2 ^ (k+1)*(x / 2 ^ (k+1))+x % 2 ^ k:=by
  rw[← yE x k h]; exact (Nat.div_add_mod x _).symm
 obtain⟨q,hq⟩:∃ q,q=x / 2 ^ (k+1):=⟨_,rfl⟩
 obtain⟨r,hr⟩:∃ r,r=x % 2 ^ k:=⟨_,rfl⟩
 have Qu:r < 2 ^ k:=by rw[hr]; exact Nat.mod_lt _ (Nat.two_pow_pos k)
 rw[← hq,← hr] at hx
 have hp:2 ^ (k+1)=2 ^ k*2:=Nat.pow_succ ..
 have e1:2 ^ k+r=2 ^ k ||| r:=by have:=we 1 r k Qu; rwa [Nat.mul_one] at this
 have e2:2 ^ (k+1)*q+(2 ^ k+r)=2 ^ (k+1)*q ||| (2 ^ k+r):=we q _ _ (by omega)
 have e3:2 ^ (k+1)*q+r=2 ^ (k+1)*q ||| r:=we q _ _ (by omega)
 have e0:2 ^ (k+1)*q+r+2 ^ k=2 ^ (k+1)*q+(2 ^ k+r):=by omega
 rw[hx,e0,e2,e1,e3]
 generalize 2 ^ (k+1)*q=A
 rw[Nat.or_assoc,Nat.or_comm r]
theorem Qv (x k:Nat):x.testBit k=true↔x / 2 ^ k % 2=1:=by rw[Nat.testBit_eq_decide_div_mod_eq]; simp
theorem AZ (x k:Nat) (h:x / 2 ^ k % 2=1):x ||| 2 ^ k=x:=by
 apply Nat.eq_of_testBit_eq
 intro i
 rw[Nat.testBit_or,Nat.testBit_two_pow]
 by_cases hi:k=i
 ·subst hi; rw[(Qv x k).2 h]; simp
 ·simp[hi]
def plus (w n at_ b:Nat):Nat:=w ||| (n % 2 ^ b) <<< at_
theorem uJ (w n at_:Nat):plus w n at_ 0=w:=by simp[plus,Nat.mod_one]
theorem yF (w n at_ b:Nat):(plus w n at_ b) / 2 ^ (at_+b) % 2=w / 2 ^ (at_+b) % 2:=by
 have key:(plus w n at_ b).testBit (at_+b)=w.testBit (at_+b):=by
  unfold plus
  rw[Nat.testBit_or,Nat.testBit_shiftLeft]
  have:(n % 2 ^ b).testBit (at_+b - at_)=false:=by
   rw[show at_+b - at_=b by omega]
   exact Nat.testBit_lt_two_pow (Nat.mod_lt _ (Nat.two_pow_pos b))
  rw[this]; simp
 rw[Nat.testBit_eq_decide_div_mod_eq,Nat.testBit_eq_decide_div_mod_eq] at key
 have h1:=Nat.mod_two_eq_zero_or_one (plus w n at_ b / 2 ^ (at_+b))
 have h2:=Nat.mod_two_eq_zero_or_one (w / 2 ^ (at_+b))
 have:=decide_eq_decide.1 key
 omega
theorem sM (w n at_ b:Nat) (hn:n / 2 ^ b % 2=1):plus w n at_ (b+1)=plus w n at_ b ||| 2 ^ (at_+b):=by
 unfold plus
 rw[Hs n b hn,Cl (n % 2 ^ b) b (by rw[Nat.div_eq_of_lt (Nat.mod_lt _ (Nat.two_pow_pos b))]),Nat.shiftLeft_or_distrib,← Nat.or_assoc]
 congr 1
 rw[Nat.shiftLeft_eq,Nat.pow_add,Nat.mul_comm]
theorem sN (w n at_ b:Nat) (hn:n / 2 ^ b % 2=0):plus w n at_ (b+1)=plus w n at_ b:=by
 unfold plus; rw[yE n b hn]
theorem yG (w n at_ b:Nat) (hn:n / 2 ^ b % 2=1) (hw:w / 2 ^ (at_+b) % 2=0):plus w n at_ (b+1)=plus w n at_ b+2 ^ (at_+b):=by
 rw[sM w n at_ b hn,Cl _ _ (by rw[yF]; exact hw)]
theorem uK (w n at_ b:Nat) (hn:n / 2 ^ b % 2=1) (hw:w / 2 ^ (at_+b) % 2=1):plus w n at_ (b+1)=plus w n at_ b:=by
 rw[sM w n at_ b hn,AZ _ _ (by rw[yF]; exact hw)]
def Lh:List Int:=[0,2048,4096,6144,6656,7168,7680,8192,10240,12288,14336,16384,16448,16512,16576,16640,16704,16768,16832,16896,16960,17024,17088,17152,17216,17280,17344,17408,17664,17920,18176,18432,20480,22528,24576,26624,36864,38912,43008,45056,45184,46080,48128,48896,48640,53248,57344,4064280576,4072669184,4026531840,4028628992,4030726144,4032823296,4034920448,4043309056,4047503360,4049600512,4053794816,4055891968,4031709184,4033806336,4027584256,4035972864,4044361472,4054847232,3925868544,3927965696,3930062848,3932160000,3934257152,3942645760,3946840064,3948937216,3953131520,3955228672,3931045888,3933143040,3926920960,3935309568,3943698176,3954183936,4060086272,4070572032,4173332480,4174381056,4164943872,4165992448,4194365440,4196462592,4198559744,4200656896,4211142656,4211081216,4211081232,4221566976,4225761280,4222677232,4205899904,4026564608,4026568704]
def jA (f:Int):Int:=if 1<=f/\f<=100 then Lh.getD (f - 1).toNat 0 else 0
theorem A0 {k:IntKind} {l:List Int} {n:Nat} {c:PV} (hc:(l.map (PV.lit k))[n]?=some c):c = .lit k (l.getD n 0):=by
 rw[List.getElem?_map,Option.map_eq_some_iff] at hc
 obtain⟨z,hz,rfl⟩:=hc
 rw[List.getD_eq_getElem?_getD,hz]; rfl
theorem Ht (f:Int) (h:1<=f/\f<=100):(Kc.drop 1).getD (f - 1).toNat 0=ae f:=by
 unfold ae
 rw[if_pos h,List.getD_eq_getElem?_getD,List.getD_eq_getElem?_getD,List.getElem?_drop,show 1+(f - 1).toNat=f.toNat by omega]
theorem iC (f:Int) (hf:fe f):ah gT 59 [.int .i64 f] (.int .i64 (ae f)):=by
 unfold fe at hf
 refine Spec.enter ar P59 100 Tryz.func59 rfl (by kernel_rfl) ?_
 refine⟨fun h=>?_,fun h=>?_⟩
 ·exact ao (show (0:Int)=ae f by unfold ae; rw[if_neg (by omega)])
 refine⟨fun h2=>?_,fun h2=>?_⟩
 ·exact ao (show (0:Int)=ae f by unfold ae; rw[if_neg (by omega)])
 have hF:1<=f/\f<=100:=by omega
 refine li ?_
 refine⟨by omega,show f - 1 < 100 by omega,.inr ⟨rfl,by omega,show 0+(f - 1).toNat*1 < 100 by omega,fun c hc=>?_⟩⟩
 have vO:((Kc.drop 1).map (PV.lit .i64))[(f - 1).toNat]?=some c:=by
  have e:0+(f - 1).toNat*1=(f - 1).toNat:=by omega
  have h0:((Kc.drop 1).map (PV.lit .i64))[0+(f - 1).toNat*1]?=some c:=hc
  rwa [e] at h0
 obtain rfl:=A0 vO
 exact ao (show (Kc.drop 1).getD (f - 1).toNat 0=ae f from Ht f hF)
theorem sO (f:Int) (hf:fe f):ah gT 80 [.int .i64 f] (.int .u32 (jA f)):=by
 unfold fe at hf
 refine Spec.enter ar P80 100 Tryz.func80 rfl (by kernel_rfl) ?_
 refine⟨fun h=>?_,fun h=>?_⟩
 ·exact ao (show (0:Int)=jA f by unfold jA; rw[if_neg (by omega)])
 refine⟨fun h2=>?_,fun h2=>?_⟩
 ·exact ao (show (0:Int)=jA f by unfold jA; rw[if_neg (by omega)])
 have hF:1<=f/\f<=100:=by omega
 refine li ?_
 refine⟨by omega,show f - 1 < 100 by omega,.inr ⟨rfl,by omega,show 0+(f - 1).toNat*1 < 100 by omega,fun c hc=>?_⟩⟩
 have vO:(Lh.map (PV.lit .u32))[(f - 1).toNat]?=some c:=by
  have e:0+(f - 1).toNat*1=(f - 1).toNat:=by omega
  have h0:(Lh.map (PV.lit .u32))[0+(f - 1).toNat*1]?=some c:=hc
  rwa [e] at h0
 obtain rfl:=A0 vO
 exact ao (show Lh.getD (f - 1).toNat 0=jA f by unfold jA; rw[if_pos hF])
theorem yH (f:Int) (hF:1<=f/\f<=100):ah gT 166 [.int .i64 f] (.int .u32 (jA f)):=by
 refine Spec.enter ar P166 100 Tryz.func166 rfl (by kernel_rfl) ?_
 refine⟨by omega,show f < 101 by omega,.inr ⟨rfl,by omega,show 0+f.toNat*1 < 101 by omega,fun c hc=>?_⟩⟩
 have vO:((0::Lh).map (PV.lit .u32))[f.toNat]?=some c:=by
  have e:0+f.toNat*1=f.toNat:=by omega
  have h0:((0::Lh).map (PV.lit .u32))[0+f.toNat*1]?=some c:=hc
  rwa [e] at h0
 obtain rfl:=A0 vO
 refine ao (show (0::Lh).getD f.toNat 0=jA f from ?_)
 unfold jA
 rw[if_pos hF,show f.toNat=(f - 1).toNat+1 by omega]
 rfl
theorem gU (f:Int):ah gT 120 [.int .i64 f] (.int .u32 (jA f)):=by
 refine Spec.enter ar P120 100 Tryz.func120 rfl (by kernel_rfl) ?_
 refine (oM f).u ?_
 refine⟨fun h=>?_,fun h=>?_⟩
 ·exact ao (show (0:Int)=jA f by unfold jA; rw[if_neg h])
 refine (yH f (Classical.not_not.1 h)).u ?_
 exact ao rfl
def Qw (x:Nat × Nat × Nat × Nat):Prop:=x.1 < 10/\x.2.1<=40/\1<=x.2.2.2/\x.2.2.1+x.2.2.2<=32
theorem jm (s:Int) (h:s < 1\/34 < s):aq s = []:=by
 unfold aq
 repeat rw[if_neg (by omega)]
def fdB (l:List (Nat × Nat × Nat × Nat)):Bool:=l.all (fun x=>decide (x.1 < 10/\x.2.1<=40/\1<=x.2.2.2/\x.2.2.1+x.2.2.2<=32)) && decide (l.length<=7)
theorem A2:∀ k:Fin 35,fdB (aq ((k.1:Nat):Int))=true:=by decide
theorem uL (s:Int):fdB (aq s)=true:=by
 by_cases h:s < 1\/34 < s
 ·rw[jm s h]; rfl
 ·have h1:=A2 ⟨s.toNat,by omega⟩
  rwa [show (((⟨s.toNat,by omega⟩:Fin 35).1:Nat):Int)=s by simp only[]; omega] at h1
theorem A3 (s:Int):(aq s).all (fun x=>decide (x.1 < 10/\x.2.1<=40/\1<=x.2.2.2/\x.2.2.1+x.2.2.2<=32))=true :=
 ((Bool.and_eq_true ..).mp (uL s)).1
theorem gM (s:Int):∀ x∈aq s,Qw x:=fun x hx=>by
 have:=List.all_eq_true.1 (A3 s) x hx
 exact (of_decide_eq_true (p:=x.1 < 10/\x.2.1<=40/\1<=x.2.2.2/\x.2.2.1+x.2.2.2<=32) this)
theorem nI (s:Int):(aq s).length<=7 :=
 of_decide_eq_true ((Bool.and_eq_true ..).mp (uL s)).2
def yI (i:IN) (w:Nat) (x:Nat × Nat × Nat × Nat):Nat:=plus w (aa (ca i x.1) x.2.1 x.2.2.2).toNat x.2.2.1 x.2.2.2
def dk (i:IN) (l:List (Nat × Nat × Nat × Nat)):Nat:=l.foldl (yI i) (jA i.form).toNat
theorem wg (w n a b:Nat) (hw:w < 2 ^ 32) (h:a+b<=32):plus w n a b < 2 ^ 32:=by
 unfold plus
 refine Nat.or_lt_two_pow hw ?_
 rw[Nat.shiftLeft_eq]
 have h1:n % 2 ^ b < 2 ^ b:=Nat.mod_lt _ (Nat.two_pow_pos b)
 calc n % 2 ^ b*2 ^ a < 2 ^ b*2 ^ a:=Nat.mul_lt_mul_of_pos_right h1 (Nat.two_pow_pos a)
  _=2 ^ (b+a):=(Nat.pow_add ..).symm
  _<=2 ^ 32:=Nat.pow_le_pow_right (by omega) (by omega)
theorem ab (n:Int) (l w:Nat):0<=aa n l w/\aa n l w < 2 ^ w:=by
 have hp:(0:Int) < 2 ^ w:=by have:=cl w; have:=Nat.two_pow_pos w; omega
 exact⟨Int.emod_nonneg _ (by omega),Int.emod_lt_of_pos _ hp⟩
theorem jW (n l w:Nat):aa n l w=((n / 2 ^ l % 2 ^ w:Nat):Int):=by
 unfold aa
 rw[if_neg (by omega),← cl,← cl]
 norm_cast
def jn (s n:Int) (k:Nat):Int:=n+((if aa n k 1=s then 1 else 0) - aa n k 1)*2 ^ k
def aB (n:Int):Nat->Int
 | 0=>n
 | k+1=>jn (aa n 24 1) (aB n k) (22+k)
theorem jB (n:Int) (k:Nat):aa n k 1=0\/aa n k 1=1:=by
 have:=ab n k 1
 have e:(2:Int) ^ 1=2:=rfl
 omega
theorem yJ (s n:Int) (k:Nat) (hk:k=22\/k=23):n - 8388608<=jn s n k/\jn s n k<=n+8388608:=by
 have hb:=jB n k
 have p:(2:Int) ^ 22=4194304:=by decide
 have q:(2:Int) ^ 23=8388608:=by decide
 unfold jn
 rcases hk with rfl|rfl<;>rcases hb with h|h<;>rw[h]<;>split<;>omega
theorem oO (n:Int) (k:Nat) (hk:k<=2):n - 16777216<=aB n k/\aB n k<=n+16777216:=by
 have h0:=yJ (aa n 24 1) (aB n 0) 22 (.inl rfl)
 have h1:=yJ (aa n 24 1) (aB n 1) 23 (.inr rfl)
 have e0:aB n 0=n:=rfl
 have e1:aB n 1=jn (aa n 24 1) (aB n 0) 22:=rfl
 have e2:aB n 2=jn (aa n 24 1) (aB n 1) 23:=rfl
 match k,hk with
 | 0,_=>omega
 | 1,_=>omega
 | 2,_=>omega
theorem uM (n:Int) (hn:0<=n/\n<=1099511627776):ah gT 79 [.int .i64 n] (.int .i64 (aB n 2)):=by
 refine Spec.enter ar P79 100 Tryz.func79 rfl (by kernel_rfl) ?_
 refine (aj n 24 1 (by omega) (by omega) (by omega)).u ?_
 refine SW.iw ar P79 (by kernel_rfl) (α:={i:Nat // i<=2}) (fun i=>[(4,.int .i64 (22+i.1:Nat)),(0,.int .i64 (aB n i.1))]) (fun i=>2 - i.1) ⟨0,by omega⟩ 60 ?_ ?_
 ·repeat' first|exact Iff.rfl|exact trivial|exact rfl|refine And.intro ?_ ?_
 rintro⟨i,hi⟩
 refine⟨fun h=>?_,fun h=>?_⟩
 ·have h':((22+i:Nat):Int)<=23:=h
  have hb:=oO n i hi
  have hc:=oO n (i+1) (by omega)
  have hp:(2:Int) ^ (22+i)<=8388608:=by
   have:i=0\/i=1:=by omega
   rcases this with rfl|rfl<;>decide
  have hp0:(0:Int) < 2 ^ (22+i):=by have:=fF (22+i) (by omega); omega
  have La:=jB (aB n i) (22+i)
  refine (aj (aB n i) (22+i) 1 (by omega) (by omega) (by omega)).u ?_
  refine⟨fun h2=>?_,fun h2=>?_⟩
  ·have uN:aa (aB n i) (22+i) 1=aa n 24 1:=h2
   have e:aB n (i+1)=aB n i+(1 - aa (aB n i) (22+i) 1)*2 ^ (22+i):=by
    show jn _ _ _=_
    unfold jn; rw[if_pos uN]
   refine li ?_ (show _<=(1:Int) - aa (aB n i) (22+i) 1/\(1:Int) - aa (aB n i) (22+i) 1<=_ by omega)
   refine (ai (22+i) (by omega)).u ?_
   have hm:-8388608<=((1:Int) - aa (aB n i) (22+i) 1)*2 ^ (22+i)/\((1:Int) - aa (aB n i) (22+i) 1)*2 ^ (22+i)<=8388608:=by
    rcases La with h|h<;>rw[h]<;>omega
   refine li ?_ (show _<=((1:Int) - aa (aB n i) (22+i) 1)*2 ^ (22+i)/\_<=_ by omega)
   refine li ?_ (show _<=aB n i+((1:Int) - aa (aB n i) (22+i) 1)*2 ^ (22+i)/\aB n i+((1:Int) - aa (aB n i) (22+i) 1)*2 ^ (22+i)<=_ by omega)
   refine .inl ⟨ax (show _<=((22+i:Nat):Int)+1/\((22+i:Nat):Int)+1<=_ by omega),⟨⟨i+1,by omega⟩,show 2 - (i+1) < 2 - i by omega,?_⟩⟩
   repeat' first|exact Iff.rfl|exact trivial|exact rfl|exact e.symm|exact congrArg (PV.int .i64) e.symm|refine And.intro ?_ ?_
  ·have uN:¬ aa (aB n i) (22+i) 1=aa n 24 1:=h2
   have e:aB n (i+1)=aB n i+(0 - aa (aB n i) (22+i) 1)*2 ^ (22+i):=by
    show jn _ _ _=_
    unfold jn; rw[if_neg uN]
   refine li ?_ (show _<=(0:Int) - aa (aB n i) (22+i) 1/\(0:Int) - aa (aB n i) (22+i) 1<=_ by omega)
   refine (ai (22+i) (by omega)).u ?_
   have hm:-8388608<=((0:Int) - aa (aB n i) (22+i) 1)*2 ^ (22+i)/\((0:Int) - aa (aB n i) (22+i) 1)*2 ^ (22+i)<=8388608:=by
    rcases La with h|h<;>rw[h]<;>omega
   refine li ?_ (show _<=((0:Int) - aa (aB n i) (22+i) 1)*2 ^ (22+i)/\_<=_ by omega)
   refine li ?_ (show _<=aB n i+((0:Int) - aa (aB n i) (22+i) 1)*2 ^ (22+i)/\aB n i+((0:Int) - aa (aB n i) (22+i) 1)*2 ^ (22+i)<=_ by omega)
   refine .inl ⟨ax (show _<=((22+i:Nat):Int)+1/\((22+i:Nat):Int)+1<=_ by omega),⟨⟨i+1,by omega⟩,show 2 - (i+1) < 2 - i by omega,?_⟩⟩
   repeat' first|exact Iff.rfl|exact trivial|exact rfl|exact e.symm|exact congrArg (PV.int .i64) e.symm|refine And.intro ?_ ?_
 ·have h':¬ ((22+i:Nat):Int)<=23:=h
  refine ao ?_
  exact (show aB n i=aB n 2 by rw[show i=2 by omega])
def cM (n:Int) (w:Nat):Int:=if aa n (w - 1) 1=1 then n - 2 ^ w else n
theorem kF (n:Int) (w:Nat) (hn:-1099511627776<=n/\n<=1099511627776) (hw:1<=w/\w<=40):ah gT 191 [.int .i64 n,.int .i64 w] (.int .i64 (cM n w)):=by
 refine Spec.enter ar P191 100 Tryz.func191 rfl (by kernel_rfl) ?_
 refine li ?_ (show _<=(w:Int) - 1/\(w:Int) - 1<=_ by omega)
 rw[show (w:Int) - 1=((w - 1:Nat):Int) by omega]
 refine (aj n (w - 1) 1 (by omega) (by omega) (by omega)).u ?_
 have b:=fF w (by omega)
 refine⟨fun h=>?_,fun h=>?_⟩
 ·refine (ai w (by omega)).u ?_
  refine li ?_ (show _<=n - 2 ^ w/\n - 2 ^ w<=_ by omega)
  refine ao ?_
  exact (show n - 2 ^ w=cM n w by unfold cM; exact (if_pos h).symm)
 ·refine ao ?_
  exact (show n=cM n w by unfold cM; exact (if_neg h).symm)
end Go.Proofs.YtnbngokbamifbaaGreatDoor.Pw

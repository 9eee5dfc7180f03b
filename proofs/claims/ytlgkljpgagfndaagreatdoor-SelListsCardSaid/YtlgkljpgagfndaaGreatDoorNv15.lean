/- What this claim is proved with: no condition. -/
import Derived.Test.YtlgkljpgagfndaaGreatDoorNv9
import Derived.Test.YtlgkljpgagfndaaGreatDoorNv10
import Derived.Test.YtlgkljpgagfndaaGreatDoorNvImmD
import Derived.Laws.BitsLemmas
set_option maxRecDepth 100000
set_option maxHeartbeats 16000000
set_option linter.unusedVariables false
set_option linter.unusedSimpArgs false
namespace Go.Proofs.YtlgkljpgagfndaaGreatDoor.Pw
open Go Go.RowKit
theorem gl {f:FuncId} {fn:Func} {c:Code} (hf:Tryz.prog.funcs[f]?=some fn) (hb:fn.body=some c) (hn:(fn.name == "runtime.NumGoroutine")=false):Ev.gX gT.cx.P f:=Ev.lq hf hb hn
theorem rh {w:World} {I:Nat->Prop} {β:aB}:bH w I [] β []:=by simp only[bH]
theorem ic {w:World} {I:Nat->Prop} {β:aB} {x:PV} {v:Value} {xs:List PV} {vs:List Value} (h:x.Is w I β v) (h':bH w I xs β vs):bH w I (x::xs) β (v::vs):=by simp only[bH]; exact⟨h,h'⟩
theorem df {w:World} {I:Nat->Prop} {β:aB} (k:IntKind) (n:Int):(PV.int k n).Is w I β (.int k n):=by simp only[PV.Is]
theorem ji {w:World} {I:Nat->Prop} {β:aB} {xs:List PV} {vs:Array Value} (h:bH w I xs β vs.toList):(PV.tup xs).Is w I β (.tuple vs):=by simp only[PV.Is]; exact⟨vs,rfl,h⟩
theorem Wj {w:World} {I:Nat->Prop} {β:aB} {x:PV} {bs:List Value} (h:bH w I [x] β bs):∃ v,bs = [v]/\x.Is w I β v:=by
 match bs,h with
 | [v],h=>exact⟨v,rfl,by simpa only [bH,and_true] using h⟩
theorem isL2 {w:World} {I:Nat->Prop} {β:aB} {x y:PV} {bs:List Value} (h:bH w I [x,y] β bs):∃ v u,bs = [v,u]/\x.Is w I β v/\y.Is w I β u:=by
 match bs,h with
 | [v,u],h=>exact⟨v,u,rfl,by simpa only [bH,and_true] using h⟩
theorem Kp {G:Gx} {I:Nat->Prop} {w:World} (hM:db G I w) {g:Nat} {k:IntKind} {l:List Int} (h:(g,l.map (PV.lit k))∈G.mq):∃ ty fr,w.heap[g]?=some (.cells (l.map (Value.int k)).toArray ty fr):=by
 obtain⟨arr,ty,fr,h1,h2⟩:=hM.row _ _ h
 obtain⟨_,h3⟩:=hM.m0 _ _ h
 refine⟨ty,fr,?_⟩
 rw[h1]
 congr 2
 refine Array.ext' (List.ext_getElem? fun i=>?_)
 rw[List.length_map] at h2
 by_cases hi:i < l.length
 ·obtain⟨v,hv,hiv,_⟩:=h3.get (i:=i) (c:=PV.lit k l[i]) (by simp[hi])
  rw[Ev.gb h1,Nat.zero_add] at hv
  simp only[PV.Is] at hiv
  subst hiv
  simp only[Array.getElem?_toList,hv,List.getElem?_map,List.getElem?_eq_getElem hi,Option.map_some]
 ·rw[List.getElem?_eq_none (by simp; omega),List.getElem?_eq_none (by simp; omega)]
theorem ai.FT {G:Gx} {f:FuncId} {args:List PV} {r:PV} (he:Ev.gX G.cx.P f)
  (h:∀ I β w bs,db G I w->bH w I args β bs->∃ v,r.Is w I no v/\(∀ w' I' aU,r.Is w' I' aU v)/\Calls G.cx.P f bs.toArray w fun e w'=>e = .returned v/\Below w.heap.size w w'):ai G f args r:=by
 refine Spec.intro he fun I β w bs hH hM hA=>?_
 obtain⟨v,_,hr,hc⟩:=h I β w bs hM hA
 refine hc.mono fun e w' ⟨he,hB⟩=>⟨v,r,[],I,β,he,rfl,hr _ _ _,hH.Ft _ _,hM.below hB,⟨hB.os,hB.tape,hB.output,hB.size,fun g hg _=>hB.block g hg,fun g _ h=>h,fun _ h=>h,fun _ _ h=>.inl h⟩,Nat.le_refl _,fun _ _ _=>rfl⟩
theorem B6:IntKind.i64.wrap (0+1)=1:=by decide
theorem O0:IntKind.i64.wrap (1+1)=2:=by decide
theorem O1:IntKind.i64.wrap (2+1)=3:=by decide
theorem O2:IntKind.i64.wrap (3+1)=4:=by decide
theorem O3:IntKind.i64.wrap (4+1)=5:=by decide
theorem O4:IntKind.i64.wrap (5+1)=6:=by decide
theorem O5:IntKind.i64.wrap (6+1)=7:=by decide
theorem O6:IntKind.i64.wrap (7+1)=8:=by decide
theorem O7:IntKind.i64.wrap (8+1)=9:=by decide
theorem zg:IntKind.i64.wrap (9+1)=10:=by decide
theorem zh:IntKind.i64.wrap (10+1)=11:=by decide
structure IN where
 form:Int
 rd:Int
 rn:Int
 rm:Int
 ra:Int
 az:Int
 kind:Int
 bG:Int
 set:Int
 cond:Int
 ar:Int
def inFs (i:IN):List PV:=[.int .i64 i.form,.int .i64 i.rd,.int .i64 i.rn,.int .i64 i.rm,.int .i64 i.ra,.int .i64 i.az,.int .i64 i.kind,.int .i64 i.bG,.int .i64 i.set,.int .i64 i.cond,.int .i64 i.ar]
def cX (i:IN):PV:=.agg (inFs i)
def bx (l:List IN):List PV:=l.map cX
def iZ:IN:=⟨0,0,0,0,0,0,0,0,0,0,0⟩
theorem FU {I:Nat->Prop} {w:World} (hM:db gT I w):u3 w :=
 Kp hM (g:=1) (k:=.u32) (l:=[1,65537,16777472,16843009]) (show (1,OM)∈gT.mq from List.mem_cons_self)
theorem nM (f:Int):ai gT 28 [.int .i64 f] (.bool (1<=f/\f<=100)):=by
 refine Spec.enter al P28 100 Tryz.func28 rfl (by kernel_rfl) ?_
 repeat' ((conv=>whnf); first|(refine (And.intro (fun _=>?_) (fun _=>?_):(_->_)/\(_->_))<;>(first|(exfalso; first|contradiction|omega)|skip))|refine Or.inl (And.intro (by first|exact ao (by omega)|exact ah (by omega)|exact aF (by omega)|exact ba (by omega)) ?_)|(refine And.intro (show (_:Int)≠0 by omega) (Or.inl (And.intro (show (0:Int)<=_ by omega) (And.intro (show (0:Int) < _ by omega) ?_))))|(refine And.intro (show (_:Int)≠0 by omega) (Or.inl (And.intro (show (0:Int)<=_ by omega) (And.intro (by first|exact (show (_:Int)<=9223372036854775807 by omega)|exact (show (_:Int)<=4294967295 by omega)) (And.intro (show (0:Int) < _ by omega) ?_)))))|(refine aw ?_; show _↔_; omega)|(refine aw ?_; show ¬ _; omega)|(intro _))
theorem lI (f:Int):ai gT 68 [.int .i64 f] (.bool (48<=f/\f<=100)):=by
 refine Spec.enter al P68 100 Tryz.func68 rfl (by kernel_rfl) ?_
 refine (nM f).u ?_
 repeat' ((conv=>whnf); first|(refine (And.intro (fun _=>?_) (fun _=>?_):(_->_)/\(_->_))<;>(first|(exfalso; first|contradiction|omega)|skip))|refine Or.inl (And.intro (by first|exact ao (by omega)|exact ah (by omega)|exact aF (by omega)|exact ba (by omega)) ?_)|(refine And.intro (show (_:Int)≠0 by omega) (Or.inl (And.intro (show (0:Int)<=_ by omega) (And.intro (show (0:Int) < _ by omega) ?_))))|(refine And.intro (show (_:Int)≠0 by omega) (Or.inl (And.intro (show (0:Int)<=_ by omega) (And.intro (by first|exact (show (_:Int)<=9223372036854775807 by omega)|exact (show (_:Int)<=4294967295 by omega)) (And.intro (show (0:Int) < _ by omega) ?_)))))|(refine aw ?_; show _↔_; omega)|(refine aw ?_; show ¬ _; omega)|(intro _))
def Vb:List Int:=[0,1,1,1,2,2,3,3,4,4,4,4,5,5,5,5,5,5,5,5,5,5,5,5,5,5,5,5,6,6,6,7,8,2,2,9,9,8,8,8,10,10,11,12,13,14,15,16,17,17,18,18,18,18,18,18,18,18,18,18,19,19,20,20,20,20,21,21,21,21,21,21,21,21,21,21,22,22,23,23,23,23,24,24,25,25,26,26,27,27,27,27,28,29,30,31,31,28,32,33,34]
def aa (f:Int):Int:=if 1<=f/\f<=100 then Vb.getD f.toNat 0 else 0
theorem FV {f:Int} (h:1<=f/\f<=100) {c:PV} (hc:(Vb.map (PV.lit .i64))[f.toNat]?=some c):c = .lit .i64 (aa f):=by
 rw[List.getElem?_map,Option.map_eq_some_iff] at hc
 obtain⟨z,hz,rfl⟩:=hc
 unfold aa
 rw[if_pos h,List.getD_eq_getElem?_getD,hz]; rfl
theorem fS (f:Int):ai gT 122 [.int .i64 f] (.int .i64 (aa f)):=by
 refine Spec.enter al P122 100 Tryz.func122 rfl (by kernel_rfl) ?_
 refine (nM f).u ?_
 refine⟨fun h=>?_,fun h=>?_⟩
 ·refine aw ?_
  exact (show (0:Int)=aa f by unfold aa; rw[if_neg h])
 have h':=Classical.not_not.1 h
 refine⟨by omega,show f < 101 by omega,.inr ⟨rfl,by omega,show 0+f.toNat*1 < 101 by omega,fun c hc=>?_⟩⟩
 have yL:(Vb.map (PV.lit .i64))[f.toNat]?=some c:=by
  have e:0+f.toNat*1=f.toNat:=by omega
  have h0:(Vb.map (PV.lit .i64))[0+f.toNat*1]?=some c:=hc
  rwa [e] at h0
 obtain rfl:=FV h' yL
 exact aw rfl
structure RU where
 rd:Int
 rn:Int
 rm:Int
 ra:Int
 i0:Int
 i1:Int
 i2:Int
 b0:Int
 b1:Int
 b2:Int
 kind:Bool
 set:Bool
 cond:Bool
 ar:Int
def ruF (r:RU):List PV:=[.int .i64 r.rd,.int .i64 r.rn,.int .i64 r.rm,.int .i64 r.ra,.int .i64 r.i0,.int .i64 r.i1,.int .i64 r.i2,.int .i64 r.b0,.int .i64 r.b1,.int .i64 r.b2,.bool (r.kind=true),.bool (r.set=true),.bool (r.cond=true),.int .i64 r.ar]
def ruP (r:RU):PV:=.agg (ruF r)
def fx:RU:=⟨0,0,0,0,0,0,0,0,0,0,false,false,false,0⟩
def ruN (s:Int):RU :=
 if s=1 then { fx with rd:=1,rm:=1,i0:=0,i1:=32,i2:=1 } else if s=2 then { fx with rd:=1,rn:=1,rm:=1 } else if s=3 then { fx with rd:=1,rn:=1,i1:=7,i2:=1 }
 else if s=4 then { fx with rd:=1,i1:=255,i2:=1 } else if s=5 then { fx with rd:=1,rm:=1 } else if s=6 then { fx with rd:=2,rm:=2 } else if s=7 then { fx with rm:=2 }
 else if s=8 then { fx with rd:=1,i1:=1020,i2:=4 } else if s=9 then { fx with rd:=1,rn:=1,i1:=124,i2:=4 } else if s=10 then { fx with i1:=508,i2:=4 } else if s=11 then { fx with ar:=16639 } else if s=12 then { fx with ar:=33023 }
 else if s=13 then fx else if s=14 then { fx with i1:=255,i2:=1 } else if s=15 then { fx with cond:=true,i0:=-256,i1:=254,i2:=2 } else if s=16 then { fx with i0:=-2048,i1:=2046,i2:=2 } else fx
def ch (s:Int):RU :=
 if s=17 then { fx with rd:=3,i1:=65535,i2:=1 } else if s=18 then { fx with rd:=3,rn:=3,i1:=4095,i2:=1,set:=true } else if s=19 then { fx with rd:=3,i1:=4095,i2:=1,set:=true } else if s=20 then { fx with rn:=3,i1:=4095,i2:=1 }
 else if s=21 then { fx with rd:=3,rn:=3,rm:=3,kind:=true,set:=true } else if s=22 then { fx with rd:=3,rm:=3,kind:=true,set:=true } else if s=23 then { fx with rn:=3,rm:=3,kind:=true } else if s=24 then { fx with rd:=3,rn:=3,i1:=4095,i2:=1 }
 else if s=25 then { fx with rd:=3,rn:=2,i1:=4095,i2:=1 } else if s=26 then { fx with rd:=3,rn:=2,rm:=3,b1:=3,b2:=1 } else if s=27 then { fx with rd:=3,rn:=3,rm:=3,set:=true } else if s=28 then { fx with rd:=3,rn:=3,rm:=3 }
 else if s=29\/s=30\/s=31 then { fx with rd:=3,rn:=3,rm:=3,ra:=3 } else if s=32 then { fx with rd:=3,rm:=3 } else if s=33 then { fx with cond:=true,i0:=-1048576,i1:=1048574,i2:=2 } else if s=34 then { fx with i0:=-16777216,i1:=16777214,i2:=2 } else ruN s
theorem pU (s:Int):ai gT 152 [.int .i64 s] (ruP (ruN s)):=by
 refine Spec.enter al P152 100 Tryz.func152 rfl (by kernel_rfl) ?_
 repeat' ((conv=>whnf); first|(refine (And.intro (fun _=>?_) (fun _=>?_):(_->_)/\(_->_))<;>(first|(exfalso; first|contradiction|omega)|skip))|refine Or.inl (And.intro (by first|exact ao (by omega)|exact ah (by omega)|exact aF (by omega)|exact ba (by omega)) ?_)|(refine And.intro (show (_:Int)≠0 by omega) (Or.inl (And.intro (show (0:Int)<=_ by omega) (And.intro (show (0:Int) < _ by omega) ?_))))|(refine And.intro (show (_:Int)≠0 by omega) (Or.inl (And.intro (show (0:Int)<=_ by omega) (And.intro (by first|exact (show (_:Int)<=9223372036854775807 by omega)|exact (show (_:Int)<=4294967295 by omega)) (And.intro (show (0:Int) < _ by omega) ?_)))))|(simp only[ruN, *,if_true,if_false,reduceIte,Int.reduceEq]; refine aw ?_; (repeat' first|exact trivial|exact rfl|exact (show ¬ (false=true) from Bool.false_ne_true)|refine And.intro ?_ ?_))|(intro _))
theorem sM (s:Int):ai gT 121 [.int .i64 s] (ruP (ch s)):=by
 refine Spec.enter al P121 100 Tryz.func121 rfl (by kernel_rfl) ?_
 repeat' ((conv=>whnf); first|(refine (And.intro (fun _=>?_) (fun _=>?_):(_->_)/\(_->_))<;>(first|(exfalso; first|contradiction|omega)|skip))|refine Or.inl (And.intro (by first|exact ao (by omega)|exact ah (by omega)|exact aF (by omega)|exact ba (by omega)) ?_)|(refine And.intro (show (_:Int)≠0 by omega) (Or.inl (And.intro (show (0:Int)<=_ by omega) (And.intro (show (0:Int) < _ by omega) ?_))))|(refine And.intro (show (_:Int)≠0 by omega) (Or.inl (And.intro (show (0:Int)<=_ by omega) (And.intro (by first|exact (show (_:Int)<=9223372036854775807 by omega)|exact (show (_:Int)<=4294967295 by omega)) (And.intro (show (0:Int) < _ by omega) ?_)))))|(refine Exists.intro [] (And.intro bn ((pU s).use (by repeat' first|exact trivial|exact rfl|exact Iff.rfl|exact Or.inl rfl|refine And.intro ?_ ?_) rfl rfl ?_)))|(simp only[ch, *,if_true,if_false,reduceIte,Int.reduceEq,or_true,true_or,or_false,false_or]; refine aw ?_; (repeat' first|exact trivial|exact rfl|exact (show ¬ (false=true) from Bool.false_ne_true)|exact Iff.rfl|refine And.intro ?_ ?_))|(intro _))
def aG (c r:Int):Prop:=(c=1/\0<=r/\r < 8)\/(c=2/\0<=r/\r < 15)\/(c=3/\0<=r/\r < 15/\r≠13)\/(c≠1/\c≠2/\c≠3/\r=0)
theorem tE (r:Int):ai gT 153 [.int .i64 r] (.bool (0<=r/\r < 8)):=by
 refine Spec.enter al P153 100 Tryz.func153 rfl (by kernel_rfl) ?_
 repeat' ((conv=>whnf); first|(refine (And.intro (fun _=>?_) (fun _=>?_):(_->_)/\(_->_))<;>(first|(exfalso; first|contradiction|omega)|skip))|refine Or.inl (And.intro (by first|exact ao (by omega)|exact ah (by omega)|exact aF (by omega)|exact ba (by omega)) ?_)|(refine And.intro (show (_:Int)≠0 by omega) (Or.inl (And.intro (show (0:Int)<=_ by omega) (And.intro (show (0:Int) < _ by omega) ?_))))|(refine And.intro (show (_:Int)≠0 by omega) (Or.inl (And.intro (show (0:Int)<=_ by omega) (And.intro (by first|exact (show (_:Int)<=9223372036854775807 by omega)|exact (show (_:Int)<=4294967295 by omega)) (And.intro (show (0:Int) < _ by omega) ?_)))))|(refine aw ?_; show _↔_; omega)|(refine aw ?_; show ¬ _; omega)|(intro _))
theorem FW (c r:Int):ai gT 123 [.int .i64 c,.int .i64 r] (.bool (aG c r)):=by
 refine Spec.enter al P123 100 Tryz.func123 rfl (by kernel_rfl) ?_
 repeat' ((conv=>whnf); first|(refine (And.intro (fun _=>?_) (fun _=>?_):(_->_)/\(_->_))<;>(first|(exfalso; first|contradiction|omega)|skip))|refine Or.inl (And.intro (by first|exact ao (by omega)|exact ah (by omega)|exact aF (by omega)|exact ba (by omega)) ?_)|(refine And.intro (show (_:Int)≠0 by omega) (Or.inl (And.intro (show (0:Int)<=_ by omega) (And.intro (show (0:Int) < _ by omega) ?_))))|(refine And.intro (show (_:Int)≠0 by omega) (Or.inl (And.intro (show (0:Int)<=_ by omega) (And.intro (by first|exact (show (_:Int)<=9223372036854775807 by omega)|exact (show (_:Int)<=4294967295 by omega)) (And.intro (show (0:Int) < _ by omega) ?_)))))|(refine Exists.intro [] (And.intro bn ((tE r).use (by repeat' first|exact trivial|exact rfl|exact Iff.rfl|exact Or.inl rfl|refine And.intro ?_ ?_) rfl rfl ?_)))|(refine aw ?_; (show _↔aG c r); unfold aG; omega)|(refine aw ?_; (show ¬ aG c r); unfold aG; omega)|(intro _))
def dG (f t s n:Int):Prop:=(s=0/\n=0)\/(s≠0/\f<=n/\n<=t/\n.tmod s=0)
theorem tF (f t s n:Int):ai gT 125 [.agg [.int .i64 f,.int .i64 t,.int .i64 s],.int .i64 n] (.bool (dG f t s n)):=by
 refine Spec.enter al P125 100 Tryz.func125 rfl (by kernel_rfl) ?_
 refine⟨fun h=>?_,fun h=>?_⟩
 ·refine aw ?_
  exact (show n=0↔dG f t s n by unfold dG; exact⟨fun e=>.inl ⟨h,e⟩,fun e=>e.elim (fun e=>e.2) (fun e=>absurd h e.1)⟩)
 have h0:s≠0:=h
 refine⟨fun h1=>?_,fun h1=>?_⟩
 ·refine⟨fun h2=>?_,fun h2=>?_⟩
  ·refine⟨h0,.inr ?_⟩
   refine aw ?_
   exact (show n.tmod s=0↔dG f t s n from ⟨fun e=>.inr ⟨h0,h1,h2,e⟩,fun e=>e.elim (fun e=>absurd e.1 h0) (fun e=>e.2.2.2)⟩)
  ·refine aw ?_
   exact (show ¬ dG f t s n from fun e=>e.elim (fun e=>h0 e.1) (fun e=>h2 e.2.2.1))
 ·refine aw ?_
  exact (show ¬ dG f t s n from fun e=>e.elim (fun e=>h0 e.1) (fun e=>h1 e.2.1))
theorem FX (n:Int) (ok:Prop):ai gT 126 [.int .i64 n,.bool ok] (.bool (n=0\/(n=1/\ok))):=by
 refine Spec.enter al P126 100 Tryz.func126 rfl (by kernel_rfl) ?_
 refine⟨fun h=>?_,fun h=>And.intro (fun h1=>?_) (fun h1=>?_)⟩
 ·exact aw (show n=0\/(n=1/\ok) from .inl h)
 ·exact aw (show ok↔(n=0\/(n=1/\ok)) from ⟨fun k=>.inr ⟨h1,k⟩,fun k=>k.elim (fun e=>absurd e h) (fun e=>e.2)⟩)
 ·exact aw (show ¬ (n=0\/(n=1/\ok)) from fun k=>k.elim h (fun e=>h1 e.1))
def zi (x:Int):Prop:=-9223372036854775808<=x/\x<=9223372036854775807
theorem nN (n:Int) (h:zi n):ai gT 146 [.int .i64 n] (.tup [.int .u32 (Rm.eG n),.int .i64 (Rm.dz n)]) :=
 ai.FT (gl Tryz.func146 rfl (by kernel_rfl)) fun I β w bs hM hA=>by
  obtain⟨v,rfl,h1⟩:=Wj hA
  simp only[PV.Is] at h1
  subst h1
  refine⟨.tuple #[.int .u32 (Rm.eG n),.int .i64 (Rm.dz n)],ji (ic (df ..) (ic (df ..) rh)),fun _ _ _=>ji (ic (df ..) (ic (df ..) rh)),?_⟩
  refine (nJ n w (FU hM) h.1 h.2).mono ?_
  rintro e w' ⟨rfl,rfl⟩
  exact⟨rfl,Below.refl _ _⟩
def cO (k b:Int):Prop:=(k=0/\0<=b/\b < 32)\/((k=1\/k=2)/\1<=b/\b<=32)\/(k=3/\1<=b/\b < 32)
theorem wZ (k b:Int):ai gT 154 [.int .i64 k,.int .i64 b] (.bool (cO k b)):=by
 refine Spec.enter al P154 100 Tryz.func154 rfl (by kernel_rfl) ?_
 repeat' ((conv=>whnf); first|(refine (And.intro (fun _=>?_) (fun _=>?_):(_->_)/\(_->_))<;>(first|(exfalso; first|contradiction|omega)|skip))|refine Or.inl (And.intro (by first|exact ao (by omega)|exact ah (by omega)|exact aF (by omega)|exact ba (by omega)) ?_)|(refine And.intro (show (_:Int)≠0 by omega) (Or.inl (And.intro (show (0:Int)<=_ by omega) (And.intro (show (0:Int) < _ by omega) ?_))))|(refine And.intro (show (_:Int)≠0 by omega) (Or.inl (And.intro (show (0:Int)<=_ by omega) (And.intro (by first|exact (show (_:Int)<=9223372036854775807 by omega)|exact (show (_:Int)<=4294967295 by omega)) (And.intro (show (0:Int) < _ by omega) ?_)))))|(refine aw ?_; (show _↔cO k b); unfold cO; omega)|(refine aw ?_; (show ¬ cO k b); unfold cO; omega)|(intro _))
def mF (i:IN) (r:RU):Prop:=(r.kind=true/\cO i.kind i.bG)\/(¬ r.kind=true/\i.kind=0/\dG r.b0 r.b1 r.b2 i.bG)
theorem zj (i:IN) (r:RU):ai gT 127 [cX i,ruP r] (.bool (mF i r)):=by
 refine Spec.enter al P127 100 Tryz.func127 rfl (by kernel_rfl) ?_
 refine⟨fun h=>?_,fun h=>?_⟩
 ·refine (wZ i.kind i.bG).u ?_
  refine aw ?_
  exact (show cO i.kind i.bG↔mF i r from ⟨fun k=>.inl ⟨h,k⟩,fun k=>k.elim (fun e=>e.2) (fun e=>absurd h e.1)⟩)
 ·refine⟨fun h1=>?_,fun h1=>?_⟩
  ·refine (tF r.b0 r.b1 r.b2 i.bG).u ?_
   refine aw ?_
   exact (show dG r.b0 r.b1 r.b2 i.bG↔mF i r from ⟨fun k=>.inr ⟨h,h1,k⟩,fun k=>k.elim (fun e=>absurd e.1 h) (fun e=>e.2.2)⟩)
  ·refine aw ?_
   exact (show ¬ mF i r from fun k=>k.elim (fun e=>h e.1) (fun e=>h1 e.2.1))
def j4 (i:IN) (r:RU):Prop:=(r.ar=0/\i.ar=0)\/(¬ r.ar=0/\0 < i.ar/\bits .andNot .i64 i.ar r.ar=0)
theorem w8 (i:IN) (r:RU):ai gT 124 [cX i,ruP r] (.bool (j4 i r)):=by
 refine Spec.enter al P124 100 Tryz.func124 rfl (by kernel_rfl) ?_
 refine⟨fun h=>?_,fun h=>?_⟩
 ·refine aw ?_
  exact (show i.ar=0↔j4 i r from ⟨fun k=>.inl ⟨h,k⟩,fun k=>k.elim (fun e=>e.2) (fun e=>absurd h e.1)⟩)
 ·refine⟨fun h1=>?_,fun h1=>?_⟩
  ·refine aw ?_
   exact (show bits .andNot .i64 i.ar r.ar=0↔j4 i r from ⟨fun k=>.inr ⟨h,h1,k⟩,fun k=>k.elim (fun e=>absurd e.1 h) (fun e=>e.2.2)⟩)
  ·refine aw ?_
   exact (show ¬ j4 i r from fun k=>k.elim (fun e=>h e.1) (fun e=>h1 e.2.1))
def mG (i:IN):Prop:=(i.form=1->i.az < 32)/\(i.form=2\/i.form=3->0 < i.az)/\(i.form=29->¬ (0<=i.rd/\i.rd < 8)\/¬ (0<=i.rm/\i.rm < 8))/\(i.form=95\/i.form=96->i.rd≠i.ra)/\(aa i.form=18\/aa i.form=19\/aa i.form=20->Rm.dz i.az=0)
theorem Kq:aa 1=1/\aa 2=1/\aa 3=1/\aa 29=6/\aa 95=31/\aa 96=31:=by decide
theorem zk (i:IN) (hi:zi i.az):ai gT 128 [cX i] (.bool (mG i)):=by
 obtain⟨s1,s2,s3,s29,s95,s96⟩:=Kq
 refine Spec.enter al P128 100 Tryz.func128 rfl (by kernel_rfl) ?_
 have e:mG i↔((i.form=1->i.az < 32)/\(i.form=2\/i.form=3->0 < i.az)/\(i.form=29->¬ (0<=i.rd/\i.rd < 8)\/¬ (0<=i.rm/\i.rm < 8))/\(i.form=95\/i.form=96->i.rd≠i.ra)/\(aa i.form=18\/aa i.form=19\/aa i.form=20->Rm.dz i.az=0)):=Iff.rfl
 have f1:i.form=1->aa i.form=1:=fun h=>by rw[h]; exact s1
 have f2:i.form=2->aa i.form=1:=fun h=>by rw[h]; exact s2
 have f3:i.form=3->aa i.form=1:=fun h=>by rw[h]; exact s3
 have f29:i.form=29->aa i.form=6:=fun h=>by rw[h]; exact s29
 have f95:i.form=95->aa i.form=31:=fun h=>by rw[h]; exact s95
 have f96:i.form=96->aa i.form=31:=fun h=>by rw[h]; exact s96
 clear s1 s2 s3 s29 s95 s96
 repeat' ((conv=>whnf); first|(refine (And.intro (fun _=>?_) (fun _=>?_):(_->_)/\(_->_))<;>(first|(exfalso; first|contradiction|omega)|skip))|refine Or.inl (And.intro (by first|exact ao (by omega)|exact ah (by omega)|exact aF (by omega)|exact ba (by omega)) ?_)|(refine And.intro (show (_:Int)≠0 by omega) (Or.inl (And.intro (show (0:Int)<=_ by omega) (And.intro (show (0:Int) < _ by omega) ?_))))|(refine And.intro (show (_:Int)≠0 by omega) (Or.inl (And.intro (show (0:Int)<=_ by omega) (And.intro (by first|exact (show (_:Int)<=9223372036854775807 by omega)|exact (show (_:Int)<=4294967295 by omega)) (And.intro (show (0:Int) < _ by omega) ?_)))))|(refine Exists.intro [] (And.intro bn ((tE _).use (by repeat' first|exact trivial|exact rfl|exact Iff.rfl|exact Or.inl rfl|refine And.intro ?_ ?_) rfl rfl ?_)))|(refine Exists.intro [] (And.intro bn ((fS i.form).use (by repeat' first|exact trivial|exact rfl|exact Iff.rfl|exact Or.inl rfl|refine And.intro ?_ ?_) rfl rfl ?_)))|(refine Exists.intro [] (And.intro bn ((nN i.az hi).use (by repeat' first|exact trivial|exact rfl|exact Iff.rfl|exact Or.inl rfl|refine And.intro ?_ ?_) rfl rfl ?_)))|(refine aw ?_; (show mG i); rw[e]; clear e; omega)|(refine aw ?_; (show _↔mG i); rw[e]; clear e; omega)|(refine aw ?_; (show ¬ mG i); rw[e]; clear e; omega)|(intro _))
def aI (i:IN) (r:RU):Prop:=(1<=i.form/\i.form<=100)/\aG r.rd i.rd/\aG r.rn i.rn/\aG r.rm i.rm/\aG r.ra i.ra/\j4 i r/\(i.cond=0\/(r.cond=true/\0 < i.cond/\i.cond<=13))/\dG r.i0 r.i1 r.i2 i.az/\(i.set=0\/(i.set=1/\r.set=true))/\mF i r/\mG i
def au (i:IN):Prop:=aI i (ch (aa i.form))
theorem mH (i:IN) (hi:zi i.az):ai gT 86 [cX i] (.bool (au i)):=by
 refine Spec.enter al P86 100 Tryz.func86 rfl (by kernel_rfl) ?_
 refine (nM i.form).u ?_
 refine⟨fun h=>?_,fun h=>?_⟩
 ·refine aw ?_
  exact (show ¬ au i from fun k=>h k.1)
 have hF:=Classical.not_not.1 h
 clear h
 refine (fS i.form).u ?_
 refine (sM _).u ?_
 unfold au
 generalize ch (aa i.form)=r
 repeat' ((conv=>whnf); first|(refine (And.intro (fun _=>?_) (fun _=>?_):(_->_)/\(_->_))<;>(first|(exfalso; first|contradiction|omega)|skip))|refine Or.inl (And.intro (by first|exact ao (by omega)|exact ah (by omega)|exact aF (by omega)|exact ba (by omega)) ?_)|(refine And.intro (show (_:Int)≠0 by omega) (Or.inl (And.intro (show (0:Int)<=_ by omega) (And.intro (show (0:Int) < _ by omega) ?_))))|(refine And.intro (show (_:Int)≠0 by omega) (Or.inl (And.intro (show (0:Int)<=_ by omega) (And.intro (by first|exact (show (_:Int)<=9223372036854775807 by omega)|exact (show (_:Int)<=4294967295 by omega)) (And.intro (show (0:Int) < _ by omega) ?_)))))|(refine Exists.intro [] (And.intro bn ((FW _ _).use (by repeat' first|exact trivial|exact rfl|exact Iff.rfl|exact Or.inl rfl|refine And.intro ?_ ?_) rfl rfl ?_)))|(refine Exists.intro [] (And.intro bn ((w8 i r).use (by repeat' first|exact trivial|exact rfl|exact Iff.rfl|exact Or.inl rfl|refine And.intro ?_ ?_) rfl rfl ?_)))|(refine Exists.intro [] (And.intro bn ((tF _ _ _ _).use (by repeat' first|exact trivial|exact rfl|exact Iff.rfl|exact Or.inl rfl|refine And.intro ?_ ?_) rfl rfl ?_)))|(refine Exists.intro [] (And.intro bn ((FX _ _).use (by repeat' first|exact trivial|exact rfl|exact Iff.rfl|exact Or.inl rfl|refine And.intro ?_ ?_) rfl rfl ?_)))|(refine Exists.intro [] (And.intro bn ((zj i r).use (by repeat' first|exact trivial|exact rfl|exact Iff.rfl|exact Or.inl rfl|refine And.intro ?_ ?_) rfl rfl ?_)))|(refine Exists.intro [] (And.intro bn ((zk i hi).use (by repeat' first|exact trivial|exact rfl|exact Iff.rfl|exact Or.inl rfl|refine And.intro ?_ ?_) rfl rfl ?_)))|(refine aw ?_; (show mG i↔aI i r); (exact⟨fun k=>⟨hF,by assumption,by assumption,by assumption,by assumption,by assumption,by first|exact Or.inl (by assumption)|exact Or.inr ⟨by assumption,by assumption,by assumption⟩,by assumption,by assumption,by assumption,k⟩,fun k=>k.2.2.2.2.2.2.2.2.2.2⟩))|(refine aw ?_; (show ¬ aI i r); (rintro⟨a0,a1,a2,a3,a4,a5,a6,a7,a8,a9,a10⟩; first|contradiction|(rcases a6 with a6|⟨b1,b2,b3⟩<;>first|contradiction|omega)))|(intro _))
def w9 (x:Int) (l w:Nat):Int:=x / 2 ^ l % 2 ^ w
theorem w_ (x:Int) (w:Nat) (h0:0<=x) (h1:x<=4294967295) (hw:w<=31):bits .and .u32 x (2 ^ w - 1)=x % 2 ^ w:=by
 have hp:(2:Int) ^ w<=2 ^ 31:=by
  have:=Nat.pow_le_pow_right (n:=2) (by omega) hw
  exact_mod_cast this
 have hp0:(1:Int)<=2 ^ w:=by
  have:=Nat.one_le_two_pow (n:=w)
  exact_mod_cast this
 rw[u32_and x (2 ^ w - 1) h0 (by omega) (by omega) (by omega)]
 have e:x.toNat &&& ((2:Int) ^ w - 1).toNat=x.toNat % 2 ^ w:=by
  have:((2:Int) ^ w - 1).toNat=2 ^ w - 1:=by
   have e2:((2 ^ w:Nat):Int)=(2:Int) ^ w:=by norm_cast
   omega
  rw[this]
  exact Nat.and_two_pow_sub_one_eq_mod x.toNat w
 rw[e]
 have:((x.toNat % 2 ^ w:Nat):Int)=(x.toNat:Int) % ((2 ^ w:Nat):Int):=by norm_cast
 rw[this,Int.toNat_of_nonneg h0]
 norm_cast
theorem xa (n:Nat) (h:n<=32):Ev.aV .u32 (n:Int)=2 ^ n:=by
 unfold Ev.aV
 rw[Int.toNat_natCast,show min n (IntKind.bits .u32)=n from Nat.min_eq_left h]
 norm_cast
theorem cK (w:Nat):((2 ^ w:Nat):Int)=(2:Int) ^ w:=by norm_cast
theorem ri (w:Nat) (hw:w<=31):(1:Int)<=2 ^ w/\(2:Int) ^ w<=2147483648:=by
 have h1:=Nat.one_le_two_pow (n:=w)
 have h2:(2 ^ w:Nat)<=2147483648:=Nat.le_trans (Nat.pow_le_pow_right (n:=2) (by omega) hw) (by decide)
 have e:=cK w
 omega
theorem O8 (x p:Int) (h0:0<=x) (h1:x<=4294967295) (hp:1<=p):0<=x / p/\x / p<=4294967295 :=
 ⟨Int.ediv_nonneg h0 (by omega),Int.le_trans (Int.ediv_le_self _ h0) h1⟩
theorem jH (x:Int) (l w:Nat) (hx:0<=x/\x<=4294967295) (hw:1<=w/\w<=31) (hl:l<=31):ai gT 157 [.int .u32 x,.int .i64 ((l:Int)+w - 1),.int .i64 l] (.int .u32 (w9 x l w)):=by
 have p1:=xa l (by omega)
 have p2:=xa w (by omega)
 have b1:=ri l hl
 have b2:=ri w hw.2
 have d:=O8 x (2 ^ l) hx.1 hx.2 b1.1
 have e:((l:Int)+w - 1) - l+1=w:=by omega
 refine Spec.enter al P157 100 Tryz.func157 rfl (by kernel_rfl) ?_
 refine⟨by omega,.inl ⟨ao (by omega),.inl ⟨ao (by omega),?_⟩⟩⟩
 refine⟨by omega,.inl ⟨ah (show 0<=1*Ev.aV .u32 (((l:Int)+w - 1) - l+1)/\1*Ev.aV .u32 (((l:Int)+w - 1) - l+1)<=4294967295 by rw[e,p2]; omega),?_⟩⟩
 refine lu ?_ (show 0<=1*Ev.aV .u32 (((l:Int)+w - 1) - l+1) - 1/\1*Ev.aV .u32 (((l:Int)+w - 1) - l+1) - 1<=4294967295 by rw[e,p2]; omega)
 refine aw ?_
 show bits .and .u32 (x / Ev.aV .u32 l) (1*Ev.aV .u32 (((l:Int)+w - 1) - l+1) - 1)=w9 x l w
 rw[e,p1,p2,Int.one_mul,w_ _ w d.1 d.2 hw.2]; rfl
theorem xb (w:Nat) (hw:w<=62):(1:Int)<=2 ^ w/\(2:Int) ^ w<=4611686018427387904:=by
 have h1:=Nat.one_le_two_pow (n:=w)
 have h2:(2 ^ w:Nat)<=4611686018427387904:=Nat.le_trans (Nat.pow_le_pow_right (n:=2) (by omega) hw) (by decide)
 have e:=cK w
 omega
def ab (n:Int) (l w:Nat):Int:=(if n < 0 then n+1099511627776 else n) / 2 ^ l % 2 ^ w
def aD (s:Int):List (Nat × Nat × Nat × Nat) :=
 if s=1 then [(4,0,6,5),(2,0,3,3),(0,0,0,3)]
 else if s=2 then [(2,0,6,3),(1,0,3,3),(0,0,0,3)]
 else if s=3 then [(4,0,6,3),(1,0,3,3),(0,0,0,3)]
 else if s=4 then [(0,0,8,3),(4,0,0,8)]
 else if s=5 then [(2,0,3,3),(0,0,0,3)]
 else if s=6 then [(0,3,7,1),(2,0,3,4),(0,0,0,3)]
 else if s=7 then [(2,0,3,4)]
 else if s=8 then [(0,0,8,3),(4,2,0,8)]
 else if s=9 then [(4,2,6,5),(1,0,3,3),(0,0,0,3)]
 else if s=10 then [(4,2,0,7)]
 else if s=11 then [(9,14,8,1),(9,0,0,8)]
 else if s=12 then [(9,15,8,1),(9,0,0,8)]
 else if s=14 then [(4,0,0,8)]
 else if s=15 then [(8,0,8,4),(4,1,0,8)]
 else if s=16 then [(4,1,0,11)]
 else if s=17 then [(4,11,26,1),(4,12,16,4),(4,8,12,3),(4,0,0,8),(0,0,8,4)]
 else if s=18 then [(4,11,26,1),(4,8,12,3),(4,0,0,8),(7,0,20,1),(1,0,16,4),(0,0,8,4)]
 else if s=19 then [(4,11,26,1),(4,8,12,3),(4,0,0,8),(7,0,20,1),(0,0,8,4)]
 else if s=20 then [(4,11,26,1),(4,8,12,3),(4,0,0,8),(1,0,16,4)]
 else if s=21 then [(6,2,12,3),(6,0,6,2),(5,0,4,2),(7,0,20,1),(1,0,16,4),(0,0,8,4),(2,0,0,4)]
 else if s=22 then [(6,2,12,3),(6,0,6,2),(5,0,4,2),(7,0,20,1),(0,0,8,4),(2,0,0,4)]
 else if s=23 then [(6,2,12,3),(6,0,6,2),(5,0,4,2),(1,0,16,4),(2,0,0,4)]
 else if s=24 then [(4,11,26,1),(4,8,12,3),(4,0,0,8),(1,0,16,4),(0,0,8,4)]
 else if s=25 then [(1,0,16,4),(0,0,12,4),(4,0,0,12)]
 else if s=26 then [(1,0,16,4),(0,0,12,4),(6,0,4,2),(2,0,0,4)]
 else if s=27 then [(7,0,20,1),(1,0,16,4),(0,0,8,4),(2,0,0,4)]
 else if s=28 then [(1,0,16,4),(0,0,8,4),(2,0,0,4)]
 else if s=29 then [(1,0,16,4),(3,0,12,4),(0,0,8,4),(2,0,0,4)]
 else if s=30 then [(1,0,16,4),(3,0,12,4),(0,0,8,4),(2,0,0,4)]
 else if s=31 then [(1,0,16,4),(0,0,12,4),(3,0,8,4),(2,0,0,4)]
 else if s=32 then [(2,0,16,4),(0,0,8,4),(2,0,0,4)]
 else if s=33 then [(4,20,26,1),(8,0,22,4),(4,12,16,6),(4,18,13,1),(4,19,11,1),(4,1,0,11)]
 else if s=34 then [(4,24,26,1),(4,12,16,10),(4,23,13,1),(4,22,11,1),(4,1,0,11)]
 else []
def j5 (i:IN) (f:Nat):Int:=[i.rd,i.rn,i.rm,i.ra,i.az,i.kind,i.bG,i.set,i.cond,i.ar].getD f 0
theorem O9 (a b k:Nat) (h:b < 2 ^ k):2 ^ k*a+b=2 ^ k*a ||| b:=Nat.two_pow_add_eq_or_of_lt h a
def plus (w n at_ b:Nat):Nat:=w ||| (n % 2 ^ b) <<< at_
def Vc:List Int:=[0,2048,4096,6144,6656,7168,7680,8192,10240,12288,14336,16384,16448,16512,16576,16640,16704,16768,16832,16896,16960,17024,17088,17152,17216,17280,17344,17408,17664,17920,18176,18432,20480,22528,24576,26624,36864,38912,43008,45056,45184,46080,48128,48896,48640,53248,57344,4064280576,4072669184,4026531840,4028628992,4030726144,4032823296,4034920448,4043309056,4047503360,4049600512,4053794816,4055891968,4031709184,4033806336,4027584256,4035972864,4044361472,4054847232,3925868544,3927965696,3930062848,3932160000,3934257152,3942645760,3946840064,3948937216,3953131520,3955228672,3931045888,3933143040,3926920960,3935309568,3943698176,3954183936,4060086272,4070572032,4173332480,4174381056,4164943872,4165992448,4194365440,4196462592,4198559744,4200656896,4211142656,4211081216,4211081232,4221566976,4225761280,4222677232,4205899904,4026564608,4026568704]
def mW (f:Int):Int:=if 1<=f/\f<=100 then Vc.getD (f - 1).toNat 0 else 0
theorem O' {k:IntKind} {l:List Int} {n:Nat} {c:PV} (hc:(l.map (PV.lit k))[n]?=some c):c = .lit k (l.getD n 0):=by
 rw[List.getElem?_map,Option.map_eq_some_iff] at hc
 obtain⟨z,hz,rfl⟩:=hc
 rw[List.getD_eq_getElem?_getD,hz]; rfl
theorem xd (f:Int) (hF:1<=f/\f<=100):ai gT 135 [.int .i64 f] (.int .u32 (mW f)):=by
 refine Spec.enter al P135 100 Tryz.func135 rfl (by kernel_rfl) ?_
 refine⟨by omega,show f < 101 by omega,.inr ⟨rfl,by omega,show 0+f.toNat*1 < 101 by omega,fun c hc=>?_⟩⟩
 have yL:((0::Vc).map (PV.lit .u32))[f.toNat]?=some c:=by
  have e:0+f.toNat*1=f.toNat:=by omega
  have h0:((0::Vc).map (PV.lit .u32))[0+f.toNat*1]?=some c:=hc
  rwa [e] at h0
 obtain rfl:=O' yL
 refine aw (show (0::Vc).getD f.toNat 0=mW f from ?_)
 unfold mW
 rw[if_pos hF,show f.toNat=(f - 1).toNat+1 by omega]
 rfl
theorem gI (f:Int):ai gT 102 [.int .i64 f] (.int .u32 (mW f)):=by
 refine Spec.enter al P102 100 Tryz.func102 rfl (by kernel_rfl) ?_
 refine (nM f).u ?_
 refine⟨fun h=>?_,fun h=>?_⟩
 ·exact aw (show (0:Int)=mW f by unfold mW; rw[if_neg h])
 refine (xd f (Classical.not_not.1 h)).u ?_
 exact aw rfl
def O_ (x:Nat × Nat × Nat × Nat):Prop:=x.1 < 10/\x.2.1<=40/\1<=x.2.2.2/\x.2.2.1+x.2.2.2<=32
theorem jc (s:Int) (h:s < 1\/34 < s):aD s = []:=by
 unfold aD
 repeat rw[if_neg (by omega)]
def fdB (l:List (Nat × Nat × Nat × Nat)):Bool:=l.all (fun x=>decide (x.1 < 10/\x.2.1<=40/\1<=x.2.2.2/\x.2.2.1+x.2.2.2<=32)) && decide (l.length<=7)
theorem zl:∀ k:Fin 35,fdB (aD ((k.1:Nat):Int))=true:=by decide
theorem tG (s:Int):fdB (aD s)=true:=by
 by_cases h:s < 1\/34 < s
 ·rw[jc s h]; rfl
 ·have h1:=zl ⟨s.toNat,by omega⟩
  rwa [show (((⟨s.toNat,by omega⟩:Fin 35).1:Nat):Int)=s by simp only[]; omega] at h1
theorem zm (s:Int):(aD s).all (fun x=>decide (x.1 < 10/\x.2.1<=40/\1<=x.2.2.2/\x.2.2.1+x.2.2.2<=32))=true :=
 ((Bool.and_eq_true ..).mp (tG s)).1
theorem Cg (s:Int):∀ x∈aD s,O_ x:=fun x hx=>by
 have:=List.all_eq_true.1 (zm s) x hx
 exact (of_decide_eq_true (p:=x.1 < 10/\x.2.1<=40/\1<=x.2.2.2/\x.2.2.1+x.2.2.2<=32) this)
theorem zn (s:Int):(aD s).length<=7 :=
 of_decide_eq_true ((Bool.and_eq_true ..).mp (tG s)).2
def xe (i:IN) (w:Nat) (x:Nat × Nat × Nat × Nat):Nat:=plus w (ab (j5 i x.1) x.2.1 x.2.2.2).toNat x.2.2.1 x.2.2.2
def tH (i:IN) (l:List (Nat × Nat × Nat × Nat)):Nat:=l.foldl (xe i) (mW i.form).toNat
theorem Kr (w n a b:Nat) (hw:w < 2 ^ 32) (h:a+b<=32):plus w n a b < 2 ^ 32:=by
 unfold plus
 refine Nat.or_lt_two_pow hw ?_
 rw[Nat.shiftLeft_eq]
 have h1:n % 2 ^ b < 2 ^ b:=Nat.mod_lt _ (Nat.two_pow_pos b)
 calc n % 2 ^ b*2 ^ a < 2 ^ b*2 ^ a:=Nat.mul_lt_mul_of_pos_right h1 (Nat.two_pow_pos a)
  _=2 ^ (b+a):=(Nat.pow_add ..).symm
  _<=2 ^ 32:=Nat.pow_le_pow_right (by omega) (by omega)
theorem af (n:Int) (l w:Nat):0<=ab n l w/\ab n l w < 2 ^ w:=by
 have hp:(0:Int) < 2 ^ w:=by have:=cK w; have:=Nat.two_pow_pos w; omega
 exact⟨Int.emod_nonneg _ (by omega),Int.emod_lt_of_pos _ hp⟩
theorem tI (n l w:Nat):ab n l w=((n / 2 ^ l % 2 ^ w:Nat):Int):=by
 unfold ab
 rw[if_neg (by omega),← cK,← cK]
 norm_cast
def mf (s n:Int) (k:Nat):Int:=n+((if ab n k 1=s then 1 else 0) - ab n k 1)*2 ^ k
def bL (n:Int):Nat->Int
 | 0=>n
 | k+1=>mf (ab n 24 1) (bL n k) (22+k)
theorem j6 (n:Int) (k:Nat):ab n k 1=0\/ab n k 1=1:=by
 have:=af n k 1
 have e:(2:Int) ^ 1=2:=rfl
 omega
theorem xf (s n:Int) (k:Nat) (hk:k=22\/k=23):n - 8388608<=mf s n k/\mf s n k<=n+8388608:=by
 have hb:=j6 n k
 have p:(2:Int) ^ 22=4194304:=by decide
 have q:(2:Int) ^ 23=8388608:=by decide
 unfold mf
 rcases hk with rfl|rfl<;>rcases hb with h|h<;>rw[h]<;>split<;>omega
theorem FY (n:Int) (k:Nat) (hk:k<=2):n - 16777216<=bL n k/\bL n k<=n+16777216:=by
 have h0:=xf (ab n 24 1) (bL n 0) 22 (.inl rfl)
 have h1:=xf (ab n 24 1) (bL n 1) 23 (.inr rfl)
 have e0:bL n 0=n:=rfl
 have e1:bL n 1=mf (ab n 24 1) (bL n 0) 22:=rfl
 have e2:bL n 2=mf (ab n 24 1) (bL n 1) 23:=rfl
 match k,hk with
 | 0,_=>omega
 | 1,_=>omega
 | 2,_=>omega
def dh (n:Int) (w:Nat):Int:=if ab n (w - 1) 1=1 then n - 2 ^ w else n
def d_ (i:IN):IN:=if aa i.form=34 then {i with az:=bL (ab i.az 0 25) 2} else i
def bC (i:IN):Int:=((tH (d_ i) (aD (aa i.form)):Nat):Int)
theorem Pa:Vc.all (fun z=>decide (0<=z/\z < 4294967296))=true:=by decide
theorem AM (f:Int):0<=mW f/\mW f < 4294967296:=by
 unfold mW
 split
 ·rw[List.getD_eq_getElem?_getD]
  cases h:Vc[(f - 1).toNat]? with
  | none=>exact⟨Int.le_refl 0,by decide⟩
  | some z=>exact of_decide_eq_true (List.all_eq_true.1 Pa z (List.mem_of_getElem? h))
 ·omega
theorem FZ (i:IN) (l:List (Nat × Nat × Nat × Nat)) (h:∀ y∈l,O_ y):∀ w,w < 2 ^ 32->l.foldl (xe i) w < 2 ^ 32:=by
 induction l with
 | nil=>exact fun w hw=>hw
 | cons y l ih=>exact fun w hw=>ih (fun z hz=>h z (List.mem_cons_of_mem _ hz)) _ (Kr w _ _ _ hw (h y List.mem_cons_self).2.2.2)
theorem F0 (i:IN) (l:List (Nat × Nat × Nat × Nat)) (h:∀ y∈l,O_ y):tH i l < 2 ^ 32 :=
 FZ i l h _ (by have:=AM i.form; omega)
def vF (i:IN) (x:Nat × Nat × Nat × Nat):Nat:=(ab (j5 i x.1) x.2.1 x.2.2.2).toNat
theorem NC (i:IN) (x:Nat × Nat × Nat × Nat):vF i x < 2 ^ x.2.2.2:=by
 have:=af (j5 i x.1) x.2.1 x.2.2.2
 have e:=cK x.2.2.2
 unfold vF; omega
theorem Ch (w n a b p:Nat):(plus w n a b).testBit p=(w.testBit p || (decide (a<=p) && decide (p < a+b) && n.testBit (p - a))):=by
 unfold plus
 rw[Nat.testBit_or,Nat.testBit_shiftLeft,Nat.testBit_mod_two_pow]
 congr 1
 by_cases h:a<=p
 ·by_cases h2:p < a+b
  ·rw[decide_eq_true h2,decide_eq_true (show p - a < b by omega)]; simp[h]
  ·rw[decide_eq_false h2,decide_eq_false (show ¬ p - a < b by omega)]; simp
 ·simp[h]
def Wk (p:Nat) (x:Nat × Nat × Nat × Nat):Bool:=decide (x.2.2.1<=p) && decide (p < x.2.2.1+x.2.2.2)
theorem oQ (i:IN) (p:Nat):∀ (l:List (Nat × Nat × Nat × Nat)) (W:Nat),(l.foldl (xe i) W).testBit p=(W.testBit p || l.any fun x=>Wk p x && (vF i x).testBit (p - x.2.2.1))
 | [],W=>by simp
 | x::l,W=>by
  rw[List.foldl_cons,oQ i p l,List.any_cons,← Bool.or_assoc]
  congr 1
  exact Ch W (vF i x) x.2.2.1 x.2.2.2 p
def zo (l:List (Nat × Nat × Nat × Nat)):Bool:=l.all fun x=>l.all fun y=>decide (x=y) || decide (x.2.2.1+x.2.2.2<=y.2.2.1) || decide (y.2.2.1+y.2.2.2<=x.2.2.1)
def F1 (W:Nat) (l:List (Nat × Nat × Nat × Nat)):Bool:=l.all fun x=>decide (W / 2 ^ x.2.2.1 % 2 ^ x.2.2.2=0)
theorem Ci:∀ k:Fin 35,zo (aD ((k.1:Nat):Int))=true:=by decide
theorem vb (s:Int):zo (aD s)=true:=by
 by_cases h:s < 1\/34 < s
 ·rw[jc s h]; rfl
 ·have h1:=Ci ⟨s.toNat,by omega⟩
  rwa [show (((⟨s.toNat,by omega⟩:Fin 35).1:Nat):Int)=s by simp only[]; omega] at h1
theorem F2:(List.range 101).all (fun k=>F1 (mW (k:Int)).toNat (aD (aa (k:Int))))=true:=by decide +kernel
theorem xg (f:Int):F1 (mW f).toNat (aD (aa f))=true:=by
 by_cases h:1<=f/\f<=100
 ·have h1:=List.all_eq_true.1 F2 f.toNat (List.mem_range.2 (by omega))
  rwa [show ((f.toNat:Nat):Int)=f by omega] at h1
 ·unfold aa; rw[if_neg h,jc 0 (by omega)]; rfl
theorem zp (i:IN) {l:List (Nat × Nat × Nat × Nat)} {W:Nat} (ha:zo l=true) (hf:F1 W l=true) {x:Nat × Nat × Nat × Nat} (hx:x∈l):(l.foldl (xe i) W) / 2 ^ x.2.2.1 % 2 ^ x.2.2.2=vF i x:=by
 apply Nat.eq_of_testBit_eq
 intro p
 rw[Nat.testBit_mod_two_pow,Nat.testBit_div_two_pow]
 by_cases hp:p < x.2.2.2
 ·rw[decide_eq_true hp,Bool.true_and,oQ]
  have h0:W.testBit (p+x.2.2.1)=false:=by
   have h1:=of_decide_eq_true (List.all_eq_true.1 hf x hx)
   have h2:(W / 2 ^ x.2.2.1 % 2 ^ x.2.2.2).testBit p=false:=by rw[h1]; simp
   rw[Nat.testBit_mod_two_pow,Nat.testBit_div_two_pow,decide_eq_true hp,Bool.true_and] at h2
   exact h2
  rw[h0,Bool.false_or,Bool.eq_iff_iff,List.any_eq_true]
  constructor
  ·rintro⟨y,hy,hb⟩
   simp only[Bool.and_eq_true,Wk,decide_eq_true_eq] at hb
   have h3:=List.all_eq_true.1 (List.all_eq_true.1 ha x hx) y hy
   simp only[Bool.or_eq_true,decide_eq_true_eq] at h3
   rcases h3 with (rfl|h3)|h3
   ·have:=hb.2; rwa [show p+x.2.2.1 - x.2.2.1=p by omega] at this
   ·omega
   ·omega
  ·intro hb
   refine⟨x,hx,?_⟩
   simp only[Bool.and_eq_true,Wk,decide_eq_true_eq]
   exact⟨⟨by omega,by omega⟩,by rwa [show p+x.2.2.1 - x.2.2.1=p by omega]⟩
 ·rw[decide_eq_false hp,Bool.false_and]
  exact (Nat.testBit_lt_two_pow (Nat.lt_of_lt_of_le (NC i x) (Nat.pow_le_pow_right (by decide) (by omega)))).symm
def Vd (l:List (Nat × Nat × Nat × Nat)) (p:Nat):Bool:=l.all fun x=>!Wk p x
theorem zq (i:IN) {l:List (Nat × Nat × Nat × Nat)} {W p:Nat} (h:Vd l p=true):(l.foldl (xe i) W).testBit p=W.testBit p:=by
 rw[oQ]
 have:(l.any fun x=>Wk p x && (vF i x).testBit (p - x.2.2.1))=false:=by
  rw[List.any_eq_false]
  intro x hx
  have:=List.all_eq_true.1 h x hx
  simp only[Bool.not_eq_true'] at this
  rw[this]; simp
 rw[this,Bool.or_false]
def Ks (f:Nat):Nat:=(mW (f:Int)).toNat
def Pb (f:Nat):List (Nat × Nat × Nat × Nat):=aD (aa (f:Int))
def F3 (f g:Nat):Bool:=(Pb f).any fun x=>decide (x.1 < 4) && decide (x.2.1=0) && decide (x.2.2.2=4) && ([0,1,2,3].all fun k=>Vd (Pb g) (x.2.2.1+k) && (Ks g).testBit (x.2.2.1+k))
def AN (f g:Nat):Bool:=decide (f=g) || ((List.range 32).any fun p=>Vd (Pb f) p && Vd (Pb g) p && ((Ks f).testBit p != (Ks g).testBit p)) || F3 f g || F3 g f
theorem vc:((List.range 47).all fun f=>(List.range 47).all fun g=>AN (f+1) (g+1))=true:=by decide +kernel
theorem zr:((List.range 53).all fun f=>(List.range 53).all fun g=>AN (f+48) (g+48))=true:=by decide +kernel
theorem gm {c r:Int} (h:aG c r):0<=r/\r < 15:=by unfold aG at h; omega
theorem mI {i:IN} (h:au i):(0<=i.rd/\i.rd < 15)/\(0<=i.rn/\i.rn < 15)/\(0<=i.rm/\i.rm < 15)/\(0<=i.ra/\i.ra < 15):=by
 obtain⟨_,h1,h2,h3,h4,_⟩:=h
 exact⟨gm h1,gm h2,gm h3,gm h4⟩
theorem iD (i:IN):(d_ i).form=i.form:=by unfold d_; split<;>rfl
theorem Cj (i:IN) (f:Nat) (hf:f < 4):j5 (d_ i) f=j5 i f:=by
 unfold d_
 split
 ·match f,hf with
  | 0,_|1,_|2,_|3,_=>rfl
 ·rfl
theorem mJ (i:IN) {p:Nat} (h:Vd (aD (aa i.form)) p=true):(bC i).toNat.testBit p=(mW i.form).toNat.testBit p:=by
 unfold bC tH
 rw[Int.toNat_natCast,zq _ h,iD]
theorem rk (i:IN) {x:Nat × Nat × Nat × Nat} (hx:x∈aD (aa i.form)):(bC i).toNat / 2 ^ x.2.2.1 % 2 ^ x.2.2.2=vF (d_ i) x:=by
 unfold bC tH
 rw[Int.toNat_natCast]
 have h:=xg i.form
 rw[← iD i] at h
 refine zp (d_ i) (vb _) ?_ hx
 rw[iD] at h ⊢
 exact h
theorem Wl:∀ v:Fin 16,(v.1.testBit 0=true/\v.1.testBit 1=true/\v.1.testBit 2=true/\v.1.testBit 3=true)->v.1=15:=by decide
theorem AO {a b:IN} (ha:au a) (fa:a.form=((a.form.toNat:Nat):Int)) (fb:b.form=((b.form.toNat:Nat):Int)) (h:F3 a.form.toNat b.form.toNat=true):bC a≠bC b:=fun e=>by
 obtain⟨x,hx,h⟩:=List.any_eq_true.1 h
 simp only[Bool.and_eq_true,decide_eq_true_eq] at h
 obtain⟨⟨⟨h1,h2⟩,h3⟩,h4⟩:=h
 have tz:x∈aD (aa a.form):=by rw[fa]; exact hx
 have hf:=rk a tz
 have hr:vF (d_ a) x < 15:=by
  unfold vF
  rw[Cj a x.1 h1,h2,h3]
  obtain⟨r0,r1,r2,r3⟩:=mI ha
  have key:∀ r:Int,0<=r/\r < 15->(ab r 0 4).toNat < 15:=fun r hr=>by
   unfold ab; rw[if_neg (by omega)]
   have e0:(2:Int) ^ 0=1:=rfl
   have e4:(2:Int) ^ 4=16:=rfl
   rw[e0,e4]; omega
  match x.1,h1 with
  | 0,_=>exact key _ r0
  | 1,_=>exact key _ r1
  | 2,_=>exact key _ r2
  | 3,_=>exact key _ r3
 have hv:∀ k,k∈[0,1,2,3]->(vF (d_ a) x).testBit k=true:=fun k hk=>by
  have h5:=List.all_eq_true.1 h4 k hk
  simp only[Bool.and_eq_true] at h5
  have hk4:k < 4:=by simp at hk; omega
  rw[← hf,h3,Nat.testBit_mod_two_pow,Nat.testBit_div_two_pow,decide_eq_true hk4,Bool.true_and,e]
  have h6:Vd (aD (aa b.form)) (x.2.2.1+k)=true:=by rw[fb]; exact h5.1
  rw[Nat.add_comm,mJ b h6]
  have h7:=h5.2
  unfold Ks at h7
  rw[← fb] at h7
  exact h7
 have:=Wl ⟨vF (d_ a) x,by omega⟩ ⟨hv 0 (by simp),hv 1 (by simp),hv 2 (by simp),hv 3 (by simp)⟩
 simp only[] at this
 omega
theorem AP {a b:IN} (ha:au a) (hb:au b) (h:AN a.form.toNat b.form.toNat=true) (e:bC a=bC b):a.form=b.form:=by
 have f1:=ha.1
 have f2:=hb.1
 have fa:a.form=((a.form.toNat:Nat):Int):=by omega
 have fb:b.form=((b.form.toNat:Nat):Int):=by omega
 unfold AN at h
 simp only[Bool.or_eq_true,decide_eq_true_eq] at h
 rcases h with ((h|h)|h)|h
 ·omega
 ·obtain⟨p,_,h⟩:=List.any_eq_true.1 h
  simp only[Bool.and_eq_true] at h
  obtain⟨⟨h1,h2⟩,h3⟩:=h
  have k1:=mJ a (p:=p) (by rw[fa]; exact h1)
  have k2:=mJ b (p:=p) (by rw[fb]; exact h2)
  unfold Ks at h3
  rw[← fa,← fb,← k1,← k2,e] at h3
  simp at h3
 ·exact absurd e (AO ha fa fb h)
 ·exact absurd e.symm (AO hb fb fa h)
theorem Ck {a b:IN} (ha:au a) (hb:au b) (hw:48<=a.form↔48<=b.form) (e:bC a=bC b):a.form=b.form:=by
 have f1:=ha.1
 have f2:=hb.1
 by_cases h:48<=a.form
 ·have h1:=List.all_eq_true.1 (List.all_eq_true.1 zr (a.form.toNat - 48) (List.mem_range.2 (by omega))) (b.form.toNat - 48) (List.mem_range.2 (by have:=hw.1 h; omega))
  rw[show a.form.toNat - 48+48=a.form.toNat by omega,show b.form.toNat - 48+48=b.form.toNat by have:=hw.1 h; omega] at h1
  exact AP ha hb h1 e
 ·have h1:=List.all_eq_true.1 (List.all_eq_true.1 vc (a.form.toNat - 1) (List.mem_range.2 (by omega))) (b.form.toNat - 1) (List.mem_range.2 (by omega))
  rw[show a.form.toNat - 1+1=a.form.toNat by omega,show b.form.toNat - 1+1=b.form.toNat by omega] at h1
  exact AP ha hb h1 e
def xV (s w:Int) (f:Nat):Int:=((aD s).filter fun x=>decide (x.1=f)).foldl (fun a x=>a+ab w x.2.2.1 x.2.2.2*2 ^ x.2.1) 0
def pV (s f x:Int):Int:=if s=15 then dh x 9 else if s=16 then dh x 12 else if s=33 then dh x 21 else if s=34 then dh (bL x 2) 25 else if s=1/\1 < f/\x=0 then 32 else x
def ND (s k x:Int):Int:=if 21<=s/\s<=23/\x=0/\(k=1\/k=2) then 32 else x
def Wm (s w x:Int):Int:=if s=32 then ab w 0 4 else x
def bd (f w:Int):IN:=⟨f,xV (aa f) w 0,xV (aa f) w 1,Wm (aa f) w (xV (aa f) w 2),xV (aa f) w 3,pV (aa f) f (xV (aa f) w 4),xV (aa f) w 5,ND (aa f) (xV (aa f) w 5) (xV (aa f) w 6),xV (aa f) w 7,xV (aa f) w 8,xV (aa f) w 9⟩
def xR (s:Int) (i:IN) (f:Nat):Int:=((aD s).filter fun x=>decide (x.1=f)).foldl (fun a x=>a+ab (j5 i x.1) x.2.1 x.2.2.2*2 ^ x.2.1) 0
theorem rp {α β:Type} {f g:β->α->β}:∀ {l:List α} {b:β},(∀ b x,x∈l->f b x=g b x)->l.foldl f b=l.foldl g b
 | [],_,_=>rfl
 | x::l,b,h=>by rw[List.foldl_cons,List.foldl_cons,h b x (List.mem_cons_self ..)]; exact rp fun b y hy=>h b y (List.mem_cons_of_mem _ hy)
theorem Pc (i:IN) (x:Nat × Nat × Nat × Nat):((vF i x:Nat):Int)=ab (j5 i x.1) x.2.1 x.2.2.2:=Int.toNat_of_nonneg (af ..).1
theorem tJ (i:IN) {x:Nat × Nat × Nat × Nat} (hx:x∈aD (aa i.form)):ab (bC i) x.2.2.1 x.2.2.2=ab (j5 (d_ i) x.1) x.2.1 x.2.2.2:=by
 have h:=rk i hx
 have e:bC i=(((bC i).toNat:Nat):Int):=by unfold bC; rw[Int.toNat_natCast]
 rw[e,tI,h,Pc]
theorem gJ (i:IN) (f:Nat):xV (aa i.form) (bC i) f=xR (aa i.form) (d_ i) f:=by
 unfold xV xR
 refine rp fun b x hx=>?_
 rw[tJ i (List.mem_filter.1 hx).1]
theorem kY {f:Int} (h:1<=f/\f<=100):1<=aa f/\aa f<=34:=by
 have h1:((List.range 100).all fun k=>decide (1<=aa ((k+1:Nat):Int)/\aa ((k+1:Nat):Int)<=34))=true:=by decide +kernel
 have h2:=of_decide_eq_true (List.all_eq_true.1 h1 (f.toNat - 1) (List.mem_range.2 (by omega)))
 rwa [show (((f.toNat - 1+1:Nat)):Int)=f by omega] at h2
theorem tK {f:Int} (h:1<=f/\f<=100):aa f=1->f=1\/f=2\/f=3:=by
 have h1:((List.range 100).all fun k=>decide (aa ((k+1:Nat):Int)=1->k < 3))=true:=by decide +kernel
 have h2:=of_decide_eq_true (List.all_eq_true.1 h1 (f.toNat - 1) (List.mem_range.2 (by omega)))
 rw[show (((f.toNat - 1+1:Nat)):Int)=f by omega] at h2
 intro h3; have:=h2 h3; omega
theorem tm0 {n s:Int} (h:n.tmod s=0):n % s=0:=Int.emod_eq_zero_of_dvd (Int.dvd_of_tmod_eq_zero h)
theorem xh {f t s n:Int} (h:dG f t s n):(s=0/\n=0)\/(s≠0/\f<=n/\n<=t/\n % s=0):=h.imp id fun ⟨a,b,c,d⟩=>⟨a,b,c,tm0 d⟩
theorem F4 (x k:Nat):x &&& 2 ^ k=(x / 2 ^ k % 2)*2 ^ k:=by
 apply Nat.eq_of_testBit_eq
 intro i
 rw[Nat.testBit_and,Nat.testBit_two_pow]
 rcases Nat.mod_two_eq_zero_or_one (x / 2 ^ k) with h|h
 ·rw[h,Nat.zero_mul,Nat.zero_testBit]
  by_cases hi:k=i
  ·subst hi; rw[Nat.testBit_eq_decide_div_mod_eq]; simp[h]
  ·simp[hi]
 ·rw[h,Nat.one_mul,Nat.testBit_two_pow]
  by_cases hi:k=i
  ·subst hi; rw[Nat.testBit_eq_decide_div_mod_eq]; simp[h]
  ·simp[hi]
theorem Cl (k x:Nat) (hk:8<=k):x &&& (2 ^ k ||| (2 ^ 8 - 1))=(x / 2 ^ k % 2)*2 ^ k+x % 256:=by
 rw[Nat.and_or_distrib_left,Nat.and_two_pow_sub_one_eq_mod,F4]
 have cJ:x % 2 ^ 8 < 2 ^ k:=Nat.lt_of_lt_of_le (Nat.mod_lt _ (by decide)) (Nat.pow_le_pow_right (by decide) hk)
 have:=Nat.two_pow_add_eq_or_of_lt cJ (x / 2 ^ k % 2)
 rw[Nat.mul_comm,← this]
theorem xi (a m:Nat) (ha:a < 9223372036854775808) (hm:m < 9223372036854775808) (h:bits .andNot .i64 (a:Int) (m:Int)=0):a &&& m=a:=by
 have e:∀ c:Nat,c < 9223372036854775808->(BitVec.ofInt 64 (c:Int)).toNat=c:=fun c hc=>by
  rw[BitVec.ofInt_natCast,BitVec.toNat_ofNat]; exact Nat.mod_eq_of_lt (by omega)
 have h1:IntKind.i64.wrap ((BitVec.ofInt 64 (a:Int) &&& ~~~ BitVec.ofInt 64 (m:Int)).toNat:Int)=0:=h
 have cJ:(BitVec.ofInt 64 (a:Int) &&& ~~~ BitVec.ofInt 64 (m:Int)).toNat < 9223372036854775808:=by
  rw[BitVec.toNat_and,e a ha]
  exact Nat.lt_of_le_of_lt Nat.and_le_left ha
 rw[IntKind.wrap_i64] at h1
 have h2:(BitVec.ofInt 64 (a:Int) &&& ~~~ BitVec.ofInt 64 (m:Int))=0#64:=BitVec.eq_of_toNat_eq (by rw[BitVec.toNat_ofNat]; omega)
 have h3:BitVec.ofInt 64 (a:Int) &&& BitVec.ofInt 64 (m:Int)=BitVec.ofInt 64 (a:Int):=by
  apply BitVec.eq_of_getLsbD_eq
  intro i hi
  have h4:=congrArg (fun v=>v.getLsbD i) h2
  simp only[BitVec.getLsbD_and,BitVec.getLsbD_not,BitVec.getLsbD_zero,hi,decide_true,Bool.true_and] at h4
  rw[BitVec.getLsbD_and]
  cases ha:(BitVec.ofInt 64 (a:Int)).getLsbD i<;>cases hb:(BitVec.ofInt 64 (m:Int)).getLsbD i<;>simp_all
 have h5:=congrArg BitVec.toNat h3
 rwa [BitVec.toNat_and,e a ha,e m hm] at h5
theorem vd (k:Nat) (hk:8<=k) (sI:k<=15) (r m:Int) (hm:m=2 ^ k+255) (h0:0 < r) (h1:r<=9223372036854775807) (h:bits .andNot .i64 r m=0):r / 2 ^ k % 2*2 ^ k+r % 256=r:=by
 have e:=xi r.toNat (2 ^ k+255) (by omega) (by have:=Nat.pow_le_pow_right (n:=2) (by omega) sI; omega) (by
  rw[show ((r.toNat:Nat):Int)=r by omega,show (((2 ^ k+255:Nat)):Int)=m by rw[hm]; push_cast; rfl]; exact h)
 have e2:2 ^ k+255=2 ^ k ||| (2 ^ 8 - 1):=by
  have cJ:255 < 2 ^ k:=Nat.lt_of_lt_of_le (show 255 < 2 ^ 8 by decide) (Nat.pow_le_pow_right (by decide) hk)
  have:=Nat.two_pow_add_eq_or_of_lt cJ 1
  rwa [Nat.mul_one] at this
 rw[e2,Cl k _ hk] at e
 have e3:((r.toNat / 2 ^ k % 2*2 ^ k+r.toNat % 256:Nat):Int)=((r.toNat:Nat):Int):=congrArg _ e
 push_cast at e3
 rw[show ((r.toNat:Nat):Int)=r by omega] at e3
 exact e3
theorem ve {n:Int} (h:0<=n/\n < 33554432):∃ a,0<=a/\a < 4194304/\(n=a\/n=4194304+a\/n=8388608+a\/n=12582912+a\/n=16777216+a\/n=20971520+a\/n=25165824+a\/n=29360128+a):=⟨n % 4194304,by omega⟩
theorem nO (n:Int) (h:0<=n/\n < 33554432):bL n 2=n+((if n / 4194304 % 2=n / 16777216 % 2 then 1 else 0) - n / 4194304 % 2)*4194304+((if n / 8388608 % 2=n / 16777216 % 2 then 1 else 0) - n / 8388608 % 2)*8388608:=by
 have p22:(2:Int) ^ 22=4194304:=by decide
 have p23:(2:Int) ^ 23=8388608:=by decide
 have p24:(2:Int) ^ 24=16777216:=by decide
 have p1:(2:Int) ^ 1=2:=by decide
 have b:∀ m:Int,0<=m->∀ k,ab m k 1=m / 2 ^ k % 2:=fun m hm k=>by unfold ab; rw[if_neg (by omega),p1]
 obtain⟨t,ht⟩:∃ t,t=mf (ab n 24 1) n 22:=⟨_,rfl⟩
 have e:bL n 2=mf (ab n 24 1) t 23:=by rw[ht]; rfl
 unfold mf at ht
 rw[b n h.1,b n h.1,p24,p22] at ht
 have ht0:0<=t/\t < 33554432/\t / 8388608 % 2=n / 8388608 % 2:=by
  obtain⟨a,a0,a1,h8⟩:=ve h
  rcases h8 with h8|h8|h8|h8|h8|h8|h8|h8<;>split at ht<;>omega
 rw[e]
 unfold mf
 rw[b n h.1,b t ht0.1,p24,p23,ht0.2.2,ht]
theorem nP {n:Int} (h:0<=n/\n < 33554432):0<=bL n 2/\bL n 2 < 33554432:=by
 rw[nO n h]
 obtain⟨a,a0,a1,h8⟩:=ve h
 rcases h8 with h8|h8|h8|h8|h8|h8|h8|h8<;>split<;>split<;>omega
theorem lJ {n:Int} (h:0<=n/\n < 33554432):bL n 2 / 16777216=n / 16777216/\bL n 2 % 4194304=n % 4194304/\bL n 2 / 4194304 % 2=(if n / 4194304 % 2=n / 16777216 % 2 then 1 else 0)/\bL n 2 / 8388608 % 2=(if n / 8388608 % 2=n / 16777216 % 2 then 1 else 0):=by
 rw[nO n h]
 obtain⟨a,a0,a1,h8⟩:=ve h
 rcases h8 with h8|h8|h8|h8|h8|h8|h8|h8<;>split<;>split<;>omega
theorem Cm {n:Int} (h:0<=n/\n < 33554432):bL (bL n 2) 2=n:=by
 have c:=lJ h
 rw[nO _ (nP h),c.1,c.2.2.1,c.2.2.2,nO n h]
 clear c
 obtain⟨a,a0,a1,h8⟩:=ve h
 have e24:n / 16777216 % 2=n / 16777216:=by omega
 rw[e24]
 rcases h8 with h8|h8|h8|h8|h8|h8|h8|h8
 ·have x:n / 4194304 % 2=0:=by omega
  have y:n / 8388608 % 2=0:=by omega
  have z:n / 16777216=0:=by omega
  rw[x,y,z]; simp<;>omega
 ·have x:n / 4194304 % 2=1:=by omega
  have y:n / 8388608 % 2=0:=by omega
  have z:n / 16777216=0:=by omega
  rw[x,y,z]; simp<;>omega
 ·have x:n / 4194304 % 2=0:=by omega
  have y:n / 8388608 % 2=1:=by omega
  have z:n / 16777216=0:=by omega
  rw[x,y,z]; simp<;>omega
 ·have x:n / 4194304 % 2=1:=by omega
  have y:n / 8388608 % 2=1:=by omega
  have z:n / 16777216=0:=by omega
  rw[x,y,z]; simp<;>omega
 ·have x:n / 4194304 % 2=0:=by omega
  have y:n / 8388608 % 2=0:=by omega
  have z:n / 16777216=1:=by omega
  rw[x,y,z]; simp<;>omega
 ·have x:n / 4194304 % 2=1:=by omega
  have y:n / 8388608 % 2=0:=by omega
  have z:n / 16777216=1:=by omega
  rw[x,y,z]; simp<;>omega
 ·have x:n / 4194304 % 2=0:=by omega
  have y:n / 8388608 % 2=1:=by omega
  have z:n / 16777216=1:=by omega
  rw[x,y,z]; simp<;>omega
 ·have x:n / 4194304 % 2=1:=by omega
  have y:n / 8388608 % 2=1:=by omega
  have z:n / 16777216=1:=by omega
  rw[x,y,z]; simp<;>omega
theorem aQ {i:IN} (h:aa i.form≠34):d_ i=i:=if_neg h
theorem Wn {i:IN} (h:aa i.form=34):d_ i = {i with az:=bL (ab i.az 0 25) 2}:=if_pos h
theorem bg {a b:IN} (h0:a.form=b.form) (h1:a.rd=b.rd) (h2:a.rn=b.rn) (h3:a.rm=b.rm) (h4:a.ra=b.ra) (h5:a.az=b.az) (h6:a.kind=b.kind) (h7:a.bG=b.bG) (h8:a.set=b.set) (h9:a.cond=b.cond) (cV:a.ar=b.ar):a=b:=by
 cases a; cases b; simp_all
def cY (s:Int) (i:IN):IN:=⟨i.form,xR s i 0,xR s i 1,if s=32 then ab i.rm 0 4 else xR s i 2,xR s i 3,pV s i.form (xR s i 4),xR s i 5,ND s (xR s i 5) (xR s i 6),xR s i 7,xR s i 8,xR s i 9⟩
theorem Cn (i:IN) (Kt:aa i.form=32->ab (bC i) 0 4=ab (d_ i).rm 0 4):bd i.form (bC i) = {cY (aa i.form) (d_ i) with form:=i.form}:=by
 unfold bd cY
 rw[gJ,gJ,gJ,gJ,gJ,gJ,gJ,gJ,gJ,gJ,iD]
 unfold Wm
 by_cases h:aa i.form=32
 ·rw[if_pos h,if_pos h,Kt h]
 ·rw[if_neg h,if_neg h]
end Go.Proofs.YtlgkljpgagfndaaGreatDoor.Pw

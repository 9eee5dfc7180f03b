/- What this claim is proved with: no condition. -/
import Derived.Test.YtlgkljpgagfndaaGreatDoorNu9
import Derived.Test.YtlgkljpgagfndaaGreatDoorNu10
import Derived.Test.YtlgkljpgagfndaaGreatDoorNuImmD
import Derived.Laws.BitsLemmas
set_option maxRecDepth 100000
set_option maxHeartbeats 16000000
set_option linter.unusedVariables false
set_option linter.unusedSimpArgs false
namespace Go.Proofs.YtlgkljpgagfndaaGreatDoor.Pw
open Go Go.RowKit
theorem fY {f:FuncId} {fn:Func} {c:Code} (hf:Tryz.prog.funcs[f]?=some fn) (hb:fn.body=some c) (hn:(fn.name == "runtime.NumGoroutine")=false):Ev.iu gT.cx.P f:=Ev.l7 hf hb hn
theorem sg {w:World} {I:Nat->Prop} {β:aB}:bG w I [] β []:=by simp only[bG]
theorem iy {w:World} {I:Nat->Prop} {β:aB} {x:PV} {v:Value} {xs:List PV} {vs:List Value} (h:x.Is w I β v) (h':bG w I xs β vs):bG w I (x::xs) β (v::vs):=by simp only[bG]; exact⟨h,h'⟩
theorem dn {w:World} {I:Nat->Prop} {β:aB} (k:IntKind) (n:Int):(PV.int k n).Is w I β (.int k n):=by simp only[PV.Is]
theorem jI {w:World} {I:Nat->Prop} {β:aB} {xs:List PV} {vs:Array Value} (h:bG w I xs β vs.toList):(PV.tup xs).Is w I β (.tuple vs):=by simp only[PV.Is]; exact⟨vs,rfl,h⟩
theorem Yh {w:World} {I:Nat->Prop} {β:aB} {x:PV} {vals:List Value} (h:bG w I [x] β vals):∃ v,vals = [v]/\x.Is w I β v:=by
 match vals,h with
 | [v],h=>exact⟨v,rfl,by simpa only [bG,and_true] using h⟩
theorem isL2 {w:World} {I:Nat->Prop} {β:aB} {x y:PV} {vals:List Value} (h:bG w I [x,y] β vals):∃ v u,vals = [v,u]/\x.Is w I β v/\y.Is w I β u:=by
 match vals,h with
 | [v,u],h=>exact⟨v,u,rfl,by simpa only [bG,and_true] using h⟩
theorem LF {G:Gx} {I:Nat->Prop} {w:World} (hM:de G I w) {g:Nat} {k:IntKind} {l:List Int} (h:(g,l.map (PV.lit k))∈G.mV):∃ ty fr,w.heap[g]?=some (.cells (l.map (Value.int k)).toArray ty fr):=by
 obtain⟨arr,ty,fr,h1,h2⟩:=hM.row _ _ h
 obtain⟨_,h3⟩:=hM.nG _ _ h
 refine⟨ty,fr,?_⟩
 rw[h1]
 congr 2
 refine Array.ext' (List.ext_getElem? fun i=>?_)
 rw[List.length_map] at h2
 by_cases hi:i < l.length
 ·obtain⟨v,hv,hiv,_⟩:=h3.get (i:=i) (c:=PV.lit k l[i]) (by simp[hi])
  rw[Ev.gy h1,Nat.zero_add] at hv
  simp only[PV.Is] at hiv
  subst hiv
  simp only[Array.getElem?_toList,hv,List.getElem?_map,List.getElem?_eq_getElem hi,Option.map_some]
 ·rw[List.getElem?_eq_none (by simp; omega),List.getElem?_eq_none (by simp; omega)]
theorem ai.G9 {G:Gx} {f:FuncId} {args:List PV} {r:PV} (he:Ev.iu G.cx.P f)
  (h:∀ I β w vals,de G I w->bG w I args β vals->∃ v,r.Is w I no v/\(∀ w' I' aU,r.Is w' I' aU v)/\Calls G.cx.P f vals.toArray w fun e w'=>e = .returned v/\Below w.heap.size w w'):ai G f args r:=by
 refine Spec.intro he fun I β w vals hH hM hA=>?_
 obtain⟨v,_,hr,hc⟩:=h I β w vals hM hA
 refine hc.mono fun e w' ⟨he,hB⟩=>⟨v,r,[],I,β,he,rfl,hr _ _ _,hH.GK _ _,hM.below hB,⟨hB.os,hB.tape,hB.output,hB.size,fun g hg _=>hB.block g hg,fun g _ h=>h,fun _ h=>h,fun _ _ h=>.inl h⟩,Nat.le_refl _,fun _ _ _=>rfl⟩
theorem C6:IntKind.i64.wrap (0+1)=1:=by decide
theorem Qy:IntKind.i64.wrap (1+1)=2:=by decide
theorem Qz:IntKind.i64.wrap (2+1)=3:=by decide
theorem QA:IntKind.i64.wrap (3+1)=4:=by decide
theorem QB:IntKind.i64.wrap (4+1)=5:=by decide
theorem QC:IntKind.i64.wrap (5+1)=6:=by decide
theorem QD:IntKind.i64.wrap (6+1)=7:=by decide
theorem QE:IntKind.i64.wrap (7+1)=8:=by decide
theorem QF:IntKind.i64.wrap (8+1)=9:=by decide
theorem Aj:IntKind.i64.wrap (9+1)=10:=by decide
theorem Ak:IntKind.i64.wrap (10+1)=11:=by decide
structure IN where
 form:Int
 rd:Int
 rn:Int
 rm:Int
 ra:Int
 ay:Int
 kind:Int
 bF:Int
 set:Int
 cond:Int
 av:Int
def inFs (i:IN):List PV:=[.int .i64 i.form,.int .i64 i.rd,.int .i64 i.rn,.int .i64 i.rm,.int .i64 i.ra,.int .i64 i.ay,.int .i64 i.kind,.int .i64 i.bF,.int .i64 i.set,.int .i64 i.cond,.int .i64 i.av]
def c9 (i:IN):PV:=.agg (inFs i)
def bO (l:List IN):List PV:=l.map c9
def iZ:IN:=⟨0,0,0,0,0,0,0,0,0,0,0⟩
theorem G' {I:Nat->Prop} {w:World} (hM:de gT I w):vX w :=
 LF hM (g:=1) (k:=.u32) (l:=[1,65537,16777472,16843009]) (show (1,Ql)∈gT.mV from List.mem_cons_self)
theorem oE (f:Int):ai gT 28 [.int .i64 f] (.bool (1<=f/\f<=100)):=by
 refine Spec.enter al P28 100 Tryz.func28 rfl (by kernel_rfl) ?_
 repeat' ((conv=>whnf); first|(refine (And.intro (fun _=>?_) (fun _=>?_):(_->_)/\(_->_))<;>(first|(exfalso; first|contradiction|omega)|skip))|refine Or.inl (And.intro (by first|exact aq (by omega)|exact ah (by omega)|exact aF (by omega)|exact bb (by omega)) ?_)|(refine And.intro (show (_:Int)≠0 by omega) (Or.inl (And.intro (show (0:Int)<=_ by omega) (And.intro (show (0:Int) < _ by omega) ?_))))|(refine And.intro (show (_:Int)≠0 by omega) (Or.inl (And.intro (show (0:Int)<=_ by omega) (And.intro (by first|exact (show (_:Int)<=9223372036854775807 by omega)|exact (show (_:Int)<=4294967295 by omega)) (And.intro (show (0:Int) < _ by omega) ?_)))))|(refine ax ?_; show _↔_; omega)|(refine ax ?_; show ¬ _; omega)|(intro _))
theorem ml (f:Int):ai gT 68 [.int .i64 f] (.bool (48<=f/\f<=100)):=by
 refine Spec.enter al P68 100 Tryz.func68 rfl (by kernel_rfl) ?_
 refine (oE f).u ?_
 repeat' ((conv=>whnf); first|(refine (And.intro (fun _=>?_) (fun _=>?_):(_->_)/\(_->_))<;>(first|(exfalso; first|contradiction|omega)|skip))|refine Or.inl (And.intro (by first|exact aq (by omega)|exact ah (by omega)|exact aF (by omega)|exact bb (by omega)) ?_)|(refine And.intro (show (_:Int)≠0 by omega) (Or.inl (And.intro (show (0:Int)<=_ by omega) (And.intro (show (0:Int) < _ by omega) ?_))))|(refine And.intro (show (_:Int)≠0 by omega) (Or.inl (And.intro (show (0:Int)<=_ by omega) (And.intro (by first|exact (show (_:Int)<=9223372036854775807 by omega)|exact (show (_:Int)<=4294967295 by omega)) (And.intro (show (0:Int) < _ by omega) ?_)))))|(refine ax ?_; show _↔_; omega)|(refine ax ?_; show ¬ _; omega)|(intro _))
def WS:List Int:=[0,1,1,1,2,2,3,3,4,4,4,4,5,5,5,5,5,5,5,5,5,5,5,5,5,5,5,5,6,6,6,7,8,2,2,9,9,8,8,8,10,10,11,12,13,14,15,16,17,17,18,18,18,18,18,18,18,18,18,18,19,19,20,20,20,20,21,21,21,21,21,21,21,21,21,21,22,22,23,23,23,23,24,24,25,25,26,26,27,27,27,27,28,29,30,31,31,28,32,33,34]
def aa (f:Int):Int:=if 1<=f/\f<=100 then WS.getD f.toNat 0 else 0
theorem G_ {f:Int} (h:1<=f/\f<=100) {c:PV} (hc:(WS.map (PV.lit .i64))[f.toNat]?=some c):c = .lit .i64 (aa f):=by
 rw[List.getElem?_map,Option.map_eq_some_iff] at hc
 obtain⟨z,hz,rfl⟩:=hc
 unfold aa
 rw[if_pos h,List.getD_eq_getElem?_getD,hz]; rfl
theorem gh (f:Int):ai gT 122 [.int .i64 f] (.int .i64 (aa f)):=by
 refine Spec.enter al P122 100 Tryz.func122 rfl (by kernel_rfl) ?_
 refine (oE f).u ?_
 refine⟨fun h=>?_,fun h=>?_⟩
 ·refine ax ?_
  exact (show (0:Int)=aa f by unfold aa; rw[if_neg h])
 have h':=Classical.not_not.1 h
 refine⟨by omega,show f < 101 by omega,.inr ⟨rfl,by omega,show 0+f.toNat*1 < 101 by omega,fun c hc=>?_⟩⟩
 have zO:(WS.map (PV.lit .i64))[f.toNat]?=some c:=by
  have e:0+f.toNat*1=f.toNat:=by omega
  have h0:(WS.map (PV.lit .i64))[0+f.toNat*1]?=some c:=hc
  rwa [e] at h0
 obtain rfl:=G_ h' zO
 exact ax rfl
structure RU where
 rd:Int
 rn:Int
 rm:Int
 ra:Int
 i0:Int
 i1:Int
 i2:Int
 b0:Int
 b1:Int
 b2:Int
 kind:Bool
 set:Bool
 cond:Bool
 av:Int
def ruF (r:RU):List PV:=[.int .i64 r.rd,.int .i64 r.rn,.int .i64 r.rm,.int .i64 r.ra,.int .i64 r.i0,.int .i64 r.i1,.int .i64 r.i2,.int .i64 r.b0,.int .i64 r.b1,.int .i64 r.b2,.bool (r.kind=true),.bool (r.set=true),.bool (r.cond=true),.int .i64 r.av]
def ruP (r:RU):PV:=.agg (ruF r)
def fL:RU:=⟨0,0,0,0,0,0,0,0,0,0,false,false,false,0⟩
def ruN (s:Int):RU :=
 if s=1 then { fL with rd:=1,rm:=1,i0:=0,i1:=32,i2:=1 } else if s=2 then { fL with rd:=1,rn:=1,rm:=1 } else if s=3 then { fL with rd:=1,rn:=1,i1:=7,i2:=1 }
 else if s=4 then { fL with rd:=1,i1:=255,i2:=1 } else if s=5 then { fL with rd:=1,rm:=1 } else if s=6 then { fL with rd:=2,rm:=2 } else if s=7 then { fL with rm:=2 }
 else if s=8 then { fL with rd:=1,i1:=1020,i2:=4 } else if s=9 then { fL with rd:=1,rn:=1,i1:=124,i2:=4 } else if s=10 then { fL with i1:=508,i2:=4 } else if s=11 then { fL with av:=16639 } else if s=12 then { fL with av:=33023 }
 else if s=13 then fL else if s=14 then { fL with i1:=255,i2:=1 } else if s=15 then { fL with cond:=true,i0:=-256,i1:=254,i2:=2 } else if s=16 then { fL with i0:=-2048,i1:=2046,i2:=2 } else fL
def cg (s:Int):RU :=
 if s=17 then { fL with rd:=3,i1:=65535,i2:=1 } else if s=18 then { fL with rd:=3,rn:=3,i1:=4095,i2:=1,set:=true } else if s=19 then { fL with rd:=3,i1:=4095,i2:=1,set:=true } else if s=20 then { fL with rn:=3,i1:=4095,i2:=1 }
 else if s=21 then { fL with rd:=3,rn:=3,rm:=3,kind:=true,set:=true } else if s=22 then { fL with rd:=3,rm:=3,kind:=true,set:=true } else if s=23 then { fL with rn:=3,rm:=3,kind:=true } else if s=24 then { fL with rd:=3,rn:=3,i1:=4095,i2:=1 }
 else if s=25 then { fL with rd:=3,rn:=2,i1:=4095,i2:=1 } else if s=26 then { fL with rd:=3,rn:=2,rm:=3,b1:=3,b2:=1 } else if s=27 then { fL with rd:=3,rn:=3,rm:=3,set:=true } else if s=28 then { fL with rd:=3,rn:=3,rm:=3 }
 else if s=29\/s=30\/s=31 then { fL with rd:=3,rn:=3,rm:=3,ra:=3 } else if s=32 then { fL with rd:=3,rm:=3 } else if s=33 then { fL with cond:=true,i0:=-1048576,i1:=1048574,i2:=2 } else if s=34 then { fL with i0:=-16777216,i1:=16777214,i2:=2 } else ruN s
theorem qu (s:Int):ai gT 152 [.int .i64 s] (ruP (ruN s)):=by
 refine Spec.enter al P152 100 Tryz.func152 rfl (by kernel_rfl) ?_
 repeat' ((conv=>whnf); first|(refine (And.intro (fun _=>?_) (fun _=>?_):(_->_)/\(_->_))<;>(first|(exfalso; first|contradiction|omega)|skip))|refine Or.inl (And.intro (by first|exact aq (by omega)|exact ah (by omega)|exact aF (by omega)|exact bb (by omega)) ?_)|(refine And.intro (show (_:Int)≠0 by omega) (Or.inl (And.intro (show (0:Int)<=_ by omega) (And.intro (show (0:Int) < _ by omega) ?_))))|(refine And.intro (show (_:Int)≠0 by omega) (Or.inl (And.intro (show (0:Int)<=_ by omega) (And.intro (by first|exact (show (_:Int)<=9223372036854775807 by omega)|exact (show (_:Int)<=4294967295 by omega)) (And.intro (show (0:Int) < _ by omega) ?_)))))|(simp only[ruN, *,if_true,if_false,reduceIte,Int.reduceEq]; refine ax ?_; (repeat' first|exact trivial|exact rfl|exact (show ¬ (false=true) from Bool.false_ne_true)|refine And.intro ?_ ?_))|(intro _))
theorem tQ (s:Int):ai gT 121 [.int .i64 s] (ruP (cg s)):=by
 refine Spec.enter al P121 100 Tryz.func121 rfl (by kernel_rfl) ?_
 repeat' ((conv=>whnf); first|(refine (And.intro (fun _=>?_) (fun _=>?_):(_->_)/\(_->_))<;>(first|(exfalso; first|contradiction|omega)|skip))|refine Or.inl (And.intro (by first|exact aq (by omega)|exact ah (by omega)|exact aF (by omega)|exact bb (by omega)) ?_)|(refine And.intro (show (_:Int)≠0 by omega) (Or.inl (And.intro (show (0:Int)<=_ by omega) (And.intro (show (0:Int) < _ by omega) ?_))))|(refine And.intro (show (_:Int)≠0 by omega) (Or.inl (And.intro (show (0:Int)<=_ by omega) (And.intro (by first|exact (show (_:Int)<=9223372036854775807 by omega)|exact (show (_:Int)<=4294967295 by omega)) (And.intro (show (0:Int) < _ by omega) ?_)))))|(refine Exists.intro [] (And.intro bf ((qu s).use (by repeat' first|exact trivial|exact rfl|exact Iff.rfl|exact Or.inl rfl|refine And.intro ?_ ?_) rfl rfl ?_)))|(simp only[cg, *,if_true,if_false,reduceIte,Int.reduceEq,or_true,true_or,or_false,false_or]; refine ax ?_; (repeat' first|exact trivial|exact rfl|exact (show ¬ (false=true) from Bool.false_ne_true)|exact Iff.rfl|refine And.intro ?_ ?_))|(intro _))
def aG (c r:Int):Prop:=(c=1/\0<=r/\r < 8)\/(c=2/\0<=r/\r < 15)\/(c=3/\0<=r/\r < 15/\r≠13)\/(c≠1/\c≠2/\c≠3/\r=0)
theorem uA (r:Int):ai gT 153 [.int .i64 r] (.bool (0<=r/\r < 8)):=by
 refine Spec.enter al P153 100 Tryz.func153 rfl (by kernel_rfl) ?_
 repeat' ((conv=>whnf); first|(refine (And.intro (fun _=>?_) (fun _=>?_):(_->_)/\(_->_))<;>(first|(exfalso; first|contradiction|omega)|skip))|refine Or.inl (And.intro (by first|exact aq (by omega)|exact ah (by omega)|exact aF (by omega)|exact bb (by omega)) ?_)|(refine And.intro (show (_:Int)≠0 by omega) (Or.inl (And.intro (show (0:Int)<=_ by omega) (And.intro (show (0:Int) < _ by omega) ?_))))|(refine And.intro (show (_:Int)≠0 by omega) (Or.inl (And.intro (show (0:Int)<=_ by omega) (And.intro (by first|exact (show (_:Int)<=9223372036854775807 by omega)|exact (show (_:Int)<=4294967295 by omega)) (And.intro (show (0:Int) < _ by omega) ?_)))))|(refine ax ?_; show _↔_; omega)|(refine ax ?_; show ¬ _; omega)|(intro _))
theorem Ha (c r:Int):ai gT 123 [.int .i64 c,.int .i64 r] (.bool (aG c r)):=by
 refine Spec.enter al P123 100 Tryz.func123 rfl (by kernel_rfl) ?_
 repeat' ((conv=>whnf); first|(refine (And.intro (fun _=>?_) (fun _=>?_):(_->_)/\(_->_))<;>(first|(exfalso; first|contradiction|omega)|skip))|refine Or.inl (And.intro (by first|exact aq (by omega)|exact ah (by omega)|exact aF (by omega)|exact bb (by omega)) ?_)|(refine And.intro (show (_:Int)≠0 by omega) (Or.inl (And.intro (show (0:Int)<=_ by omega) (And.intro (show (0:Int) < _ by omega) ?_))))|(refine And.intro (show (_:Int)≠0 by omega) (Or.inl (And.intro (show (0:Int)<=_ by omega) (And.intro (by first|exact (show (_:Int)<=9223372036854775807 by omega)|exact (show (_:Int)<=4294967295 by omega)) (And.intro (show (0:Int) < _ by omega) ?_)))))|(refine Exists.intro [] (And.intro bf ((uA r).use (by repeat' first|exact trivial|exact rfl|exact Iff.rfl|exact Or.inl rfl|refine And.intro ?_ ?_) rfl rfl ?_)))|(refine ax ?_; (show _↔aG c r); unfold aG; omega)|(refine ax ?_; (show ¬ aG c r); unfold aG; omega)|(intro _))
def dN (f t s n:Int):Prop:=(s=0/\n=0)\/(s≠0/\f<=n/\n<=t/\n.tmod s=0)
theorem uB (f t s n:Int):ai gT 125 [.agg [.int .i64 f,.int .i64 t,.int .i64 s],.int .i64 n] (.bool (dN f t s n)):=by
 refine Spec.enter al P125 100 Tryz.func125 rfl (by kernel_rfl) ?_
 refine⟨fun h=>?_,fun h=>?_⟩
 ·refine ax ?_
  exact (show n=0↔dN f t s n by unfold dN; exact⟨fun e=>.inl ⟨h,e⟩,fun e=>e.elim (fun e=>e.2) (fun e=>absurd h e.1)⟩)
 have h0:s≠0:=h
 refine⟨fun h1=>?_,fun h1=>?_⟩
 ·refine⟨fun h2=>?_,fun h2=>?_⟩
  ·refine⟨h0,.inr ?_⟩
   refine ax ?_
   exact (show n.tmod s=0↔dN f t s n from ⟨fun e=>.inr ⟨h0,h1,h2,e⟩,fun e=>e.elim (fun e=>absurd e.1 h0) (fun e=>e.2.2.2)⟩)
  ·refine ax ?_
   exact (show ¬ dN f t s n from fun e=>e.elim (fun e=>h0 e.1) (fun e=>h2 e.2.2.1))
 ·refine ax ?_
  exact (show ¬ dN f t s n from fun e=>e.elim (fun e=>h0 e.1) (fun e=>h1 e.2.1))
theorem Hb (n:Int) (ok:Prop):ai gT 126 [.int .i64 n,.bool ok] (.bool (n=0\/(n=1/\ok))):=by
 refine Spec.enter al P126 100 Tryz.func126 rfl (by kernel_rfl) ?_
 refine⟨fun h=>?_,fun h=>And.intro (fun h1=>?_) (fun h1=>?_)⟩
 ·exact ax (show n=0\/(n=1/\ok) from .inl h)
 ·exact ax (show ok↔(n=0\/(n=1/\ok)) from ⟨fun k=>.inr ⟨h1,k⟩,fun k=>k.elim (fun e=>absurd e h) (fun e=>e.2)⟩)
 ·exact ax (show ¬ (n=0\/(n=1/\ok)) from fun k=>k.elim h (fun e=>h1 e.1))
def Al (x:Int):Prop:=-9223372036854775808<=x/\x<=9223372036854775807
theorem oF (n:Int) (h:Al n):ai gT 146 [.int .i64 n] (.tup [.int .u32 (Rm.dD n),.int .i64 (Rm.dF n)]) :=
 ai.G9 (fY Tryz.func146 rfl (by kernel_rfl)) fun I β w vals hM hA=>by
  obtain⟨v,rfl,h1⟩:=Yh hA
  simp only[PV.Is] at h1
  subst h1
  refine⟨.tuple #[.int .u32 (Rm.dD n),.int .i64 (Rm.dF n)],jI (iy (dn ..) (iy (dn ..) sg)),fun _ _ _=>jI (iy (dn ..) (iy (dn ..) sg)),?_⟩
  refine (oA n w (G' hM) h.1 h.2).mono ?_
  rintro e w' ⟨rfl,rfl⟩
  exact⟨rfl,Below.refl _ _⟩
def cP (k b:Int):Prop:=(k=0/\0<=b/\b < 32)\/((k=1\/k=2)/\1<=b/\b<=32)\/(k=3/\1<=b/\b < 32)
theorem ye (k b:Int):ai gT 154 [.int .i64 k,.int .i64 b] (.bool (cP k b)):=by
 refine Spec.enter al P154 100 Tryz.func154 rfl (by kernel_rfl) ?_
 repeat' ((conv=>whnf); first|(refine (And.intro (fun _=>?_) (fun _=>?_):(_->_)/\(_->_))<;>(first|(exfalso; first|contradiction|omega)|skip))|refine Or.inl (And.intro (by first|exact aq (by omega)|exact ah (by omega)|exact aF (by omega)|exact bb (by omega)) ?_)|(refine And.intro (show (_:Int)≠0 by omega) (Or.inl (And.intro (show (0:Int)<=_ by omega) (And.intro (show (0:Int) < _ by omega) ?_))))|(refine And.intro (show (_:Int)≠0 by omega) (Or.inl (And.intro (show (0:Int)<=_ by omega) (And.intro (by first|exact (show (_:Int)<=9223372036854775807 by omega)|exact (show (_:Int)<=4294967295 by omega)) (And.intro (show (0:Int) < _ by omega) ?_)))))|(refine ax ?_; (show _↔cP k b); unfold cP; omega)|(refine ax ?_; (show ¬ cP k b); unfold cP; omega)|(intro _))
def nh (i:IN) (r:RU):Prop:=(r.kind=true/\cP i.kind i.bF)\/(¬ r.kind=true/\i.kind=0/\dN r.b0 r.b1 r.b2 i.bF)
theorem Am (i:IN) (r:RU):ai gT 127 [c9 i,ruP r] (.bool (nh i r)):=by
 refine Spec.enter al P127 100 Tryz.func127 rfl (by kernel_rfl) ?_
 refine⟨fun h=>?_,fun h=>?_⟩
 ·refine (ye i.kind i.bF).u ?_
  refine ax ?_
  exact (show cP i.kind i.bF↔nh i r from ⟨fun k=>.inl ⟨h,k⟩,fun k=>k.elim (fun e=>e.2) (fun e=>absurd h e.1)⟩)
 ·refine⟨fun h1=>?_,fun h1=>?_⟩
  ·refine (uB r.b0 r.b1 r.b2 i.bF).u ?_
   refine ax ?_
   exact (show dN r.b0 r.b1 r.b2 i.bF↔nh i r from ⟨fun k=>.inr ⟨h,h1,k⟩,fun k=>k.elim (fun e=>absurd e.1 h) (fun e=>e.2.2)⟩)
  ·refine ax ?_
   exact (show ¬ nh i r from fun k=>k.elim (fun e=>h e.1) (fun e=>h1 e.2.1))
def kC (i:IN) (r:RU):Prop:=(r.av=0/\i.av=0)\/(¬ r.av=0/\0 < i.av/\bits .andNot .i64 i.av r.av=0)
theorem yf (i:IN) (r:RU):ai gT 124 [c9 i,ruP r] (.bool (kC i r)):=by
 refine Spec.enter al P124 100 Tryz.func124 rfl (by kernel_rfl) ?_
 refine⟨fun h=>?_,fun h=>?_⟩
 ·refine ax ?_
  exact (show i.av=0↔kC i r from ⟨fun k=>.inl ⟨h,k⟩,fun k=>k.elim (fun e=>e.2) (fun e=>absurd h e.1)⟩)
 ·refine⟨fun h1=>?_,fun h1=>?_⟩
  ·refine ax ?_
   exact (show bits .andNot .i64 i.av r.av=0↔kC i r from ⟨fun k=>.inr ⟨h,h1,k⟩,fun k=>k.elim (fun e=>absurd e.1 h) (fun e=>e.2.2)⟩)
  ·refine ax ?_
   exact (show ¬ kC i r from fun k=>k.elim (fun e=>h e.1) (fun e=>h1 e.2.1))
def ni (i:IN):Prop:=(i.form=1->i.ay < 32)/\(i.form=2\/i.form=3->0 < i.ay)/\(i.form=29->¬ (0<=i.rd/\i.rd < 8)\/¬ (0<=i.rm/\i.rm < 8))/\(i.form=95\/i.form=96->i.rd≠i.ra)/\(aa i.form=18\/aa i.form=19\/aa i.form=20->Rm.dF i.ay=0)
theorem LG:aa 1=1/\aa 2=1/\aa 3=1/\aa 29=6/\aa 95=31/\aa 96=31:=by decide
theorem An (i:IN) (hi:Al i.ay):ai gT 128 [c9 i] (.bool (ni i)):=by
 obtain⟨s1,s2,s3,s29,s95,s96⟩:=LG
 refine Spec.enter al P128 100 Tryz.func128 rfl (by kernel_rfl) ?_
 have e:ni i↔((i.form=1->i.ay < 32)/\(i.form=2\/i.form=3->0 < i.ay)/\(i.form=29->¬ (0<=i.rd/\i.rd < 8)\/¬ (0<=i.rm/\i.rm < 8))/\(i.form=95\/i.form=96->i.rd≠i.ra)/\(aa i.form=18\/aa i.form=19\/aa i.form=20->Rm.dF i.ay=0)):=Iff.rfl
 have f1:i.form=1->aa i.form=1:=fun h=>by rw[h]; exact s1
 have f2:i.form=2->aa i.form=1:=fun h=>by rw[h]; exact s2
 have f3:i.form=3->aa i.form=1:=fun h=>by rw[h]; exact s3
 have f29:i.form=29->aa i.form=6:=fun h=>by rw[h]; exact s29
 have f95:i.form=95->aa i.form=31:=fun h=>by rw[h]; exact s95
 have f96:i.form=96->aa i.form=31:=fun h=>by rw[h]; exact s96
 clear s1 s2 s3 s29 s95 s96
 repeat' ((conv=>whnf); first|(refine (And.intro (fun _=>?_) (fun _=>?_):(_->_)/\(_->_))<;>(first|(exfalso; first|contradiction|omega)|skip))|refine Or.inl (And.intro (by first|exact aq (by omega)|exact ah (by omega)|exact aF (by omega)|exact bb (by omega)) ?_)|(refine And.intro (show (_:Int)≠0 by omega) (Or.inl (And.intro (show (0:Int)<=_ by omega) (And.intro (show (0:Int) < _ by omega) ?_))))|(refine And.intro (show (_:Int)≠0 by omega) (Or.inl (And.intro (show (0:Int)<=_ by omega) (And.intro (by first|exact (show (_:Int)<=9223372036854775807 by omega)|exact (show (_:Int)<=4294967295 by omega)) (And.intro (show (0:Int) < _ by omega) ?_)))))|(refine Exists.intro [] (And.intro bf ((uA _).use (by repeat' first|exact trivial|exact rfl|exact Iff.rfl|exact Or.inl rfl|refine And.intro ?_ ?_) rfl rfl ?_)))|(refine Exists.intro [] (And.intro bf ((gh i.form).use (by repeat' first|exact trivial|exact rfl|exact Iff.rfl|exact Or.inl rfl|refine And.intro ?_ ?_) rfl rfl ?_)))|(refine Exists.intro [] (And.intro bf ((oF i.ay hi).use (by repeat' first|exact trivial|exact rfl|exact Iff.rfl|exact Or.inl rfl|refine And.intro ?_ ?_) rfl rfl ?_)))|(refine ax ?_; (show ni i); rw[e]; clear e; omega)|(refine ax ?_; (show _↔ni i); rw[e]; clear e; omega)|(refine ax ?_; (show ¬ ni i); rw[e]; clear e; omega)|(intro _))
def aJ (i:IN) (r:RU):Prop:=(1<=i.form/\i.form<=100)/\aG r.rd i.rd/\aG r.rn i.rn/\aG r.rm i.rm/\aG r.ra i.ra/\kC i r/\(i.cond=0\/(r.cond=true/\0 < i.cond/\i.cond<=13))/\dN r.i0 r.i1 r.i2 i.ay/\(i.set=0\/(i.set=1/\r.set=true))/\nh i r/\ni i
def aw (i:IN):Prop:=aJ i (cg (aa i.form))
theorem nj (i:IN) (hi:Al i.ay):ai gT 86 [c9 i] (.bool (aw i)):=by
 refine Spec.enter al P86 100 Tryz.func86 rfl (by kernel_rfl) ?_
 refine (oE i.form).u ?_
 refine⟨fun h=>?_,fun h=>?_⟩
 ·refine ax ?_
  exact (show ¬ aw i from fun k=>h k.1)
 have hF:=Classical.not_not.1 h
 clear h
 refine (gh i.form).u ?_
 refine (tQ _).u ?_
 unfold aw
 generalize cg (aa i.form)=r
 repeat' ((conv=>whnf); first|(refine (And.intro (fun _=>?_) (fun _=>?_):(_->_)/\(_->_))<;>(first|(exfalso; first|contradiction|omega)|skip))|refine Or.inl (And.intro (by first|exact aq (by omega)|exact ah (by omega)|exact aF (by omega)|exact bb (by omega)) ?_)|(refine And.intro (show (_:Int)≠0 by omega) (Or.inl (And.intro (show (0:Int)<=_ by omega) (And.intro (show (0:Int) < _ by omega) ?_))))|(refine And.intro (show (_:Int)≠0 by omega) (Or.inl (And.intro (show (0:Int)<=_ by omega) (And.intro (by first|exact (show (_:Int)<=9223372036854775807 by omega)|exact (show (_:Int)<=4294967295 by omega)) (And.intro (show (0:Int) < _ by omega) ?_)))))|(refine Exists.intro [] (And.intro bf ((Ha _ _).use (by repeat' first|exact trivial|exact rfl|exact Iff.rfl|exact Or.inl rfl|refine And.intro ?_ ?_) rfl rfl ?_)))|(refine Exists.intro [] (And.intro bf ((yf i r).use (by repeat' first|exact trivial|exact rfl|exact Iff.rfl|exact Or.inl rfl|refine And.intro ?_ ?_) rfl rfl ?_)))|(refine Exists.intro [] (And.intro bf ((uB _ _ _ _).use (by repeat' first|exact trivial|exact rfl|exact Iff.rfl|exact Or.inl rfl|refine And.intro ?_ ?_) rfl rfl ?_)))|(refine Exists.intro [] (And.intro bf ((Hb _ _).use (by repeat' first|exact trivial|exact rfl|exact Iff.rfl|exact Or.inl rfl|refine And.intro ?_ ?_) rfl rfl ?_)))|(refine Exists.intro [] (And.intro bf ((Am i r).use (by repeat' first|exact trivial|exact rfl|exact Iff.rfl|exact Or.inl rfl|refine And.intro ?_ ?_) rfl rfl ?_)))|(refine Exists.intro [] (And.intro bf ((An i hi).use (by repeat' first|exact trivial|exact rfl|exact Iff.rfl|exact Or.inl rfl|refine And.intro ?_ ?_) rfl rfl ?_)))|(refine ax ?_; (show ni i↔aJ i r); (exact⟨fun k=>⟨hF,by assumption,by assumption,by assumption,by assumption,by assumption,by first|exact Or.inl (by assumption)|exact Or.inr ⟨by assumption,by assumption,by assumption⟩,by assumption,by assumption,by assumption,k⟩,fun k=>k.2.2.2.2.2.2.2.2.2.2⟩))|(refine ax ?_; (show ¬ aJ i r); (rintro⟨a0,a1,a2,a3,a4,a5,a6,a7,a8,a9,a10⟩; first|contradiction|(rcases a6 with a6|⟨b1,b2,b3⟩<;>first|contradiction|omega)))|(intro _))
def yg (x:Int) (l w:Nat):Int:=x / 2 ^ l % 2 ^ w
theorem yh (x:Int) (w:Nat) (h0:0<=x) (h1:x<=4294967295) (hw:w<=31):bits .and .u32 x (2 ^ w - 1)=x % 2 ^ w:=by
 have hp:(2:Int) ^ w<=2 ^ 31:=by
  have:=Nat.pow_le_pow_right (n:=2) (by omega) hw
  exact_mod_cast this
 have hp0:(1:Int)<=2 ^ w:=by
  have:=Nat.one_le_two_pow (n:=w)
  exact_mod_cast this
 rw[u32_and x (2 ^ w - 1) h0 (by omega) (by omega) (by omega)]
 have e:x.toNat &&& ((2:Int) ^ w - 1).toNat=x.toNat % 2 ^ w:=by
  have:((2:Int) ^ w - 1).toNat=2 ^ w - 1:=by
   have e2:((2 ^ w:Nat):Int)=(2:Int) ^ w:=by norm_cast
   omega
  rw[this]
  exact Nat.and_two_pow_sub_one_eq_mod x.toNat w
 rw[e]
 have:((x.toNat % 2 ^ w:Nat):Int)=(x.toNat:Int) % ((2 ^ w:Nat):Int):=by norm_cast
 rw[this,Int.toNat_of_nonneg h0]
 norm_cast
theorem yi (n:Nat) (h:n<=32):Ev.aV .u32 (n:Int)=2 ^ n:=by
 unfold Ev.aV
 rw[Int.toNat_natCast,show min n (IntKind.bits .u32)=n from Nat.min_eq_left h]
 norm_cast
theorem cK (w:Nat):((2 ^ w:Nat):Int)=(2:Int) ^ w:=by norm_cast
theorem si (w:Nat) (hw:w<=31):(1:Int)<=2 ^ w/\(2:Int) ^ w<=2147483648:=by
 have h1:=Nat.one_le_two_pow (n:=w)
 have h2:(2 ^ w:Nat)<=2147483648:=Nat.le_trans (Nat.pow_le_pow_right (n:=2) (by omega) hw) (by decide)
 have e:=cK w
 omega
theorem QG (x p:Int) (h0:0<=x) (h1:x<=4294967295) (hp:1<=p):0<=x / p/\x / p<=4294967295 :=
 ⟨Int.ediv_nonneg h0 (by omega),Int.le_trans (Int.ediv_le_self _ h0) h1⟩
theorem j6 (x:Int) (l w:Nat) (hx:0<=x/\x<=4294967295) (hw:1<=w/\w<=31) (hl:l<=31):ai gT 157 [.int .u32 x,.int .i64 ((l:Int)+w - 1),.int .i64 l] (.int .u32 (yg x l w)):=by
 have p1:=yi l (by omega)
 have p2:=yi w (by omega)
 have b1:=si l hl
 have b2:=si w hw.2
 have d:=QG x (2 ^ l) hx.1 hx.2 b1.1
 have e:((l:Int)+w - 1) - l+1=w:=by omega
 refine Spec.enter al P157 100 Tryz.func157 rfl (by kernel_rfl) ?_
 refine⟨by omega,.inl ⟨aq (by omega),.inl ⟨aq (by omega),?_⟩⟩⟩
 refine⟨by omega,.inl ⟨ah (show 0<=1*Ev.aV .u32 (((l:Int)+w - 1) - l+1)/\1*Ev.aV .u32 (((l:Int)+w - 1) - l+1)<=4294967295 by rw[e,p2]; omega),?_⟩⟩
 refine lu ?_ (show 0<=1*Ev.aV .u32 (((l:Int)+w - 1) - l+1) - 1/\1*Ev.aV .u32 (((l:Int)+w - 1) - l+1) - 1<=4294967295 by rw[e,p2]; omega)
 refine ax ?_
 show bits .and .u32 (x / Ev.aV .u32 l) (1*Ev.aV .u32 (((l:Int)+w - 1) - l+1) - 1)=yg x l w
 rw[e,p1,p2,Int.one_mul,yh _ w d.1 d.2 hw.2]; rfl
theorem yj (w:Nat) (hw:w<=62):(1:Int)<=2 ^ w/\(2:Int) ^ w<=4611686018427387904:=by
 have h1:=Nat.one_le_two_pow (n:=w)
 have h2:(2 ^ w:Nat)<=4611686018427387904:=Nat.le_trans (Nat.pow_le_pow_right (n:=2) (by omega) hw) (by decide)
 have e:=cK w
 omega
def ab (n:Int) (l w:Nat):Int:=(if n < 0 then n+1099511627776 else n) / 2 ^ l % 2 ^ w
def aC (s:Int):List (Nat × Nat × Nat × Nat) :=
 if s=1 then [(4,0,6,5),(2,0,3,3),(0,0,0,3)]
 else if s=2 then [(2,0,6,3),(1,0,3,3),(0,0,0,3)]
 else if s=3 then [(4,0,6,3),(1,0,3,3),(0,0,0,3)]
 else if s=4 then [(0,0,8,3),(4,0,0,8)]
 else if s=5 then [(2,0,3,3),(0,0,0,3)]
 else if s=6 then [(0,3,7,1),(2,0,3,4),(0,0,0,3)]
 else if s=7 then [(2,0,3,4)]
 else if s=8 then [(0,0,8,3),(4,2,0,8)]
 else if s=9 then [(4,2,6,5),(1,0,3,3),(0,0,0,3)]
 else if s=10 then [(4,2,0,7)]
 else if s=11 then [(9,14,8,1),(9,0,0,8)]
 else if s=12 then [(9,15,8,1),(9,0,0,8)]
 else if s=14 then [(4,0,0,8)]
 else if s=15 then [(8,0,8,4),(4,1,0,8)]
 else if s=16 then [(4,1,0,11)]
 else if s=17 then [(4,11,26,1),(4,12,16,4),(4,8,12,3),(4,0,0,8),(0,0,8,4)]
 else if s=18 then [(4,11,26,1),(4,8,12,3),(4,0,0,8),(7,0,20,1),(1,0,16,4),(0,0,8,4)]
 else if s=19 then [(4,11,26,1),(4,8,12,3),(4,0,0,8),(7,0,20,1),(0,0,8,4)]
 else if s=20 then [(4,11,26,1),(4,8,12,3),(4,0,0,8),(1,0,16,4)]
 else if s=21 then [(6,2,12,3),(6,0,6,2),(5,0,4,2),(7,0,20,1),(1,0,16,4),(0,0,8,4),(2,0,0,4)]
 else if s=22 then [(6,2,12,3),(6,0,6,2),(5,0,4,2),(7,0,20,1),(0,0,8,4),(2,0,0,4)]
 else if s=23 then [(6,2,12,3),(6,0,6,2),(5,0,4,2),(1,0,16,4),(2,0,0,4)]
 else if s=24 then [(4,11,26,1),(4,8,12,3),(4,0,0,8),(1,0,16,4),(0,0,8,4)]
 else if s=25 then [(1,0,16,4),(0,0,12,4),(4,0,0,12)]
 else if s=26 then [(1,0,16,4),(0,0,12,4),(6,0,4,2),(2,0,0,4)]
 else if s=27 then [(7,0,20,1),(1,0,16,4),(0,0,8,4),(2,0,0,4)]
 else if s=28 then [(1,0,16,4),(0,0,8,4),(2,0,0,4)]
 else if s=29 then [(1,0,16,4),(3,0,12,4),(0,0,8,4),(2,0,0,4)]
 else if s=30 then [(1,0,16,4),(3,0,12,4),(0,0,8,4),(2,0,0,4)]
 else if s=31 then [(1,0,16,4),(0,0,12,4),(3,0,8,4),(2,0,0,4)]
 else if s=32 then [(2,0,16,4),(0,0,8,4),(2,0,0,4)]
 else if s=33 then [(4,20,26,1),(8,0,22,4),(4,12,16,6),(4,18,13,1),(4,19,11,1),(4,1,0,11)]
 else if s=34 then [(4,24,26,1),(4,12,16,10),(4,23,13,1),(4,22,11,1),(4,1,0,11)]
 else []
def kD (i:IN) (f:Nat):Int:=[i.rd,i.rn,i.rm,i.ra,i.ay,i.kind,i.bF,i.set,i.cond,i.av].getD f 0
theorem QH (a b k:Nat) (h:b < 2 ^ k):2 ^ k*a+b=2 ^ k*a ||| b:=Nat.two_pow_add_eq_or_of_lt h a
def plus (w n at_ b:Nat):Nat:=w ||| (n % 2 ^ b) <<< at_
def WT:List Int:=[0,2048,4096,6144,6656,7168,7680,8192,10240,12288,14336,16384,16448,16512,16576,16640,16704,16768,16832,16896,16960,17024,17088,17152,17216,17280,17344,17408,17664,17920,18176,18432,20480,22528,24576,26624,36864,38912,43008,45056,45184,46080,48128,48896,48640,53248,57344,4064280576,4072669184,4026531840,4028628992,4030726144,4032823296,4034920448,4043309056,4047503360,4049600512,4053794816,4055891968,4031709184,4033806336,4027584256,4035972864,4044361472,4054847232,3925868544,3927965696,3930062848,3932160000,3934257152,3942645760,3946840064,3948937216,3953131520,3955228672,3931045888,3933143040,3926920960,3935309568,3943698176,3954183936,4060086272,4070572032,4173332480,4174381056,4164943872,4165992448,4194365440,4196462592,4198559744,4200656896,4211142656,4211081216,4211081232,4221566976,4225761280,4222677232,4205899904,4026564608,4026568704]
def nA (f:Int):Int:=if 1<=f/\f<=100 then WT.getD (f - 1).toNat 0 else 0
theorem QI {k:IntKind} {l:List Int} {n:Nat} {c:PV} (hc:(l.map (PV.lit k))[n]?=some c):c = .lit k (l.getD n 0):=by
 rw[List.getElem?_map,Option.map_eq_some_iff] at hc
 obtain⟨z,hz,rfl⟩:=hc
 rw[List.getD_eq_getElem?_getD,hz]; rfl
theorem yk (f:Int) (hF:1<=f/\f<=100):ai gT 135 [.int .i64 f] (.int .u32 (nA f)):=by
 refine Spec.enter al P135 100 Tryz.func135 rfl (by kernel_rfl) ?_
 refine⟨by omega,show f < 101 by omega,.inr ⟨rfl,by omega,show 0+f.toNat*1 < 101 by omega,fun c hc=>?_⟩⟩
 have zO:((0::WT).map (PV.lit .u32))[f.toNat]?=some c:=by
  have e:0+f.toNat*1=f.toNat:=by omega
  have h0:((0::WT).map (PV.lit .u32))[0+f.toNat*1]?=some c:=hc
  rwa [e] at h0
 obtain rfl:=QI zO
 refine ax (show (0::WT).getD f.toNat 0=nA f from ?_)
 unfold nA
 rw[if_pos hF,show f.toNat=(f - 1).toNat+1 by omega]
 rfl
theorem g_ (f:Int):ai gT 102 [.int .i64 f] (.int .u32 (nA f)):=by
 refine Spec.enter al P102 100 Tryz.func102 rfl (by kernel_rfl) ?_
 refine (oE f).u ?_
 refine⟨fun h=>?_,fun h=>?_⟩
 ·exact ax (show (0:Int)=nA f by unfold nA; rw[if_neg h])
 refine (yk f (Classical.not_not.1 h)).u ?_
 exact ax rfl
def QJ (x:Nat × Nat × Nat × Nat):Prop:=x.1 < 10/\x.2.1<=40/\1<=x.2.2.2/\x.2.2.1+x.2.2.2<=32
theorem jA (s:Int) (h:s < 1\/34 < s):aC s = []:=by
 unfold aC
 repeat rw[if_neg (by omega)]
def fdB (l:List (Nat × Nat × Nat × Nat)):Bool:=l.all (fun x=>decide (x.1 < 10/\x.2.1<=40/\1<=x.2.2.2/\x.2.2.1+x.2.2.2<=32)) && decide (l.length<=7)
theorem Ao:∀ k:Fin 35,fdB (aC ((k.1:Nat):Int))=true:=by decide
theorem uC (s:Int):fdB (aC s)=true:=by
 by_cases h:s < 1\/34 < s
 ·rw[jA s h]; rfl
 ·have h1:=Ao ⟨s.toNat,by omega⟩
  rwa [show (((⟨s.toNat,by omega⟩:Fin 35).1:Nat):Int)=s by simp only[]; omega] at h1
theorem Ap (s:Int):(aC s).all (fun x=>decide (x.1 < 10/\x.2.1<=40/\1<=x.2.2.2/\x.2.2.1+x.2.2.2<=32))=true :=
 ((Bool.and_eq_true ..).mp (uC s)).1
theorem Dh (s:Int):∀ x∈aC s,QJ x:=fun x hx=>by
 have:=List.all_eq_true.1 (Ap s) x hx
 exact (of_decide_eq_true (p:=x.1 < 10/\x.2.1<=40/\1<=x.2.2.2/\x.2.2.1+x.2.2.2<=32) this)
theorem Aq (s:Int):(aC s).length<=7 :=
 of_decide_eq_true ((Bool.and_eq_true ..).mp (uC s)).2
def yl (i:IN) (w:Nat) (x:Nat × Nat × Nat × Nat):Nat:=plus w (ab (kD i x.1) x.2.1 x.2.2.2).toNat x.2.2.1 x.2.2.2
def uD (i:IN) (l:List (Nat × Nat × Nat × Nat)):Nat:=l.foldl (yl i) (nA i.form).toNat
theorem LH (w n a b:Nat) (hw:w < 2 ^ 32) (h:a+b<=32):plus w n a b < 2 ^ 32:=by
 unfold plus
 refine Nat.or_lt_two_pow hw ?_
 rw[Nat.shiftLeft_eq]
 have h1:n % 2 ^ b < 2 ^ b:=Nat.mod_lt _ (Nat.two_pow_pos b)
 calc n % 2 ^ b*2 ^ a < 2 ^ b*2 ^ a:=Nat.mul_lt_mul_of_pos_right h1 (Nat.two_pow_pos a)
  _=2 ^ (b+a):=(Nat.pow_add ..).symm
  _<=2 ^ 32:=Nat.pow_le_pow_right (by omega) (by omega)
theorem af (n:Int) (l w:Nat):0<=ab n l w/\ab n l w < 2 ^ w:=by
 have hp:(0:Int) < 2 ^ w:=by have:=cK w; have:=Nat.two_pow_pos w; omega
 exact⟨Int.emod_nonneg _ (by omega),Int.emod_lt_of_pos _ hp⟩
theorem uE (n l w:Nat):ab n l w=((n / 2 ^ l % 2 ^ w:Nat):Int):=by
 unfold ab
 rw[if_neg (by omega),← cK,← cK]
 norm_cast
def mL (s n:Int) (k:Nat):Int:=n+((if ab n k 1=s then 1 else 0) - ab n k 1)*2 ^ k
def bL (n:Int):Nat->Int
 | 0=>n
 | k+1=>mL (ab n 24 1) (bL n k) (22+k)
theorem kF (n:Int) (k:Nat):ab n k 1=0\/ab n k 1=1:=by
 have:=af n k 1
 have e:(2:Int) ^ 1=2:=rfl
 omega
theorem ym (s n:Int) (k:Nat) (hk:k=22\/k=23):n - 8388608<=mL s n k/\mL s n k<=n+8388608:=by
 have hb:=kF n k
 have p:(2:Int) ^ 22=4194304:=by decide
 have q:(2:Int) ^ 23=8388608:=by decide
 unfold mL
 rcases hk with rfl|rfl<;>rcases hb with h|h<;>rw[h]<;>split<;>omega
theorem Hc (n:Int) (k:Nat) (hk:k<=2):n - 16777216<=bL n k/\bL n k<=n+16777216:=by
 have h0:=ym (ab n 24 1) (bL n 0) 22 (.inl rfl)
 have h1:=ym (ab n 24 1) (bL n 1) 23 (.inr rfl)
 have e0:bL n 0=n:=rfl
 have e1:bL n 1=mL (ab n 24 1) (bL n 0) 22:=rfl
 have e2:bL n 2=mL (ab n 24 1) (bL n 1) 23:=rfl
 match k,hk with
 | 0,_=>omega
 | 1,_=>omega
 | 2,_=>omega
def dp (n:Int) (w:Nat):Int:=if ab n (w - 1) 1=1 then n - 2 ^ w else n
def eh (i:IN):IN:=if aa i.form=34 then {i with ay:=bL (ab i.ay 0 25) 2} else i
def bC (i:IN):Int:=((uD (eh i) (aC (aa i.form)):Nat):Int)
theorem QK:WT.all (fun z=>decide (0<=z/\z < 4294967296))=true:=by decide
theorem BR (f:Int):0<=nA f/\nA f < 4294967296:=by
 unfold nA
 split
 ·rw[List.getD_eq_getElem?_getD]
  cases h:WT[(f - 1).toNat]? with
  | none=>exact⟨Int.le_refl 0,by decide⟩
  | some z=>exact of_decide_eq_true (List.all_eq_true.1 QK z (List.mem_of_getElem? h))
 ·omega
theorem Hd (i:IN) (l:List (Nat × Nat × Nat × Nat)) (h:∀ y∈l,QJ y):∀ w,w < 2 ^ 32->l.foldl (yl i) w < 2 ^ 32:=by
 induction l with
 | nil=>exact fun w hw=>hw
 | cons y l ih=>exact fun w hw=>ih (fun z hz=>h z (List.mem_cons_of_mem _ hz)) _ (LH w _ _ _ hw (h y List.mem_cons_self).2.2.2)
theorem He (i:IN) (l:List (Nat × Nat × Nat × Nat)) (h:∀ y∈l,QJ y):uD i l < 2 ^ 32 :=
 Hd i l h _ (by have:=BR i.form; omega)
def vF (i:IN) (x:Nat × Nat × Nat × Nat):Nat:=(ab (kD i x.1) x.2.1 x.2.2.2).toNat
theorem O' (i:IN) (x:Nat × Nat × Nat × Nat):vF i x < 2 ^ x.2.2.2:=by
 have:=af (kD i x.1) x.2.1 x.2.2.2
 have e:=cK x.2.2.2
 unfold vF; omega
theorem Di (w n a b p:Nat):(plus w n a b).testBit p=(w.testBit p || (decide (a<=p) && decide (p < a+b) && n.testBit (p - a))):=by
 unfold plus
 rw[Nat.testBit_or,Nat.testBit_shiftLeft,Nat.testBit_mod_two_pow]
 congr 1
 by_cases h:a<=p
 ·by_cases h2:p < a+b
  ·rw[decide_eq_true h2,decide_eq_true (show p - a < b by omega)]; simp[h]
  ·rw[decide_eq_false h2,decide_eq_false (show ¬ p - a < b by omega)]; simp
 ·simp[h]
def Yi (p:Nat) (x:Nat × Nat × Nat × Nat):Bool:=decide (x.2.2.1<=p) && decide (p < x.2.2.1+x.2.2.2)
theorem pt (i:IN) (p:Nat):∀ (l:List (Nat × Nat × Nat × Nat)) (W:Nat),(l.foldl (yl i) W).testBit p=(W.testBit p || l.any fun x=>Yi p x && (vF i x).testBit (p - x.2.2.1))
 | [],W=>by simp
 | x::l,W=>by
  rw[List.foldl_cons,pt i p l,List.any_cons,← Bool.or_assoc]
  congr 1
  exact Di W (vF i x) x.2.2.1 x.2.2.2 p
def Ar (l:List (Nat × Nat × Nat × Nat)):Bool:=l.all fun x=>l.all fun y=>decide (x=y) || decide (x.2.2.1+x.2.2.2<=y.2.2.1) || decide (y.2.2.1+y.2.2.2<=x.2.2.1)
def Hf (W:Nat) (l:List (Nat × Nat × Nat × Nat)):Bool:=l.all fun x=>decide (W / 2 ^ x.2.2.1 % 2 ^ x.2.2.2=0)
theorem Dj:∀ k:Fin 35,Ar (aC ((k.1:Nat):Int))=true:=by decide
theorem wc (s:Int):Ar (aC s)=true:=by
 by_cases h:s < 1\/34 < s
 ·rw[jA s h]; rfl
 ·have h1:=Dj ⟨s.toNat,by omega⟩
  rwa [show (((⟨s.toNat,by omega⟩:Fin 35).1:Nat):Int)=s by simp only[]; omega] at h1
theorem Hg:(List.range 101).all (fun k=>Hf (nA (k:Int)).toNat (aC (aa (k:Int))))=true:=by decide +kernel
theorem yn (f:Int):Hf (nA f).toNat (aC (aa f))=true:=by
 by_cases h:1<=f/\f<=100
 ·have h1:=List.all_eq_true.1 Hg f.toNat (List.mem_range.2 (by omega))
  rwa [show ((f.toNat:Nat):Int)=f by omega] at h1
 ·unfold aa; rw[if_neg h,jA 0 (by omega)]; rfl
theorem As (i:IN) {l:List (Nat × Nat × Nat × Nat)} {W:Nat} (ha:Ar l=true) (hf:Hf W l=true) {x:Nat × Nat × Nat × Nat} (hx:x∈l):(l.foldl (yl i) W) / 2 ^ x.2.2.1 % 2 ^ x.2.2.2=vF i x:=by
 apply Nat.eq_of_testBit_eq
 intro p
 rw[Nat.testBit_mod_two_pow,Nat.testBit_div_two_pow]
 by_cases hp:p < x.2.2.2
 ·rw[decide_eq_true hp,Bool.true_and,pt]
  have h0:W.testBit (p+x.2.2.1)=false:=by
   have h1:=of_decide_eq_true (List.all_eq_true.1 hf x hx)
   have h2:(W / 2 ^ x.2.2.1 % 2 ^ x.2.2.2).testBit p=false:=by rw[h1]; simp
   rw[Nat.testBit_mod_two_pow,Nat.testBit_div_two_pow,decide_eq_true hp,Bool.true_and] at h2
   exact h2
  rw[h0,Bool.false_or,Bool.eq_iff_iff,List.any_eq_true]
  constructor
  ·rintro⟨y,hy,hb⟩
   simp only[Bool.and_eq_true,Yi,decide_eq_true_eq] at hb
   have h3:=List.all_eq_true.1 (List.all_eq_true.1 ha x hx) y hy
   simp only[Bool.or_eq_true,decide_eq_true_eq] at h3
   rcases h3 with (rfl|h3)|h3
   ·have:=hb.2; rwa [show p+x.2.2.1 - x.2.2.1=p by omega] at this
   ·omega
   ·omega
  ·intro hb
   refine⟨x,hx,?_⟩
   simp only[Bool.and_eq_true,Yi,decide_eq_true_eq]
   exact⟨⟨by omega,by omega⟩,by rwa [show p+x.2.2.1 - x.2.2.1=p by omega]⟩
 ·rw[decide_eq_false hp,Bool.false_and]
  exact (Nat.testBit_lt_two_pow (Nat.lt_of_lt_of_le (O' i x) (Nat.pow_le_pow_right (by decide) (by omega)))).symm
def WU (l:List (Nat × Nat × Nat × Nat)) (p:Nat):Bool:=l.all fun x=>!Yi p x
theorem At (i:IN) {l:List (Nat × Nat × Nat × Nat)} {W p:Nat} (h:WU l p=true):(l.foldl (yl i) W).testBit p=W.testBit p:=by
 rw[pt]
 have:(l.any fun x=>Yi p x && (vF i x).testBit (p - x.2.2.1))=false:=by
  rw[List.any_eq_false]
  intro x hx
  have:=List.all_eq_true.1 h x hx
  simp only[Bool.not_eq_true'] at this
  rw[this]; simp
 rw[this,Bool.or_false]
def LI (f:Nat):Nat:=(nA (f:Int)).toNat
def QL (f:Nat):List (Nat × Nat × Nat × Nat):=aC (aa (f:Int))
def Hh (f g:Nat):Bool:=(QL f).any fun x=>decide (x.1 < 4) && decide (x.2.1=0) && decide (x.2.2.2=4) && ([0,1,2,3].all fun k=>WU (QL g) (x.2.2.1+k) && (LI g).testBit (x.2.2.1+k))
def BS (f g:Nat):Bool:=decide (f=g) || ((List.range 32).any fun p=>WU (QL f) p && WU (QL g) p && ((LI f).testBit p != (LI g).testBit p)) || Hh f g || Hh g f
theorem we:((List.range 47).all fun f=>(List.range 47).all fun g=>BS (f+1) (g+1))=true:=by decide +kernel
theorem Au:((List.range 53).all fun f=>(List.range 53).all fun g=>BS (f+48) (g+48))=true:=by decide +kernel
theorem gG {c r:Int} (h:aG c r):0<=r/\r < 15:=by unfold aG at h; omega
theorem nk {i:IN} (h:aw i):(0<=i.rd/\i.rd < 15)/\(0<=i.rn/\i.rn < 15)/\(0<=i.rm/\i.rm < 15)/\(0<=i.ra/\i.ra < 15):=by
 obtain⟨_,h1,h2,h3,h4,_⟩:=h
 exact⟨gG h1,gG h2,gG h3,gG h4⟩
theorem iY (i:IN):(eh i).form=i.form:=by unfold eh; split<;>rfl
theorem Dk (i:IN) (f:Nat) (hf:f < 4):kD (eh i) f=kD i f:=by
 unfold eh
 split
 ·match f,hf with
  | 0,_|1,_|2,_|3,_=>rfl
 ·rfl
theorem nn (i:IN) {p:Nat} (h:WU (aC (aa i.form)) p=true):(bC i).toNat.testBit p=(nA i.form).toNat.testBit p:=by
 unfold bC uD
 rw[Int.toNat_natCast,At _ h,iY]
theorem sj (i:IN) {x:Nat × Nat × Nat × Nat} (hx:x∈aC (aa i.form)):(bC i).toNat / 2 ^ x.2.2.1 % 2 ^ x.2.2.2=vF (eh i) x:=by
 unfold bC uD
 rw[Int.toNat_natCast]
 have h:=yn i.form
 rw[← iY i] at h
 refine As (eh i) (wc _) ?_ hx
 rw[iY] at h ⊢
 exact h
theorem Yj:∀ v:Fin 16,(v.1.testBit 0=true/\v.1.testBit 1=true/\v.1.testBit 2=true/\v.1.testBit 3=true)->v.1=15:=by decide
theorem BT {a b:IN} (ha:aw a) (fa:a.form=((a.form.toNat:Nat):Int)) (fb:b.form=((b.form.toNat:Nat):Int)) (h:Hh a.form.toNat b.form.toNat=true):bC a≠bC b:=fun e=>by
 obtain⟨x,hx,h⟩:=List.any_eq_true.1 h
 simp only[Bool.and_eq_true,decide_eq_true_eq] at h
 obtain⟨⟨⟨h1,h2⟩,h3⟩,h4⟩:=h
 have uv:x∈aC (aa a.form):=by rw[fa]; exact hx
 have hf:=sj a uv
 have hr:vF (eh a) x < 15:=by
  unfold vF
  rw[Dk a x.1 h1,h2,h3]
  obtain⟨r0,r1,r2,r3⟩:=nk ha
  have key:∀ r:Int,0<=r/\r < 15->(ab r 0 4).toNat < 15:=fun r hr=>by
   unfold ab; rw[if_neg (by omega)]
   have e0:(2:Int) ^ 0=1:=rfl
   have e4:(2:Int) ^ 4=16:=rfl
   rw[e0,e4]; omega
  match x.1,h1 with
  | 0,_=>exact key _ r0
  | 1,_=>exact key _ r1
  | 2,_=>exact key _ r2
  | 3,_=>exact key _ r3
 have hv:∀ k,k∈[0,1,2,3]->(vF (eh a) x).testBit k=true:=fun k hk=>by
  have h5:=List.all_eq_true.1 h4 k hk
  simp only[Bool.and_eq_true] at h5
  have hk4:k < 4:=by simp at hk; omega
  rw[← hf,h3,Nat.testBit_mod_two_pow,Nat.testBit_div_two_pow,decide_eq_true hk4,Bool.true_and,e]
  have h6:WU (aC (aa b.form)) (x.2.2.1+k)=true:=by rw[fb]; exact h5.1
  rw[Nat.add_comm,nn b h6]
  have h7:=h5.2
  unfold LI at h7
  rw[← fb] at h7
  exact h7
 have:=Yj ⟨vF (eh a) x,by omega⟩ ⟨hv 0 (by simp),hv 1 (by simp),hv 2 (by simp),hv 3 (by simp)⟩
 simp only[] at this
 omega
theorem BU {a b:IN} (ha:aw a) (hb:aw b) (h:BS a.form.toNat b.form.toNat=true) (e:bC a=bC b):a.form=b.form:=by
 have f1:=ha.1
 have f2:=hb.1
 have fa:a.form=((a.form.toNat:Nat):Int):=by omega
 have fb:b.form=((b.form.toNat:Nat):Int):=by omega
 unfold BS at h
 simp only[Bool.or_eq_true,decide_eq_true_eq] at h
 rcases h with ((h|h)|h)|h
 ·omega
 ·obtain⟨p,_,h⟩:=List.any_eq_true.1 h
  simp only[Bool.and_eq_true] at h
  obtain⟨⟨h1,h2⟩,h3⟩:=h
  have k1:=nn a (p:=p) (by rw[fa]; exact h1)
  have k2:=nn b (p:=p) (by rw[fb]; exact h2)
  unfold LI at h3
  rw[← fa,← fb,← k1,← k2,e] at h3
  simp at h3
 ·exact absurd e (BT ha fa fb h)
 ·exact absurd e.symm (BT hb fb fa h)
theorem Dl {a b:IN} (ha:aw a) (hb:aw b) (hw:48<=a.form↔48<=b.form) (e:bC a=bC b):a.form=b.form:=by
 have f1:=ha.1
 have f2:=hb.1
 by_cases h:48<=a.form
 ·have h1:=List.all_eq_true.1 (List.all_eq_true.1 Au (a.form.toNat - 48) (List.mem_range.2 (by omega))) (b.form.toNat - 48) (List.mem_range.2 (by have:=hw.1 h; omega))
  rw[show a.form.toNat - 48+48=a.form.toNat by omega,show b.form.toNat - 48+48=b.form.toNat by have:=hw.1 h; omega] at h1
  exact BU ha hb h1 e
 ·have h1:=List.all_eq_true.1 (List.all_eq_true.1 we (a.form.toNat - 1) (List.mem_range.2 (by omega))) (b.form.toNat - 1) (List.mem_range.2 (by omega))
  rw[show a.form.toNat - 1+1=a.form.toNat by omega,show b.form.toNat - 1+1=b.form.toNat by omega] at h1
  exact BU ha hb h1 e
def xV (s w:Int) (f:Nat):Int:=((aC s).filter fun x=>decide (x.1=f)).foldl (fun a x=>a+ab w x.2.2.1 x.2.2.2*2 ^ x.2.1) 0
def qv (s f x:Int):Int:=if s=15 then dp x 9 else if s=16 then dp x 12 else if s=33 then dp x 21 else if s=34 then dp (bL x 2) 25 else if s=1/\1 < f/\x=0 then 32 else x
def O_ (s k x:Int):Int:=if 21<=s/\s<=23/\x=0/\(k=1\/k=2) then 32 else x
def Yk (s w x:Int):Int:=if s=32 then ab w 0 4 else x
def bg (f w:Int):IN:=⟨f,xV (aa f) w 0,xV (aa f) w 1,Yk (aa f) w (xV (aa f) w 2),xV (aa f) w 3,qv (aa f) f (xV (aa f) w 4),xV (aa f) w 5,O_ (aa f) (xV (aa f) w 5) (xV (aa f) w 6),xV (aa f) w 7,xV (aa f) w 8,xV (aa f) w 9⟩
def xR (s:Int) (i:IN) (f:Nat):Int:=((aC s).filter fun x=>decide (x.1=f)).foldl (fun a x=>a+ab (kD i x.1) x.2.1 x.2.2.2*2 ^ x.2.1) 0
theorem sk {α β:Type} {f g:β->α->β}:∀ {l:List α} {b:β},(∀ b x,x∈l->f b x=g b x)->l.foldl f b=l.foldl g b
 | [],_,_=>rfl
 | x::l,b,h=>by rw[List.foldl_cons,List.foldl_cons,h b x (List.mem_cons_self ..)]; exact sk fun b y hy=>h b y (List.mem_cons_of_mem _ hy)
theorem QM (i:IN) (x:Nat × Nat × Nat × Nat):((vF i x:Nat):Int)=ab (kD i x.1) x.2.1 x.2.2.2:=Int.toNat_of_nonneg (af ..).1
theorem uF (i:IN) {x:Nat × Nat × Nat × Nat} (hx:x∈aC (aa i.form)):ab (bC i) x.2.2.1 x.2.2.2=ab (kD (eh i) x.1) x.2.1 x.2.2.2:=by
 have h:=sj i hx
 have e:bC i=(((bC i).toNat:Nat):Int):=by unfold bC; rw[Int.toNat_natCast]
 rw[e,uE,h,QM]
theorem hU (i:IN) (f:Nat):xV (aa i.form) (bC i) f=xR (aa i.form) (eh i) f:=by
 unfold xV xR
 refine sk fun b x hx=>?_
 rw[uF i (List.mem_filter.1 hx).1]
theorem lN {f:Int} (h:1<=f/\f<=100):1<=aa f/\aa f<=34:=by
 have h1:((List.range 100).all fun k=>decide (1<=aa ((k+1:Nat):Int)/\aa ((k+1:Nat):Int)<=34))=true:=by decide +kernel
 have h2:=of_decide_eq_true (List.all_eq_true.1 h1 (f.toNat - 1) (List.mem_range.2 (by omega)))
 rwa [show (((f.toNat - 1+1:Nat)):Int)=f by omega] at h2
theorem uG {f:Int} (h:1<=f/\f<=100):aa f=1->f=1\/f=2\/f=3:=by
 have h1:((List.range 100).all fun k=>decide (aa ((k+1:Nat):Int)=1->k < 3))=true:=by decide +kernel
 have h2:=of_decide_eq_true (List.all_eq_true.1 h1 (f.toNat - 1) (List.mem_range.2 (by omega)))
 rw[show (((f.toNat - 1+1:Nat)):Int)=f by omega] at h2
 intro h3; have:=h2 h3; omega
theorem tm0 {n s:Int} (h:n.tmod s=0):n % s=0:=Int.emod_eq_zero_of_dvd (Int.dvd_of_tmod_eq_zero h)
theorem yo {f t s n:Int} (h:dN f t s n):(s=0/\n=0)\/(s≠0/\f<=n/\n<=t/\n % s=0):=h.imp id fun ⟨a,b,c,d⟩=>⟨a,b,c,tm0 d⟩
theorem Hi (x k:Nat):x &&& 2 ^ k=(x / 2 ^ k % 2)*2 ^ k:=by
 apply Nat.eq_of_testBit_eq
 intro i
 rw[Nat.testBit_and,Nat.testBit_two_pow]
 rcases Nat.mod_two_eq_zero_or_one (x / 2 ^ k) with h|h
 ·rw[h,Nat.zero_mul,Nat.zero_testBit]
  by_cases hi:k=i
  ·subst hi; rw[Nat.testBit_eq_decide_div_mod_eq]; simp[h]
  ·simp[hi]
 ·rw[h,Nat.one_mul,Nat.testBit_two_pow]
  by_cases hi:k=i
  ·subst hi; rw[Nat.testBit_eq_decide_div_mod_eq]; simp[h]
  ·simp[hi]
theorem Dm (k x:Nat) (hk:8<=k):x &&& (2 ^ k ||| (2 ^ 8 - 1))=(x / 2 ^ k % 2)*2 ^ k+x % 256:=by
 rw[Nat.and_or_distrib_left,Nat.and_two_pow_sub_one_eq_mod,Hi]
 have cE:x % 2 ^ 8 < 2 ^ k:=Nat.lt_of_lt_of_le (Nat.mod_lt _ (by decide)) (Nat.pow_le_pow_right (by decide) hk)
 have:=Nat.two_pow_add_eq_or_of_lt cE (x / 2 ^ k % 2)
 rw[Nat.mul_comm,← this]
theorem yp (a m:Nat) (ha:a < 9223372036854775808) (hm:m < 9223372036854775808) (h:bits .andNot .i64 (a:Int) (m:Int)=0):a &&& m=a:=by
 have e:∀ c:Nat,c < 9223372036854775808->(BitVec.ofInt 64 (c:Int)).toNat=c:=fun c hc=>by
  rw[BitVec.ofInt_natCast,BitVec.toNat_ofNat]; exact Nat.mod_eq_of_lt (by omega)
 have h1:IntKind.i64.wrap ((BitVec.ofInt 64 (a:Int) &&& ~~~ BitVec.ofInt 64 (m:Int)).toNat:Int)=0:=h
 have cE:(BitVec.ofInt 64 (a:Int) &&& ~~~ BitVec.ofInt 64 (m:Int)).toNat < 9223372036854775808:=by
  rw[BitVec.toNat_and,e a ha]
  exact Nat.lt_of_le_of_lt Nat.and_le_left ha
 rw[IntKind.wrap_i64] at h1
 have h2:(BitVec.ofInt 64 (a:Int) &&& ~~~ BitVec.ofInt 64 (m:Int))=0#64:=BitVec.eq_of_toNat_eq (by rw[BitVec.toNat_ofNat]; omega)
 have h3:BitVec.ofInt 64 (a:Int) &&& BitVec.ofInt 64 (m:Int)=BitVec.ofInt 64 (a:Int):=by
  apply BitVec.eq_of_getLsbD_eq
  intro i hi
  have h4:=congrArg (fun v=>v.getLsbD i) h2
  simp only[BitVec.getLsbD_and,BitVec.getLsbD_not,BitVec.getLsbD_zero,hi,decide_true,Bool.true_and] at h4
  rw[BitVec.getLsbD_and]
  cases ha:(BitVec.ofInt 64 (a:Int)).getLsbD i<;>cases hb:(BitVec.ofInt 64 (m:Int)).getLsbD i<;>simp_all
 have h5:=congrArg BitVec.toNat h3
 rwa [BitVec.toNat_and,e a ha,e m hm] at h5
theorem wg (k:Nat) (hk:8<=k) (tN:k<=15) (r m:Int) (hm:m=2 ^ k+255) (h0:0 < r) (h1:r<=9223372036854775807) (h:bits .andNot .i64 r m=0):r / 2 ^ k % 2*2 ^ k+r % 256=r:=by
 have e:=yp r.toNat (2 ^ k+255) (by omega) (by have:=Nat.pow_le_pow_right (n:=2) (by omega) tN; omega) (by
  rw[show ((r.toNat:Nat):Int)=r by omega,show (((2 ^ k+255:Nat)):Int)=m by rw[hm]; push_cast; rfl]; exact h)
 have e2:2 ^ k+255=2 ^ k ||| (2 ^ 8 - 1):=by
  have cE:255 < 2 ^ k:=Nat.lt_of_lt_of_le (show 255 < 2 ^ 8 by decide) (Nat.pow_le_pow_right (by decide) hk)
  have:=Nat.two_pow_add_eq_or_of_lt cE 1
  rwa [Nat.mul_one] at this
 rw[e2,Dm k _ hk] at e
 have e3:((r.toNat / 2 ^ k % 2*2 ^ k+r.toNat % 256:Nat):Int)=((r.toNat:Nat):Int):=congrArg _ e
 push_cast at e3
 rw[show ((r.toNat:Nat):Int)=r by omega] at e3
 exact e3
theorem wh {n:Int} (h:0<=n/\n < 33554432):∃ a,0<=a/\a < 4194304/\(n=a\/n=4194304+a\/n=8388608+a\/n=12582912+a\/n=16777216+a\/n=20971520+a\/n=25165824+a\/n=29360128+a):=⟨n % 4194304,by omega⟩
theorem oG (n:Int) (h:0<=n/\n < 33554432):bL n 2=n+((if n / 4194304 % 2=n / 16777216 % 2 then 1 else 0) - n / 4194304 % 2)*4194304+((if n / 8388608 % 2=n / 16777216 % 2 then 1 else 0) - n / 8388608 % 2)*8388608:=by
 have p22:(2:Int) ^ 22=4194304:=by decide
 have p23:(2:Int) ^ 23=8388608:=by decide
 have p24:(2:Int) ^ 24=16777216:=by decide
 have p1:(2:Int) ^ 1=2:=by decide
 have b:∀ m:Int,0<=m->∀ k,ab m k 1=m / 2 ^ k % 2:=fun m hm k=>by unfold ab; rw[if_neg (by omega),p1]
 obtain⟨t,ht⟩:∃ t,t=mL (ab n 24 1) n 22:=⟨_,rfl⟩
 have e:bL n 2=mL (ab n 24 1) t 23:=by rw[ht]; rfl
 unfold mL at ht
 rw[b n h.1,b n h.1,p24,p22] at ht
 have ht0:0<=t/\t < 33554432/\t / 8388608 % 2=n / 8388608 % 2:=by
  obtain⟨a,a0,a1,h8⟩:=wh h
  rcases h8 with h8|h8|h8|h8|h8|h8|h8|h8<;>split at ht<;>omega
 rw[e]
 unfold mL
 rw[b n h.1,b t ht0.1,p24,p23,ht0.2.2,ht]
theorem oH {n:Int} (h:0<=n/\n < 33554432):0<=bL n 2/\bL n 2 < 33554432:=by
 rw[oG n h]
 obtain⟨a,a0,a1,h8⟩:=wh h
 rcases h8 with h8|h8|h8|h8|h8|h8|h8|h8<;>split<;>split<;>omega
theorem mm {n:Int} (h:0<=n/\n < 33554432):bL n 2 / 16777216=n / 16777216/\bL n 2 % 4194304=n % 4194304/\bL n 2 / 4194304 % 2=(if n / 4194304 % 2=n / 16777216 % 2 then 1 else 0)/\bL n 2 / 8388608 % 2=(if n / 8388608 % 2=n / 16777216 % 2 then 1 else 0):=by
 rw[oG n h]
 obtain⟨a,a0,a1,h8⟩:=wh h
 rcases h8 with h8|h8|h8|h8|h8|h8|h8|h8<;>split<;>split<;>omega
theorem Dn {n:Int} (h:0<=n/\n < 33554432):bL (bL n 2) 2=n:=by
 have c:=mm h
 rw[oG _ (oH h),c.1,c.2.2.1,c.2.2.2,oG n h]
 clear c
 obtain⟨a,a0,a1,h8⟩:=wh h
 have e24:n / 16777216 % 2=n / 16777216:=by omega
 rw[e24]
 rcases h8 with h8|h8|h8|h8|h8|h8|h8|h8
 ·have x:n / 4194304 % 2=0:=by omega
  have y:n / 8388608 % 2=0:=by omega
  have z:n / 16777216=0:=by omega
  rw[x,y,z]; simp<;>omega
 ·have x:n / 4194304 % 2=1:=by omega
  have y:n / 8388608 % 2=0:=by omega
  have z:n / 16777216=0:=by omega
  rw[x,y,z]; simp<;>omega
 ·have x:n / 4194304 % 2=0:=by omega
  have y:n / 8388608 % 2=1:=by omega
  have z:n / 16777216=0:=by omega
  rw[x,y,z]; simp<;>omega
 ·have x:n / 4194304 % 2=1:=by omega
  have y:n / 8388608 % 2=1:=by omega
  have z:n / 16777216=0:=by omega
  rw[x,y,z]; simp<;>omega
 ·have x:n / 4194304 % 2=0:=by omega
  have y:n / 8388608 % 2=0:=by omega
  have z:n / 16777216=1:=by omega
  rw[x,y,z]; simp<;>omega
 ·have x:n / 4194304 % 2=1:=by omega
  have y:n / 8388608 % 2=0:=by omega
  have z:n / 16777216=1:=by omega
  rw[x,y,z]; simp<;>omega
 ·have x:n / 4194304 % 2=0:=by omega
  have y:n / 8388608 % 2=1:=by omega
  have z:n / 16777216=1:=by omega
  rw[x,y,z]; simp<;>omega
 ·have x:n / 4194304 % 2=1:=by omega
  have y:n / 8388608 % 2=1:=by omega
  have z:n / 16777216=1:=by omega
  rw[x,y,z]; simp<;>omega
theorem aQ {i:IN} (h:aa i.form≠34):eh i=i:=if_neg h
theorem Yl {i:IN} (h:aa i.form=34):eh i = {i with ay:=bL (ab i.ay 0 25) 2}:=if_pos h
theorem bj {a b:IN} (h0:a.form=b.form) (h1:a.rd=b.rd) (h2:a.rn=b.rn) (h3:a.rm=b.rm) (h4:a.ra=b.ra) (h5:a.ay=b.ay) (h6:a.kind=b.kind) (h7:a.bF=b.bF) (h8:a.set=b.set) (h9:a.cond=b.cond) (cZ:a.av=b.av):a=b:=by
 cases a; cases b; simp_all
def c_ (s:Int) (i:IN):IN:=⟨i.form,xR s i 0,xR s i 1,if s=32 then ab i.rm 0 4 else xR s i 2,xR s i 3,qv s i.form (xR s i 4),xR s i 5,O_ s (xR s i 5) (xR s i 6),xR s i 7,xR s i 8,xR s i 9⟩
theorem Dp (i:IN) (LJ:aa i.form=32->ab (bC i) 0 4=ab (eh i).rm 0 4):bg i.form (bC i) = {c_ (aa i.form) (eh i) with form:=i.form}:=by
 unfold bg c_
 rw[hU,hU,hU,hU,hU,hU,hU,hU,hU,hU,iY]
 unfold Yk
 by_cases h:aa i.form=32
 ·rw[if_pos h,if_pos h,LJ h]
 ·rw[if_neg h,if_neg h]
end Go.Proofs.YtlgkljpgagfndaaGreatDoor.Pw

/- What this claim is proved with: no condition. -/
import Derived.Test.YtlgkljpgagfndaaGreatDoorNs8
import Derived.Test.YtlgkljpgagfndaaGreatDoorNs9
import Derived.Test.YtlgkljpgagfndaaGreatDoorNs10
import Derived.Test.YtlgkljpgagfndaaGreatDoorNsImmD
import Derived.Laws.BitsLemmas
set_option maxRecDepth 100000
set_option maxHeartbeats 16000000
set_option linter.unusedVariables false
set_option linter.unusedSimpArgs false
namespace Go.Proofs.YtlgkljpgagfndaaGreatDoor.Pw
open Go Go.RowKit
theorem fI {f:FuncId} {fn:Func} {c:Code} (hf:Tryz.prog.funcs[f]?=some fn) (hb:fn.body=some c) (hn:(fn.name == "runtime.NumGoroutine")=false):Ev.g_ gT.cx.P f:=Ev.mz hf hb hn
theorem pU {w:World} {I:Nat->Prop} {β:aB}:bB w I [] β []:=by simp only[bB]
theorem gC {w:World} {I:Nat->Prop} {β:aB} {x:PV} {v:Value} {xs:List PV} {vs:List Value} (h:x.Is w I β v) (h':bB w I xs β vs):bB w I (x::xs) β (v::vs):=by simp only[bB]; exact⟨h,h'⟩
theorem da {w:World} {I:Nat->Prop} {β:aB} (k:IntKind) (n:Int):(PV.int k n).Is w I β (.int k n):=by simp only[PV.Is]
theorem iR {w:World} {I:Nat->Prop} {β:aB} {xs:List PV} {vs:Array Value} (h:bB w I xs β vs.toList):(PV.tup xs).Is w I β (.tuple vs):=by simp only[PV.Is]; exact⟨vs,rfl,h⟩
theorem RV {w:World} {I:Nat->Prop} {β:aB} {x:PV} {bw:List Value} (h:bB w I [x] β bw):∃ v,bw = [v]/\x.Is w I β v:=by
 match bw,h with
 | [v],h=>exact⟨v,rfl,by simpa only [bB,and_true] using h⟩
theorem XN {w:World} {I:Nat->Prop} {β:aB} {x y:PV} {bw:List Value} (h:bB w I [x,y] β bw):∃ v u,bw = [v,u]/\x.Is w I β v/\y.Is w I β u:=by
 match bw,h with
 | [v,u],h=>exact⟨v,u,rfl,by simpa only [bB,and_true] using h⟩
theorem Gr {G:Gx} {I:Nat->Prop} {w:World} (hM:dj G I w) {g:Nat} {k:IntKind} {l:List Int} (h:(g,l.map (PV.lit k))∈G.kH):∃ ty fr,w.heap[g]?=some (.cells (l.map (Value.int k)).toArray ty fr):=by
 obtain⟨arr,ty,fr,h1,h2⟩:=hM.row _ _ h
 obtain⟨_,h3⟩:=hM.oh _ _ h
 refine⟨ty,fr,?_⟩
 rw[h1]
 congr 2
 refine Array.ext' (List.ext_getElem? fun i=>?_)
 rw[List.length_map] at h2
 by_cases hi:i < l.length
 ·obtain⟨v,hv,ZE,_⟩:=h3.get (i:=i) (c:=PV.lit k l[i]) (by simp[hi])
  rw[Ev.fi h1,Nat.zero_add] at hv
  simp only[PV.Is] at ZE
  subst ZE
  simp only[Array.getElem?_toList,hv,List.getElem?_map,List.getElem?_eq_getElem hi,Option.map_some]
 ·rw[List.getElem?_eq_none (by simp; omega),List.getElem?_eq_none (by simp; omega)]
theorem ai.CA {G:Gx} {f:FuncId} {args:List PV} {r:PV} (he:Ev.g_ G.cx.P f)
  (h:∀ I β w bw,dj G I w->bB w I args β bw->∃ v,r.Is w I no v/\(∀ w' I' aV,r.Is w' I' aV v)/\Calls G.cx.P f bw.toArray w fun e w'=>e = .returned v/\Below w.heap.size w w'):ai G f args r:=by
 refine Spec.intro he fun I β w bw hH hM hA=>?_
 obtain⟨v,_,hr,hc⟩:=h I β w bw hM hA
 refine hc.mono fun e w' ⟨he,hB⟩=>⟨v,r,[],I,β,he,rfl,hr _ _ _,hH.Ce _ _,hM.below hB,⟨hB.os,hB.tape,hB.output,hB.size,fun g hg _=>hB.block g hg,fun g _ h=>h,fun _ h=>h,fun _ _ h=>.inl h⟩,Nat.le_refl _,fun _ _ _=>rfl⟩
theorem yY:IntKind.i64.wrap (0+1)=1:=by decide
theorem KZ:IntKind.i64.wrap (1+1)=2:=by decide
theorem K0:IntKind.i64.wrap (2+1)=3:=by decide
theorem K1:IntKind.i64.wrap (3+1)=4:=by decide
theorem K2:IntKind.i64.wrap (4+1)=5:=by decide
theorem K3:IntKind.i64.wrap (5+1)=6:=by decide
theorem K4:IntKind.i64.wrap (6+1)=7:=by decide
theorem K5:IntKind.i64.wrap (7+1)=8:=by decide
theorem K6:IntKind.i64.wrap (8+1)=9:=by decide
theorem wu:IntKind.i64.wrap (9+1)=10:=by decide
theorem wv:IntKind.i64.wrap (10+1)=11:=by decide
structure IN where
 form:Int
 rd:Int
 rn:Int
 rm:Int
 ra:Int
 az:Int
 kind:Int
 bC:Int
 set:Int
 cond:Int
 ao:Int
def XO (i:IN):List PV:=[.int .i64 i.form,.int .i64 i.rd,.int .i64 i.rn,.int .i64 i.rm,.int .i64 i.ra,.int .i64 i.az,.int .i64 i.kind,.int .i64 i.bC,.int .i64 i.set,.int .i64 i.cond,.int .i64 i.ao]
def cG (i:IN):PV:=.agg (XO i)
def bI (l:List IN):List PV:=l.map cG
def iZ:IN:=⟨0,0,0,0,0,0,0,0,0,0,0⟩
theorem CB {I:Nat->Prop} {w:World} (hM:dj gT I w):rX w :=
 Gr hM (g:=1) (k:=.u32) (l:=[1,65537,16777472,16843009]) (show (1,KJ)∈gT.kH from List.mem_cons_self)
theorem l7 (f:Int):ai gT 28 [.int .i64 f] (.bool (1<=f/\f<=100)):=by
 refine Spec.enter an Zp 100 Tryz.func28 rfl (by kernel_rfl) ?_
 repeat' ((conv=>whnf); first|(refine (And.intro (fun _=>?_) (fun _=>?_):(_->_)/\(_->_))<;>(first|(exfalso; first|contradiction|omega)|skip))|refine Or.inl (And.intro (by first|exact av (by omega)|exact af (by omega)|exact aP (by omega)|exact bb (by omega)) ?_)|(refine And.intro (show (_:Int)≠0 by omega) (Or.inl (And.intro (show (0:Int)<=_ by omega) (And.intro (show (0:Int) < _ by omega) ?_))))|(refine And.intro (show (_:Int)≠0 by omega) (Or.inl (And.intro (show (0:Int)<=_ by omega) (And.intro (by first|exact (show (_:Int)<=9223372036854775807 by omega)|exact (show (_:Int)<=4294967295 by omega)) (And.intro (show (0:Int) < _ by omega) ?_)))))|(refine aD ?_; show _↔_; omega)|(refine aD ?_; show ¬ _; omega)|(intro _))
theorem ka (f:Int):ai gT 68 [.int .i64 f] (.bool (48<=f/\f<=100)):=by
 refine Spec.enter an P68 100 Tryz.func68 rfl (by kernel_rfl) ?_
 refine (l7 f).u ?_
 repeat' ((conv=>whnf); first|(refine (And.intro (fun _=>?_) (fun _=>?_):(_->_)/\(_->_))<;>(first|(exfalso; first|contradiction|omega)|skip))|refine Or.inl (And.intro (by first|exact av (by omega)|exact af (by omega)|exact aP (by omega)|exact bb (by omega)) ?_)|(refine And.intro (show (_:Int)≠0 by omega) (Or.inl (And.intro (show (0:Int)<=_ by omega) (And.intro (show (0:Int) < _ by omega) ?_))))|(refine And.intro (show (_:Int)≠0 by omega) (Or.inl (And.intro (show (0:Int)<=_ by omega) (And.intro (by first|exact (show (_:Int)<=9223372036854775807 by omega)|exact (show (_:Int)<=4294967295 by omega)) (And.intro (show (0:Int) < _ by omega) ?_)))))|(refine aD ?_; show _↔_; omega)|(refine aD ?_; show ¬ _; omega)|(intro _))
def QM:List Int:=[0,1,1,1,2,2,3,3,4,4,4,4,5,5,5,5,5,5,5,5,5,5,5,5,5,5,5,5,6,6,6,7,8,2,2,9,9,8,8,8,10,10,11,12,13,14,15,16,17,17,18,18,18,18,18,18,18,18,18,18,19,19,20,20,20,20,21,21,21,21,21,21,21,21,21,21,22,22,23,23,23,23,24,24,25,25,26,26,27,27,27,27,28,29,30,31,31,28,32,33,34]
def aa (f:Int):Int:=if 1<=f/\f<=100 then QM.getD f.toNat 0 else 0
theorem CC {f:Int} (h:1<=f/\f<=100) {c:PV} (hc:(QM.map (PV.lit .i64))[f.toNat]?=some c):c = .lit .i64 (aa f):=by
 rw[List.getElem?_map,Option.map_eq_some_iff] at hc
 obtain⟨z,hz,rfl⟩:=hc
 unfold aa
 rw[if_pos h,List.getD_eq_getElem?_getD,hz]; rfl
theorem eX (f:Int):ai gT 122 [.int .i64 f] (.int .i64 (aa f)):=by
 refine Spec.enter an W2 100 Tryz.func122 rfl (by kernel_rfl) ?_
 refine (l7 f).u ?_
 refine⟨fun h=>?_,fun h=>?_⟩
 ·refine aD ?_
  exact (show (0:Int)=aa f by unfold aa; rw[if_neg h])
 have h':=Classical.not_not.1 h
 refine⟨by omega,show f < 101 by omega,.inr ⟨rfl,by omega,show 0+f.toNat*1 < 101 by omega,fun c hc=>?_⟩⟩
 have vD:(QM.map (PV.lit .i64))[f.toNat]?=some c:=by
  have e:0+f.toNat*1=f.toNat:=by omega
  have h0:(QM.map (PV.lit .i64))[0+f.toNat*1]?=some c:=hc
  rwa [e] at h0
 obtain rfl:=CC h' vD
 exact aD rfl
structure RU where
 rd:Int
 rn:Int
 rm:Int
 ra:Int
 i0:Int
 i1:Int
 i2:Int
 b0:Int
 b1:Int
 b2:Int
 kind:Bool
 set:Bool
 cond:Bool
 ao:Int
def ruF (r:RU):List PV:=[.int .i64 r.rd,.int .i64 r.rn,.int .i64 r.rm,.int .i64 r.ra,.int .i64 r.i0,.int .i64 r.i1,.int .i64 r.i2,.int .i64 r.b0,.int .i64 r.b1,.int .i64 r.b2,.bool (r.kind=true),.bool (r.set=true),.bool (r.cond=true),.int .i64 r.ao]
def VC (r:RU):PV:=.agg (ruF r)
def eF:RU:=⟨0,0,0,0,0,0,0,0,0,0,false,false,false,0⟩
def VD (s:Int):RU :=
 if s=1 then { eF with rd:=1,rm:=1,i0:=0,i1:=32,i2:=1 } else if s=2 then { eF with rd:=1,rn:=1,rm:=1 } else if s=3 then { eF with rd:=1,rn:=1,i1:=7,i2:=1 }
 else if s=4 then { eF with rd:=1,i1:=255,i2:=1 } else if s=5 then { eF with rd:=1,rm:=1 } else if s=6 then { eF with rd:=2,rm:=2 } else if s=7 then { eF with rm:=2 }
 else if s=8 then { eF with rd:=1,i1:=1020,i2:=4 } else if s=9 then { eF with rd:=1,rn:=1,i1:=124,i2:=4 } else if s=10 then { eF with i1:=508,i2:=4 } else if s=11 then { eF with ao:=16639 } else if s=12 then { eF with ao:=33023 }
 else if s=13 then eF else if s=14 then { eF with i1:=255,i2:=1 } else if s=15 then { eF with cond:=true,i0:=-256,i1:=254,i2:=2 } else if s=16 then { eF with i0:=-2048,i1:=2046,i2:=2 } else eF
def bX (s:Int):RU :=
 if s=17 then { eF with rd:=3,i1:=65535,i2:=1 } else if s=18 then { eF with rd:=3,rn:=3,i1:=4095,i2:=1,set:=true } else if s=19 then { eF with rd:=3,i1:=4095,i2:=1,set:=true } else if s=20 then { eF with rn:=3,i1:=4095,i2:=1 }
 else if s=21 then { eF with rd:=3,rn:=3,rm:=3,kind:=true,set:=true } else if s=22 then { eF with rd:=3,rm:=3,kind:=true,set:=true } else if s=23 then { eF with rn:=3,rm:=3,kind:=true } else if s=24 then { eF with rd:=3,rn:=3,i1:=4095,i2:=1 }
 else if s=25 then { eF with rd:=3,rn:=2,i1:=4095,i2:=1 } else if s=26 then { eF with rd:=3,rn:=2,rm:=3,b1:=3,b2:=1 } else if s=27 then { eF with rd:=3,rn:=3,rm:=3,set:=true } else if s=28 then { eF with rd:=3,rn:=3,rm:=3 }
 else if s=29\/s=30\/s=31 then { eF with rd:=3,rn:=3,rm:=3,ra:=3 } else if s=32 then { eF with rd:=3,rm:=3 } else if s=33 then { eF with cond:=true,i0:=-1048576,i1:=1048574,i2:=2 } else if s=34 then { eF with i0:=-16777216,i1:=16777214,i2:=2 } else VD s
theorem nJ (s:Int):ai gT 152 [.int .i64 s] (VC (VD s)):=by
 refine Spec.enter an W4 100 Tryz.func152 rfl (by kernel_rfl) ?_
 repeat' ((conv=>whnf); first|(refine (And.intro (fun _=>?_) (fun _=>?_):(_->_)/\(_->_))<;>(first|(exfalso; first|contradiction|omega)|skip))|refine Or.inl (And.intro (by first|exact av (by omega)|exact af (by omega)|exact aP (by omega)|exact bb (by omega)) ?_)|(refine And.intro (show (_:Int)≠0 by omega) (Or.inl (And.intro (show (0:Int)<=_ by omega) (And.intro (show (0:Int) < _ by omega) ?_))))|(refine And.intro (show (_:Int)≠0 by omega) (Or.inl (And.intro (show (0:Int)<=_ by omega) (And.intro (by first|exact (show (_:Int)<=9223372036854775807 by omega)|exact (show (_:Int)<=4294967295 by omega)) (And.intro (show (0:Int) < _ by omega) ?_)))))|(simp only[VD, *,if_true,if_false,reduceIte,Int.reduceEq]; refine aD ?_; (repeat' first|exact trivial|exact rfl|exact (show ¬ (false=true) from Bool.false_ne_true)|refine And.intro ?_ ?_))|(intro _))
theorem pV (s:Int):ai gT 121 [.int .i64 s] (VC (bX s)):=by
 refine Spec.enter an W3 100 Tryz.func121 rfl (by kernel_rfl) ?_
 repeat' ((conv=>whnf); first|(refine (And.intro (fun _=>?_) (fun _=>?_):(_->_)/\(_->_))<;>(first|(exfalso; first|contradiction|omega)|skip))|refine Or.inl (And.intro (by first|exact av (by omega)|exact af (by omega)|exact aP (by omega)|exact bb (by omega)) ?_)|(refine And.intro (show (_:Int)≠0 by omega) (Or.inl (And.intro (show (0:Int)<=_ by omega) (And.intro (show (0:Int) < _ by omega) ?_))))|(refine And.intro (show (_:Int)≠0 by omega) (Or.inl (And.intro (show (0:Int)<=_ by omega) (And.intro (by first|exact (show (_:Int)<=9223372036854775807 by omega)|exact (show (_:Int)<=4294967295 by omega)) (And.intro (show (0:Int) < _ by omega) ?_)))))|(refine Exists.intro [] (And.intro br ((nJ s).use (by repeat' first|exact trivial|exact rfl|exact Iff.rfl|exact Or.inl rfl|refine And.intro ?_ ?_) rfl rfl ?_)))|(simp only[bX, *,if_true,if_false,reduceIte,Int.reduceEq,or_true,true_or,or_false,false_or]; refine aD ?_; (repeat' first|exact trivial|exact rfl|exact (show ¬ (false=true) from Bool.false_ne_true)|exact Iff.rfl|refine And.intro ?_ ?_))|(intro _))
def aE (c r:Int):Prop:=(c=1/\0<=r/\r < 8)\/(c=2/\0<=r/\r < 15)\/(c=3/\0<=r/\r < 15/\r≠13)\/(c≠1/\c≠2/\c≠3/\r=0)
theorem qs (r:Int):ai gT 153 [.int .i64 r] (.bool (0<=r/\r < 8)):=by
 refine Spec.enter an W6 100 Tryz.func153 rfl (by kernel_rfl) ?_
 repeat' ((conv=>whnf); first|(refine (And.intro (fun _=>?_) (fun _=>?_):(_->_)/\(_->_))<;>(first|(exfalso; first|contradiction|omega)|skip))|refine Or.inl (And.intro (by first|exact av (by omega)|exact af (by omega)|exact aP (by omega)|exact bb (by omega)) ?_)|(refine And.intro (show (_:Int)≠0 by omega) (Or.inl (And.intro (show (0:Int)<=_ by omega) (And.intro (show (0:Int) < _ by omega) ?_))))|(refine And.intro (show (_:Int)≠0 by omega) (Or.inl (And.intro (show (0:Int)<=_ by omega) (And.intro (by first|exact (show (_:Int)<=9223372036854775807 by omega)|exact (show (_:Int)<=4294967295 by omega)) (And.intro (show (0:Int) < _ by omega) ?_)))))|(refine aD ?_; show _↔_; omega)|(refine aD ?_; show ¬ _; omega)|(intro _))
theorem CD (c r:Int):ai gT 123 [.int .i64 c,.int .i64 r] (.bool (aE c r)):=by
 refine Spec.enter an W5 100 Tryz.func123 rfl (by kernel_rfl) ?_
 repeat' ((conv=>whnf); first|(refine (And.intro (fun _=>?_) (fun _=>?_):(_->_)/\(_->_))<;>(first|(exfalso; first|contradiction|omega)|skip))|refine Or.inl (And.intro (by first|exact av (by omega)|exact af (by omega)|exact aP (by omega)|exact bb (by omega)) ?_)|(refine And.intro (show (_:Int)≠0 by omega) (Or.inl (And.intro (show (0:Int)<=_ by omega) (And.intro (show (0:Int) < _ by omega) ?_))))|(refine And.intro (show (_:Int)≠0 by omega) (Or.inl (And.intro (show (0:Int)<=_ by omega) (And.intro (by first|exact (show (_:Int)<=9223372036854775807 by omega)|exact (show (_:Int)<=4294967295 by omega)) (And.intro (show (0:Int) < _ by omega) ?_)))))|(refine Exists.intro [] (And.intro br ((qs r).use (by repeat' first|exact trivial|exact rfl|exact Iff.rfl|exact Or.inl rfl|refine And.intro ?_ ?_) rfl rfl ?_)))|(refine aD ?_; (show _↔aE c r); unfold aE; omega)|(refine aD ?_; (show ¬ aE c r); unfold aE; omega)|(intro _))
def dd (f t s n:Int):Prop:=(s=0/\n=0)\/(s≠0/\f<=n/\n<=t/\n.tmod s=0)
theorem qt (f t s n:Int):ai gT 125 [.agg [.int .i64 f,.int .i64 t,.int .i64 s],.int .i64 n] (.bool (dd f t s n)):=by
 refine Spec.enter an W8 100 Tryz.func125 rfl (by kernel_rfl) ?_
 refine⟨fun h=>?_,fun h=>?_⟩
 ·refine aD ?_
  exact (show n=0↔dd f t s n by unfold dd; exact⟨fun e=>.inl ⟨h,e⟩,fun e=>e.elim (fun e=>e.2) (fun e=>absurd h e.1)⟩)
 have h0:s≠0:=h
 refine⟨fun h1=>?_,fun h1=>?_⟩
 ·refine⟨fun h2=>?_,fun h2=>?_⟩
  ·refine⟨h0,.inr ?_⟩
   refine aD ?_
   exact (show n.tmod s=0↔dd f t s n from ⟨fun e=>.inr ⟨h0,h1,h2,e⟩,fun e=>e.elim (fun e=>absurd e.1 h0) (fun e=>e.2.2.2)⟩)
  ·refine aD ?_
   exact (show ¬ dd f t s n from fun e=>e.elim (fun e=>h0 e.1) (fun e=>h2 e.2.2.1))
 ·refine aD ?_
  exact (show ¬ dd f t s n from fun e=>e.elim (fun e=>h0 e.1) (fun e=>h1 e.2.1))
theorem CE (n:Int) (ok:Prop):ai gT 126 [.int .i64 n,.bool ok] (.bool (n=0\/(n=1/\ok))):=by
 refine Spec.enter an W9 100 Tryz.func126 rfl (by kernel_rfl) ?_
 refine⟨fun h=>?_,fun h=>And.intro (fun h1=>?_) (fun h1=>?_)⟩
 ·exact aD (show n=0\/(n=1/\ok) from .inl h)
 ·exact aD (show ok↔(n=0\/(n=1/\ok)) from ⟨fun k=>.inr ⟨h1,k⟩,fun k=>k.elim (fun e=>absurd e h) (fun e=>e.2)⟩)
 ·exact aD (show ¬ (n=0\/(n=1/\ok)) from fun k=>k.elim h (fun e=>h1 e.1))
def wx (x:Int):Prop:=-9223372036854775808<=x/\x<=9223372036854775807
theorem l8 (n:Int) (h:wx n):ai gT 146 [.int .i64 n] (.tup [.int .u32 (Rm.fB n),.int .i64 (Rm.c_ n)]) :=
 ai.CA (fI Tryz.func146 rfl (by kernel_rfl)) fun I β w bw hM hA=>by
  obtain⟨v,rfl,h1⟩:=RV hA
  simp only[PV.Is] at h1
  subst h1
  refine⟨.tuple #[.int .u32 (Rm.fB n),.int .i64 (Rm.c_ n)],iR (gC (da ..) (gC (da ..) pU)),fun _ _ _=>iR (gC (da ..) (gC (da ..) pU)),?_⟩
  refine (l0 n w (CB hM) h.1 h.2).mono ?_
  rintro e w' ⟨rfl,rfl⟩
  exact⟨rfl,Below.refl _ _⟩
def ct (k b:Int):Prop:=(k=0/\0<=b/\b < 32)\/((k=1\/k=2)/\1<=b/\b<=32)\/(k=3/\1<=b/\b < 32)
theorem tX (k b:Int):ai gT 154 [.int .i64 k,.int .i64 b] (.bool (ct k b)):=by
 refine Spec.enter an Xa 100 Tryz.func154 rfl (by kernel_rfl) ?_
 repeat' ((conv=>whnf); first|(refine (And.intro (fun _=>?_) (fun _=>?_):(_->_)/\(_->_))<;>(first|(exfalso; first|contradiction|omega)|skip))|refine Or.inl (And.intro (by first|exact av (by omega)|exact af (by omega)|exact aP (by omega)|exact bb (by omega)) ?_)|(refine And.intro (show (_:Int)≠0 by omega) (Or.inl (And.intro (show (0:Int)<=_ by omega) (And.intro (show (0:Int) < _ by omega) ?_))))|(refine And.intro (show (_:Int)≠0 by omega) (Or.inl (And.intro (show (0:Int)<=_ by omega) (And.intro (by first|exact (show (_:Int)<=9223372036854775807 by omega)|exact (show (_:Int)<=4294967295 by omega)) (And.intro (show (0:Int) < _ by omega) ?_)))))|(refine aD ?_; (show _↔ct k b); unfold ct; omega)|(refine aD ?_; (show ¬ ct k b); unfold ct; omega)|(intro _))
def kT (i:IN) (r:RU):Prop:=(r.kind=true/\ct i.kind i.bC)\/(¬ r.kind=true/\i.kind=0/\dd r.b0 r.b1 r.b2 i.bC)
theorem wy (i:IN) (r:RU):ai gT 127 [cG i,VC r] (.bool (kT i r)):=by
 refine Spec.enter an W_ 100 Tryz.func127 rfl (by kernel_rfl) ?_
 refine⟨fun h=>?_,fun h=>?_⟩
 ·refine (tX i.kind i.bC).u ?_
  refine aD ?_
  exact (show ct i.kind i.bC↔kT i r from ⟨fun k=>.inl ⟨h,k⟩,fun k=>k.elim (fun e=>e.2) (fun e=>absurd h e.1)⟩)
 ·refine⟨fun h1=>?_,fun h1=>?_⟩
  ·refine (qt r.b0 r.b1 r.b2 i.bC).u ?_
   refine aD ?_
   exact (show dd r.b0 r.b1 r.b2 i.bC↔kT i r from ⟨fun k=>.inr ⟨h,h1,k⟩,fun k=>k.elim (fun e=>absurd e.1 h) (fun e=>e.2.2)⟩)
  ·refine aD ?_
   exact (show ¬ kT i r from fun k=>k.elim (fun e=>h e.1) (fun e=>h1 e.2.1))
def iS (i:IN) (r:RU):Prop:=(r.ao=0/\i.ao=0)\/(¬ r.ao=0/\0 < i.ao/\bits .andNot .i64 i.ao r.ao=0)
theorem tY (i:IN) (r:RU):ai gT 124 [cG i,VC r] (.bool (iS i r)):=by
 refine Spec.enter an W7 100 Tryz.func124 rfl (by kernel_rfl) ?_
 refine⟨fun h=>?_,fun h=>?_⟩
 ·refine aD ?_
  exact (show i.ao=0↔iS i r from ⟨fun k=>.inl ⟨h,k⟩,fun k=>k.elim (fun e=>e.2) (fun e=>absurd h e.1)⟩)
 ·refine⟨fun h1=>?_,fun h1=>?_⟩
  ·refine aD ?_
   exact (show bits .andNot .i64 i.ao r.ao=0↔iS i r from ⟨fun k=>.inr ⟨h,h1,k⟩,fun k=>k.elim (fun e=>absurd e.1 h) (fun e=>e.2.2)⟩)
  ·refine aD ?_
   exact (show ¬ iS i r from fun k=>k.elim (fun e=>h e.1) (fun e=>h1 e.2.1))
def kU (i:IN):Prop:=(i.form=1->i.az < 32)/\(i.form=2\/i.form=3->0 < i.az)/\(i.form=29->¬ (0<=i.rd/\i.rd < 8)\/¬ (0<=i.rm/\i.rm < 8))/\(i.form=95\/i.form=96->i.rd≠i.ra)/\(aa i.form=18\/aa i.form=19\/aa i.form=20->Rm.c_ i.az=0)
theorem Gs:aa 1=1/\aa 2=1/\aa 3=1/\aa 29=6/\aa 95=31/\aa 96=31:=by decide
theorem wz (i:IN) (hi:wx i.az):ai gT 128 [cG i] (.bool (kU i)):=by
 obtain⟨s1,s2,s3,ZF,ZG,ZH⟩:=Gs
 refine Spec.enter an Xb 100 Tryz.func128 rfl (by kernel_rfl) ?_
 have e:kU i↔((i.form=1->i.az < 32)/\(i.form=2\/i.form=3->0 < i.az)/\(i.form=29->¬ (0<=i.rd/\i.rd < 8)\/¬ (0<=i.rm/\i.rm < 8))/\(i.form=95\/i.form=96->i.rd≠i.ra)/\(aa i.form=18\/aa i.form=19\/aa i.form=20->Rm.c_ i.az=0)):=Iff.rfl
 have f1:i.form=1->aa i.form=1:=fun h=>by rw[h]; exact s1
 have f2:i.form=2->aa i.form=1:=fun h=>by rw[h]; exact s2
 have f3:i.form=3->aa i.form=1:=fun h=>by rw[h]; exact s3
 have f29:i.form=29->aa i.form=6:=fun h=>by rw[h]; exact ZF
 have f95:i.form=95->aa i.form=31:=fun h=>by rw[h]; exact ZG
 have f96:i.form=96->aa i.form=31:=fun h=>by rw[h]; exact ZH
 clear s1 s2 s3 ZF ZG ZH
 repeat' ((conv=>whnf); first|(refine (And.intro (fun _=>?_) (fun _=>?_):(_->_)/\(_->_))<;>(first|(exfalso; first|contradiction|omega)|skip))|refine Or.inl (And.intro (by first|exact av (by omega)|exact af (by omega)|exact aP (by omega)|exact bb (by omega)) ?_)|(refine And.intro (show (_:Int)≠0 by omega) (Or.inl (And.intro (show (0:Int)<=_ by omega) (And.intro (show (0:Int) < _ by omega) ?_))))|(refine And.intro (show (_:Int)≠0 by omega) (Or.inl (And.intro (show (0:Int)<=_ by omega) (And.intro (by first|exact (show (_:Int)<=9223372036854775807 by omega)|exact (show (_:Int)<=4294967295 by omega)) (And.intro (show (0:Int) < _ by omega) ?_)))))|(refine Exists.intro [] (And.intro br ((qs _).use (by repeat' first|exact trivial|exact rfl|exact Iff.rfl|exact Or.inl rfl|refine And.intro ?_ ?_) rfl rfl ?_)))|(refine Exists.intro [] (And.intro br ((eX i.form).use (by repeat' first|exact trivial|exact rfl|exact Iff.rfl|exact Or.inl rfl|refine And.intro ?_ ?_) rfl rfl ?_)))|(refine Exists.intro [] (And.intro br ((l8 i.az hi).use (by repeat' first|exact trivial|exact rfl|exact Iff.rfl|exact Or.inl rfl|refine And.intro ?_ ?_) rfl rfl ?_)))|(refine aD ?_; (show kU i); rw[e]; clear e; omega)|(refine aD ?_; (show _↔kU i); rw[e]; clear e; omega)|(refine aD ?_; (show ¬ kU i); rw[e]; clear e; omega)|(intro _))
def aF (i:IN) (r:RU):Prop:=(1<=i.form/\i.form<=100)/\aE r.rd i.rd/\aE r.rn i.rn/\aE r.rm i.rm/\aE r.ra i.ra/\iS i r/\(i.cond=0\/(r.cond=true/\0 < i.cond/\i.cond<=13))/\dd r.i0 r.i1 r.i2 i.az/\(i.set=0\/(i.set=1/\r.set=true))/\kT i r/\kU i
def aq (i:IN):Prop:=aF i (bX (aa i.form))
theorem kX (i:IN) (hi:wx i.az):ai gT 86 [cG i] (.bool (aq i)):=by
 refine Spec.enter an P86 100 Tryz.func86 rfl (by kernel_rfl) ?_
 refine (l7 i.form).u ?_
 refine⟨fun h=>?_,fun h=>?_⟩
 ·refine aD ?_
  exact (show ¬ aq i from fun k=>h k.1)
 have hF:=Classical.not_not.1 h
 clear h
 refine (eX i.form).u ?_
 refine (pV _).u ?_
 unfold aq
 generalize bX (aa i.form)=r
 repeat' ((conv=>whnf); first|(refine (And.intro (fun _=>?_) (fun _=>?_):(_->_)/\(_->_))<;>(first|(exfalso; first|contradiction|omega)|skip))|refine Or.inl (And.intro (by first|exact av (by omega)|exact af (by omega)|exact aP (by omega)|exact bb (by omega)) ?_)|(refine And.intro (show (_:Int)≠0 by omega) (Or.inl (And.intro (show (0:Int)<=_ by omega) (And.intro (show (0:Int) < _ by omega) ?_))))|(refine And.intro (show (_:Int)≠0 by omega) (Or.inl (And.intro (show (0:Int)<=_ by omega) (And.intro (by first|exact (show (_:Int)<=9223372036854775807 by omega)|exact (show (_:Int)<=4294967295 by omega)) (And.intro (show (0:Int) < _ by omega) ?_)))))|(refine Exists.intro [] (And.intro br ((CD _ _).use (by repeat' first|exact trivial|exact rfl|exact Iff.rfl|exact Or.inl rfl|refine And.intro ?_ ?_) rfl rfl ?_)))|(refine Exists.intro [] (And.intro br ((tY i r).use (by repeat' first|exact trivial|exact rfl|exact Iff.rfl|exact Or.inl rfl|refine And.intro ?_ ?_) rfl rfl ?_)))|(refine Exists.intro [] (And.intro br ((qt _ _ _ _).use (by repeat' first|exact trivial|exact rfl|exact Iff.rfl|exact Or.inl rfl|refine And.intro ?_ ?_) rfl rfl ?_)))|(refine Exists.intro [] (And.intro br ((CE _ _).use (by repeat' first|exact trivial|exact rfl|exact Iff.rfl|exact Or.inl rfl|refine And.intro ?_ ?_) rfl rfl ?_)))|(refine Exists.intro [] (And.intro br ((wy i r).use (by repeat' first|exact trivial|exact rfl|exact Iff.rfl|exact Or.inl rfl|refine And.intro ?_ ?_) rfl rfl ?_)))|(refine Exists.intro [] (And.intro br ((wz i hi).use (by repeat' first|exact trivial|exact rfl|exact Iff.rfl|exact Or.inl rfl|refine And.intro ?_ ?_) rfl rfl ?_)))|(refine aD ?_; (show kU i↔aF i r); (exact⟨fun k=>⟨hF,by assumption,by assumption,by assumption,by assumption,by assumption,by first|exact Or.inl (by assumption)|exact Or.inr ⟨by assumption,by assumption,by assumption⟩,by assumption,by assumption,by assumption,k⟩,fun k=>k.2.2.2.2.2.2.2.2.2.2⟩))|(refine aD ?_; (show ¬ aF i r); (rintro⟨a0,a1,a2,a3,a4,a5,a6,a7,a8,a9,XP⟩; first|contradiction|(rcases a6 with a6|⟨b1,b2,b3⟩<;>first|contradiction|omega)))|(intro _))
def tZ (x:Int) (l w:Nat):Int:=x / 2 ^ l % 2 ^ w
theorem t_ (x:Int) (w:Nat) (h0:0<=x) (h1:x<=4294967295) (hw:w<=31):bits .and .u32 x (2 ^ w - 1)=x % 2 ^ w:=by
 have hp:(2:Int) ^ w<=2 ^ 31:=by
  have:=Nat.pow_le_pow_right (n:=2) (by omega) hw
  exact_mod_cast this
 have ZA:(1:Int)<=2 ^ w:=by
  have:=Nat.one_le_two_pow (n:=w)
  exact_mod_cast this
 rw[u32_and x (2 ^ w - 1) h0 (by omega) (by omega) (by omega)]
 have e:x.toNat &&& ((2:Int) ^ w - 1).toNat=x.toNat % 2 ^ w:=by
  have:((2:Int) ^ w - 1).toNat=2 ^ w - 1:=by
   have e2:((2 ^ w:Nat):Int)=(2:Int) ^ w:=by norm_cast
   omega
  rw[this]
  exact Nat.and_two_pow_sub_one_eq_mod x.toNat w
 rw[e]
 have:((x.toNat % 2 ^ w:Nat):Int)=(x.toNat:Int) % ((2 ^ w:Nat):Int):=by norm_cast
 rw[this,Int.toNat_of_nonneg h0]
 norm_cast
theorem ua (n:Nat) (h:n<=32):Ev.aO .u32 (n:Int)=2 ^ n:=by
 unfold Ev.aO
 rw[Int.toNat_natCast,show min n (IntKind.bits .u32)=n from Nat.min_eq_left h]
 norm_cast
theorem cn (w:Nat):((2 ^ w:Nat):Int)=(2:Int) ^ w:=by norm_cast
theorem o4 (w:Nat) (hw:w<=31):(1:Int)<=2 ^ w/\(2:Int) ^ w<=2147483648:=by
 have h1:=Nat.one_le_two_pow (n:=w)
 have h2:(2 ^ w:Nat)<=2147483648:=Nat.le_trans (Nat.pow_le_pow_right (n:=2) (by omega) hw) (by decide)
 have e:=cn w
 omega
theorem K7 (x p:Int) (h0:0<=x) (h1:x<=4294967295) (hp:1<=p):0<=x / p/\x / p<=4294967295 :=
 ⟨Int.ediv_nonneg h0 (by omega),Int.le_trans (Int.ediv_le_self _ h0) h1⟩
theorem iy (x:Int) (l w:Nat) (hx:0<=x/\x<=4294967295) (hw:1<=w/\w<=31) (hl:l<=31):ai gT 157 [.int .u32 x,.int .i64 ((l:Int)+w - 1),.int .i64 l] (.int .u32 (tZ x l w)):=by
 have p1:=ua l (by omega)
 have p2:=ua w (by omega)
 have b1:=o4 l hl
 have b2:=o4 w hw.2
 have d:=K7 x (2 ^ l) hx.1 hx.2 b1.1
 have e:((l:Int)+w - 1) - l+1=w:=by omega
 refine Spec.enter an Xh 100 Tryz.func157 rfl (by kernel_rfl) ?_
 refine⟨by omega,.inl ⟨av (by omega),.inl ⟨av (by omega),?_⟩⟩⟩
 refine⟨by omega,.inl ⟨af (show 0<=1*Ev.aO .u32 (((l:Int)+w - 1) - l+1)/\1*Ev.aO .u32 (((l:Int)+w - 1) - l+1)<=4294967295 by rw[e,p2]; omega),?_⟩⟩
 refine lu ?_ (show 0<=1*Ev.aO .u32 (((l:Int)+w - 1) - l+1) - 1/\1*Ev.aO .u32 (((l:Int)+w - 1) - l+1) - 1<=4294967295 by rw[e,p2]; omega)
 refine aD ?_
 show bits .and .u32 (x / Ev.aO .u32 l) (1*Ev.aO .u32 (((l:Int)+w - 1) - l+1) - 1)=tZ x l w
 rw[e,p1,p2,Int.one_mul,t_ _ w d.1 d.2 hw.2]; rfl
theorem ub (w:Nat) (hw:w<=62):(1:Int)<=2 ^ w/\(2:Int) ^ w<=4611686018427387904:=by
 have h1:=Nat.one_le_two_pow (n:=w)
 have h2:(2 ^ w:Nat)<=4611686018427387904:=Nat.le_trans (Nat.pow_le_pow_right (n:=2) (by omega) hw) (by decide)
 have e:=cn w
 omega
def ab (n:Int) (l w:Nat):Int:=(if n < 0 then n+1099511627776 else n) / 2 ^ l % 2 ^ w
def ax (s:Int):List (Nat × Nat × Nat × Nat) :=
 if s=1 then [(4,0,6,5),(2,0,3,3),(0,0,0,3)]
 else if s=2 then [(2,0,6,3),(1,0,3,3),(0,0,0,3)]
 else if s=3 then [(4,0,6,3),(1,0,3,3),(0,0,0,3)]
 else if s=4 then [(0,0,8,3),(4,0,0,8)]
 else if s=5 then [(2,0,3,3),(0,0,0,3)]
 else if s=6 then [(0,3,7,1),(2,0,3,4),(0,0,0,3)]
 else if s=7 then [(2,0,3,4)]
 else if s=8 then [(0,0,8,3),(4,2,0,8)]
 else if s=9 then [(4,2,6,5),(1,0,3,3),(0,0,0,3)]
 else if s=10 then [(4,2,0,7)]
 else if s=11 then [(9,14,8,1),(9,0,0,8)]
 else if s=12 then [(9,15,8,1),(9,0,0,8)]
 else if s=14 then [(4,0,0,8)]
 else if s=15 then [(8,0,8,4),(4,1,0,8)]
 else if s=16 then [(4,1,0,11)]
 else if s=17 then [(4,11,26,1),(4,12,16,4),(4,8,12,3),(4,0,0,8),(0,0,8,4)]
 else if s=18 then [(4,11,26,1),(4,8,12,3),(4,0,0,8),(7,0,20,1),(1,0,16,4),(0,0,8,4)]
 else if s=19 then [(4,11,26,1),(4,8,12,3),(4,0,0,8),(7,0,20,1),(0,0,8,4)]
 else if s=20 then [(4,11,26,1),(4,8,12,3),(4,0,0,8),(1,0,16,4)]
 else if s=21 then [(6,2,12,3),(6,0,6,2),(5,0,4,2),(7,0,20,1),(1,0,16,4),(0,0,8,4),(2,0,0,4)]
 else if s=22 then [(6,2,12,3),(6,0,6,2),(5,0,4,2),(7,0,20,1),(0,0,8,4),(2,0,0,4)]
 else if s=23 then [(6,2,12,3),(6,0,6,2),(5,0,4,2),(1,0,16,4),(2,0,0,4)]
 else if s=24 then [(4,11,26,1),(4,8,12,3),(4,0,0,8),(1,0,16,4),(0,0,8,4)]
 else if s=25 then [(1,0,16,4),(0,0,12,4),(4,0,0,12)]
 else if s=26 then [(1,0,16,4),(0,0,12,4),(6,0,4,2),(2,0,0,4)]
 else if s=27 then [(7,0,20,1),(1,0,16,4),(0,0,8,4),(2,0,0,4)]
 else if s=28 then [(1,0,16,4),(0,0,8,4),(2,0,0,4)]
 else if s=29 then [(1,0,16,4),(3,0,12,4),(0,0,8,4),(2,0,0,4)]
 else if s=30 then [(1,0,16,4),(3,0,12,4),(0,0,8,4),(2,0,0,4)]
 else if s=31 then [(1,0,16,4),(0,0,12,4),(3,0,8,4),(2,0,0,4)]
 else if s=32 then [(2,0,16,4),(0,0,8,4),(2,0,0,4)]
 else if s=33 then [(4,20,26,1),(8,0,22,4),(4,12,16,6),(4,18,13,1),(4,19,11,1),(4,1,0,11)]
 else if s=34 then [(4,24,26,1),(4,12,16,10),(4,23,13,1),(4,22,11,1),(4,1,0,11)]
 else []
def iT (i:IN) (f:Nat):Int:=[i.rd,i.rn,i.rm,i.ra,i.az,i.kind,i.bC,i.set,i.cond,i.ao].getD f 0
theorem K8 (a b k:Nat) (h:b < 2 ^ k):2 ^ k*a+b=2 ^ k*a ||| b:=Nat.two_pow_add_eq_or_of_lt h a
def plus (w n at_ b:Nat):Nat:=w ||| (n % 2 ^ b) <<< at_
def QN:List Int:=[0,2048,4096,6144,6656,7168,7680,8192,10240,12288,14336,16384,16448,16512,16576,16640,16704,16768,16832,16896,16960,17024,17088,17152,17216,17280,17344,17408,17664,17920,18176,18432,20480,22528,24576,26624,36864,38912,43008,45056,45184,46080,48128,48896,48640,53248,57344,4064280576,4072669184,4026531840,4028628992,4030726144,4032823296,4034920448,4043309056,4047503360,4049600512,4053794816,4055891968,4031709184,4033806336,4027584256,4035972864,4044361472,4054847232,3925868544,3927965696,3930062848,3932160000,3934257152,3942645760,3946840064,3948937216,3953131520,3955228672,3931045888,3933143040,3926920960,3935309568,3943698176,3954183936,4060086272,4070572032,4173332480,4174381056,4164943872,4165992448,4194365440,4196462592,4198559744,4200656896,4211142656,4211081216,4211081232,4221566976,4225761280,4222677232,4205899904,4026564608,4026568704]
def lp (f:Int):Int:=if 1<=f/\f<=100 then QN.getD (f - 1).toNat 0 else 0
theorem K9 {k:IntKind} {l:List Int} {n:Nat} {c:PV} (hc:(l.map (PV.lit k))[n]?=some c):c = .lit k (l.getD n 0):=by
 rw[List.getElem?_map,Option.map_eq_some_iff] at hc
 obtain⟨z,hz,rfl⟩:=hc
 rw[List.getD_eq_getElem?_getD,hz]; rfl
theorem uc (f:Int) (hF:1<=f/\f<=100):ai gT 135 [.int .i64 f] (.int .u32 (lp f)):=by
 refine Spec.enter an Xe 100 Tryz.func135 rfl (by kernel_rfl) ?_
 refine⟨by omega,show f < 101 by omega,.inr ⟨rfl,by omega,show 0+f.toNat*1 < 101 by omega,fun c hc=>?_⟩⟩
 have vD:((0::QN).map (PV.lit .u32))[f.toNat]?=some c:=by
  have e:0+f.toNat*1=f.toNat:=by omega
  have h0:((0::QN).map (PV.lit .u32))[0+f.toNat*1]?=some c:=hc
  rwa [e] at h0
 obtain rfl:=K9 vD
 refine aD (show (0::QN).getD f.toNat 0=lp f from ?_)
 unfold lp
 rw[if_pos hF,show f.toNat=(f - 1).toNat+1 by omega]
 rfl
theorem fJ (f:Int):ai gT 102 [.int .i64 f] (.int .u32 (lp f)):=by
 refine Spec.enter an Xd 100 Tryz.func102 rfl (by kernel_rfl) ?_
 refine (l7 f).u ?_
 refine⟨fun h=>?_,fun h=>?_⟩
 ·exact aD (show (0:Int)=lp f by unfold lp; rw[if_neg h])
 refine (uc f (Classical.not_not.1 h)).u ?_
 exact aD rfl
def K_ (x:Nat × Nat × Nat × Nat):Prop:=x.1 < 10/\x.2.1<=40/\1<=x.2.2.2/\x.2.2.1+x.2.2.2<=32
theorem gW (s:Int) (h:s < 1\/34 < s):ax s = []:=by
 unfold ax
 repeat rw[if_neg (by omega)]
def ZI (l:List (Nat × Nat × Nat × Nat)):Bool:=l.all (fun x=>decide (x.1 < 10/\x.2.1<=40/\1<=x.2.2.2/\x.2.2.1+x.2.2.2<=32)) && decide (l.length<=7)
theorem wA:∀ k:Fin 35,ZI (ax ((k.1:Nat):Int))=true:=by decide
theorem qu (s:Int):ZI (ax s)=true:=by
 by_cases h:s < 1\/34 < s
 ·rw[gW s h]; rfl
 ·have h1:=wA ⟨s.toNat,by omega⟩
  rwa [show (((⟨s.toNat,by omega⟩:Fin 35).1:Nat):Int)=s by simp only[]; omega] at h1
theorem wB (s:Int):(ax s).all (fun x=>decide (x.1 < 10/\x.2.1<=40/\1<=x.2.2.2/\x.2.2.1+x.2.2.2<=32))=true :=
 ((Bool.and_eq_true ..).mp (qu s)).1
theorem zb (s:Int):∀ x∈ax s,K_ x:=fun x hx=>by
 have:=List.all_eq_true.1 (wB s) x hx
 exact (of_decide_eq_true (p:=x.1 < 10/\x.2.1<=40/\1<=x.2.2.2/\x.2.2.1+x.2.2.2<=32) this)
theorem wC (s:Int):(ax s).length<=7 :=
 of_decide_eq_true ((Bool.and_eq_true ..).mp (qu s)).2
def ud (i:IN) (w:Nat) (x:Nat × Nat × Nat × Nat):Nat:=plus w (ab (iT i x.1) x.2.1 x.2.2.2).toNat x.2.2.1 x.2.2.2
def qv (i:IN) (l:List (Nat × Nat × Nat × Nat)):Nat:=l.foldl (ud i) (lp i.form).toNat
theorem Gt (w n a b:Nat) (hw:w < 2 ^ 32) (h:a+b<=32):plus w n a b < 2 ^ 32:=by
 unfold plus
 refine Nat.or_lt_two_pow hw ?_
 rw[Nat.shiftLeft_eq]
 have h1:n % 2 ^ b < 2 ^ b:=Nat.mod_lt _ (Nat.two_pow_pos b)
 calc n % 2 ^ b*2 ^ a < 2 ^ b*2 ^ a:=Nat.mul_lt_mul_of_pos_right h1 (Nat.two_pow_pos a)
  _=2 ^ (b+a):=(Nat.pow_add ..).symm
  _<=2 ^ 32:=Nat.pow_le_pow_right (by omega) (by omega)
theorem ae (n:Int) (l w:Nat):0<=ab n l w/\ab n l w < 2 ^ w:=by
 have hp:(0:Int) < 2 ^ w:=by have:=cn w; have:=Nat.two_pow_pos w; omega
 exact⟨Int.emod_nonneg _ (by omega),Int.emod_lt_of_pos _ hp⟩
theorem qw (n l w:Nat):ab n l w=((n / 2 ^ l % 2 ^ w:Nat):Int):=by
 unfold ab
 rw[if_neg (by omega),← cn,← cn]
 norm_cast
def ky (s n:Int) (k:Nat):Int:=n+((if ab n k 1=s then 1 else 0) - ab n k 1)*2 ^ k
def bG (n:Int):Nat->Int
 | 0=>n
 | k+1=>ky (ab n 24 1) (bG n k) (22+k)
theorem iU (n:Int) (k:Nat):ab n k 1=0\/ab n k 1=1:=by
 have:=ae n k 1
 have e:(2:Int) ^ 1=2:=rfl
 omega
theorem ue (s n:Int) (k:Nat) (hk:k=22\/k=23):n - 8388608<=ky s n k/\ky s n k<=n+8388608:=by
 have hb:=iU n k
 have p:(2:Int) ^ 22=4194304:=by decide
 have q:(2:Int) ^ 23=8388608:=by decide
 unfold ky
 rcases hk with rfl|rfl<;>rcases hb with h|h<;>rw[h]<;>split<;>omega
theorem CF (n:Int) (k:Nat) (hk:k<=2):n - 16777216<=bG n k/\bG n k<=n+16777216:=by
 have h0:=ue (ab n 24 1) (bG n 0) 22 (.inl rfl)
 have h1:=ue (ab n 24 1) (bG n 1) 23 (.inr rfl)
 have e0:bG n 0=n:=rfl
 have e1:bG n 1=ky (ab n 24 1) (bG n 0) 22:=rfl
 have e2:bG n 2=ky (ab n 24 1) (bG n 1) 23:=rfl
 match k,hk with
 | 0,_=>omega
 | 1,_=>omega
 | 2,_=>omega
def cO (n:Int) (w:Nat):Int:=if ab n (w - 1) 1=1 then n - 2 ^ w else n
def du (i:IN):IN:=if aa i.form=34 then {i with az:=bG (ab i.az 0 25) 2} else i
def bs (i:IN):Int:=((qv (du i) (ax (aa i.form)):Nat):Int)
theorem La:QN.all (fun z=>decide (0<=z/\z < 4294967296))=true:=by decide
theorem xQ (f:Int):0<=lp f/\lp f < 4294967296:=by
 unfold lp
 split
 ·rw[List.getD_eq_getElem?_getD]
  cases h:QN[(f - 1).toNat]? with
  | none=>exact⟨Int.le_refl 0,by decide⟩
  | some z=>exact of_decide_eq_true (List.all_eq_true.1 La z (List.mem_of_getElem? h))
 ·omega
theorem CG (i:IN) (l:List (Nat × Nat × Nat × Nat)) (h:∀ y∈l,K_ y):∀ w,w < 2 ^ 32->l.foldl (ud i) w < 2 ^ 32:=by
 induction l with
 | nil=>exact fun w hw=>hw
 | cons y l ih=>exact fun w hw=>ih (fun z hz=>h z (List.mem_cons_of_mem _ hz)) _ (Gt w _ _ _ hw (h y List.mem_cons_self).2.2.2)
theorem CH (i:IN) (l:List (Nat × Nat × Nat × Nat)) (h:∀ y∈l,K_ y):qv i l < 2 ^ 32 :=
 CG i l h _ (by have:=xQ i.form; omega)
def vF (i:IN) (x:Nat × Nat × Nat × Nat):Nat:=(ab (iT i x.1) x.2.1 x.2.2.2).toNat
theorem JM (i:IN) (x:Nat × Nat × Nat × Nat):vF i x < 2 ^ x.2.2.2:=by
 have:=ae (iT i x.1) x.2.1 x.2.2.2
 have e:=cn x.2.2.2
 unfold vF; omega
theorem zc (w n a b p:Nat):(plus w n a b).testBit p=(w.testBit p || (decide (a<=p) && decide (p < a+b) && n.testBit (p - a))):=by
 unfold plus
 rw[Nat.testBit_or,Nat.testBit_shiftLeft,Nat.testBit_mod_two_pow]
 congr 1
 by_cases h:a<=p
 ·by_cases h2:p < a+b
  ·rw[decide_eq_true h2,decide_eq_true (show p - a < b by omega)]; simp[h]
  ·rw[decide_eq_false h2,decide_eq_false (show ¬ p - a < b by omega)]; simp
 ·simp[h]
def RW (p:Nat) (x:Nat × Nat × Nat × Nat):Bool:=decide (x.2.2.1<=p) && decide (p < x.2.2.1+x.2.2.2)
theorem mM (i:IN) (p:Nat):∀ (l:List (Nat × Nat × Nat × Nat)) (W:Nat),(l.foldl (ud i) W).testBit p=(W.testBit p || l.any fun x=>RW p x && (vF i x).testBit (p - x.2.2.1))
 | [],W=>by simp
 | x::l,W=>by
  rw[List.foldl_cons,mM i p l,List.any_cons,← Bool.or_assoc]
  congr 1
  exact zc W (vF i x) x.2.2.1 x.2.2.2 p
def wD (l:List (Nat × Nat × Nat × Nat)):Bool:=l.all fun x=>l.all fun y=>decide (x=y) || decide (x.2.2.1+x.2.2.2<=y.2.2.1) || decide (y.2.2.1+y.2.2.2<=x.2.2.1)
def CI (W:Nat) (l:List (Nat × Nat × Nat × Nat)):Bool:=l.all fun x=>decide (W / 2 ^ x.2.2.1 % 2 ^ x.2.2.2=0)
theorem zd:∀ k:Fin 35,wD (ax ((k.1:Nat):Int))=true:=by decide
theorem sd (s:Int):wD (ax s)=true:=by
 by_cases h:s < 1\/34 < s
 ·rw[gW s h]; rfl
 ·have h1:=zd ⟨s.toNat,by omega⟩
  rwa [show (((⟨s.toNat,by omega⟩:Fin 35).1:Nat):Int)=s by simp only[]; omega] at h1
theorem CJ:(List.range 101).all (fun k=>CI (lp (k:Int)).toNat (ax (aa (k:Int))))=true:=by decide +kernel
theorem uf (f:Int):CI (lp f).toNat (ax (aa f))=true:=by
 by_cases h:1<=f/\f<=100
 ·have h1:=List.all_eq_true.1 CJ f.toNat (List.mem_range.2 (by omega))
  rwa [show ((f.toNat:Nat):Int)=f by omega] at h1
 ·unfold aa; rw[if_neg h,gW 0 (by omega)]; rfl
theorem wE (i:IN) {l:List (Nat × Nat × Nat × Nat)} {W:Nat} (ha:wD l=true) (hf:CI W l=true) {x:Nat × Nat × Nat × Nat} (hx:x∈l):(l.foldl (ud i) W) / 2 ^ x.2.2.1 % 2 ^ x.2.2.2=vF i x:=by
 apply Nat.eq_of_testBit_eq
 intro p
 rw[Nat.testBit_mod_two_pow,Nat.testBit_div_two_pow]
 by_cases hp:p < x.2.2.2
 ·rw[decide_eq_true hp,Bool.true_and,mM]
  have h0:W.testBit (p+x.2.2.1)=false:=by
   have h1:=of_decide_eq_true (List.all_eq_true.1 hf x hx)
   have h2:(W / 2 ^ x.2.2.1 % 2 ^ x.2.2.2).testBit p=false:=by rw[h1]; simp
   rw[Nat.testBit_mod_two_pow,Nat.testBit_div_two_pow,decide_eq_true hp,Bool.true_and] at h2
   exact h2
  rw[h0,Bool.false_or,Bool.eq_iff_iff,List.any_eq_true]
  constructor
  ·rintro⟨y,hy,hb⟩
   simp only[Bool.and_eq_true,RW,decide_eq_true_eq] at hb
   have h3:=List.all_eq_true.1 (List.all_eq_true.1 ha x hx) y hy
   simp only[Bool.or_eq_true,decide_eq_true_eq] at h3
   rcases h3 with (rfl|h3)|h3
   ·have:=hb.2; rwa [show p+x.2.2.1 - x.2.2.1=p by omega] at this
   ·omega
   ·omega
  ·intro hb
   refine⟨x,hx,?_⟩
   simp only[Bool.and_eq_true,RW,decide_eq_true_eq]
   exact⟨⟨by omega,by omega⟩,by rwa [show p+x.2.2.1 - x.2.2.1=p by omega]⟩
 ·rw[decide_eq_false hp,Bool.false_and]
  exact (Nat.testBit_lt_two_pow (Nat.lt_of_lt_of_le (JM i x) (Nat.pow_le_pow_right (by decide) (by omega)))).symm
def QO (l:List (Nat × Nat × Nat × Nat)) (p:Nat):Bool:=l.all fun x=>!RW p x
theorem wF (i:IN) {l:List (Nat × Nat × Nat × Nat)} {W p:Nat} (h:QO l p=true):(l.foldl (ud i) W).testBit p=W.testBit p:=by
 rw[mM]
 have:(l.any fun x=>RW p x && (vF i x).testBit (p - x.2.2.1))=false:=by
  rw[List.any_eq_false]
  intro x hx
  have:=List.all_eq_true.1 h x hx
  simp only[Bool.not_eq_true'] at this
  rw[this]; simp
 rw[this,Bool.or_false]
def Gu (f:Nat):Nat:=(lp (f:Int)).toNat
def Lb (f:Nat):List (Nat × Nat × Nat × Nat):=ax (aa (f:Int))
def CK (f g:Nat):Bool:=(Lb f).any fun x=>decide (x.1 < 4) && decide (x.2.1=0) && decide (x.2.2.2=4) && ([0,1,2,3].all fun k=>QO (Lb g) (x.2.2.1+k) && (Gu g).testBit (x.2.2.1+k))
def xS (f g:Nat):Bool:=decide (f=g) || ((List.range 32).any fun p=>QO (Lb f) p && QO (Lb g) p && ((Gu f).testBit p != (Gu g).testBit p)) || CK f g || CK g f
theorem se:((List.range 47).all fun f=>(List.range 47).all fun g=>xS (f+1) (g+1))=true:=by decide +kernel
theorem wG:((List.range 53).all fun f=>(List.range 53).all fun g=>xS (f+48) (g+48))=true:=by decide +kernel
theorem fq {c r:Int} (h:aE c r):0<=r/\r < 15:=by unfold aE at h; omega
theorem kY {i:IN} (h:aq i):(0<=i.rd/\i.rd < 15)/\(0<=i.rn/\i.rn < 15)/\(0<=i.rm/\i.rm < 15)/\(0<=i.ra/\i.ra < 15):=by
 obtain⟨_,h1,h2,h3,h4,_⟩:=h
 exact⟨fq h1,fq h2,fq h3,fq h4⟩
theorem gD (i:IN):(du i).form=i.form:=by unfold du; split<;>rfl
theorem ze (i:IN) (f:Nat) (hf:f < 4):iT (du i) f=iT i f:=by
 unfold du
 split
 ·match f,hf with
  | 0,_|1,_|2,_|3,_=>rfl
 ·rfl
theorem kZ (i:IN) {p:Nat} (h:QO (ax (aa i.form)) p=true):(bs i).toNat.testBit p=(lp i.form).toNat.testBit p:=by
 unfold bs qv
 rw[Int.toNat_natCast,wF _ h,gD]
theorem o5 (i:IN) {x:Nat × Nat × Nat × Nat} (hx:x∈ax (aa i.form)):(bs i).toNat / 2 ^ x.2.2.1 % 2 ^ x.2.2.2=vF (du i) x:=by
 unfold bs qv
 rw[Int.toNat_natCast]
 have h:=uf i.form
 rw[← gD i] at h
 refine wE (du i) (sd _) ?_ hx
 rw[gD] at h ⊢
 exact h
theorem RX:∀ v:Fin 16,(v.1.testBit 0=true/\v.1.testBit 1=true/\v.1.testBit 2=true/\v.1.testBit 3=true)->v.1=15:=by decide
theorem xT {a b:IN} (ha:aq a) (fa:a.form=((a.form.toNat:Nat):Int)) (fb:b.form=((b.form.toNat:Nat):Int)) (h:CK a.form.toNat b.form.toNat=true):bs a≠bs b:=fun e=>by
 obtain⟨x,hx,h⟩:=List.any_eq_true.1 h
 simp only[Bool.and_eq_true,decide_eq_true_eq] at h
 obtain⟨⟨⟨h1,h2⟩,h3⟩,h4⟩:=h
 have qn:x∈ax (aa a.form):=by rw[fa]; exact hx
 have hf:=o5 a qn
 have hr:vF (du a) x < 15:=by
  unfold vF
  rw[ze a x.1 h1,h2,h3]
  obtain⟨r0,r1,r2,r3⟩:=kY ha
  have key:∀ r:Int,0<=r/\r < 15->(ab r 0 4).toNat < 15:=fun r hr=>by
   unfold ab; rw[if_neg (by omega)]
   have e0:(2:Int) ^ 0=1:=rfl
   have e4:(2:Int) ^ 4=16:=rfl
   rw[e0,e4]; omega
  match x.1,h1 with
  | 0,_=>exact key _ r0
  | 1,_=>exact key _ r1
  | 2,_=>exact key _ r2
  | 3,_=>exact key _ r3
 have hv:∀ k,k∈[0,1,2,3]->(vF (du a) x).testBit k=true:=fun k hk=>by
  have h5:=List.all_eq_true.1 h4 k hk
  simp only[Bool.and_eq_true] at h5
  have hk4:k < 4:=by simp at hk; omega
  rw[← hf,h3,Nat.testBit_mod_two_pow,Nat.testBit_div_two_pow,decide_eq_true hk4,Bool.true_and,e]
  have h6:QO (ax (aa b.form)) (x.2.2.1+k)=true:=by rw[fb]; exact h5.1
  rw[Nat.add_comm,kZ b h6]
  have h7:=h5.2
  unfold Gu at h7
  rw[← fb] at h7
  exact h7
 have:=RX ⟨vF (du a) x,by omega⟩ ⟨hv 0 (by simp),hv 1 (by simp),hv 2 (by simp),hv 3 (by simp)⟩
 simp only[] at this
 omega
theorem xU {a b:IN} (ha:aq a) (hb:aq b) (h:xS a.form.toNat b.form.toNat=true) (e:bs a=bs b):a.form=b.form:=by
 have f1:=ha.1
 have f2:=hb.1
 have fa:a.form=((a.form.toNat:Nat):Int):=by omega
 have fb:b.form=((b.form.toNat:Nat):Int):=by omega
 unfold xS at h
 simp only[Bool.or_eq_true,decide_eq_true_eq] at h
 rcases h with ((h|h)|h)|h
 ·omega
 ·obtain⟨p,_,h⟩:=List.any_eq_true.1 h
  simp only[Bool.and_eq_true] at h
  obtain⟨⟨h1,h2⟩,h3⟩:=h
  have k1:=kZ a (p:=p) (by rw[fa]; exact h1)
  have k2:=kZ b (p:=p) (by rw[fb]; exact h2)
  unfold Gu at h3
  rw[← fa,← fb,← k1,← k2,e] at h3
  simp at h3
 ·exact absurd e (xT ha fa fb h)
 ·exact absurd e.symm (xT hb fb fa h)
theorem zf {a b:IN} (ha:aq a) (hb:aq b) (hw:48<=a.form↔48<=b.form) (e:bs a=bs b):a.form=b.form:=by
 have f1:=ha.1
 have f2:=hb.1
 by_cases h:48<=a.form
 ·have h1:=List.all_eq_true.1 (List.all_eq_true.1 wG (a.form.toNat - 48) (List.mem_range.2 (by omega))) (b.form.toNat - 48) (List.mem_range.2 (by have:=hw.1 h; omega))
  rw[show a.form.toNat - 48+48=a.form.toNat by omega,show b.form.toNat - 48+48=b.form.toNat by have:=hw.1 h; omega] at h1
  exact xU ha hb h1 e
 ·have h1:=List.all_eq_true.1 (List.all_eq_true.1 se (a.form.toNat - 1) (List.mem_range.2 (by omega))) (b.form.toNat - 1) (List.mem_range.2 (by omega))
  rw[show a.form.toNat - 1+1=a.form.toNat by omega,show b.form.toNat - 1+1=b.form.toNat by omega] at h1
  exact xU ha hb h1 e
def xV (s w:Int) (f:Nat):Int:=((ax s).filter fun x=>decide (x.1=f)).foldl (fun a x=>a+ab w x.2.2.1 x.2.2.2*2 ^ x.2.1) 0
def nK (s f x:Int):Int:=if s=15 then cO x 9 else if s=16 then cO x 12 else if s=33 then cO x 21 else if s=34 then cO (bG x 2) 25 else if s=1/\1 < f/\x=0 then 32 else x
def JN (s k x:Int):Int:=if 21<=s/\s<=23/\x=0/\(k=1\/k=2) then 32 else x
def RY (s w x:Int):Int:=if s=32 then ab w 0 4 else x
def aU (f w:Int):IN:=⟨f,xV (aa f) w 0,xV (aa f) w 1,RY (aa f) w (xV (aa f) w 2),xV (aa f) w 3,nK (aa f) f (xV (aa f) w 4),xV (aa f) w 5,JN (aa f) (xV (aa f) w 5) (xV (aa f) w 6),xV (aa f) w 7,xV (aa f) w 8,xV (aa f) w 9⟩
def xR (s:Int) (i:IN) (f:Nat):Int:=((ax s).filter fun x=>decide (x.1=f)).foldl (fun a x=>a+ab (iT i x.1) x.2.1 x.2.2.2*2 ^ x.2.1) 0
theorem o6 {α β:Type} {f g:β->α->β}:∀ {l:List α} {b:β},(∀ b x,x∈l->f b x=g b x)->l.foldl f b=l.foldl g b
 | [],_,_=>rfl
 | x::l,b,h=>by rw[List.foldl_cons,List.foldl_cons,h b x (List.mem_cons_self ..)]; exact o6 fun b y hy=>h b y (List.mem_cons_of_mem _ hy)
theorem Lc (i:IN) (x:Nat × Nat × Nat × Nat):((vF i x:Nat):Int)=ab (iT i x.1) x.2.1 x.2.2.2:=Int.toNat_of_nonneg (ae ..).1
theorem qx (i:IN) {x:Nat × Nat × Nat × Nat} (hx:x∈ax (aa i.form)):ab (bs i) x.2.2.1 x.2.2.2=ab (iT (du i) x.1) x.2.1 x.2.2.2:=by
 have h:=o5 i hx
 have e:bs i=(((bs i).toNat:Nat):Int):=by unfold bs; rw[Int.toNat_natCast]
 rw[e,qw,h,Lc]
theorem fK (i:IN) (f:Nat):xV (aa i.form) (bs i) f=xR (aa i.form) (du i) f:=by
 unfold xV xR
 refine o6 fun b x hx=>?_
 rw[qx i (List.mem_filter.1 hx).1]
theorem jE {f:Int} (h:1<=f/\f<=100):1<=aa f/\aa f<=34:=by
 have h1:((List.range 100).all fun k=>decide (1<=aa ((k+1:Nat):Int)/\aa ((k+1:Nat):Int)<=34))=true:=by decide +kernel
 have h2:=of_decide_eq_true (List.all_eq_true.1 h1 (f.toNat - 1) (List.mem_range.2 (by omega)))
 rwa [show (((f.toNat - 1+1:Nat)):Int)=f by omega] at h2
theorem qy {f:Int} (h:1<=f/\f<=100):aa f=1->f=1\/f=2\/f=3:=by
 have h1:((List.range 100).all fun k=>decide (aa ((k+1:Nat):Int)=1->k < 3))=true:=by decide +kernel
 have h2:=of_decide_eq_true (List.all_eq_true.1 h1 (f.toNat - 1) (List.mem_range.2 (by omega)))
 rw[show (((f.toNat - 1+1:Nat)):Int)=f by omega] at h2
 intro h3; have:=h2 h3; omega
theorem tm0 {n s:Int} (h:n.tmod s=0):n % s=0:=Int.emod_eq_zero_of_dvd (Int.dvd_of_tmod_eq_zero h)
theorem ug {f t s n:Int} (h:dd f t s n):(s=0/\n=0)\/(s≠0/\f<=n/\n<=t/\n % s=0):=h.imp id fun ⟨a,b,c,d⟩=>⟨a,b,c,tm0 d⟩
theorem CL (x k:Nat):x &&& 2 ^ k=(x / 2 ^ k % 2)*2 ^ k:=by
 apply Nat.eq_of_testBit_eq
 intro i
 rw[Nat.testBit_and,Nat.testBit_two_pow]
 rcases Nat.mod_two_eq_zero_or_one (x / 2 ^ k) with h|h
 ·rw[h,Nat.zero_mul,Nat.zero_testBit]
  by_cases hi:k=i
  ·subst hi; rw[Nat.testBit_eq_decide_div_mod_eq]; simp[h]
  ·simp[hi]
 ·rw[h,Nat.one_mul,Nat.testBit_two_pow]
  by_cases hi:k=i
  ·subst hi; rw[Nat.testBit_eq_decide_div_mod_eq]; simp[h]
  ·simp[hi]
theorem zg (k x:Nat) (hk:8<=k):x &&& (2 ^ k ||| (2 ^ 8 - 1))=(x / 2 ^ k % 2)*2 ^ k+x % 256:=by
 rw[Nat.and_or_distrib_left,Nat.and_two_pow_sub_one_eq_mod,CL]
 have cz:x % 2 ^ 8 < 2 ^ k:=Nat.lt_of_lt_of_le (Nat.mod_lt _ (by decide)) (Nat.pow_le_pow_right (by decide) hk)
 have:=Nat.two_pow_add_eq_or_of_lt cz (x / 2 ^ k % 2)
 rw[Nat.mul_comm,← this]
theorem ui (a m:Nat) (ha:a < 9223372036854775808) (hm:m < 9223372036854775808) (h:bits .andNot .i64 (a:Int) (m:Int)=0):a &&& m=a:=by
 have e:∀ c:Nat,c < 9223372036854775808->(BitVec.ofInt 64 (c:Int)).toNat=c:=fun c hc=>by
  rw[BitVec.ofInt_natCast,BitVec.toNat_ofNat]; exact Nat.mod_eq_of_lt (by omega)
 have h1:IntKind.i64.wrap ((BitVec.ofInt 64 (a:Int) &&& ~~~ BitVec.ofInt 64 (m:Int)).toNat:Int)=0:=h
 have cz:(BitVec.ofInt 64 (a:Int) &&& ~~~ BitVec.ofInt 64 (m:Int)).toNat < 9223372036854775808:=by
  rw[BitVec.toNat_and,e a ha]
  exact Nat.lt_of_le_of_lt Nat.and_le_left ha
 rw[IntKind.wrap_i64] at h1
 have h2:(BitVec.ofInt 64 (a:Int) &&& ~~~ BitVec.ofInt 64 (m:Int))=0#64:=BitVec.eq_of_toNat_eq (by rw[BitVec.toNat_ofNat]; omega)
 have h3:BitVec.ofInt 64 (a:Int) &&& BitVec.ofInt 64 (m:Int)=BitVec.ofInt 64 (a:Int):=by
  apply BitVec.eq_of_getLsbD_eq
  intro i hi
  have h4:=congrArg (fun v=>v.getLsbD i) h2
  simp only[BitVec.getLsbD_and,BitVec.getLsbD_not,BitVec.getLsbD_zero,hi,decide_true,Bool.true_and] at h4
  rw[BitVec.getLsbD_and]
  cases ha:(BitVec.ofInt 64 (a:Int)).getLsbD i<;>cases hb:(BitVec.ofInt 64 (m:Int)).getLsbD i<;>simp_all
 have h5:=congrArg BitVec.toNat h3
 rwa [BitVec.toNat_and,e a ha,e m hm] at h5
theorem sg (k:Nat) (hk:8<=k) (vh:k<=15) (r m:Int) (hm:m=2 ^ k+255) (h0:0 < r) (h1:r<=9223372036854775807) (h:bits .andNot .i64 r m=0):r / 2 ^ k % 2*2 ^ k+r % 256=r:=by
 have e:=ui r.toNat (2 ^ k+255) (by omega) (by have:=Nat.pow_le_pow_right (n:=2) (by omega) vh; omega) (by
  rw[show ((r.toNat:Nat):Int)=r by omega,show (((2 ^ k+255:Nat)):Int)=m by rw[hm]; push_cast; rfl]; exact h)
 have e2:2 ^ k+255=2 ^ k ||| (2 ^ 8 - 1):=by
  have cz:255 < 2 ^ k:=Nat.lt_of_lt_of_le (show 255 < 2 ^ 8 by decide) (Nat.pow_le_pow_right (by decide) hk)
  have:=Nat.two_pow_add_eq_or_of_lt cz 1
  rwa [Nat.mul_one] at this
 rw[e2,zg k _ hk] at e
 have e3:((r.toNat / 2 ^ k % 2*2 ^ k+r.toNat % 256:Nat):Int)=((r.toNat:Nat):Int):=congrArg _ e
 push_cast at e3
 rw[show ((r.toNat:Nat):Int)=r by omega] at e3
 exact e3
theorem si {n:Int} (h:0<=n/\n < 33554432):∃ a,0<=a/\a < 4194304/\(n=a\/n=4194304+a\/n=8388608+a\/n=12582912+a\/n=16777216+a\/n=20971520+a\/n=25165824+a\/n=29360128+a):=⟨n % 4194304,by omega⟩
theorem l9 (n:Int) (h:0<=n/\n < 33554432):bG n 2=n+((if n / 4194304 % 2=n / 16777216 % 2 then 1 else 0) - n / 4194304 % 2)*4194304+((if n / 8388608 % 2=n / 16777216 % 2 then 1 else 0) - n / 8388608 % 2)*8388608:=by
 have p22:(2:Int) ^ 22=4194304:=by decide
 have p23:(2:Int) ^ 23=8388608:=by decide
 have ZJ:(2:Int) ^ 24=16777216:=by decide
 have p1:(2:Int) ^ 1=2:=by decide
 have b:∀ m:Int,0<=m->∀ k,ab m k 1=m / 2 ^ k % 2:=fun m hm k=>by unfold ab; rw[if_neg (by omega),p1]
 obtain⟨t,ht⟩:∃ t,t=ky (ab n 24 1) n 22:=⟨_,rfl⟩
 have e:bG n 2=ky (ab n 24 1) t 23:=by rw[ht]; rfl
 unfold ky at ht
 rw[b n h.1,b n h.1,ZJ,p22] at ht
 have ZK:0<=t/\t < 33554432/\t / 8388608 % 2=n / 8388608 % 2:=by
  obtain⟨a,a0,a1,h8⟩:=si h
  rcases h8 with h8|h8|h8|h8|h8|h8|h8|h8<;>split at ht<;>omega
 rw[e]
 unfold ky
 rw[b n h.1,b t ZK.1,ZJ,p23,ZK.2.2,ht]
theorem l_ {n:Int} (h:0<=n/\n < 33554432):0<=bG n 2/\bG n 2 < 33554432:=by
 rw[l9 n h]
 obtain⟨a,a0,a1,h8⟩:=si h
 rcases h8 with h8|h8|h8|h8|h8|h8|h8|h8<;>split<;>split<;>omega
theorem kb {n:Int} (h:0<=n/\n < 33554432):bG n 2 / 16777216=n / 16777216/\bG n 2 % 4194304=n % 4194304/\bG n 2 / 4194304 % 2=(if n / 4194304 % 2=n / 16777216 % 2 then 1 else 0)/\bG n 2 / 8388608 % 2=(if n / 8388608 % 2=n / 16777216 % 2 then 1 else 0):=by
 rw[l9 n h]
 obtain⟨a,a0,a1,h8⟩:=si h
 rcases h8 with h8|h8|h8|h8|h8|h8|h8|h8<;>split<;>split<;>omega
theorem zh {n:Int} (h:0<=n/\n < 33554432):bG (bG n 2) 2=n:=by
 have c:=kb h
 rw[l9 _ (l_ h),c.1,c.2.2.1,c.2.2.2,l9 n h]
 clear c
 obtain⟨a,a0,a1,h8⟩:=si h
 have e24:n / 16777216 % 2=n / 16777216:=by omega
 rw[e24]
 rcases h8 with h8|h8|h8|h8|h8|h8|h8|h8
 ·have x:n / 4194304 % 2=0:=by omega
  have y:n / 8388608 % 2=0:=by omega
  have z:n / 16777216=0:=by omega
  rw[x,y,z]; simp<;>omega
 ·have x:n / 4194304 % 2=1:=by omega
  have y:n / 8388608 % 2=0:=by omega
  have z:n / 16777216=0:=by omega
  rw[x,y,z]; simp<;>omega
 ·have x:n / 4194304 % 2=0:=by omega
  have y:n / 8388608 % 2=1:=by omega
  have z:n / 16777216=0:=by omega
  rw[x,y,z]; simp<;>omega
 ·have x:n / 4194304 % 2=1:=by omega
  have y:n / 8388608 % 2=1:=by omega
  have z:n / 16777216=0:=by omega
  rw[x,y,z]; simp<;>omega
 ·have x:n / 4194304 % 2=0:=by omega
  have y:n / 8388608 % 2=0:=by omega
  have z:n / 16777216=1:=by omega
  rw[x,y,z]; simp<;>omega
 ·have x:n / 4194304 % 2=1:=by omega
  have y:n / 8388608 % 2=0:=by omega
  have z:n / 16777216=1:=by omega
  rw[x,y,z]; simp<;>omega
 ·have x:n / 4194304 % 2=0:=by omega
  have y:n / 8388608 % 2=1:=by omega
  have z:n / 16777216=1:=by omega
  rw[x,y,z]; simp<;>omega
 ·have x:n / 4194304 % 2=1:=by omega
  have y:n / 8388608 % 2=1:=by omega
  have z:n / 16777216=1:=by omega
  rw[x,y,z]; simp<;>omega
theorem aJ {i:IN} (h:aa i.form≠34):du i=i:=if_neg h
theorem RZ {i:IN} (h:aa i.form=34):du i = {i with az:=bG (ab i.az 0 25) 2}:=if_pos h
theorem aX {a b:IN} (h0:a.form=b.form) (h1:a.rd=b.rd) (h2:a.rn=b.rn) (h3:a.rm=b.rm) (h4:a.ra=b.ra) (h5:a.az=b.az) (h6:a.kind=b.kind) (h7:a.bC=b.bC) (h8:a.set=b.set) (h9:a.cond=b.cond) (cC:a.ao=b.ao):a=b:=by
 cases a; cases b; simp_all
def cH (s:Int) (i:IN):IN:=⟨i.form,xR s i 0,xR s i 1,if s=32 then ab i.rm 0 4 else xR s i 2,xR s i 3,nK s i.form (xR s i 4),xR s i 5,JN s (xR s i 5) (xR s i 6),xR s i 7,xR s i 8,xR s i 9⟩
theorem zi (i:IN) (Gv:aa i.form=32->ab (bs i) 0 4=ab (du i).rm 0 4):aU i.form (bs i) = {cH (aa i.form) (du i) with form:=i.form}:=by
 unfold aU cH
 rw[fK,fK,fK,fK,fK,fK,fK,fK,fK,fK,gD]
 unfold RY
 by_cases h:aa i.form=32
 ·rw[if_pos h,if_pos h,Gv h]
 ·rw[if_neg h,if_neg h]
end Go.Proofs.YtlgkljpgagfndaaGreatDoor.Pw

/- What this claim is proved with: no condition. -/
import Derived.Test.YtbnoodjnpooocaaGreatDoorNwCwNa
import Derived.Test.YtbnoodjnpooocaaGreatDoorNw24
import Derived.Test.YtbnoodjnpooocaaGreatDoorNw10
set_option maxRecDepth 100000
set_option maxHeartbeats 8000000
set_option linter.unusedVariables false
set_option linter.unusedSimpArgs false
namespace Go.Proofs.YtbnoodjnpooocaaGreatDoor.Pw
open Go
set_option maxRecDepth 1000000
def Yf:PV:=lp [102]
def qT:PV:=.agg [.sl 1 [kV 41],.nil]
def L':PV:=.agg [lp [],.ff,kI 0,kI 1,.sl 3 [.agg [lp [],kI 2,kI 0]],.nil]
theorem L_:al gT 23 [nJ,Yf] (.tup [jJ,.tt]):=al.run nW 100 (by kernel_rfl) (by kernel_rfl) (by kernel_rfl)
theorem Ma:al gT 57 [jJ,qT] .tt:=al.run nW 100 (by kernel_rfl) (by kernel_rfl) (by kernel_rfl)
theorem Mb:al gT 58 [jJ] L':=al.run nW 100 (by kernel_rfl) (by kernel_rfl) (by kernel_rfl)
theorem CT:al gT 59 [L'] (kI 1):=al.run nW 100 (by kernel_rfl) (by kernel_rfl) (by kernel_rfl)
theorem GV:al gT 61 [jJ,qT] (.sl 1 [kU 41]):=al.run nW 100 (by kernel_rfl) (by kernel_rfl) (by kernel_rfl)
open Go Go.RowKit
theorem EM {w:World} {I:Nat->Prop}:∀ (l:List Int) (g o:Nat),ca w I (l.map (PV.lit .u8)) 1 g o->ca w I (l.map (PV.int .u8)) 1 g o
 | [],_,_,h=>h
 | x::l,g,o,h=>by
  simp only[List.map_cons,ca,PV.Is] at h ⊢
  exact⟨h.1,EM l g (o+1) h.2⟩
theorem sl_u8 (l:List Int):qq (.sl 1 (l.map (PV.lit .u8))) (.sl 1 (lR l)):=fun w I β v h=>by
 unfold lR
 simp only[PV.Is,List.length_map] at h ⊢
 obtain⟨a,cap,h1,h2,h3,h4,h5⟩:=h
 exact⟨a,cap,h1,h2,h3,fun g o e=>EM l g o (h4 g o e),h5⟩
theorem CU:yK = .sl 1 (kO.map (PV.lit .u8)):=rfl
theorem GW:al gT 15 [yK] (.sl 1 (lR kO)) :=
 (uH kO (by decide)).arg fun w I β vals h=>by
  match vals,h with
  | [a],h =>
   simp only[bg,and_true] at h ⊢
   rw[CU] at h
   exact sl_u8 kO w I β a h
theorem wU (es:List PV) (F:List Int) (hl:es.length=F.length) (hF:F.length<=65536) (hc:al gT 15 [.sl 1 es] (.sl 1 (lR F))):Spec gT 5 [.sl 1 es] [] [] fun r S'=>r = .tup [.ptr 1 0,.lit .i64 0]/\S' = [CI fun _=>0,La F]:=by
 refine Spec.fq aA P5 100 Tryz.func5 rfl (by kernel_rfl) ?_
 refine fun De=>?_
 refine⟨fun h=>absurd (show (65536:Int) < (es.length:Nat) from h) (by rw[hl]; omega),fun _=>?_⟩
 refine hc.u ?_
 refine vT aA ?_
 refine⟨65536,rfl,rfl,rfl,rfl,by decide,by decide,?_⟩
 rw[show List.replicate 65536 (PV.norm (.lit .u8 0))=iV fun _=>0 from wI]
 refine And.intro ?_ ?_
 ·refine Exists.intro [some 0,some 1] (Exists.intro [(2,.ptr 1 0),(3,.lit .i64 0)] (Exists.intro [CI fun _=>0,La F] (And.intro ?_ (And.intro (Nat.le_of_ble_eq_true rfl) ?_))))
  ·repeat' first|exact trivial|exact rfl|exact Iff.rfl|exact not_false|refine And.intro ?_ ?_
  exact⟨rfl,rfl⟩
 ·refine And.intro ?_ ?_
  ·refine vT aA ?_
   refine⟨65536,rfl,rfl,rfl,rfl,by decide,by decide,?_⟩
   rw[show List.replicate 65536 (PV.norm (.lit .u8 0))=iV fun _=>0 from wI]
   refine hc.u ?_
   exact rfl
  ·first|exact trivial|((conv=>whnf); exact trivial)
theorem Mc:Spec gT 24 [nJ,jJ,qT,kI 0] [] [] fun r S'=>r = .tup [.ptr 2 0,.lit .i64 0]/\S'=stM (yJ (qo kO 0) Yb):=by
 refine Spec.fq aA P24 100 Tryz.func24 rfl (by kernel_rfl) ?_
 refine Ma.u ?_
 refine Mb.u ?_
 refine CT.u ?_
 refine⟨[],bI,(wU _ kO rfl (by decide) GW).x_ rfl (by repeat' first|exact trivial|exact rfl|exact Iff.rfl|exact Or.inl rfl|refine And.intro ?_ ?_) rfl ?_⟩
 refine⟨[],bI,Spec.fq aA P6 100 Tryz.func6 rfl (by kernel_rfl) ?_⟩
 refine Exists.intro [some 0,some 1,some 2,some 3,some 4,some 5] (Exists.intro [(4,.ptr 5 0),(5,.lit .i64 0)] (Exists.intro [⟨.loc,48,1,.w,true,nJ.cells⟩,⟨.loc,109,1,.w,true,jJ.cells⟩,⟨.loc,60,1,.w,true,qT.cells⟩,CI fun _=>0,⟨.loc,63,1,.w,true,[.sl 1 (lR kO),.wref 3]⟩,⟨.loc,67,1,.w,true,.ptr 4 0::(Lc (qo kO 0)).cs.tail⟩] (And.intro ?_ (And.intro (Nat.le_of_ble_eq_true rfl) ?_))))
 ·repeat' first|exact trivial|exact rfl|exact Iff.rfl|exact not_false|refine And.intro ?_ ?_
 refine⟨[],bI,Spec.enter aA P60 100 Tryz.func60 rfl (by kernel_rfl) ?_⟩
 refine SW.rounds aA P60 (by kernel_rfl) (N:=60) 1 ?_
 refine Exists.intro _ (And.intro (qq.refl _) ?_)
 refine GV.u ?_
 refine Fy aA ?_
 refine⟨fun e he=>(by rcases List.mem_singleton.1 he with rfl; exact⟨_,_,rfl⟩),1,by decide,rfl,_,rfl,?_⟩
 refine (L5 (qo kO 0) Yb).q [3,4,5] ?_
 refine Exists.intro [some 3,some 4,some 5] (Exists.intro [(8,.ptr 2 0),(9,.lit .i64 0)] (Exists.intro (stM (yJ (qo kO 0) Yb)) (And.intro ?_ (And.intro (Nat.le_of_ble_eq_true rfl) ?_))))
 ·repeat' first|exact trivial|exact rfl|exact Iff.rfl|exact not_false|refine And.intro ?_ ?_
 exact⟨rfl,rfl⟩
theorem iL (m:MS) (hl:m.fl.length<=65536):Spec gT 12 [.ptr 1 0] (stM m) [] fun y S'=>y = .sl 1 (lR m.fl)/\S'=stM m:=by
 refine Spec.lJ (Spec.enter aA P12 100 Tryz.func12 rfl (by kernel_rfl) ?_)
 refine (uH m.fl hl).u ?_
 exact rS
theorem CV (m:MS):Spec gT 26 [.ptr 1 0,.nil] (stM m) [] fun y S'=>y = .nil/\S'=stM m:=by
 refine Spec.lJ (Spec.enter aA P26 100 Tryz.func26 rfl (by kernel_rfl) ?_)
 refine SW.rounds aA P26 (by kernel_rfl) (N:=60) 1 ?_
 exact rS
theorem CW (s:RS) (h:0<=s.R 0/\s.R 0<=4294967295):al gT 28 [jJ,uw s] (.int .u64 (s.R 0)):=by
 refine Spec.enter aA P28 100 Tryz.func28 rfl (by kernel_rfl) ?_
 refine .inl ⟨gM (by omega),?_⟩
 exact aF rfl
end Go.Proofs.YtbnoodjnpooocaaGreatDoor.Pw

/- The types and the functions that the evaluator asks for. Written by a program (mkcx.py) off the given program. -/
import Derived.Test.YtcaenimpfbfobaaDoorChecked
import Derived.Test.YtcaenimpfbfobaaDoorEvI
namespace Go.Proofs.YtcaenimpfbfobaaDoor.Ev
open Go

noncomputable def tt : List (Nat × TI) := [(3, ⟨Tryd.t3.desc, Tryd.t3.size, Tryd.t3.zero⟩),
  (50, ⟨Tryd.t49.desc, Tryd.t50.size, Tryd.t50.zero⟩),
  (74, ⟨Tryd.t73.desc, Tryd.t74.size, Tryd.t74.zero⟩),
  (48, ⟨Tryd.t47.desc, Tryd.t48.size, Tryd.t48.zero⟩),
  (55, ⟨Tryd.t3.desc, Tryd.t55.size, Tryd.t55.zero⟩),
  (46, ⟨Tryd.t3.desc, Tryd.t46.size, Tryd.t46.zero⟩),
  (72, ⟨Tryd.t71.desc, Tryd.t72.size, Tryd.t72.zero⟩),
  (4, ⟨Tryd.t4.desc, Tryd.t4.size, Tryd.t4.zero⟩),
  (23, ⟨Tryd.t23.desc, Tryd.t23.size, Tryd.t23.zero⟩),
  (70, ⟨Tryd.t3.desc, Tryd.t70.size, Tryd.t70.zero⟩),
  (79, ⟨Tryd.t79.desc, Tryd.t79.size, Tryd.t79.zero⟩),
  (88, ⟨Tryd.t88.desc, Tryd.t88.size, Tryd.t88.zero⟩),
  (86, ⟨Tryd.t86.desc, Tryd.t86.size, Tryd.t86.zero⟩),
  (81, ⟨Tryd.t81.desc, Tryd.t81.size, Tryd.t81.zero⟩),
  (87, ⟨Tryd.t87.desc, Tryd.t87.size, Tryd.t87.zero⟩),
  (9, ⟨Tryd.t9.desc, Tryd.t9.size, Tryd.t9.zero⟩),
  (78, ⟨Tryd.t78.desc, Tryd.t78.size, Tryd.t78.zero⟩),
  (24, ⟨Tryd.t3.desc, Tryd.t24.size, Tryd.t24.zero⟩),
  (36, ⟨Tryd.t36.desc, Tryd.t36.size, Tryd.t36.zero⟩)]
noncomputable def fns : List (Nat × Func) := [(9, Tryd.f9),
  (23, Tryd.f23),
  (24, Tryd.f24),
  (32, Tryd.f32),
  (30, Tryd.f30),
  (44, Tryd.f44),
  (58, Tryd.f58),
  (45, Tryd.f45),
  (28, Tryd.f28),
  (46, Tryd.f46),
  (47, Tryd.f47),
  (48, Tryd.f48),
  (49, Tryd.f49),
  (59, Tryd.f59),
  (50, Tryd.f50),
  (15, Tryd.f15),
  (16, Tryd.f16),
  (38, Tryd.f38),
  (25, Tryd.f25),
  (26, Tryd.f26),
  (31, Tryd.f31),
  (51, Tryd.f51),
  (60, Tryd.f60),
  (61, Tryd.f61),
  (62, Tryd.f62),
  (52, Tryd.f52),
  (63, Tryd.f63),
  (64, Tryd.f64),
  (21, Tryd.f21),
  (43, Tryd.f43),
  (57, Tryd.f57),
  (56, Tryd.f56),
  (65, Tryd.f65),
  (66, Tryd.f66),
  (10, Tryd.f10),
  (11, Tryd.f11),
  (27, Tryd.f27),
  (12, Tryd.f12),
  (29, Tryd.f29),
  (35, Tryd.f35),
  (13, Tryd.f13),
  (33, Tryd.f33),
  (53, Tryd.f53),
  (34, Tryd.f34),
  (36, Tryd.f36),
  (54, Tryd.f54),
  (37, Tryd.f37)]
theorem tt_und : ∀ p ∈ tt, Tryd.prog.underlying p.1 = some p.2.desc :=
  all_cons (by kernel_rfl) <|
  all_cons (by kernel_rfl) <|
  all_cons (by kernel_rfl) <|
  all_cons (by kernel_rfl) <|
  all_cons (by kernel_rfl) <|
  all_cons (by kernel_rfl) <|
  all_cons (by kernel_rfl) <|
  all_cons (by kernel_rfl) <|
  all_cons (by kernel_rfl) <|
  all_cons (by kernel_rfl) <|
  all_cons (by kernel_rfl) <|
  all_cons (by kernel_rfl) <|
  all_cons (by kernel_rfl) <|
  all_cons (by kernel_rfl) <|
  all_cons (by kernel_rfl) <|
  all_cons (by kernel_rfl) <|
  all_cons (by kernel_rfl) <|
  all_cons (by kernel_rfl) <|
  all_cons (by kernel_rfl) <| all_nil
theorem tt_inf : ∀ p ∈ tt, ∃ i, Tryd.prog.info? p.1 = some i ∧ i.size = p.2.size ∧ i.zero = p.2.zero :=
  all_cons ⟨Tryd.t3, by kernel_rfl, rfl, rfl⟩ <|
  all_cons ⟨Tryd.t50, by kernel_rfl, rfl, rfl⟩ <|
  all_cons ⟨Tryd.t74, by kernel_rfl, rfl, rfl⟩ <|
  all_cons ⟨Tryd.t48, by kernel_rfl, rfl, rfl⟩ <|
  all_cons ⟨Tryd.t55, by kernel_rfl, rfl, rfl⟩ <|
  all_cons ⟨Tryd.t46, by kernel_rfl, rfl, rfl⟩ <|
  all_cons ⟨Tryd.t72, by kernel_rfl, rfl, rfl⟩ <|
  all_cons ⟨Tryd.t4, by kernel_rfl, rfl, rfl⟩ <|
  all_cons ⟨Tryd.t23, by kernel_rfl, rfl, rfl⟩ <|
  all_cons ⟨Tryd.t70, by kernel_rfl, rfl, rfl⟩ <|
  all_cons ⟨Tryd.t79, by kernel_rfl, rfl, rfl⟩ <|
  all_cons ⟨Tryd.t88, by kernel_rfl, rfl, rfl⟩ <|
  all_cons ⟨Tryd.t86, by kernel_rfl, rfl, rfl⟩ <|
  all_cons ⟨Tryd.t81, by kernel_rfl, rfl, rfl⟩ <|
  all_cons ⟨Tryd.t87, by kernel_rfl, rfl, rfl⟩ <|
  all_cons ⟨Tryd.t9, by kernel_rfl, rfl, rfl⟩ <|
  all_cons ⟨Tryd.t78, by kernel_rfl, rfl, rfl⟩ <|
  all_cons ⟨Tryd.t24, by kernel_rfl, rfl, rfl⟩ <|
  all_cons ⟨Tryd.t36, by kernel_rfl, rfl, rfl⟩ <| all_nil
theorem fns_ok : ∀ p ∈ fns, Tryd.prog.funcs[p.1]? = some p.2 :=
  all_cons Tryd.func9 <|
  all_cons Tryd.func23 <|
  all_cons Tryd.func24 <|
  all_cons Tryd.func32 <|
  all_cons Tryd.func30 <|
  all_cons Tryd.func44 <|
  all_cons Tryd.func58 <|
  all_cons Tryd.func45 <|
  all_cons Tryd.func28 <|
  all_cons Tryd.func46 <|
  all_cons Tryd.func47 <|
  all_cons Tryd.func48 <|
  all_cons Tryd.func49 <|
  all_cons Tryd.func59 <|
  all_cons Tryd.func50 <|
  all_cons Tryd.func15 <|
  all_cons Tryd.func16 <|
  all_cons Tryd.func38 <|
  all_cons Tryd.func25 <|
  all_cons Tryd.func26 <|
  all_cons Tryd.func31 <|
  all_cons Tryd.func51 <|
  all_cons Tryd.func60 <|
  all_cons Tryd.func61 <|
  all_cons Tryd.func62 <|
  all_cons Tryd.func52 <|
  all_cons Tryd.func63 <|
  all_cons Tryd.func64 <|
  all_cons Tryd.func21 <|
  all_cons Tryd.func43 <|
  all_cons Tryd.func57 <|
  all_cons Tryd.func56 <|
  all_cons Tryd.func65 <|
  all_cons Tryd.func66 <|
  all_cons Tryd.func10 <|
  all_cons Tryd.func11 <|
  all_cons Tryd.func27 <|
  all_cons Tryd.func12 <|
  all_cons Tryd.func29 <|
  all_cons Tryd.func35 <|
  all_cons Tryd.func13 <|
  all_cons Tryd.func33 <|
  all_cons Tryd.func53 <|
  all_cons Tryd.func34 <|
  all_cons Tryd.func36 <|
  all_cons Tryd.func54 <|
  all_cons Tryd.func37 <| all_nil
def eqs : List Nat := [48]
theorem eqs_ok : ∀ t ∈ eqs, Tryd.prog.eqGuardType Tryd.prog.depth t = false ∧ Tryd.prog.stoodInHeld t = false ∧ (Tryd.prog.fieldsOf t).toList.all (fun f => decide (f.name ≠ "_")) = true :=
  all_cons ⟨by kernel_rfl, by kernel_rfl, by kernel_rfl⟩ <| all_nil
theorem mixed : Tryd.prog.follows .mixedOrders = true := by kernel_rfl
noncomputable def cxOf (glob : List (Nat × Nat)) (sums : List Sum) : Cx := { P := Tryd.prog, glob := glob, sums := sums, tt := tt, fns := fns, eqs := eqs }
theorem cxOk (glob : List (Nat × Nat)) (sums : List Sum) : CxOk (cxOf glob sums) := ⟨tt_und, tt_inf, fns_ok, mixed, eqs_ok⟩

end Go.Proofs.YtcaenimpfbfobaaDoor.Ev

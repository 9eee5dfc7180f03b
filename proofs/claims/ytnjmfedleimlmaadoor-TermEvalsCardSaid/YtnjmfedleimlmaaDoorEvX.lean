/- The types and the functions that the evaluator asks for. Written by a program (mkcx.py) off the given program. -/
import Derived.Test.YtnjmfedleimlmaaDoorChecked
import Derived.Test.YtnjmfedleimlmaaDoorEvI
namespace Go.Proofs.YtnjmfedleimlmaaDoor.Ev
open Go

noncomputable def tt : List (Nat × TI) := [(28, ⟨Tryd.t27.desc, Tryd.t28.size, Tryd.t28.zero⟩),
  (25, ⟨Tryd.t25.desc, Tryd.t25.size, Tryd.t25.zero⟩),
  (3, ⟨Tryd.t3.desc, Tryd.t3.size, Tryd.t3.zero⟩),
  (85, ⟨Tryd.t84.desc, Tryd.t85.size, Tryd.t85.zero⟩),
  (26, ⟨Tryd.t26.desc, Tryd.t26.size, Tryd.t26.zero⟩),
  (45, ⟨Tryd.t44.desc, Tryd.t45.size, Tryd.t45.zero⟩),
  (39, ⟨Tryd.t39.desc, Tryd.t39.size, Tryd.t39.zero⟩),
  (23, ⟨Tryd.t23.desc, Tryd.t23.size, Tryd.t23.zero⟩),
  (36, ⟨Tryd.t36.desc, Tryd.t36.size, Tryd.t36.zero⟩),
  (115, ⟨Tryd.t114.desc, Tryd.t115.size, Tryd.t115.zero⟩),
  (4, ⟨Tryd.t4.desc, Tryd.t4.size, Tryd.t4.zero⟩),
  (22, ⟨Tryd.t22.desc, Tryd.t22.size, Tryd.t22.zero⟩),
  (123, ⟨Tryd.t123.desc, Tryd.t123.size, Tryd.t123.zero⟩),
  (144, ⟨Tryd.t144.desc, Tryd.t144.size, Tryd.t144.zero⟩)]
noncomputable def fns : List (Nat × Func) := [(3, Tryd.f3),
  (14, Tryd.f14),
  (38, Tryd.f38),
  (39, Tryd.f39),
  (17, Tryd.f17),
  (43, Tryd.f43),
  (44, Tryd.f44),
  (45, Tryd.f45),
  (46, Tryd.f46),
  (70, Tryd.f70),
  (97, Tryd.f97),
  (16, Tryd.f16),
  (42, Tryd.f42),
  (68, Tryd.f68),
  (69, Tryd.f69),
  (95, Tryd.f95),
  (114, Tryd.f114),
  (96, Tryd.f96),
  (115, Tryd.f115),
  (15, Tryd.f15),
  (40, Tryd.f40),
  (19, Tryd.f19),
  (41, Tryd.f41),
  (67, Tryd.f67),
  (4, Tryd.f4),
  (18, Tryd.f18),
  (47, Tryd.f47),
  (71, Tryd.f71),
  (5, Tryd.f5),
  (20, Tryd.f20),
  (6, Tryd.f6),
  (21, Tryd.f21),
  (48, Tryd.f48),
  (7, Tryd.f7),
  (22, Tryd.f22),
  (49, Tryd.f49),
  (72, Tryd.f72),
  (73, Tryd.f73),
  (24, Tryd.f24),
  (23, Tryd.f23),
  (8, Tryd.f8),
  (25, Tryd.f25),
  (27, Tryd.f27),
  (50, Tryd.f50),
  (74, Tryd.f74),
  (75, Tryd.f75),
  (98, Tryd.f98),
  (76, Tryd.f76),
  (26, Tryd.f26),
  (51, Tryd.f51),
  (9, Tryd.f9)]
theorem tt_und : ∀ p ∈ tt, Tryd.prog.underlying p.1 = some p.2.desc :=
  all_cons (by kernel_rfl) <|
  all_cons (by kernel_rfl) <|
  all_cons (by kernel_rfl) <|
  all_cons (by kernel_rfl) <|
  all_cons (by kernel_rfl) <|
  all_cons (by kernel_rfl) <|
  all_cons (by kernel_rfl) <|
  all_cons (by kernel_rfl) <|
  all_cons (by kernel_rfl) <|
  all_cons (by kernel_rfl) <|
  all_cons (by kernel_rfl) <|
  all_cons (by kernel_rfl) <|
  all_cons (by kernel_rfl) <|
  all_cons (by kernel_rfl) <| all_nil
theorem tt_inf : ∀ p ∈ tt, ∃ i, Tryd.prog.info? p.1 = some i ∧ i.size = p.2.size ∧ i.zero = p.2.zero :=
  all_cons ⟨Tryd.t28, by kernel_rfl, rfl, rfl⟩ <|
  all_cons ⟨Tryd.t25, by kernel_rfl, rfl, rfl⟩ <|
  all_cons ⟨Tryd.t3, by kernel_rfl, rfl, rfl⟩ <|
  all_cons ⟨Tryd.t85, by kernel_rfl, rfl, rfl⟩ <|
  all_cons ⟨Tryd.t26, by kernel_rfl, rfl, rfl⟩ <|
  all_cons ⟨Tryd.t45, by kernel_rfl, rfl, rfl⟩ <|
  all_cons ⟨Tryd.t39, by kernel_rfl, rfl, rfl⟩ <|
  all_cons ⟨Tryd.t23, by kernel_rfl, rfl, rfl⟩ <|
  all_cons ⟨Tryd.t36, by kernel_rfl, rfl, rfl⟩ <|
  all_cons ⟨Tryd.t115, by kernel_rfl, rfl, rfl⟩ <|
  all_cons ⟨Tryd.t4, by kernel_rfl, rfl, rfl⟩ <|
  all_cons ⟨Tryd.t22, by kernel_rfl, rfl, rfl⟩ <|
  all_cons ⟨Tryd.t123, by kernel_rfl, rfl, rfl⟩ <|
  all_cons ⟨Tryd.t144, by kernel_rfl, rfl, rfl⟩ <| all_nil
theorem fns_ok : ∀ p ∈ fns, Tryd.prog.funcs[p.1]? = some p.2 :=
  all_cons Tryd.func3 <|
  all_cons Tryd.func14 <|
  all_cons Tryd.func38 <|
  all_cons Tryd.func39 <|
  all_cons Tryd.func17 <|
  all_cons Tryd.func43 <|
  all_cons Tryd.func44 <|
  all_cons Tryd.func45 <|
  all_cons Tryd.func46 <|
  all_cons Tryd.func70 <|
  all_cons Tryd.func97 <|
  all_cons Tryd.func16 <|
  all_cons Tryd.func42 <|
  all_cons Tryd.func68 <|
  all_cons Tryd.func69 <|
  all_cons Tryd.func95 <|
  all_cons Tryd.func114 <|
  all_cons Tryd.func96 <|
  all_cons Tryd.func115 <|
  all_cons Tryd.func15 <|
  all_cons Tryd.func40 <|
  all_cons Tryd.func19 <|
  all_cons Tryd.func41 <|
  all_cons Tryd.func67 <|
  all_cons Tryd.func4 <|
  all_cons Tryd.func18 <|
  all_cons Tryd.func47 <|
  all_cons Tryd.func71 <|
  all_cons Tryd.func5 <|
  all_cons Tryd.func20 <|
  all_cons Tryd.func6 <|
  all_cons Tryd.func21 <|
  all_cons Tryd.func48 <|
  all_cons Tryd.func7 <|
  all_cons Tryd.func22 <|
  all_cons Tryd.func49 <|
  all_cons Tryd.func72 <|
  all_cons Tryd.func73 <|
  all_cons Tryd.func24 <|
  all_cons Tryd.func23 <|
  all_cons Tryd.func8 <|
  all_cons Tryd.func25 <|
  all_cons Tryd.func27 <|
  all_cons Tryd.func50 <|
  all_cons Tryd.func74 <|
  all_cons Tryd.func75 <|
  all_cons Tryd.func98 <|
  all_cons Tryd.func76 <|
  all_cons Tryd.func26 <|
  all_cons Tryd.func51 <|
  all_cons Tryd.func9 <| all_nil
def eqs : List Nat := [45]
theorem eqs_ok : ∀ t ∈ eqs, Tryd.prog.eqGuardType Tryd.prog.depth t = false ∧ Tryd.prog.stoodInHeld t = false ∧ (Tryd.prog.fieldsOf t).toList.all (fun f => decide (f.name ≠ "_")) = true :=
  all_cons ⟨by kernel_rfl, by kernel_rfl, by kernel_rfl⟩ <| all_nil
theorem mixed : Tryd.prog.follows .mixedOrders = true := by kernel_rfl
noncomputable def cxOf (glob : List (Nat × Nat)) (sums : List Sum) : Cx := { P := Tryd.prog, glob := glob, sums := sums, tt := tt, fns := fns, eqs := eqs }
theorem cxOk (glob : List (Nat × Nat)) (sums : List Sum) : CxOk (cxOf glob sums) := ⟨tt_und, tt_inf, fns_ok, mixed, eqs_ok⟩

end Go.Proofs.YtnjmfedleimlmaaDoor.Ev

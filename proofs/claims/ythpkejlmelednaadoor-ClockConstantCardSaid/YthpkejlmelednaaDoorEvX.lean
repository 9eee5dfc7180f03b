/- The types and the functions that the evaluator asks for. Written by a program (mkcx.py) off the given program. -/
import Derived.Test.YthpkejlmelednaaDoorChecked
import Derived.Test.YthpkejlmelednaaDoorEvI
namespace Go.Proofs.YthpkejlmelednaaDoor.Ev
open Go

noncomputable def tt : List (Nat × TI) := [(3, ⟨Tryd.t3.desc, Tryd.t3.size, Tryd.t3.zero⟩),
  (24, ⟨Tryd.t23.desc, Tryd.t24.size, Tryd.t24.zero⟩),
  (31, ⟨Tryd.t30.desc, Tryd.t31.size, Tryd.t31.zero⟩),
  (38, ⟨Tryd.t38.desc, Tryd.t38.size, Tryd.t38.zero⟩),
  (25, ⟨Tryd.t25.desc, Tryd.t25.size, Tryd.t25.zero⟩),
  (106, ⟨Tryd.t3.desc, Tryd.t106.size, Tryd.t106.zero⟩),
  (40, ⟨Tryd.t39.desc, Tryd.t40.size, Tryd.t40.zero⟩),
  (104, ⟨Tryd.t103.desc, Tryd.t104.size, Tryd.t104.zero⟩),
  (47, ⟨Tryd.t39.desc, Tryd.t47.size, Tryd.t47.zero⟩),
  (22, ⟨Tryd.t3.desc, Tryd.t22.size, Tryd.t22.zero⟩),
  (42, ⟨Tryd.t42.desc, Tryd.t42.size, Tryd.t42.zero⟩),
  (97, ⟨Tryd.t97.desc, Tryd.t97.size, Tryd.t97.zero⟩),
  (27, ⟨Tryd.t3.desc, Tryd.t27.size, Tryd.t27.zero⟩),
  (135, ⟨Tryd.t135.desc, Tryd.t135.size, Tryd.t135.zero⟩),
  (45, ⟨Tryd.t45.desc, Tryd.t45.size, Tryd.t45.zero⟩),
  (37, ⟨Tryd.t37.desc, Tryd.t37.size, Tryd.t37.zero⟩),
  (74, ⟨Tryd.t73.desc, Tryd.t74.size, Tryd.t74.zero⟩),
  (63, ⟨Tryd.t63.desc, Tryd.t63.size, Tryd.t63.zero⟩),
  (102, ⟨Tryd.t101.desc, Tryd.t102.size, Tryd.t102.zero⟩),
  (82, ⟨Tryd.t82.desc, Tryd.t82.size, Tryd.t82.zero⟩),
  (5, ⟨Tryd.t5.desc, Tryd.t5.size, Tryd.t5.zero⟩),
  (119, ⟨Tryd.t118.desc, Tryd.t119.size, Tryd.t119.zero⟩),
  (4, ⟨Tryd.t4.desc, Tryd.t4.size, Tryd.t4.zero⟩),
  (142, ⟨Tryd.t142.desc, Tryd.t142.size, Tryd.t142.zero⟩),
  (100, ⟨Tryd.t3.desc, Tryd.t100.size, Tryd.t100.zero⟩),
  (9, ⟨Tryd.t9.desc, Tryd.t9.size, Tryd.t9.zero⟩),
  (125, ⟨Tryd.t125.desc, Tryd.t125.size, Tryd.t125.zero⟩),
  (87, ⟨Tryd.t87.desc, Tryd.t87.size, Tryd.t87.zero⟩),
  (48, ⟨Tryd.t48.desc, Tryd.t48.size, Tryd.t48.zero⟩),
  (113, ⟨Tryd.t113.desc, Tryd.t113.size, Tryd.t113.zero⟩),
  (139, ⟨Tryd.t139.desc, Tryd.t139.size, Tryd.t139.zero⟩),
  (153, ⟨Tryd.t153.desc, Tryd.t153.size, Tryd.t153.zero⟩),
  (136, ⟨Tryd.t136.desc, Tryd.t136.size, Tryd.t136.zero⟩),
  (156, ⟨Tryd.t156.desc, Tryd.t156.size, Tryd.t156.zero⟩),
  (159, ⟨Tryd.t159.desc, Tryd.t159.size, Tryd.t159.zero⟩),
  (137, ⟨Tryd.t137.desc, Tryd.t137.size, Tryd.t137.zero⟩),
  (143, ⟨Tryd.t143.desc, Tryd.t143.size, Tryd.t143.zero⟩),
  (52, ⟨Tryd.t52.desc, Tryd.t52.size, Tryd.t52.zero⟩)]
noncomputable def fns : List (Nat × Func) := [(3, Tryd.f3),
  (13, Tryd.f13),
  (39, Tryd.f39),
  (87, Tryd.f87),
  (89, Tryd.f89),
  (88, Tryd.f88),
  (18, Tryd.f18),
  (44, Tryd.f44),
  (98, Tryd.f98),
  (14, Tryd.f14),
  (35, Tryd.f35),
  (51, Tryd.f51),
  (79, Tryd.f79),
  (78, Tryd.f78),
  (131, Tryd.f131),
  (80, Tryd.f80),
  (132, Tryd.f132),
  (81, Tryd.f81),
  (82, Tryd.f82),
  (83, Tryd.f83),
  (84, Tryd.f84),
  (133, Tryd.f133),
  (85, Tryd.f85),
  (134, Tryd.f134),
  (149, Tryd.f149),
  (151, Tryd.f151),
  (40, Tryd.f40),
  (90, Tryd.f90),
  (15, Tryd.f15),
  (16, Tryd.f16),
  (41, Tryd.f41),
  (42, Tryd.f42),
  (91, Tryd.f91),
  (92, Tryd.f92),
  (93, Tryd.f93),
  (43, Tryd.f43),
  (94, Tryd.f94),
  (95, Tryd.f95),
  (135, Tryd.f135),
  (150, Tryd.f150),
  (153, Tryd.f153),
  (152, Tryd.f152),
  (96, Tryd.f96),
  (97, Tryd.f97),
  (17, Tryd.f17),
  (19, Tryd.f19),
  (45, Tryd.f45),
  (4, Tryd.f4),
  (5, Tryd.f5),
  (20, Tryd.f20),
  (46, Tryd.f46),
  (99, Tryd.f99),
  (22, Tryd.f22),
  (48, Tryd.f48),
  (102, Tryd.f102),
  (103, Tryd.f103),
  (104, Tryd.f104),
  (105, Tryd.f105),
  (49, Tryd.f49),
  (106, Tryd.f106),
  (136, Tryd.f136),
  (107, Tryd.f107),
  (109, Tryd.f109),
  (110, Tryd.f110),
  (138, Tryd.f138),
  (108, Tryd.f108),
  (137, Tryd.f137),
  (50, Tryd.f50),
  (53, Tryd.f53),
  (54, Tryd.f54),
  (112, Tryd.f112),
  (113, Tryd.f113),
  (55, Tryd.f55),
  (114, Tryd.f114),
  (115, Tryd.f115),
  (139, Tryd.f139),
  (140, Tryd.f140),
  (141, Tryd.f141),
  (56, Tryd.f56),
  (52, Tryd.f52),
  (111, Tryd.f111),
  (21, Tryd.f21),
  (47, Tryd.f47),
  (100, Tryd.f100),
  (101, Tryd.f101),
  (23, Tryd.f23),
  (57, Tryd.f57),
  (61, Tryd.f61),
  (116, Tryd.f116),
  (58, Tryd.f58),
  (59, Tryd.f59),
  (60, Tryd.f60),
  (62, Tryd.f62),
  (63, Tryd.f63),
  (6, Tryd.f6),
  (24, Tryd.f24),
  (37, Tryd.f37),
  (7, Tryd.f7),
  (25, Tryd.f25),
  (27, Tryd.f27),
  (64, Tryd.f64),
  (66, Tryd.f66),
  (67, Tryd.f67),
  (119, Tryd.f119),
  (117, Tryd.f117),
  (142, Tryd.f142),
  (143, Tryd.f143),
  (144, Tryd.f144),
  (145, Tryd.f145),
  (146, Tryd.f146),
  (148, Tryd.f148),
  (118, Tryd.f118),
  (147, Tryd.f147),
  (26, Tryd.f26),
  (8, Tryd.f8),
  (28, Tryd.f28),
  (65, Tryd.f65),
  (9, Tryd.f9),
  (29, Tryd.f29),
  (68, Tryd.f68),
  (120, Tryd.f120),
  (121, Tryd.f121),
  (122, Tryd.f122),
  (123, Tryd.f123),
  (69, Tryd.f69),
  (124, Tryd.f124),
  (125, Tryd.f125),
  (126, Tryd.f126),
  (127, Tryd.f127),
  (128, Tryd.f128),
  (129, Tryd.f129),
  (30, Tryd.f30),
  (70, Tryd.f70),
  (74, Tryd.f74),
  (71, Tryd.f71),
  (76, Tryd.f76),
  (130, Tryd.f130),
  (72, Tryd.f72),
  (33, Tryd.f33),
  (73, Tryd.f73),
  (75, Tryd.f75),
  (31, Tryd.f31),
  (10, Tryd.f10),
  (32, Tryd.f32),
  (11, Tryd.f11),
  (34, Tryd.f34),
  (77, Tryd.f77),
  (36, Tryd.f36),
  (12, Tryd.f12),
  (38, Tryd.f38),
  (86, Tryd.f86)]
theorem tt_und : ∀ p ∈ tt, Tryd.prog.underlying p.1 = some p.2.desc :=
  all_cons (by kernel_rfl) <|
  all_cons (by kernel_rfl) <|
  all_cons (by kernel_rfl) <|
  all_cons (by kernel_rfl) <|
  all_cons (by kernel_rfl) <|
  all_cons (by kernel_rfl) <|
  all_cons (by kernel_rfl) <|
  all_cons (by kernel_rfl) <|
  all_cons (by kernel_rfl) <|
  all_cons (by kernel_rfl) <|
  all_cons (by kernel_rfl) <|
  all_cons (by kernel_rfl) <|
  all_cons (by kernel_rfl) <|
  all_cons (by kernel_rfl) <|
  all_cons (by kernel_rfl) <|
  all_cons (by kernel_rfl) <|
  all_cons (by kernel_rfl) <|
  all_cons (by kernel_rfl) <|
  all_cons (by kernel_rfl) <|
  all_cons (by kernel_rfl) <|
  all_cons (by kernel_rfl) <|
  all_cons (by kernel_rfl) <|
  all_cons (by kernel_rfl) <|
  all_cons (by kernel_rfl) <|
  all_cons (by kernel_rfl) <|
  all_cons (by kernel_rfl) <|
  all_cons (by kernel_rfl) <|
  all_cons (by kernel_rfl) <|
  all_cons (by kernel_rfl) <|
  all_cons (by kernel_rfl) <|
  all_cons (by kernel_rfl) <|
  all_cons (by kernel_rfl) <|
  all_cons (by kernel_rfl) <|
  all_cons (by kernel_rfl) <|
  all_cons (by kernel_rfl) <|
  all_cons (by kernel_rfl) <|
  all_cons (by kernel_rfl) <|
  all_cons (by kernel_rfl) <| all_nil
theorem tt_inf : ∀ p ∈ tt, ∃ i, Tryd.prog.info? p.1 = some i ∧ i.size = p.2.size ∧ i.zero = p.2.zero :=
  all_cons ⟨Tryd.t3, by kernel_rfl, rfl, rfl⟩ <|
  all_cons ⟨Tryd.t24, by kernel_rfl, rfl, rfl⟩ <|
  all_cons ⟨Tryd.t31, by kernel_rfl, rfl, rfl⟩ <|
  all_cons ⟨Tryd.t38, by kernel_rfl, rfl, rfl⟩ <|
  all_cons ⟨Tryd.t25, by kernel_rfl, rfl, rfl⟩ <|
  all_cons ⟨Tryd.t106, by kernel_rfl, rfl, rfl⟩ <|
  all_cons ⟨Tryd.t40, by kernel_rfl, rfl, rfl⟩ <|
  all_cons ⟨Tryd.t104, by kernel_rfl, rfl, rfl⟩ <|
  all_cons ⟨Tryd.t47, by kernel_rfl, rfl, rfl⟩ <|
  all_cons ⟨Tryd.t22, by kernel_rfl, rfl, rfl⟩ <|
  all_cons ⟨Tryd.t42, by kernel_rfl, rfl, rfl⟩ <|
  all_cons ⟨Tryd.t97, by kernel_rfl, rfl, rfl⟩ <|
  all_cons ⟨Tryd.t27, by kernel_rfl, rfl, rfl⟩ <|
  all_cons ⟨Tryd.t135, by kernel_rfl, rfl, rfl⟩ <|
  all_cons ⟨Tryd.t45, by kernel_rfl, rfl, rfl⟩ <|
  all_cons ⟨Tryd.t37, by kernel_rfl, rfl, rfl⟩ <|
  all_cons ⟨Tryd.t74, by kernel_rfl, rfl, rfl⟩ <|
  all_cons ⟨Tryd.t63, by kernel_rfl, rfl, rfl⟩ <|
  all_cons ⟨Tryd.t102, by kernel_rfl, rfl, rfl⟩ <|
  all_cons ⟨Tryd.t82, by kernel_rfl, rfl, rfl⟩ <|
  all_cons ⟨Tryd.t5, by kernel_rfl, rfl, rfl⟩ <|
  all_cons ⟨Tryd.t119, by kernel_rfl, rfl, rfl⟩ <|
  all_cons ⟨Tryd.t4, by kernel_rfl, rfl, rfl⟩ <|
  all_cons ⟨Tryd.t142, by kernel_rfl, rfl, rfl⟩ <|
  all_cons ⟨Tryd.t100, by kernel_rfl, rfl, rfl⟩ <|
  all_cons ⟨Tryd.t9, by kernel_rfl, rfl, rfl⟩ <|
  all_cons ⟨Tryd.t125, by kernel_rfl, rfl, rfl⟩ <|
  all_cons ⟨Tryd.t87, by kernel_rfl, rfl, rfl⟩ <|
  all_cons ⟨Tryd.t48, by kernel_rfl, rfl, rfl⟩ <|
  all_cons ⟨Tryd.t113, by kernel_rfl, rfl, rfl⟩ <|
  all_cons ⟨Tryd.t139, by kernel_rfl, rfl, rfl⟩ <|
  all_cons ⟨Tryd.t153, by kernel_rfl, rfl, rfl⟩ <|
  all_cons ⟨Tryd.t136, by kernel_rfl, rfl, rfl⟩ <|
  all_cons ⟨Tryd.t156, by kernel_rfl, rfl, rfl⟩ <|
  all_cons ⟨Tryd.t159, by kernel_rfl, rfl, rfl⟩ <|
  all_cons ⟨Tryd.t137, by kernel_rfl, rfl, rfl⟩ <|
  all_cons ⟨Tryd.t143, by kernel_rfl, rfl, rfl⟩ <|
  all_cons ⟨Tryd.t52, by kernel_rfl, rfl, rfl⟩ <| all_nil
theorem fns_ok : ∀ p ∈ fns, Tryd.prog.funcs[p.1]? = some p.2 :=
  all_cons Tryd.func3 <|
  all_cons Tryd.func13 <|
  all_cons Tryd.func39 <|
  all_cons Tryd.func87 <|
  all_cons Tryd.func89 <|
  all_cons Tryd.func88 <|
  all_cons Tryd.func18 <|
  all_cons Tryd.func44 <|
  all_cons Tryd.func98 <|
  all_cons Tryd.func14 <|
  all_cons Tryd.func35 <|
  all_cons Tryd.func51 <|
  all_cons Tryd.func79 <|
  all_cons Tryd.func78 <|
  all_cons Tryd.func131 <|
  all_cons Tryd.func80 <|
  all_cons Tryd.func132 <|
  all_cons Tryd.func81 <|
  all_cons Tryd.func82 <|
  all_cons Tryd.func83 <|
  all_cons Tryd.func84 <|
  all_cons Tryd.func133 <|
  all_cons Tryd.func85 <|
  all_cons Tryd.func134 <|
  all_cons Tryd.func149 <|
  all_cons Tryd.func151 <|
  all_cons Tryd.func40 <|
  all_cons Tryd.func90 <|
  all_cons Tryd.func15 <|
  all_cons Tryd.func16 <|
  all_cons Tryd.func41 <|
  all_cons Tryd.func42 <|
  all_cons Tryd.func91 <|
  all_cons Tryd.func92 <|
  all_cons Tryd.func93 <|
  all_cons Tryd.func43 <|
  all_cons Tryd.func94 <|
  all_cons Tryd.func95 <|
  all_cons Tryd.func135 <|
  all_cons Tryd.func150 <|
  all_cons Tryd.func153 <|
  all_cons Tryd.func152 <|
  all_cons Tryd.func96 <|
  all_cons Tryd.func97 <|
  all_cons Tryd.func17 <|
  all_cons Tryd.func19 <|
  all_cons Tryd.func45 <|
  all_cons Tryd.func4 <|
  all_cons Tryd.func5 <|
  all_cons Tryd.func20 <|
  all_cons Tryd.func46 <|
  all_cons Tryd.func99 <|
  all_cons Tryd.func22 <|
  all_cons Tryd.func48 <|
  all_cons Tryd.func102 <|
  all_cons Tryd.func103 <|
  all_cons Tryd.func104 <|
  all_cons Tryd.func105 <|
  all_cons Tryd.func49 <|
  all_cons Tryd.func106 <|
  all_cons Tryd.func136 <|
  all_cons Tryd.func107 <|
  all_cons Tryd.func109 <|
  all_cons Tryd.func110 <|
  all_cons Tryd.func138 <|
  all_cons Tryd.func108 <|
  all_cons Tryd.func137 <|
  all_cons Tryd.func50 <|
  all_cons Tryd.func53 <|
  all_cons Tryd.func54 <|
  all_cons Tryd.func112 <|
  all_cons Tryd.func113 <|
  all_cons Tryd.func55 <|
  all_cons Tryd.func114 <|
  all_cons Tryd.func115 <|
  all_cons Tryd.func139 <|
  all_cons Tryd.func140 <|
  all_cons Tryd.func141 <|
  all_cons Tryd.func56 <|
  all_cons Tryd.func52 <|
  all_cons Tryd.func111 <|
  all_cons Tryd.func21 <|
  all_cons Tryd.func47 <|
  all_cons Tryd.func100 <|
  all_cons Tryd.func101 <|
  all_cons Tryd.func23 <|
  all_cons Tryd.func57 <|
  all_cons Tryd.func61 <|
  all_cons Tryd.func116 <|
  all_cons Tryd.func58 <|
  all_cons Tryd.func59 <|
  all_cons Tryd.func60 <|
  all_cons Tryd.func62 <|
  all_cons Tryd.func63 <|
  all_cons Tryd.func6 <|
  all_cons Tryd.func24 <|
  all_cons Tryd.func37 <|
  all_cons Tryd.func7 <|
  all_cons Tryd.func25 <|
  all_cons Tryd.func27 <|
  all_cons Tryd.func64 <|
  all_cons Tryd.func66 <|
  all_cons Tryd.func67 <|
  all_cons Tryd.func119 <|
  all_cons Tryd.func117 <|
  all_cons Tryd.func142 <|
  all_cons Tryd.func143 <|
  all_cons Tryd.func144 <|
  all_cons Tryd.func145 <|
  all_cons Tryd.func146 <|
  all_cons Tryd.func148 <|
  all_cons Tryd.func118 <|
  all_cons Tryd.func147 <|
  all_cons Tryd.func26 <|
  all_cons Tryd.func8 <|
  all_cons Tryd.func28 <|
  all_cons Tryd.func65 <|
  all_cons Tryd.func9 <|
  all_cons Tryd.func29 <|
  all_cons Tryd.func68 <|
  all_cons Tryd.func120 <|
  all_cons Tryd.func121 <|
  all_cons Tryd.func122 <|
  all_cons Tryd.func123 <|
  all_cons Tryd.func69 <|
  all_cons Tryd.func124 <|
  all_cons Tryd.func125 <|
  all_cons Tryd.func126 <|
  all_cons Tryd.func127 <|
  all_cons Tryd.func128 <|
  all_cons Tryd.func129 <|
  all_cons Tryd.func30 <|
  all_cons Tryd.func70 <|
  all_cons Tryd.func74 <|
  all_cons Tryd.func71 <|
  all_cons Tryd.func76 <|
  all_cons Tryd.func130 <|
  all_cons Tryd.func72 <|
  all_cons Tryd.func33 <|
  all_cons Tryd.func73 <|
  all_cons Tryd.func75 <|
  all_cons Tryd.func31 <|
  all_cons Tryd.func10 <|
  all_cons Tryd.func32 <|
  all_cons Tryd.func11 <|
  all_cons Tryd.func34 <|
  all_cons Tryd.func77 <|
  all_cons Tryd.func36 <|
  all_cons Tryd.func12 <|
  all_cons Tryd.func38 <|
  all_cons Tryd.func86 <| all_nil
def eqs : List Nat := [74, 31, 24]
theorem eqs_ok : ∀ t ∈ eqs, Tryd.prog.eqGuardType Tryd.prog.depth t = false ∧ Tryd.prog.stoodInHeld t = false ∧ (Tryd.prog.fieldsOf t).toList.all (fun f => decide (f.name ≠ "_")) = true :=
  all_cons ⟨by kernel_rfl, by kernel_rfl, by kernel_rfl⟩ <|
  all_cons ⟨by kernel_rfl, by kernel_rfl, by kernel_rfl⟩ <|
  all_cons ⟨by kernel_rfl, by kernel_rfl, by kernel_rfl⟩ <| all_nil
theorem mixed : Tryd.prog.follows .mixedOrders = true := by kernel_rfl
noncomputable def cxOf (glob : List (Nat × Nat)) (sums : List Sum) : Cx := { P := Tryd.prog, glob := glob, sums := sums, tt := tt, fns := fns, eqs := eqs }
theorem cxOk (glob : List (Nat × Nat)) (sums : List Sum) : CxOk (cxOf glob sums) := ⟨tt_und, tt_inf, fns_ok, mixed, eqs_ok⟩

end Go.Proofs.YthpkejlmelednaaDoor.Ev

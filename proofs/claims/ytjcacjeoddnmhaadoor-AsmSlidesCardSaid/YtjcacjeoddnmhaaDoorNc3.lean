/- What the laws of this claim are proved with, joined (join.py) of 4 texts: no condition. -/
import Derived.Test.YtjcacjeoddnmhaaDoorChecked
import Derived.Test.YtjcacjeoddnmhaaDoorNc2
set_option linter.unusedVariables false
set_option linter.unusedSimpArgs false

/- The types and the functions that the evaluator asks for. Written by a program (mkcx.py) off the given program. -/
namespace Go.Proofs.YtjcacjeoddnmhaaDoor.Ev
open Go

noncomputable def tt : List (Nat × TI) := [(3, ⟨Tryd.t3.desc, Tryd.t3.size, Tryd.t3.zero⟩),
  (24, ⟨Tryd.t23.desc, Tryd.t24.size, Tryd.t24.zero⟩),
  (29, ⟨Tryd.t28.desc, Tryd.t29.size, Tryd.t29.zero⟩),
  (26, ⟨Tryd.t25.desc, Tryd.t26.size, Tryd.t26.zero⟩),
  (74, ⟨Tryd.t3.desc, Tryd.t74.size, Tryd.t74.zero⟩),
  (72, ⟨Tryd.t71.desc, Tryd.t72.size, Tryd.t72.zero⟩),
  (42, ⟨Tryd.t42.desc, Tryd.t42.size, Tryd.t42.zero⟩),
  (63, ⟨Tryd.t63.desc, Tryd.t63.size, Tryd.t63.zero⟩),
  (37, ⟨Tryd.t37.desc, Tryd.t37.size, Tryd.t37.zero⟩),
  (44, ⟨Tryd.t43.desc, Tryd.t44.size, Tryd.t44.zero⟩),
  (22, ⟨Tryd.t3.desc, Tryd.t22.size, Tryd.t22.zero⟩),
  (41, ⟨Tryd.t41.desc, Tryd.t41.size, Tryd.t41.zero⟩),
  (60, ⟨Tryd.t59.desc, Tryd.t60.size, Tryd.t60.zero⟩),
  (31, ⟨Tryd.t30.desc, Tryd.t31.size, Tryd.t31.zero⟩),
  (70, ⟨Tryd.t69.desc, Tryd.t70.size, Tryd.t70.zero⟩),
  (45, ⟨Tryd.t3.desc, Tryd.t45.size, Tryd.t45.zero⟩),
  (5, ⟨Tryd.t5.desc, Tryd.t5.size, Tryd.t5.zero⟩),
  (68, ⟨Tryd.t3.desc, Tryd.t68.size, Tryd.t68.zero⟩),
  (80, ⟨Tryd.t80.desc, Tryd.t80.size, Tryd.t80.zero⟩),
  (4, ⟨Tryd.t4.desc, Tryd.t4.size, Tryd.t4.zero⟩),
  (105, ⟨Tryd.t105.desc, Tryd.t105.size, Tryd.t105.zero⟩),
  (90, ⟨Tryd.t90.desc, Tryd.t90.size, Tryd.t90.zero⟩),
  (102, ⟨Tryd.t102.desc, Tryd.t102.size, Tryd.t102.zero⟩),
  (9, ⟨Tryd.t9.desc, Tryd.t9.size, Tryd.t9.zero⟩),
  (38, ⟨Tryd.t38.desc, Tryd.t38.size, Tryd.t38.zero⟩),
  (58, ⟨Tryd.t58.desc, Tryd.t58.size, Tryd.t58.zero⟩),
  (86, ⟨Tryd.t86.desc, Tryd.t86.size, Tryd.t86.zero⟩),
  (101, ⟨Tryd.t101.desc, Tryd.t101.size, Tryd.t101.zero⟩)]
noncomputable def fns : List (Nat × Func) := [(3, Tryd.f3),
  (7, Tryd.f7),
  (13, Tryd.f13),
  (11, Tryd.f11),
  (12, Tryd.f12),
  (16, Tryd.f16),
  (25, Tryd.f25),
  (8, Tryd.f8),
  (21, Tryd.f21),
  (33, Tryd.f33),
  (35, Tryd.f35),
  (34, Tryd.f34),
  (54, Tryd.f54),
  (36, Tryd.f36),
  (55, Tryd.f55),
  (37, Tryd.f37),
  (38, Tryd.f38),
  (39, Tryd.f39),
  (40, Tryd.f40),
  (56, Tryd.f56),
  (41, Tryd.f41),
  (57, Tryd.f57),
  (81, Tryd.f81),
  (90, Tryd.f90),
  (20, Tryd.f20),
  (22, Tryd.f22),
  (14, Tryd.f14),
  (26, Tryd.f26),
  (45, Tryd.f45),
  (19, Tryd.f19),
  (32, Tryd.f32),
  (49, Tryd.f49),
  (27, Tryd.f27),
  (46, Tryd.f46),
  (65, Tryd.f65),
  (28, Tryd.f28),
  (47, Tryd.f47),
  (66, Tryd.f66),
  (48, Tryd.f48),
  (67, Tryd.f67),
  (53, Tryd.f53),
  (50, Tryd.f50),
  (68, Tryd.f68),
  (79, Tryd.f79),
  (85, Tryd.f85),
  (86, Tryd.f86),
  (83, Tryd.f83),
  (87, Tryd.f87),
  (88, Tryd.f88),
  (84, Tryd.f84),
  (80, Tryd.f80),
  (89, Tryd.f89),
  (17, Tryd.f17),
  (29, Tryd.f29),
  (30, Tryd.f30),
  (31, Tryd.f31),
  (51, Tryd.f51),
  (69, Tryd.f69),
  (70, Tryd.f70),
  (71, Tryd.f71),
  (72, Tryd.f72),
  (52, Tryd.f52),
  (73, Tryd.f73),
  (74, Tryd.f74),
  (75, Tryd.f75),
  (76, Tryd.f76),
  (77, Tryd.f77),
  (78, Tryd.f78),
  (9, Tryd.f9),
  (10, Tryd.f10),
  (23, Tryd.f23),
  (42, Tryd.f42),
  (43, Tryd.f43),
  (58, Tryd.f58),
  (59, Tryd.f59),
  (60, Tryd.f60),
  (44, Tryd.f44),
  (61, Tryd.f61),
  (62, Tryd.f62),
  (82, Tryd.f82),
  (91, Tryd.f91),
  (93, Tryd.f93),
  (92, Tryd.f92),
  (63, Tryd.f63),
  (64, Tryd.f64),
  (24, Tryd.f24),
  (4, Tryd.f4),
  (15, Tryd.f15),
  (5, Tryd.f5),
  (18, Tryd.f18),
  (6, Tryd.f6)]
theorem tt_und : ∀ p ∈ tt, Tryd.prog.underlying p.1 = some p.2.desc :=
  all_cons (by kernel_rfl) <|
  all_cons (by kernel_rfl) <|
  all_cons (by kernel_rfl) <|
  all_cons (by kernel_rfl) <|
  all_cons (by kernel_rfl) <|
  all_cons (by kernel_rfl) <|
  all_cons (by kernel_rfl) <|
  all_cons (by kernel_rfl) <|
  all_cons (by kernel_rfl) <|
  all_cons (by kernel_rfl) <|
  all_cons (by kernel_rfl) <|
  all_cons (by kernel_rfl) <|
  all_cons (by kernel_rfl) <|
  all_cons (by kernel_rfl) <|
  all_cons (by kernel_rfl) <|
  all_cons (by kernel_rfl) <|
  all_cons (by kernel_rfl) <|
  all_cons (by kernel_rfl) <|
  all_cons (by kernel_rfl) <|
  all_cons (by kernel_rfl) <|
  all_cons (by kernel_rfl) <|
  all_cons (by kernel_rfl) <|
  all_cons (by kernel_rfl) <|
  all_cons (by kernel_rfl) <|
  all_cons (by kernel_rfl) <|
  all_cons (by kernel_rfl) <|
  all_cons (by kernel_rfl) <|
  all_cons (by kernel_rfl) <| all_nil
theorem tt_inf : ∀ p ∈ tt, ∃ i, Tryd.prog.info? p.1 = some i ∧ i.size = p.2.size ∧ i.zero = p.2.zero :=
  all_cons ⟨Tryd.t3, by kernel_rfl, rfl, rfl⟩ <|
  all_cons ⟨Tryd.t24, by kernel_rfl, rfl, rfl⟩ <|
  all_cons ⟨Tryd.t29, by kernel_rfl, rfl, rfl⟩ <|
  all_cons ⟨Tryd.t26, by kernel_rfl, rfl, rfl⟩ <|
  all_cons ⟨Tryd.t74, by kernel_rfl, rfl, rfl⟩ <|
  all_cons ⟨Tryd.t72, by kernel_rfl, rfl, rfl⟩ <|
  all_cons ⟨Tryd.t42, by kernel_rfl, rfl, rfl⟩ <|
  all_cons ⟨Tryd.t63, by kernel_rfl, rfl, rfl⟩ <|
  all_cons ⟨Tryd.t37, by kernel_rfl, rfl, rfl⟩ <|
  all_cons ⟨Tryd.t44, by kernel_rfl, rfl, rfl⟩ <|
  all_cons ⟨Tryd.t22, by kernel_rfl, rfl, rfl⟩ <|
  all_cons ⟨Tryd.t41, by kernel_rfl, rfl, rfl⟩ <|
  all_cons ⟨Tryd.t60, by kernel_rfl, rfl, rfl⟩ <|
  all_cons ⟨Tryd.t31, by kernel_rfl, rfl, rfl⟩ <|
  all_cons ⟨Tryd.t70, by kernel_rfl, rfl, rfl⟩ <|
  all_cons ⟨Tryd.t45, by kernel_rfl, rfl, rfl⟩ <|
  all_cons ⟨Tryd.t5, by kernel_rfl, rfl, rfl⟩ <|
  all_cons ⟨Tryd.t68, by kernel_rfl, rfl, rfl⟩ <|
  all_cons ⟨Tryd.t80, by kernel_rfl, rfl, rfl⟩ <|
  all_cons ⟨Tryd.t4, by kernel_rfl, rfl, rfl⟩ <|
  all_cons ⟨Tryd.t105, by kernel_rfl, rfl, rfl⟩ <|
  all_cons ⟨Tryd.t90, by kernel_rfl, rfl, rfl⟩ <|
  all_cons ⟨Tryd.t102, by kernel_rfl, rfl, rfl⟩ <|
  all_cons ⟨Tryd.t9, by kernel_rfl, rfl, rfl⟩ <|
  all_cons ⟨Tryd.t38, by kernel_rfl, rfl, rfl⟩ <|
  all_cons ⟨Tryd.t58, by kernel_rfl, rfl, rfl⟩ <|
  all_cons ⟨Tryd.t86, by kernel_rfl, rfl, rfl⟩ <|
  all_cons ⟨Tryd.t101, by kernel_rfl, rfl, rfl⟩ <| all_nil
theorem fns_ok : ∀ p ∈ fns, Tryd.prog.funcs[p.1]? = some p.2 :=
  all_cons Tryd.func3 <|
  all_cons Tryd.func7 <|
  all_cons Tryd.func13 <|
  all_cons Tryd.func11 <|
  all_cons Tryd.func12 <|
  all_cons Tryd.func16 <|
  all_cons Tryd.func25 <|
  all_cons Tryd.func8 <|
  all_cons Tryd.func21 <|
  all_cons Tryd.func33 <|
  all_cons Tryd.func35 <|
  all_cons Tryd.func34 <|
  all_cons Tryd.func54 <|
  all_cons Tryd.func36 <|
  all_cons Tryd.func55 <|
  all_cons Tryd.func37 <|
  all_cons Tryd.func38 <|
  all_cons Tryd.func39 <|
  all_cons Tryd.func40 <|
  all_cons Tryd.func56 <|
  all_cons Tryd.func41 <|
  all_cons Tryd.func57 <|
  all_cons Tryd.func81 <|
  all_cons Tryd.func90 <|
  all_cons Tryd.func20 <|
  all_cons Tryd.func22 <|
  all_cons Tryd.func14 <|
  all_cons Tryd.func26 <|
  all_cons Tryd.func45 <|
  all_cons Tryd.func19 <|
  all_cons Tryd.func32 <|
  all_cons Tryd.func49 <|
  all_cons Tryd.func27 <|
  all_cons Tryd.func46 <|
  all_cons Tryd.func65 <|
  all_cons Tryd.func28 <|
  all_cons Tryd.func47 <|
  all_cons Tryd.func66 <|
  all_cons Tryd.func48 <|
  all_cons Tryd.func67 <|
  all_cons Tryd.func53 <|
  all_cons Tryd.func50 <|
  all_cons Tryd.func68 <|
  all_cons Tryd.func79 <|
  all_cons Tryd.func85 <|
  all_cons Tryd.func86 <|
  all_cons Tryd.func83 <|
  all_cons Tryd.func87 <|
  all_cons Tryd.func88 <|
  all_cons Tryd.func84 <|
  all_cons Tryd.func80 <|
  all_cons Tryd.func89 <|
  all_cons Tryd.func17 <|
  all_cons Tryd.func29 <|
  all_cons Tryd.func30 <|
  all_cons Tryd.func31 <|
  all_cons Tryd.func51 <|
  all_cons Tryd.func69 <|
  all_cons Tryd.func70 <|
  all_cons Tryd.func71 <|
  all_cons Tryd.func72 <|
  all_cons Tryd.func52 <|
  all_cons Tryd.func73 <|
  all_cons Tryd.func74 <|
  all_cons Tryd.func75 <|
  all_cons Tryd.func76 <|
  all_cons Tryd.func77 <|
  all_cons Tryd.func78 <|
  all_cons Tryd.func9 <|
  all_cons Tryd.func10 <|
  all_cons Tryd.func23 <|
  all_cons Tryd.func42 <|
  all_cons Tryd.func43 <|
  all_cons Tryd.func58 <|
  all_cons Tryd.func59 <|
  all_cons Tryd.func60 <|
  all_cons Tryd.func44 <|
  all_cons Tryd.func61 <|
  all_cons Tryd.func62 <|
  all_cons Tryd.func82 <|
  all_cons Tryd.func91 <|
  all_cons Tryd.func93 <|
  all_cons Tryd.func92 <|
  all_cons Tryd.func63 <|
  all_cons Tryd.func64 <|
  all_cons Tryd.func24 <|
  all_cons Tryd.func4 <|
  all_cons Tryd.func15 <|
  all_cons Tryd.func5 <|
  all_cons Tryd.func18 <|
  all_cons Tryd.func6 <| all_nil
def eqs : List Nat := [26, 24]
theorem eqs_ok : ∀ t ∈ eqs, Tryd.prog.eqGuardType Tryd.prog.depth t = false ∧ Tryd.prog.stoodInHeld t = false ∧ (Tryd.prog.fieldsOf t).toList.all (fun f => decide (f.name ≠ "_")) = true :=
  all_cons ⟨by kernel_rfl, by kernel_rfl, by kernel_rfl⟩ <|
  all_cons ⟨by kernel_rfl, by kernel_rfl, by kernel_rfl⟩ <| all_nil
theorem mixed : Tryd.prog.follows .mixedOrders = true := by kernel_rfl
noncomputable def cxOf (glob : List (Nat × Nat)) (sums : List Sum) : Cx := { P := Tryd.prog, glob := glob, sums := sums, tt := tt, fns := fns, eqs := eqs }
theorem cxOk (glob : List (Nat × Nat)) (sums : List Sum) : CxOk (cxOf glob sums) := ⟨tt_und, tt_inf, fns_ok, mixed, eqs_ok⟩

end Go.Proofs.YtjcacjeoddnmhaaDoor.Ev

/- How the evaluator's word is used: laws that yield true, functions that yield terms, functions that are summed up, tables. -/
namespace Go.Proofs.YtjcacjeoddnmhaaDoor.Ev
open Go Go.RowKit

/-! ### leaves that are left to be shown -/
abbrev Leaf := AV × List Blk × PC
/-- of a law: the leaves at which it is not plain that it yields true: the way to each, and its truth -/
def rest : List (E × Bool) → Tr Leaf → List (List (E × Bool) × E)
  | p, .leaf r => match r.1 with
    | .v (.c (.bool e)) => (match e with
      | .lit n => if decide (n = 0) then [(p, .lit 0)] else []
      | _ => [(p, e)])
    | _ => [(p, .lit 0)]
  | p, .node c t e => rest ((c, true) :: p) t ++ rest ((c, false) :: p) e
  | p, .bad _ => [(p, .lit 0)]
section
variable {P : Program} {cx : Cx} {jx : Jx} {ρ : Env} {W : World} {wr : List Nat} {β : Pl} {heap : List Blk} {w : World}

/-! ### known memory at the start -/
/-! ### laws -/
/-! ### functions that are summed up -/
/-! ### numbers as arguments -/
end

end Go.Proofs.YtjcacjeoddnmhaaDoor.Ev

/- Functions that yield a truth or a number which a term says: by the evaluator's leaves. -/
namespace Go.Proofs.YtjcacjeoddnmhaaDoor.Ev
open Go Go.RowKit

section
variable {cx : Cx} {jx : Jx} {ρ : Env} {W : World} {wr : List Nat} {β : Pl} {heap : List Blk} {w : World}
end
end Go.Proofs.YtjcacjeoddnmhaaDoor.Ev

/- Two ways that yield truths, set against each other: they agree wherever both may be. -/
namespace Go.Proofs.YtjcacjeoddnmhaaDoor.Ev
open Go Go.RowKit

section
variable {ρ : Env}
variable {cx : Cx} {jx : Jx} {W : World} {w : World}
end

end Go.Proofs.YtjcacjeoddnmhaaDoor.Ev

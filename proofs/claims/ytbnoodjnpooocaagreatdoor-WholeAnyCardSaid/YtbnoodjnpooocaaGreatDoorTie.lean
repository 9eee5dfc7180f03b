/-
  DERIVED. GIVEN WITH THE SEED: THE PROGRAM's TIES (one call each: nine closed facts by the kernel) AND EACH ROW's TIE, after the 31st guide's Derived/Test/Toyas{Tie, Card}.lean. No idea stands in it: it is a product of the set-up. Laid BY PROGRAM, IN A SANDBOX (cutbox-door.mjs). By AI agents, Wed Nov 11 2026. No macro, syntax, notation, axiom, sorry.
-/
import Derived.Test.YtbnoodjnpooocaaGreatDoorRows
import Derived.LaidByTextLater
import Derived.SevenTiedAt
import Derived.LaidSub
import Derived.LaidOnce
namespace Go.Proofs.YtbnoodjnpooocaaGreatDoor
open Go
set_option maxRecDepth 100000
theorem seatTie1 : Tryz.prog.laidByTextLater [("remontoire/imm.factors", Rows.laid_remontoire_imm_factors), ("remontoire/inst.shapes", Rows.laid_remontoire_inst_shapes), ("remontoire/term.all", Rows.laid_remontoire_term_all), ("remontoire/cost.rules", Rows.laid_remontoire_cost_rules), ("remontoire/vop.rows", Rows.laid_remontoire_vop_rows), ("remontoire/lex.signs", Rows.laid_remontoire_lex_signs), ("remontoire/parse.words", Rows.laid_remontoire_parse_words), ("remontoire/parse.levels", Rows.laid_remontoire_parse_levels), ("remontoire/check.built", Rows.laid_remontoire_check_built), ("remontoire/interp.ops", Rows.laid_remontoire_interp_ops), ("remontoire/gen.simple", Rows.laid_remontoire_gen_simple)] [.data, .data, .data, .data, .data, .data, .widerDeep, .data, .data, .data, .data] true :=
  Program.laidByTextLater_by_one 136 8 102 (by kernel_rfl) (by kernel_rfl) (by kernel_rfl) (by kernel_rfl) (by kernel_rfl) (by kernel_rfl) (fun _ _ => by kernel_rfl)
theorem noOwnUnsafe : Tryz.pinned.checked.prog.headLifts.contains "ownunsafe" = false := by kernel_rfl
theorem tie : Tryz.prog.laidByTextLater [("remontoire/imm.factors", Rows.laid_remontoire_imm_factors), ("remontoire/inst.shapes", Rows.laid_remontoire_inst_shapes), ("remontoire/term.all", Rows.laid_remontoire_term_all), ("remontoire/cost.rules", Rows.laid_remontoire_cost_rules), ("remontoire/vop.rows", Rows.laid_remontoire_vop_rows), ("remontoire/lex.signs", Rows.laid_remontoire_lex_signs), ("remontoire/parse.words", Rows.laid_remontoire_parse_words), ("remontoire/parse.levels", Rows.laid_remontoire_parse_levels), ("remontoire/check.built", Rows.laid_remontoire_check_built), ("remontoire/interp.ops", Rows.laid_remontoire_interp_ops), ("remontoire/gen.simple", Rows.laid_remontoire_gen_simple)] [.data, .data, .data, .data, .data, .data, .widerDeep, .data, .data, .data, .data] true :=
  Program.laidByTextLater.sub seatTie1 ["remontoire/imm.factors", "remontoire/inst.shapes", "remontoire/term.all", "remontoire/cost.rules", "remontoire/vop.rows", "remontoire/lex.signs", "remontoire/parse.words", "remontoire/parse.levels", "remontoire/check.built", "remontoire/interp.ops", "remontoire/gen.simple"] (by kernel_rfl) (by kernel_rfl)
theorem wholeAny_row_tie : Rows.wholeAnyRow.laidByTextAt .later Tryz.pinned [.data, .data, .data, .data, .data, .data, .widerDeep, .data, .data, .data, .data] true :=
  OpenClaim.laidByTextAt_later rfl rfl tie noOwnUnsafe
theorem wholeAnyUpto_row_tie : Rows.wholeAnyUptoRow.laidByTextAt .later Tryz.pinned [.data, .data, .data, .data, .data, .data, .widerDeep, .data, .data, .data, .data] true :=
  OpenClaim.laidByTextAt_later rfl rfl tie noOwnUnsafe
end Go.Proofs.YtbnoodjnpooocaaGreatDoor

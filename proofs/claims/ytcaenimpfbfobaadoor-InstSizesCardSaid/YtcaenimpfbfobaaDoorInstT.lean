/- InstSizes: what Size, Shape and the document's Shape say of the hundred forms are tables. -/
import Derived.Test.YtcaenimpfbfobaaDoorEvM
import Derived.Test.YtcaenimpfbfobaaDoorInstN
namespace Go.Proofs.YtcaenimpfbfobaaDoor.Ev
open Go Go.RowKit

def sizesL : List Int := List.replicate 47 2 ++ List.replicate 53 4
theorem size_lits : litsOk cx0 29 [shTab] (fun v => intIs .i64 fun _ => .lit v) 1 sizesL = true := by kernel_rfl
theorem shape_lits : litsOk cx0 30 [shTab] (fun v => intIs .i64 fun _ => .lit v) 1 (Rm.shapesL.drop 1) = true := by kernel_rfl
theorem refShape_lits : litsOk cx0 31 [shTab] (fun v => intIs .i64 fun _ => .lit v) 1 (Rm.shapesL.drop 1) = true := by kernel_rfl
noncomputable def cxT : Cx := cxOf (tabGlob 0 [shTab]) [anchor03Sum, litSum 29 .i64 1 sizesL, litSum 30 .i64 1 (Rm.shapesL.drop 1), litSum 31 .i64 1 (Rm.shapesL.drop 1)]
theorem lits0 {ρ : Env} {f : FuncId} {vals : List Int} (he : Enters Tryd.prog f) (h : litsOk cx0 f [shTab] (fun v => intIs .i64 fun _ => .lit v) 1 vals = true) : SumOk Tryd.prog (jxTabs [shTab]) ρ (litSum f .i64 1 vals) :=
  litSum_ok (cx := cx0) he (cxOk _ _) (fun m hm => by cases hm) rfl (fun w hj t ht => hj t ht) h
theorem cxT_sums {ρ : Env} : ∀ m ∈ cxT.sums, SumOk cxT.P (jxTabs [shTab]) ρ m := all_cons anchor03Sum_ok <| all_cons (lits0 (enters_fn Tryd.func29 rfl (by decide)) size_lits) <| all_cons (lits0 (enters_fn Tryd.func30 rfl (by decide)) shape_lits) <| all_cons (lits0 (enters_fn Tryd.func31 rfl (by decide)) refShape_lits) <| all_nil

noncomputable def sizesRest (pc : PC) (e : E) : Bool := (rest [] (evFn cxT 1000 12 (tabBlks [shTab]) pc [.v (.c (.int .i64 e))])).isEmpty
attribute [irreducible] sizesRest
theorem sizes_low : sizesRest (pcOf [(.var 0, -9223372036854775808, 0)]) (.var 0) = true := by kernel_rfl
theorem sizes_high : sizesRest (pcOf [(.var 0, 35, 9223372036854775807)]) (.var 0) = true := by kernel_rfl

end Go.Proofs.YtcaenimpfbfobaaDoor.Ev

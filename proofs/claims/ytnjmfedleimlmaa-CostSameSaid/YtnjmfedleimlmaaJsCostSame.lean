/- CostSame: for every input the law's Go function returns true and leaves its arguments as they were. No condition.
   The row's step: the arguments are opened, the walk over values is used, and they are shut again. -/
import Derived.Test.YtnjmfedleimlmaaRows
import Derived.Test.YtnjmfedleimlmaaJs7
import Derived.WalkKit
import Derived.ProofKit
import Derived.OpenShut
import Derived.ChangeOld
import Derived.Below
import Derived.Carry
namespace Go.Proofs.Ytnjmfedleimlmaa.costSameRow
open Go.ChangeShapes Go.WideShapes Go.ChangeAt Go.RowKit
set_option linter.unusedVariables false

theorem own : ownKnob Try.prog.godebug = none := by kernel_rfl
theorem laidOut : laidOutB Try.prog = true := by kernel_rfl

set_option maxRecDepth 100000 in
theorem lifted (os : Os) (started : os.Started) (H : Type) (enc : TypeId × Value → H) :
    ReturnsInHanded {} Try.checked os 3 .any (Rows.costSameSpec.pre6 enc Try.prog Try.f3 Rows.costSameRow.domain false) (Rows.costSameSpec.post enc Try.prog Try.f3 false true false false) := by
  have e0 : (fun (w : World) (args : Array Value) => (Rows.costSameSpec.pre enc Try.prog Try.f3 Rows.costSameRow.domain false w args ∧ True) ∧ sizedMet enc Try.prog Try.f3 (OpenSpec.ofChange Rows.costSameSpec) false w args) = Rows.costSameSpec.pre6 enc Try.prog Try.f3 Rows.costSameRow.domain false := by
    funext w args; unfold ChangeSpec.pre6; rw [and_true]
  rw [← e0]
  refine returnsInHanded_of_change_and (C := Try.checked) (X := fun _ _ => True) (fun _ _ _ _ h => h) own started (by kernel_rfl) Try.func3
    (by
      obtain ⟨w, tape, i, h1, h2, h3, h4, ⟨h5, h6⟩, h7⟩ := ChangeSpec.witness6 (enc := enc) (C := Try.checked) (os := os) (s := Rows.costSameSpec) (conds := Rows.costSameRow.domain) (f := 3) (fn := Try.f3) false ⟨#[], #[.slice none 0 0, .slice none 0 0], []⟩ 8 (by kernel_rfl) (by kernel_rfl) (by kernel_rfl) (by kernel_rfl)
      exact ⟨w, tape, i, h1, h2, h3, h4, ⟨⟨h5, trivial⟩, h6⟩, h7⟩) ?_
  intro W base args ds gs before hval0 hW _ hsz _ _
  have hval : ∀ (j : Nat) t v, Try.f3.params[j]? = some t → args[j]? = some v → Value.okWide Try.prog W .any base t v := hval0
  have hW' := hW
  obtain ⟨p, q, hA0, hV, rfl, hfz, hnd⟩ := hW
  have hA : DataW.TrodAll enc Try.prog W 0 (fun _ => true) true Try.f3.params.toList args.toList ds p := hA0
  have hsz' : (DataW.weightsEach Try.prog (Try.f3.params.toList ++ Rows.costSameSpec.plain.varTypes Try.prog) (ds ++ gs)).all (· ≤ reachBytes) = true := hsz
  rw [Try.params3] at hA hval hsz'
  obtain ⟨v0, vs0, d0, ds0, p0, q0, hargs, rfl, rfl, h0, r0⟩ := trodAll_cons hA
  obtain ⟨v1, vs1, d1, ds1, p1, q1, rfl, rfl, rfl, h1, r1⟩ := trodAll_cons r0
  obtain ⟨rfl, rfl, rfl⟩ := trodAll_nil r1
  obtain rfl : args = #[v0, v1] := by cases args; simp_all
  obtain ⟨rfl, rfl⟩ := trodVars_none hV
  have k0 := h0
  have lt0 : ∀ x ∈ p0, x.block < W.heap.size := by obtain ⟨m, hm⟩ := k0; exact DataW.trod_lt m _ _ _ hm
  obtain ⟨a0, l0, c0, rfl⟩ := okWide_slice Try.underlying22 (hval 0 22 v0 rfl rfl)
  obtain ⟨x0, s0, i0⟩ := Go.Proofs.Ytnjmfedleimlmaa.Pw.opItems.arg1 (Go.Proofs.Ytnjmfedleimlmaa.Pw.SLs.cell) rfl h0 (Go.Proofs.Ytnjmfedleimlmaa.Pw.each_le hsz' (i := 0) (t := 22) rfl rfl)
  have k1 := h1
  have lt1 : ∀ x ∈ p1, x.block < W.heap.size := by obtain ⟨m, hm⟩ := k1; exact DataW.trod_lt m _ _ _ hm
  obtain ⟨a1, l1, c1, rfl⟩ := okWide_slice Try.underlying22 (hval 1 22 v1 rfl rfl)
  obtain ⟨x1, s1, i1⟩ := Go.Proofs.Ytnjmfedleimlmaa.Pw.opItems.arg1 (Go.Proofs.Ytnjmfedleimlmaa.Pw.SLs.cell) rfl h1 (Go.Proofs.Ytnjmfedleimlmaa.Pw.each_le hsz' (i := 1) (t := 22) rfl rfl)
  clear hA0 hval0
  refine ((Go.Proofs.Ytnjmfedleimlmaa.Pw.CostSame_pure' x0 s0 x1 s1).calls (Go.Proofs.Ytnjmfedleimlmaa.Pw.immS (W := W)) (Go.Proofs.Ytnjmfedleimlmaa.Pw.isLc i0 (Go.Proofs.Ytnjmfedleimlmaa.Pw.isLc i1 Go.Proofs.Ytnjmfedleimlmaa.Pw.isLn)) (.bool true) Go.Proofs.Ytnjmfedleimlmaa.Pw.tt_only).mono fun e W' ⟨he, bel⟩ => ?_
  subst he
  exact ⟨_, rfl, _, _, _, [], _, [], hW', trodAll_mk1 (shut_bool Try.underlying4 _), (trodAll_cons_mk (Below.trod laidOut (by kernel_rfl) (of_decide_eq_true (by kernel_rfl)) k0 bel lt0) (trodAll_cons_mk (Below.trod laidOut (by kernel_rfl) (of_decide_eq_true (by kernel_rfl)) k1 bel lt1) trodAll_mk0)), rfl, bel.frame _, fun h => by cases h⟩

theorem over : Rows.costSameRow.holds Try.pinned (OpenSpec.ofChange Rows.costSameSpec) :=
  OpenClaim.holds_of_wide 3 Try.f3 rfl rfl rfl rfl rfl rfl rfl ⟨rfl, rfl, rfl, rfl, rfl⟩ rfl rfl rfl rfl rfl (by kernel_rfl) Try.func3 (by kernel_rfl)
    (of_decide_eq_true (by kernel_rfl)) (by unfold Func.isWrapper; first | (rw [if_pos (by decide +kernel)]; kernel_rfl) | (rw [if_neg (by decide +kernel)]; exact ⟨rfl, rfl⟩))
    (fun os started H enc _ => lifted os started H enc)

theorem proved : Rows.CostSameSaid := over
#print axioms proved
end Go.Proofs.Ytnjmfedleimlmaa.costSameRow

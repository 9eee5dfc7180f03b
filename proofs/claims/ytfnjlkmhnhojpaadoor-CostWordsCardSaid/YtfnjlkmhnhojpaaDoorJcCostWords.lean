/- CostWords: for every input the law's Go function returns true and leaves its arguments as they were, where the package's tables are as the program's text lays them; and the card that ties them to the text. No other condition.
   The row's step: the arguments are opened, the walk over values is used, and they are shut again. -/
import Derived.Test.YtfnjlkmhnhojpaaDoorCards
import Derived.Test.YtfnjlkmhnhojpaaDoorTie
import Derived.Test.YtfnjlkmhnhojpaaDoorJc7
import Derived.WalkKit
import Derived.ProofKit
import Derived.OpenShut
import Derived.ChangeOld
import Derived.Below
import Derived.Carry
import Derived.LaidMore
import Derived.Stop.Joined
import Derived.SevenTiedAt
namespace Go.Proofs.YtfnjlkmhnhojpaaDoor.costWordsRow
open Go.ChangeShapes Go.WideShapes Go.ChangeAt Go.RowKit
set_option linter.unusedVariables false

theorem own : ownKnob Tryd.prog.godebug = none := by kernel_rfl
theorem laidOut : laidOutB Tryd.prog = true := by kernel_rfl

set_option maxRecDepth 100000 in
theorem lifted (os : Os) (started : os.Started) (H : Type) (enc : TypeId × Value → H) :
    ReturnsInHanded {} Tryd.checked os 4 .any (fun w args => (Rows.costWordsSpec.pre enc Tryd.prog Tryd.f4 [] false w args ∧ laidMetH Tryd.prog costLaid.laidList w) ∧ sizedMet enc Tryd.prog Tryd.f4 (OpenSpec.ofChange Rows.costWordsSpec) false w args)
      (Rows.costWordsSpec.post enc Tryd.prog Tryd.f4 false true false false) := by
  refine returnsInHanded_of_change_and (C := Tryd.checked) (X := fun w _ => laidMetH Tryd.prog costLaid.laidList w) (fun _ _ _ hh h => h.of_heap hh) own started (by kernel_rfl) Tryd.func4
    (ChangeSpec.witness_shaped (enc := enc) (C := Tryd.checked) (os := os) (X := fun w _ => laidMetH Tryd.prog costLaid.laidList w) false (World.doorLaid Tryd.prog costLaid.fuel os) #[.slice none 0 0, .slice none 0 0, .slice none 0 0, .int .i64 0] 8 rfl (World.shaped_of_RefB (by kernel_rfl) (by kernel_rfl)) (by kernel_rfl) (by kernel_rfl) (by kernel_rfl) (costLaid.door_met os _)) ?_
  intro W base args ds gs before hval0 hW _ hsz hL _
  have hval : ∀ (j : Nat) t v, Tryd.f4.params[j]? = some t → args[j]? = some v → Value.okWide Tryd.prog W .any base t v := hval0
  have hW' := hW
  obtain ⟨p, q, hA0, hV, rfl, hfz, hnd⟩ := hW
  have hA : DataW.TrodAll enc Tryd.prog W 0 (fun _ => true) true Tryd.f4.params.toList args.toList ds p := hA0
  have hsz' : (DataW.weightsEach Tryd.prog (Tryd.f4.params.toList ++ Rows.costWordsSpec.plain.varTypes Tryd.prog) (ds ++ gs)).all (· ≤ reachBytes) = true := hsz
  rw [Tryd.params4] at hA hval hsz'
  obtain ⟨v0, vs0, d0, ds0, p0, q0, hargs, rfl, rfl, h0, r0⟩ := trodAll_cons hA
  obtain ⟨v1, vs1, d1, ds1, p1, q1, rfl, rfl, rfl, h1, r1⟩ := trodAll_cons r0
  obtain ⟨v2, vs2, d2, ds2, p2, q2, rfl, rfl, rfl, h2, r2⟩ := trodAll_cons r1
  obtain ⟨v3, vs3, d3, ds3, p3, q3, rfl, rfl, rfl, h3, r3⟩ := trodAll_cons r2
  obtain ⟨rfl, rfl, rfl⟩ := trodAll_nil r3
  obtain rfl : args = #[v0, v1, v2, v3] := by cases args; simp_all
  obtain ⟨rfl, rfl⟩ := trodVars_none hV
  have k0 := h0
  have lt0 : ∀ x ∈ p0, x.block < W.heap.size := by obtain ⟨m, hm⟩ := k0; exact DataW.trod_lt m _ _ _ hm
  obtain ⟨a0, l0, c0, rfl⟩ := okWide_slice Tryd.underlying22 (hval 0 22 v0 rfl rfl)
  obtain ⟨x0, s0, i0⟩ := Go.Proofs.YtfnjlkmhnhojpaaDoor.Pw.opItems.arg1 (Go.Proofs.YtfnjlkmhnhojpaaDoor.Pw.SLs.cell) rfl h0 (Go.Proofs.YtfnjlkmhnhojpaaDoor.Pw.each_le hsz' (i := 0) (t := 22) rfl rfl)
  have k1 := h1
  have lt1 : ∀ x ∈ p1, x.block < W.heap.size := by obtain ⟨m, hm⟩ := k1; exact DataW.trod_lt m _ _ _ hm
  obtain ⟨a1, l1, c1, rfl⟩ := okWide_slice Tryd.underlying23 (hval 1 23 v1 rfl rfl)
  obtain ⟨x1, s1, i1⟩ := Go.Proofs.YtfnjlkmhnhojpaaDoor.Pw.opWords.arg1 (Go.Proofs.YtfnjlkmhnhojpaaDoor.Pw.SLs.cell) rfl h1 (Go.Proofs.YtfnjlkmhnhojpaaDoor.Pw.each_le hsz' (i := 1) (t := 23) rfl rfl)
  have k2 := h2
  have lt2 : ∀ x ∈ p2, x.block < W.heap.size := by obtain ⟨m, hm⟩ := k2; exact DataW.trod_lt m _ _ _ hm
  obtain ⟨a2, l2, c2, rfl⟩ := okWide_slice Tryd.underlying23 (hval 2 23 v2 rfl rfl)
  obtain ⟨x2, s2, i2⟩ := Go.Proofs.YtfnjlkmhnhojpaaDoor.Pw.opWords.arg1 (Go.Proofs.YtfnjlkmhnhojpaaDoor.Pw.SLs.cell) rfl h2 (Go.Proofs.YtfnjlkmhnhojpaaDoor.Pw.each_le hsz' (i := 2) (t := 23) rfl rfl)
  have k3 := h3
  have lt3 : ∀ x ∈ p3, x.block < W.heap.size := by obtain ⟨m, hm⟩ := k3; exact DataW.trod_lt m _ _ _ hm
  obtain ⟨b3, rfl, _, _, _⟩ := open_int Tryd.underlying3 (hval 3 3 v3 rfl rfl) h3
  obtain ⟨x3, s3, i3⟩ := Go.Proofs.YtfnjlkmhnhojpaaDoor.Pw.opI64.arg1 (Go.Proofs.YtfnjlkmhnhojpaaDoor.Pw.SInt.cell) rfl h3 (Go.Proofs.YtfnjlkmhnhojpaaDoor.Pw.each_le hsz' (i := 3) (t := 3) rfl rfl)
  clear hA0 hval0
  refine ((Go.Proofs.YtfnjlkmhnhojpaaDoor.Pw.CostWords_pure' x0 s0 x1 s1 x2 s2 x3 s3).calls (Go.Proofs.YtfnjlkmhnhojpaaDoor.Pw.immC hL) (Go.Proofs.YtfnjlkmhnhojpaaDoor.Pw.isLc i0 (Go.Proofs.YtfnjlkmhnhojpaaDoor.Pw.isLc i1 (Go.Proofs.YtfnjlkmhnhojpaaDoor.Pw.isLc i2 (Go.Proofs.YtfnjlkmhnhojpaaDoor.Pw.isLc i3 Go.Proofs.YtfnjlkmhnhojpaaDoor.Pw.isLn)))) (.bool true) Go.Proofs.YtfnjlkmhnhojpaaDoor.Pw.tt_only).mono fun e W' ⟨he, bel⟩ => ?_
  subst he
  exact ⟨_, rfl, _, _, _, [], _, [], hW', trodAll_mk1 (shut_bool Tryd.underlying4 _), (trodAll_cons_mk (Below.trod laidOut (by kernel_rfl) (of_decide_eq_true (by kernel_rfl)) k0 bel lt0) (trodAll_cons_mk (Below.trod laidOut (by kernel_rfl) (of_decide_eq_true (by kernel_rfl)) k1 bel lt1) (trodAll_cons_mk (Below.trod laidOut (by kernel_rfl) (of_decide_eq_true (by kernel_rfl)) k2 bel lt2) (trodAll_cons_mk (Below.trod laidOut (by kernel_rfl) (of_decide_eq_true (by kernel_rfl)) k3 bel lt3) trodAll_mk0)))), rfl, bel.frame _, fun h => by cases h⟩

theorem over : Rows.costWordsRow.holds Tryd.pinned (OpenSpec.ofChange Rows.costWordsSpec) :=
  OpenClaim.holds_of_wide 4 Tryd.f4 rfl rfl rfl rfl rfl rfl rfl ⟨rfl, rfl, rfl, rfl, rfl⟩ rfl rfl rfl rfl rfl (by kernel_rfl) Tryd.func4 (by kernel_rfl)
    (of_decide_eq_true (by kernel_rfl)) (by unfold Func.isWrapper; first | (rw [if_pos (by decide +kernel)]; kernel_rfl) | (rw [if_neg (by decide +kernel)]; exact ⟨rfl, rfl⟩))
    (fun os started H enc _ => lifted os started H enc)

theorem proved : Rows.CostWordsCardSaid :=
  Claim7.holds_tied_plain_at .later [] [.data] true Rows.costWordsCard.stood.harness false
    over (fun _ h => by cases h) (by kernel_rfl) (fun _ h => by cases h) costWords_row_tie rfl ⟨rfl, rfl⟩ (by kernel_rfl) rfl
    (fun f fn hf hfn => by
      obtain rfl : f = 4 := Option.some.inj ((show Tryd.prog.funcNamed "remontoire/remontoirelaw21.CostWords" = some 4 by kernel_rfl).symm.trans hf) |>.symm
      obtain rfl : fn = Tryd.f4 := (Option.some.inj (Tryd.func4.symm.trans hfn)).symm
      exact ⟨by kernel_rfl, fun j t ht => by
        rw [Tryd.params4] at ht
        have hm : t ∈ ([22, 23, 23, 3] : List TypeId) := by simpa using Array.mem_of_getElem? ht
        have hall : (([22, 23, 23, 3] : List TypeId).all fun u => !Tryd.prog.wantsStandIn u) = true := by kernel_rfl
        exact (show Tryd.prog.wantsStandIn t = false by simpa using List.all_eq_true.1 hall t hm)⟩)
    (by kernel_rfl)
#print axioms proved
end Go.Proofs.YtfnjlkmhnhojpaaDoor.costWordsRow

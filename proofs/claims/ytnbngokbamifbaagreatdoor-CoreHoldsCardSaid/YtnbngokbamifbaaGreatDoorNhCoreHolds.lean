/- CoreHolds: for every input the law's Go function returns true and leaves its arguments as they were, where the package's tables are as the program's text lays them; and the card that ties them to the text. No other condition.
   The row's step: the arguments are opened, the walk over values is used, and they are shut again. -/
import Derived.Test.YtnbngokbamifbaaGreatDoorCards
import Derived.Test.YtnbngokbamifbaaGreatDoorTie
import Derived.Test.YtnbngokbamifbaaGreatDoorNh25
import Derived.Test.YtnbngokbamifbaaGreatDoorNh20
import Derived.WalkKit
import Derived.ProofKit
import Derived.OpenShut
import Derived.ChangeOld
import Derived.Below
import Derived.Carry
import Derived.LaidMore
import Derived.Stop.Joined
import Derived.SevenTiedAt
namespace Go.Proofs.YtnbngokbamifbaaGreatDoor.coreHoldsRow
open Go.ChangeShapes Go.WideShapes Go.ChangeAt Go.RowKit
set_option linter.unusedVariables false

theorem own : ownKnob Tryz.prog.godebug = none := by kernel_rfl
theorem laidOut : laidOutB Tryz.prog = true := by kernel_rfl

set_option maxRecDepth 100000 in
theorem lifted (os : Os) (started : os.Started) (H : Type) (enc : TypeId × Value → H) :
    ReturnsInHanded {} Tryz.checked os 4 .any (fun w args => (Rows.coreHoldsSpec.pre enc Tryz.prog Tryz.f4 [] false w args ∧ laidMetH Tryz.prog codeLaid.laidList w) ∧ sizedMet enc Tryz.prog Tryz.f4 (OpenSpec.ofChange Rows.coreHoldsSpec) false w args)
      (Rows.coreHoldsSpec.post enc Tryz.prog Tryz.f4 false true false false) := by
  refine returnsInHanded_of_change_and (C := Tryz.checked) (X := fun w _ => laidMetH Tryz.prog codeLaid.laidList w) (fun _ _ _ hh h => h.of_heap hh) own started (by kernel_rfl) Tryz.func4
    (ChangeSpec.witness_shaped (enc := enc) (C := Tryz.checked) (os := os) (X := fun w _ => laidMetH Tryz.prog codeLaid.laidList w) false (World.doorLaid Tryz.prog codeLaid.fuel os) #[.agg #[.int .u32 0,.int .u32 0,.int .u32 0,.int .u32 0,.int .u32 0,.int .u32 0,.int .u32 0,.int .u32 0,.int .u32 0,.int .u32 0,.int .u32 0,.int .u32 0,.int .u32 0,.int .u32 0,.int .u32 0,.int .u32 0,.int .u32 0,.int .u32 0,.int .u32 0,.int .u32 0], .int .i64 0] 8 rfl (World.shaped_of_RefB (by kernel_rfl) (by kernel_rfl)) (by kernel_rfl) (by kernel_rfl) (by kernel_rfl) (codeLaid.door_met os _)) ?_
  intro W base args ds gs before hval0 hW _ hsz hL _
  have hval : ∀ (j : Nat) t v, Tryz.f4.params[j]? = some t → args[j]? = some v → Value.okWide Tryz.prog W .any base t v := hval0
  have hW' := hW
  obtain ⟨p, q, hA0, hV, rfl, hfz, hnd⟩ := hW
  have hA : DataW.TrodAll enc Tryz.prog W 0 (fun _ => true) true Tryz.f4.params.toList args.toList ds p := hA0
  have hsz' : (DataW.weightsEach Tryz.prog (Tryz.f4.params.toList ++ Rows.coreHoldsSpec.plain.varTypes Tryz.prog) (ds ++ gs)).all (· ≤ reachBytes) = true := hsz
  rw [Tryz.params4] at hA hval hsz'
  obtain ⟨v0, vs0, d0, ds0, p0, q0, hargs, rfl, rfl, h0, r0⟩ := trodAll_cons hA
  obtain ⟨v1, vs1, d1, ds1, p1, q1, rfl, rfl, rfl, h1, r1⟩ := trodAll_cons r0
  obtain ⟨rfl, rfl, rfl⟩ := trodAll_nil r1
  obtain rfl : args = #[v0, v1] := by cases args; simp_all
  obtain ⟨rfl, rfl⟩ := trodVars_none hV
  have k0 := h0
  have lt0 : ∀ x ∈ p0, x.block < W.heap.size := by obtain ⟨m, hm⟩ := k0; exact DataW.trod_lt m _ _ _ hm
  obtain ⟨a0, rfl, _⟩ := okWide_struct Tryz.underlying42 (hval 0 42 v0 rfl rfl)
  obtain ⟨x0, s0, i0⟩ := Go.Proofs.YtnbngokbamifbaaGreatDoor.Pw.Op.argS Go.Proofs.YtnbngokbamifbaaGreatDoor.Pw.opState Go.Proofs.YtnbngokbamifbaaGreatDoor.Pw.opState_agg h0 (Go.Proofs.YtnbngokbamifbaaGreatDoor.Pw.each_le hsz' (i := 0) (t := 42) rfl rfl)
  have k1 := h1
  have lt1 : ∀ x ∈ p1, x.block < W.heap.size := by obtain ⟨m, hm⟩ := k1; exact DataW.trod_lt m _ _ _ hm
  obtain ⟨b1, rfl, _, _, _⟩ := open_int Tryz.underlying3 (hval 1 3 v1 rfl rfl) h1
  obtain ⟨x1, s1, i1⟩ := Go.Proofs.YtnbngokbamifbaaGreatDoor.Pw.opI64c.arg1 (Go.Proofs.YtnbngokbamifbaaGreatDoor.Pw.SInt.cell) rfl h1 (Go.Proofs.YtnbngokbamifbaaGreatDoor.Pw.each_le hsz' (i := 1) (t := 3) rfl rfl)
  clear hA0 hval0
  refine ((Go.Proofs.YtnbngokbamifbaaGreatDoor.Pw.CoreHolds_pure' x0 s0 x1 s1).calls (Go.Proofs.YtnbngokbamifbaaGreatDoor.Pw.immCode hL) (Go.Proofs.YtnbngokbamifbaaGreatDoor.Pw.isLc i0 (Go.Proofs.YtnbngokbamifbaaGreatDoor.Pw.isLc i1 Go.Proofs.YtnbngokbamifbaaGreatDoor.Pw.isLn)) (.bool true) Go.Proofs.YtnbngokbamifbaaGreatDoor.Pw.tt_only).mono fun e W' ⟨he, bel⟩ => ?_
  subst he
  exact ⟨_, rfl, _, _, _, [], _, [], hW', trodAll_mk1 (shut_bool Tryz.underlying4 _), (trodAll_cons_mk (Below.trod laidOut (by kernel_rfl) (of_decide_eq_true (by kernel_rfl)) k0 bel lt0) (trodAll_cons_mk (Below.trod laidOut (by kernel_rfl) (of_decide_eq_true (by kernel_rfl)) k1 bel lt1) trodAll_mk0)), rfl, bel.frame _, fun h => by cases h⟩

theorem over : Rows.coreHoldsRow.holds Tryz.pinned (OpenSpec.ofChange Rows.coreHoldsSpec) :=
  OpenClaim.holds_of_wide 4 Tryz.f4 rfl rfl rfl rfl rfl rfl rfl ⟨rfl, rfl, rfl, rfl, rfl⟩ rfl rfl rfl rfl rfl (by kernel_rfl) Tryz.func4 (by kernel_rfl)
    (of_decide_eq_true (by kernel_rfl)) (by unfold Func.isWrapper; first | (rw [if_pos (by decide +kernel)]; kernel_rfl) | (rw [if_neg (by decide +kernel)]; exact ⟨rfl, rfl⟩))
    (fun os started H enc _ => lifted os started H enc)

theorem proved : Rows.CoreHoldsCardSaid :=
  Claim7.holds_tied_plain_at .later [] [.data, .data] true Rows.coreHoldsCard.stood.harness false
    over (fun _ h => by cases h) (by kernel_rfl) (fun _ h => by cases h) coreHolds_row_tie rfl ⟨rfl, rfl⟩ (by kernel_rfl) rfl
    (fun f fn hf hfn => by
      obtain rfl : f = 4 := Option.some.inj ((show Tryz.prog.funcNamed "remontoire/remontoirelaw07.CoreHolds" = some 4 by kernel_rfl).symm.trans hf) |>.symm
      obtain rfl : fn = Tryz.f4 := (Option.some.inj (Tryz.func4.symm.trans hfn)).symm
      exact ⟨by kernel_rfl, fun j t ht => by
        rw [Tryz.params4] at ht
        have hm : t ∈ ([42, 3] : List TypeId) := by simpa using Array.mem_of_getElem? ht
        have hall : (([42, 3] : List TypeId).all fun u => !Tryz.prog.wantsStandIn u) = true := by kernel_rfl
        exact (show Tryz.prog.wantsStandIn t = false by simpa using List.all_eq_true.1 hall t hm)⟩)
    (by kernel_rfl)
#print axioms proved
end Go.Proofs.YtnbngokbamifbaaGreatDoor.coreHoldsRow

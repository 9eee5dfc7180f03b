/- CoreRuns: for every input the law's Go function returns true and leaves its arguments as they were, where the package's tables are as the program's text lays them; and the card that ties them to the text. No other condition.
   The row's step: the arguments are opened, the walk over values is used, and they are shut again. -/
import Derived.Test.YtnbngokbamifbaaGreatDoorCards
import Derived.Test.YtnbngokbamifbaaGreatDoorTie
import Derived.Test.YtnbngokbamifbaaGreatDoorNi25
import Derived.Test.YtnbngokbamifbaaGreatDoorNi20
import Derived.WalkKit
import Derived.ProofKit
import Derived.OpenShut
import Derived.ChangeOld
import Derived.Below
import Derived.Carry
import Derived.LaidMore
import Derived.Stop.Joined
import Derived.SevenTiedAt
namespace Go.Proofs.YtnbngokbamifbaaGreatDoor.coreRunsRow
open Go.ChangeShapes Go.WideShapes Go.ChangeAt Go.RowKit
set_option linter.unusedVariables false

theorem own : ownKnob Tryz.prog.godebug = none := by kernel_rfl
theorem laidOut : laidOutB Tryz.prog = true := by kernel_rfl

set_option maxRecDepth 100000 in
theorem lifted (os : Os) (started : os.Started) (H : Type) (enc : TypeId × Value → H) :
    ReturnsInHanded {} Tryz.checked os 5 .any (fun w args => (Rows.coreRunsSpec.pre enc Tryz.prog Tryz.f5 [] false w args ∧ laidMetH Tryz.prog codeLaid.laidList w) ∧ sizedMet enc Tryz.prog Tryz.f5 (OpenSpec.ofChange Rows.coreRunsSpec) false w args)
      (Rows.coreRunsSpec.post enc Tryz.prog Tryz.f5 false true false false) := by
  refine returnsInHanded_of_change_and (C := Tryz.checked) (X := fun w _ => laidMetH Tryz.prog codeLaid.laidList w) (fun _ _ _ hh h => h.of_heap hh) own started (by kernel_rfl) Tryz.func5
    (ChangeSpec.witness_shaped (enc := enc) (C := Tryz.checked) (os := os) (X := fun w _ => laidMetH Tryz.prog codeLaid.laidList w) false (World.doorLaid Tryz.prog codeLaid.fuel os) #[.slice none 0 0, .int .i64 0, .agg #[.int .u32 0,.int .u32 0,.int .u32 0,.int .u32 0,.int .u32 0,.int .u32 0,.int .u32 0,.int .u32 0,.int .u32 0,.int .u32 0,.int .u32 0,.int .u32 0,.int .u32 0,.int .u32 0,.int .u32 0,.int .u32 0,.int .u32 0,.int .u32 0,.int .u32 0,.int .u32 0], .int .i64 0] 8 rfl (World.shaped_of_RefB (by kernel_rfl) (by kernel_rfl)) (by kernel_rfl) (by kernel_rfl) (by kernel_rfl) (codeLaid.door_met os _)) ?_
  intro W base args ds gs before hval0 hW _ hsz hL _
  have hval : ∀ (j : Nat) t v, Tryz.f5.params[j]? = some t → args[j]? = some v → Value.okWide Tryz.prog W .any base t v := hval0
  have hW' := hW
  obtain ⟨p, q, hA0, hV, rfl, hfz, hnd⟩ := hW
  have hA : DataW.TrodAll enc Tryz.prog W 0 (fun _ => true) true Tryz.f5.params.toList args.toList ds p := hA0
  have hsz' : (DataW.weightsEach Tryz.prog (Tryz.f5.params.toList ++ Rows.coreRunsSpec.plain.varTypes Tryz.prog) (ds ++ gs)).all (· ≤ reachBytes) = true := hsz
  rw [Tryz.params5] at hA hval hsz'
  obtain ⟨v0, vs0, d0, ds0, p0, q0, hargs, rfl, rfl, h0, r0⟩ := trodAll_cons hA
  obtain ⟨v1, vs1, d1, ds1, p1, q1, rfl, rfl, rfl, h1, r1⟩ := trodAll_cons r0
  obtain ⟨v2, vs2, d2, ds2, p2, q2, rfl, rfl, rfl, h2, r2⟩ := trodAll_cons r1
  obtain ⟨v3, vs3, d3, ds3, p3, q3, rfl, rfl, rfl, h3, r3⟩ := trodAll_cons r2
  obtain ⟨rfl, rfl, rfl⟩ := trodAll_nil r3
  obtain rfl : args = #[v0, v1, v2, v3] := by cases args; simp_all
  obtain ⟨rfl, rfl⟩ := trodVars_none hV
  have k0 := h0
  have lt0 : ∀ x ∈ p0, x.block < W.heap.size := by obtain ⟨m, hm⟩ := k0; exact DataW.trod_lt m _ _ _ hm
  obtain ⟨a0, l0, c0, rfl⟩ := okWide_slice Tryz.underlying46 (hval 0 46 v0 rfl rfl)
  obtain ⟨x0, s0, i0⟩ := Go.Proofs.YtnbngokbamifbaaGreatDoor.Pw.opIns.arg1 (Go.Proofs.YtnbngokbamifbaaGreatDoor.Pw.SLs.cell) rfl h0 (Go.Proofs.YtnbngokbamifbaaGreatDoor.Pw.each_le hsz' (i := 0) (t := 46) rfl rfl)
  have k1 := h1
  have lt1 : ∀ x ∈ p1, x.block < W.heap.size := by obtain ⟨m, hm⟩ := k1; exact DataW.trod_lt m _ _ _ hm
  obtain ⟨b1, rfl, _, _, _⟩ := open_int Tryz.underlying3 (hval 1 3 v1 rfl rfl) h1
  obtain ⟨x1, s1, i1⟩ := Go.Proofs.YtnbngokbamifbaaGreatDoor.Pw.opI64c.arg1 (Go.Proofs.YtnbngokbamifbaaGreatDoor.Pw.SInt.cell) rfl h1 (Go.Proofs.YtnbngokbamifbaaGreatDoor.Pw.each_le hsz' (i := 1) (t := 3) rfl rfl)
  have k2 := h2
  have lt2 : ∀ x ∈ p2, x.block < W.heap.size := by obtain ⟨m, hm⟩ := k2; exact DataW.trod_lt m _ _ _ hm
  obtain ⟨a2, rfl, _⟩ := okWide_struct Tryz.underlying42 (hval 2 42 v2 rfl rfl)
  obtain ⟨x2, s2, i2⟩ := Go.Proofs.YtnbngokbamifbaaGreatDoor.Pw.Op.argS Go.Proofs.YtnbngokbamifbaaGreatDoor.Pw.opState Go.Proofs.YtnbngokbamifbaaGreatDoor.Pw.opState_agg h2 (Go.Proofs.YtnbngokbamifbaaGreatDoor.Pw.each_le hsz' (i := 2) (t := 42) rfl rfl)
  have k3 := h3
  have lt3 : ∀ x ∈ p3, x.block < W.heap.size := by obtain ⟨m, hm⟩ := k3; exact DataW.trod_lt m _ _ _ hm
  obtain ⟨b3, rfl, _, _, _⟩ := open_int Tryz.underlying3 (hval 3 3 v3 rfl rfl) h3
  obtain ⟨x3, s3, i3⟩ := Go.Proofs.YtnbngokbamifbaaGreatDoor.Pw.opI64c.arg1 (Go.Proofs.YtnbngokbamifbaaGreatDoor.Pw.SInt.cell) rfl h3 (Go.Proofs.YtnbngokbamifbaaGreatDoor.Pw.each_le hsz' (i := 3) (t := 3) rfl rfl)
  clear hA0 hval0
  refine ((Go.Proofs.YtnbngokbamifbaaGreatDoor.Pw.CoreRuns_pure' x0 s0 x1 s1 x2 s2 x3 s3).calls (Go.Proofs.YtnbngokbamifbaaGreatDoor.Pw.immCode hL) (Go.Proofs.YtnbngokbamifbaaGreatDoor.Pw.isLc i0 (Go.Proofs.YtnbngokbamifbaaGreatDoor.Pw.isLc i1 (Go.Proofs.YtnbngokbamifbaaGreatDoor.Pw.isLc i2 (Go.Proofs.YtnbngokbamifbaaGreatDoor.Pw.isLc i3 Go.Proofs.YtnbngokbamifbaaGreatDoor.Pw.isLn)))) (.bool true) Go.Proofs.YtnbngokbamifbaaGreatDoor.Pw.tt_only).mono fun e W' ⟨he, bel⟩ => ?_
  subst he
  exact ⟨_, rfl, _, _, _, [], _, [], hW', trodAll_mk1 (shut_bool Tryz.underlying4 _), (trodAll_cons_mk (Below.trod laidOut (by kernel_rfl) (of_decide_eq_true (by kernel_rfl)) k0 bel lt0) (trodAll_cons_mk (Below.trod laidOut (by kernel_rfl) (of_decide_eq_true (by kernel_rfl)) k1 bel lt1) (trodAll_cons_mk (Below.trod laidOut (by kernel_rfl) (of_decide_eq_true (by kernel_rfl)) k2 bel lt2) (trodAll_cons_mk (Below.trod laidOut (by kernel_rfl) (of_decide_eq_true (by kernel_rfl)) k3 bel lt3) trodAll_mk0)))), rfl, bel.frame _, fun h => by cases h⟩

theorem over : Rows.coreRunsRow.holds Tryz.pinned (OpenSpec.ofChange Rows.coreRunsSpec) :=
  OpenClaim.holds_of_wide 5 Tryz.f5 rfl rfl rfl rfl rfl rfl rfl ⟨rfl, rfl, rfl, rfl, rfl⟩ rfl rfl rfl rfl rfl (by kernel_rfl) Tryz.func5 (by kernel_rfl)
    (of_decide_eq_true (by kernel_rfl)) (by unfold Func.isWrapper; first | (rw [if_pos (by decide +kernel)]; kernel_rfl) | (rw [if_neg (by decide +kernel)]; exact ⟨rfl, rfl⟩))
    (fun os started H enc _ => lifted os started H enc)

theorem proved : Rows.CoreRunsCardSaid :=
  Claim7.holds_tied_plain_at .later [] [.data, .data] true Rows.coreRunsCard.stood.harness false
    over (fun _ h => by cases h) (by kernel_rfl) (fun _ h => by cases h) coreRuns_row_tie rfl ⟨rfl, rfl⟩ (by kernel_rfl) rfl
    (fun f fn hf hfn => by
      obtain rfl : f = 5 := Option.some.inj ((show Tryz.prog.funcNamed "remontoire/remontoirelaw07.CoreRuns" = some 5 by kernel_rfl).symm.trans hf) |>.symm
      obtain rfl : fn = Tryz.f5 := (Option.some.inj (Tryz.func5.symm.trans hfn)).symm
      exact ⟨by kernel_rfl, fun j t ht => by
        rw [Tryz.params5] at ht
        have hm : t ∈ ([46, 3, 42, 3] : List TypeId) := by simpa using Array.mem_of_getElem? ht
        have hall : (([46, 3, 42, 3] : List TypeId).all fun u => !Tryz.prog.wantsStandIn u) = true := by kernel_rfl
        exact (show Tryz.prog.wantsStandIn t = false by simpa using List.all_eq_true.1 hall t hm)⟩)
    (by kernel_rfl)
#print axioms proved
end Go.Proofs.YtnbngokbamifbaaGreatDoor.coreRunsRow

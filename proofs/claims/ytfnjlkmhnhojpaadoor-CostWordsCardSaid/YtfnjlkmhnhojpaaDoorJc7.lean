/- What the laws of this claim are proved with, joined (join.py) of 11 texts: no condition. -/
import Derived.Test.YtfnjlkmhnhojpaaDoorJc6
import Derived.Test.YtfnjlkmhnhojpaaDoorJc4
import Derived.Test.YtfnjlkmhnhojpaaDoorRows
import Derived.ProofKit
import Derived.LaidMore
import Derived.OpenShut
import Derived.Stop.Joined
import Derived.Lib.LaidTab
import Derived.Test.YtfnjlkmhnhojpaaDoorJc5
import Derived.Shelf.SortM.Plain
import Derived.Shelf.SortM.SortNone
import Derived.Shelf.SlicesG.CompactI
import Derived.Test.YtfnjlkmhnhojpaaDoorChecked
import Derived.Lib.SlicesCompact
import Derived.Lib.RowBridge
set_option linter.unusedVariables false
set_option linter.unusedSimpArgs false

/- Chapter 21 over values: CostJoins. -/
set_option linter.unusedVariables false
namespace Go.Proofs.YtfnjlkmhnhojpaaDoor.Pw
open Go Go.RowKit

/-- what a right cost's parts are -/
structure PartOk (c : C) : Prop where
  mt : c.AllT MT
  sh : shC c = true
theorem PartOk.kid {c : C} (h : PartOk c) : ∀ x ∈ c.l, PartOk x := fun x hx =>
  ⟨allTL_all ((C.allT_iff c).1 h.mt).2.2 x hx, shL_all ((shC_iff c).1 h.sh).2.2.2.2.2 x hx⟩
theorem PartOk.flat {c : C} (h : PartOk c) : FlatTo 2147483647 c := fun hk => by
  have N := nums_of ((shC_iff c).1 h.sh).2.1
  exact ⟨N.cyc, N.mis⟩
theorem spL_part {l : List C} (h : ∀ c ∈ l, PartOk c) : ∀ x ∈ spL l, PartOk x := spL_all (fun c hc => hc.kid) (fun c _ hc => spC_all (fun c hc => hc.kid) c hc) h
theorem cNL_spL : ∀ {l : List C}, (∀ c ∈ l, cNL (spC c) ≤ cN c) → cNL (spL l) ≤ cNL l
  | [], _ => Nat.le_refl _
  | c :: l, h => by
    rw [spL, cNL_append, cNL]
    have h1 := h c (by simp)
    have h2 := cNL_spL (l := l) fun x hx => h x (by simp [hx])
    omega
theorem cNL_spC : ∀ c : C, cNL (spC c) ≤ cN c := C.ind' fun c ih => by
  rw [spC_eq]
  split
  · have := cNL_spL ih; rw [cN_eq]; omega
  · rw [cNL, cNL]; omega
theorem cN_flat (a b : Int) : cN (flatC a b) = 1 := rfl
theorem cNL_joinS (out : List C) (c : C) : cNL (joinS out c) ≤ cNL out + cN c := by
  have app : cNL (out ++ [c]) ≤ cNL out + cN c := by rw [cNL_append, cNL, cNL]; omega
  unfold joinS
  split
  · rename_i d hd
    split
    · obtain ⟨pre, hpre⟩ := List.getLast?_eq_some_iff.1 hd
      have := cN_pos c; have := cN_pos d
      rw [hpre, List.dropLast_concat, cNL_append, cNL_append, cNL, cNL, cNL, cNL, cN_flat]; omega
    · exact app
  · exact app
theorem cNL_fold : ∀ (l out : List C), cNL (l.foldl joinS out) ≤ cNL out + cNL l
  | [], out => by rw [cNL]; exact Nat.le_refl _
  | c :: l, out => by
    have h1 := cNL_fold l (joinS out c)
    have h2 := cNL_joinS out c
    rw [List.foldl_cons, cNL]; omega
theorem cNL_filter (p : C → Bool) : ∀ l : List C, cNL (l.filter p) ≤ cNL l
  | [] => Nat.le_refl _
  | c :: l => by
    have h := cNL_filter p l
    cases hp : p c with
    | true => rw [List.filter_cons_of_pos hp, cNL, cNL]; omega
    | false => rw [List.filter_cons_of_neg (by rw [hp]; decide), cNL]; omega
theorem cNL_outC (l : List C) : cNL (outC l) ≤ cNL l := by
  have h1 := cNL_filter keepB ((spL l).foldl joinS [])
  have h2 := cNL_fold (spL l) []
  have h3 := cNL_spL (l := l) fun c _ => cNL_spC c
  unfold outC
  rw [cNL] at h2; omega
theorem szT_leaf0 : szT leaf0 = 0 := rfl
theorem cN_joinC (l : List C) : cN (joinC l) ≤ 1 + cNL l := by
  have h := cNL_outC l
  unfold joinC
  split
  · rename_i c hc
    rw [hc, cNL, cNL] at h; omega
  · rw [cN_eq]
    show 1 + szT leaf0 + szT leaf0 + cNL (outC l) ≤ _
    rw [szT_leaf0]; omega
theorem allTL_of {p : T → Prop} : ∀ {l : List C}, (∀ c ∈ l, c.AllT p) → allTL p l
  | [], _ => trivial
  | c :: l, h => ⟨h c (by simp), allTL_of fun x hx => h x (by simp [hx])⟩
theorem flat_MT (a b : Int) : (flatC a b).AllT MT := (C.allT_iff _).2 ⟨MT.zero, MT.zero, trivial⟩
theorem fold_MT : ∀ (l out : List C), (∀ c ∈ l, c.AllT MT) → (∀ c ∈ out, c.AllT MT) → ∀ c ∈ l.foldl joinS out, c.AllT MT
  | [], out, _, h => h
  | c :: l, out, h1, h2 => fold_MT l _ (fun x hx => h1 x (by simp [hx])) (joinS_mem h2 (h1 c (by simp)) fun d _ _ _ => flat_MT _ _)
theorem outC_MT {l : List C} (h : ∀ c ∈ l, PartOk c) : ∀ c ∈ outC l, c.AllT MT := fun c hc =>
  fold_MT (spL l) [] (fun x hx => (spL_part h x hx).mt) (by simp) c (List.mem_filter.1 hc).1
theorem joinC_MT {l : List C} (h : ∀ c ∈ l, PartOk c) : (joinC l).AllT MT := by
  have ho := outC_MT h
  unfold joinC
  split
  · rename_i c hc; exact ho c (by rw [hc]; simp)
  · exact (C.allT_iff _).2 ⟨MT.zero, MT.zero, allTL_of ho⟩
theorem seq_sh {l : List C} (h : ∀ c ∈ l, PartOk c) (hl : l.length ≤ 1000000) : shC (.mk 2 0 0 0 0 leaf0 leaf0 l) = true := by
  have hL : ∀ {l : List C}, (∀ c ∈ l, PartOk c) → shL l = true := by
    intro l
    induction l with
    | nil => intro _; rfl
    | cons c l ih => intro h; rw [shL, (h c (by simp)).sh, ih fun x hx => h x (by simp [hx])]; rfl
  refine (shC_iff _).2 ⟨(show (1 : Int) ≤ 2 ∧ (2 : Int) ≤ 6 by decide), (show numsB 2 0 0 0 0 = true by decide), ⟨?_, ?_⟩, (show termB leaf0 (decide ((3 : Int) ≤ 2)) = true by decide), (show termB leaf0 (decide ((2 : Int) = 4 ∨ (2 : Int) = 6)) = true by decide), hL h⟩
  · show leastN 2 ≤ ((l.length : Nat) : Int); have : leastN 2 = 0 := by decide
    omega
  · show ((l.length : Nat) : Int) ≤ mostN 2; have : mostN 2 = 2147483647 := by decide
    omega
theorem seq_wf {l : List C} (h : ∀ c ∈ l, PartOk c) : (C.mk 2 0 0 0 0 leaf0 leaf0 l).Wf :=
  wf_of_MT _ ((C.allT_iff _).2 ⟨MT.zero, MT.zero, allTL_of fun c hc => (h c hc).mt⟩)

set_option maxHeartbeats 8000000 in
set_option maxRecDepth 10000 in
theorem CostJoins_pure (a b d : List IT) (ha : a.length ≤ maxLen) (hb : b.length ≤ maxLen) (hd : d.length ≤ maxLen) (oa : ∀ x ∈ a, x.Ok) (ob : ∀ x ∈ b, x.Ok) (od : ∀ x ∈ d, x.Ok) (ws : List Int) (hws : ∀ v ∈ ws, 0 ≤ v ∧ v ≤ 4294967295) (wait : Int) :
    PureF gT 3 [.sl 12 (a.map itP), .sl 12 (b.map itP), .sl 12 (d.map itP), .sl 1 (wordsP ws), .int .i64 wait] .tt := by
  refine Spec.enter gTok P3 100 Tryd.func3 rfl (by kernel_rfl) ?_
  refine ⟨[], no_rl, anchor21_pure.use trivial rfl rfl ?_⟩
  refine ⟨[], no_rl, (made_pure a ha).use (by repeat' first | exact trivial | exact rfl | exact Iff.rfl | exact Or.inl rfl | refine And.intro ?_ ?_) rfl rfl ?_⟩
  refine ⟨[], no_rl, (made_pure b hb).use (by repeat' first | exact trivial | exact rfl | exact Iff.rfl | exact Or.inl rfl | refine And.intro ?_ ?_) rfl rfl ?_⟩
  refine ⟨[], no_rl, (made_pure d hd).use (by repeat' first | exact trivial | exact rfl | exact Iff.rfl | exact Or.inl rfl | refine And.intro ?_ ?_) rfl rfl ?_⟩
  have r1 : ∀ l : List IT, (∀ x ∈ l, x.Ok) → l.length ≤ 30 → PureF gT 7 [cpv (madeC l)] (.bool (cN (madeC l) ≤ 16384 ∧ shC (madeC l) = true)) := fun l hl h30 => by
    have hT : (madeC l).AllT MT := builtC_MT hl 13 0
    have hN := madeC_cN hl h30
    exact cright_pure _ hT (C.AllT.mono (fun t ht => by have := ht.small; omega) _ hT) (by omega)
  refine And.intro (fun _ => retE trivial) (fun h1 => ?_)
  have ha30 : a.length ≤ 30 := Classical.not_not.1 h1
  refine And.intro (fun _ => retE trivial) (fun h2 => ?_)
  have hb30 : b.length ≤ 30 := Classical.not_not.1 h2
  refine And.intro (fun _ => retE trivial) (fun h3 => ?_)
  have hd30 : d.length ≤ 30 := Classical.not_not.1 h3
  refine ⟨[], no_rl, (r1 a oa ha30).use (by repeat' first | exact trivial | exact rfl | exact Iff.rfl | exact Or.inl rfl | refine And.intro ?_ ?_) rfl rfl ?_⟩
  refine And.intro (fun _ => retE trivial) (fun h4 => ?_)
  refine ⟨[], no_rl, (r1 b ob hb30).use (by repeat' first | exact trivial | exact rfl | exact Iff.rfl | exact Or.inl rfl | refine And.intro ?_ ?_) rfl rfl ?_⟩
  refine And.intro (fun _ => retE trivial) (fun h5 => ?_)
  refine ⟨[], no_rl, (r1 d od hd30).use (by repeat' first | exact trivial | exact rfl | exact Iff.rfl | exact Or.inl rfl | refine And.intro ?_ ?_) rfl rfl ?_⟩
  refine And.intro (fun _ => retE trivial) (fun h6 => ?_)
  have sa : cN (madeC a) ≤ 16384 ∧ shC (madeC a) = true := Classical.not_not.1 h4
  have sb : cN (madeC b) ≤ 16384 ∧ shC (madeC b) = true := Classical.not_not.1 h5
  have sd : cN (madeC d) ≤ 16384 ∧ shC (madeC d) = true := Classical.not_not.1 h6
  have na := madeC_cN oa ha30
  have nb := madeC_cN ob hb30
  have nd := madeC_cN od hd30
  obtain ⟨x, hx⟩ : ∃ x, madeC a = x := ⟨_, rfl⟩
  obtain ⟨y, hy⟩ : ∃ y, madeC b = y := ⟨_, rfl⟩
  obtain ⟨z, hz⟩ : ∃ z, madeC d = z := ⟨_, rfl⟩
  have pa : PartOk (madeC a) := ⟨builtC_MT oa 13 0, sa.2⟩
  have pb : PartOk (madeC b) := ⟨builtC_MT ob 13 0, sb.2⟩
  have pd : PartOk (madeC d) := ⟨builtC_MT od 13 0, sd.2⟩
  rw [hx] at na pa
  rw [hy] at nb pb
  rw [hz] at nd pd
  rw [hx, hy, hz]
  have hall : ∀ c ∈ [x, y, z], PartOk c := by
    intro c hc
    simp only [List.mem_cons, List.not_mem_nil, or_false] at hc
    rcases hc with rfl | rfl | rfl
    · exact pa
    · exact pb
    · exact pd
  have hcn : cNL [x, y, z] ≤ 2541 := by rw [cNL, cNL, cNL, cNL]; omega
  have hsl : (spL [x, y, z]).length ≤ 1000000 := by
    have h1 := cNL_len (spL [x, y, z])
    have h2 := cNL_spL (l := [x, y, z]) fun c _ => cNL_spC c
    omega
  have hj := join_pure [x, y, z] hsl fun c hc => (spL_part hall c hc).flat
  have hflat : ∀ c ∈ spL [x, y, z], FlatOk c := fun c hc k => by have := (spL_part hall c hc).flat k; omega
  refine ⟨[], no_rl, hj.useF [3] (by repeat' first | exact trivial | exact rfl | exact Iff.rfl | exact Or.inl rfl | refine And.intro ?_ ?_) (by repeat' first | exact trivial | exact rfl | exact Iff.rfl | exact Or.inl rfl | refine And.intro ?_ ?_) rfl rfl ?_⟩
  refine fun hm => ?_
  refine SW.loopS gTok P3 (by kernel_rfl) (fun i : Nat => [(76, .int .i64 i)]) (fun i => (joinC [x, y, z]).l.length - i) 0 60 ?_ fun i => ?_
  · repeat' first | exact trivial | exact rfl | exact Iff.rfl | refine And.intro ?_ ?_
  have hcJ := cN_joinC [x, y, z]
  have hap := @joinC_apart [x, y, z]
  have hMT := joinC_MT hall
  obtain ⟨J, hJ⟩ : ∃ J, joinC [x, y, z] = J := ⟨_, rfl⟩
  rw [hJ] at hj hm hcJ hap hMT ⊢
  have hJl : J.l.length ≤ 10000 := by have h1 := cNL_len J.l; have h2 := cN_eq J; omega
  have el : (((kidsC J).length : Nat) : Int) = J.l.length := by rw [kidsC_eq, List.length_map]
  refine And.intro (fun h => ?_) (fun h => ?_)
  · have h' : (i : Int) < ((kidsC J).length : Nat) := h
    rw [el] at h'
    refine ⟨C, J.l, cpv, kidsC_eq J, show (0 : Int) ≤ (i : Int) by omega, show (i : Int) < (J.l.length : Int) by omega, fun c hc => ?_⟩
    have hc' : J.l[i]? = some c := hc
    refine And.intro (fun hk => ?_) (fun hk => ?_)
    · have hk' : J.kind = 2 := hk
      obtain ⟨q1, q2⟩ := hap hk' i c hc'
      refine And.intro (fun h2 => absurd h2 q1) (fun _ => ?_)
      refine And.intro (fun h0 => ?_) (fun _ => ?_)
      · have h0' : (0 : Int) < (i : Int) := h0
        refine And.intro (fun hc1 => ?_) (fun _ => ?_)
        · refine .inl ⟨inR_i64 (show _ ≤ (i : Int) - 1 ∧ (i : Int) - 1 ≤ _ by omega), ?_⟩
          refine ⟨C, J.l, cpv, kidsC_eq J, show (0 : Int) ≤ (i : Int) - 1 by omega, show (i : Int) - 1 < (J.l.length : Int) by omega, fun e he => ?_⟩
          have he' : J.l[i - 1]? = some e := by rw [← show ((i : Int) - 1).toNat = i - 1 by omega]; exact he
          refine And.intro (fun he1 => absurd he1 (q2 e (by omega) he' hc1)) (fun _ => ?_)
          refine .inl ⟨inR_i64 (show _ ≤ (i : Int) + 1 ∧ (i : Int) + 1 ≤ _ by omega), ⟨i + 1, show J.l.length - (i + 1) < J.l.length - i by omega, ?_⟩⟩
          repeat' first | exact trivial | exact rfl | exact Iff.rfl | refine And.intro ?_ ?_
        · refine .inl ⟨inR_i64 (show _ ≤ (i : Int) + 1 ∧ (i : Int) + 1 ≤ _ by omega), ⟨i + 1, show J.l.length - (i + 1) < J.l.length - i by omega, ?_⟩⟩
          repeat' first | exact trivial | exact rfl | exact Iff.rfl | refine And.intro ?_ ?_
      · refine .inl ⟨inR_i64 (show _ ≤ (i : Int) + 1 ∧ (i : Int) + 1 ≤ _ by omega), ⟨i + 1, show J.l.length - (i + 1) < J.l.length - i by omega, ?_⟩⟩
        repeat' first | exact trivial | exact rfl | exact Iff.rfl | refine And.intro ?_ ?_
    · refine .inl ⟨inR_i64 (show _ ≤ (i : Int) + 1 ∧ (i : Int) + 1 ≤ _ by omega), ⟨i + 1, show J.l.length - (i + 1) < J.l.length - i by omega, ?_⟩⟩
      repeat' first | exact trivial | exact rfl | exact Iff.rfl | refine And.intro ?_ ?_
  · have h' : ¬ (i : Int) < ((kidsC J).length : Nat) := h
    have rJ := cright_pure J hMT (C.AllT.mono (fun t ht => by have := ht.small; omega) _ hMT) (by omega)
    refine ⟨[], no_rl, rJ.use (by repeat' first | exact trivial | exact rfl | exact Iff.rfl | exact Or.inl rfl | refine And.intro ?_ ?_) rfl rfl ?_⟩
    refine And.intro (fun _ => retE trivial) (fun hR => ?_)
    have hR' : cN J ≤ 16384 ∧ shC J = true := Classical.not_not.1 hR
    have e1 := evalC_pure J (wf_of_MT J hMT) hR'.2 ws hws wait 3000 (by omega)
    have e2 := evalC_pure (.mk 2 0 0 0 0 leaf0 leaf0 [x, y, z]) (seq_wf hall) (seq_sh hall (show 3 ≤ 1000000 by decide)) ws hws wait 3000 (by omega)
    have hev := @join_evC [x, y, z] hflat ws wait 3000
    rw [hJ] at hev
    refine ⟨[], no_rl, e1.use (by repeat' first | exact trivial | exact rfl | exact Iff.rfl | exact Or.inl rfl | refine And.intro ?_ ?_) rfl rfl ?_⟩
    first
      | refine ⟨[], no_rl, e2.useF [5] (by repeat' first | exact trivial | exact rfl | exact Iff.rfl | exact Or.inl rfl | refine And.intro ?_ ?_) (by repeat' first | exact trivial | exact rfl | exact Iff.rfl | exact Or.inl rfl | refine And.intro ?_ ?_) rfl rfl ?_⟩
      | refine ⟨[], no_rl, e2.useF [6] (by repeat' first | exact trivial | exact rfl | exact Iff.rfl | exact Or.inl rfl | refine And.intro ?_ ?_) (by repeat' first | exact trivial | exact rfl | exact Iff.rfl | exact Or.inl rfl | refine And.intro ?_ ?_) rfl rfl ?_⟩
      | refine ⟨[], no_rl, e2.useF [7] (by repeat' first | exact trivial | exact rfl | exact Iff.rfl | exact Or.inl rfl | refine And.intro ?_ ?_) (by repeat' first | exact trivial | exact rfl | exact Iff.rfl | exact Or.inl rfl | refine And.intro ?_ ?_) rfl rfl ?_⟩
      | refine ⟨[], no_rl, e2.useF [4] (by repeat' first | exact trivial | exact rfl | exact Iff.rfl | exact Or.inl rfl | refine And.intro ?_ ?_) (by repeat' first | exact trivial | exact rfl | exact Iff.rfl | exact Or.inl rfl | refine And.intro ?_ ?_) rfl rfl ?_⟩
    refine And.intro (fun _ => retE trivial) (fun k1 => ?_)
    refine And.intro (fun _ => retE trivial) (fun k2 => ?_)
    have q := hev (Classical.not_not.1 k1) (Classical.not_not.1 k2)
    refine And.intro (fun _ => ?_) (fun hv => absurd (congrArg (fun x => x.1) q) hv)
    refine retE ?_
    exact congrArg (fun x => x.2.1) q

end Go.Proofs.YtfnjlkmhnhojpaaDoor.Pw

/- Items that come in to chapter 21's laws, opened. -/
namespace Go.Proofs.YtfnjlkmhnhojpaaDoor.Pw
open Go Go.RowKit

theorem inR_u32b {z : Int} (h : InR .u32 z) : 0 ≤ z ∧ z ≤ 4294967295 := by unfold InR Ev.kmin Ev.kmax at h; simp only [IntKind.signed, IntKind.bits] at h; simpa using h
theorem opT : Op Tryd.prog 60 (SAgg [SInt .i64, SInt .u32, SInt .i64]) :=
  opAgg (Ss := [SInt .i64, SInt .u32, SInt .i64]) Tryd.underlying60 ⟨rfl, opInt Tryd.underlying3 (by kernel_rfl), (show _ = _ by kernel_rfl), opInt Tryd.underlying25 (by kernel_rfl), (show _ = _ by kernel_rfl), opInt Tryd.underlying3 (by kernel_rfl), (show _ = _ by kernel_rfl)⟩
set_option maxRecDepth 100000 in
theorem opItems : Op Tryd.prog 22 (SLs 12 96 itP IT.Ok) :=
  opList (opSlice (opAgg (Ss := [SInt .i64, SInt .i64, SInt .i64, SInt .i64, SInt .i64, SAgg [SInt .i64, SInt .u32, SInt .i64], SAgg [SInt .i64, SInt .u32, SInt .i64], SInt .i64]) Tryd.underlying62
    ⟨rfl, opInt Tryd.underlying3 (by kernel_rfl), (show _ = _ by kernel_rfl), opInt Tryd.underlying3 (by kernel_rfl), (show _ = _ by kernel_rfl), opInt Tryd.underlying3 (by kernel_rfl), (show _ = _ by kernel_rfl), opInt Tryd.underlying3 (by kernel_rfl), (show _ = _ by kernel_rfl), opInt Tryd.underlying3 (by kernel_rfl), (show _ = _ by kernel_rfl),
      opT, (show _ = _ by kernel_rfl), opT, (show _ = _ by kernel_rfl), opInt Tryd.underlying3 (by kernel_rfl), (show _ = _ by kernel_rfl)⟩) 12 96 (by kernel_rfl) Tryd.underlying22 (by kernel_rfl) (by decide) (by kernel_rfl)) fun x ⟨xs, h, e⟩ => by
    obtain ⟨_, _, rfl, ⟨k, _, rfl⟩, h_1⟩ := all2_cons h
    obtain ⟨_, _, rfl, ⟨cy, _, rfl⟩, h_2⟩ := all2_cons h_1
    obtain ⟨_, _, rfl, ⟨mi, _, rfl⟩, h_3⟩ := all2_cons h_2
    obtain ⟨_, _, rfl, ⟨wo, _, rfl⟩, h_4⟩ := all2_cons h_3
    obtain ⟨_, _, rfl, ⟨si, _, rfl⟩, h_5⟩ := all2_cons h_4
    obtain ⟨_, _, rfl, ⟨as_, ha, rfl⟩, h_6⟩ := all2_cons h_5
    obtain ⟨_, _, rfl, ⟨bs_, hb, rfl⟩, h_7⟩ := all2_cons h_6
    obtain ⟨_, _, rfl, ⟨n, _, rfl⟩, h_8⟩ := all2_cons h_7
    obtain rfl := all2_nil h_8
    obtain ⟨_, _, rfl, ⟨ao, _, rfl⟩, ha_1⟩ := all2_cons ha
    obtain ⟨_, _, rfl, ⟨au, hau, rfl⟩, ha_2⟩ := all2_cons ha_1
    obtain ⟨_, _, rfl, ⟨aw, _, rfl⟩, ha_3⟩ := all2_cons ha_2
    obtain rfl := all2_nil ha_3
    obtain ⟨_, _, rfl, ⟨bo, _, rfl⟩, hb_1⟩ := all2_cons hb
    obtain ⟨_, _, rfl, ⟨bu, hbu, rfl⟩, hb_2⟩ := all2_cons hb_1
    obtain ⟨_, _, rfl, ⟨bw, _, rfl⟩, hb_3⟩ := all2_cons hb_2
    obtain rfl := all2_nil hb_3
    exact ⟨⟨k, cy, mi, wo, si, ao, au, aw, bo, bu, bw, n⟩, ⟨inR_u32b hau, inR_u32b hbu⟩, e⟩
abbrev SItems := SLs 12 96 itP IT.Ok

end Go.Proofs.YtfnjlkmhnhojpaaDoor.Pw

/- What comes in to CostJoins and CostWords, opened; the table of rules. -/
namespace Go.Proofs.YtfnjlkmhnhojpaaDoor.costLaid
open Go.ChangeShapes Go.WideShapes Go.ChangeAt Go.RowKit Go.Deep

def laidList : List (String × DataW Unit) := [("remontoire/cost.rules", Rows.laid_remontoire_cost_rules)]
def fuel : Nat := 2000
theorem door_met (os : Os) (args : Array Value) : laidMetH Tryd.prog laidList ((World.doorLaid Tryd.prog fuel os).forCall (fun _ _ => 0) ⟨#[], args, []⟩).memory :=
  laidMetH_of_parts3 (fuel := 8) (laidMet_of_run' 8 (by kernel_rfl) (by kernel_rfl)) (by kernel_rfl) (by kernel_rfl)

end Go.Proofs.YtfnjlkmhnhojpaaDoor.costLaid
namespace Go.Proofs.YtfnjlkmhnhojpaaDoor.Pw
open Go Go.RowKit

def U32Ok (v : Int) : Prop := 0 ≤ v ∧ v ≤ 4294967295
theorem opWords : Op Tryd.prog 23 (SLs 1 4 (PV.int .u32) U32Ok) :=
  opList (opSlice (opInt Tryd.underlying25 (by kernel_rfl)) 1 4 (by kernel_rfl) Tryd.underlying23 (by kernel_rfl) (by decide) (by kernel_rfl)) fun x ⟨a, ha, e⟩ => ⟨a, inR_u32b ha, e⟩
theorem opI64 : Op Tryd.prog 3 (SInt .i64) := opInt Tryd.underlying3 (by kernel_rfl)

theorem immC {W : World} (h : laidMetH Tryd.prog costLaid.laidList W) : ImmOk gT (In W) W :=
  immOk_laid (laid := costLaid.laidList) (by kernel_rfl) h fun x hx => by
    obtain rfl : x = (0, rulesP) := List.mem_singleton.1 hx
    exact ⟨"remontoire/cost.rules", _, 67, List.mem_singleton.2 rfl, by kernel_rfl, by kernel_rfl, by kernel_rfl, nofun⟩
theorem CostJoins_pure' (x : PV) (s : SItems x) (y : PV) (s1 : SItems y) (z : PV) (s2 : SItems z) (u : PV) (t : SLs 1 4 (PV.int .u32) U32Ok u) (v : PV) (t1 : SInt .i64 v) : PureF gT 3 [x, y, z, u, v] .tt := by
  obtain ⟨a, h1, h2, rfl⟩ := s
  obtain ⟨b, h3, h4, rfl⟩ := s1
  obtain ⟨d, h5, h6, rfl⟩ := s2
  obtain ⟨ws, h7, h8, rfl⟩ := t
  obtain ⟨w, h9, rfl⟩ := t1
  exact CostJoins_pure a b d h1.1 h3.1 h5.1 h2 h4 h6 ws h8 w

end Go.Proofs.YtfnjlkmhnhojpaaDoor.Pw

/- Chapter 21, plain: the words that a cost names; just these have a part in its value. -/
set_option linter.unusedVariables false
namespace Go.Proofs.YtfnjlkmhnhojpaaDoor.Pw
open Go Go.RowKit

/-- the words that a term, a cost names, but for those that are bound -/
def ownN (bd : List Int) (op n : Int) : List Int := if op = 2 ∧ ¬ n ∈ bd then [n] else []
def nmT (bd : List Int) : T → List Int
  | .leaf o n => ownN bd o n
  | .one o n a => ownN bd o n ++ nmT bd a
  | .two o n a b => ownN bd o n ++ (nmT bd a ++ nmT bd b)
theorem nmT_eq (bd : List Int) (t : T) : nmT bd t = ownN bd t.op t.num ++ (kidsL t).flatMap (nmT bd) := by cases t <;> simp [nmT, kidsL, T.op, T.num]
mutual
def gaC (bd : List Int) : C → List Int
  | .mk k _ _ wo _ a b l => nmT bd a ++ nmT bd b ++ gaL (if k = 4 then bd ++ [wo] else bd) l
def gaL (bd : List Int) : List C → List Int
  | [] => []
  | c :: l => gaC bd c ++ gaL bd l
end
def bdC (bd : List Int) (c : C) : List Int := if c.kind = 4 then bd ++ [c.word] else bd
theorem gaC_eq (bd : List Int) (c : C) : gaC bd c = nmT bd c.a ++ nmT bd c.b ++ gaL (bdC bd c) c.l := by cases c; rw [gaC]; rfl
theorem gaL_mem {bd : List Int} {x : Int} : ∀ {l : List C} {c : C}, c ∈ l → x ∈ gaC bd c → x ∈ gaL bd l
  | d :: l, c, hc, hx => by
    rw [gaL, List.mem_append]
    rcases List.mem_cons.1 hc with rfl | hc
    · exact .inl hx
    · exact .inr (gaL_mem hc hx)
theorem gaL_append (bd : List Int) : ∀ (l m : List C), gaL bd (l ++ m) = gaL bd l ++ gaL bd m
  | [], m => by rw [gaL]; rfl
  | c :: l, m => by rw [List.cons_append, gaL, gaL, gaL_append bd l m, List.append_assoc]

/-- two reckoners that are alike but for words that aren't of P -/
structure Agr (P : Int → Prop) (r q : R) : Prop where
  fuel : r.fuel = q.fuel
  sum : r.sum = q.sum
  trap : r.trap = q.trap
  e : r.e = q.e
  len : r.ws.length = q.ws.length
  get : ∀ n : Nat, P n → r.ws[n]? = q.ws[n]?
theorem evalT_agr {P : Int → Prop} {bd : List Int} {ws vs : List Int} (hb : ∀ x ∈ bd, P x) (h : ∀ n : Nat, P n → ws[n]? = vs[n]?) : ∀ {t : T}, t.Wf → t.shaped = true → (∀ x ∈ nmT bd t, P x) → t.evalT ws = t.evalT vs
  | .leaf o n, hw, hs, hn => by
    rw [T.evalT, T.evalT]; unfold leafV
    by_cases h1 : o = 1
    · rw [if_pos h1, if_pos h1]
    · rw [if_neg h1, if_neg h1]
      have h2 : o = 2 := by
        have := hs
        simp only [T.shaped, goodN, needsN] at this
        by_cases e : o = 2
        · exact e
        · exfalso
          revert this
          simp only [decide_eq_true_eq, Bool.and_eq_true]
          repeat' split
          all_goals omega
      have hP : P n := by
        by_cases hm : n ∈ bd
        · exact hb n hm
        · exact hn n (by simp [nmT, ownN, h2, hm])
      rw [h n.toNat (by rw [Int.toNat_of_nonneg hw.1]; exact hP)]
  | .one o n a, hw, hs, hn => by
    rw [T.evalT, T.evalT, evalT_agr hb h hw.2 (by simp only [T.shaped, Bool.and_eq_true] at hs; exact hs.2) fun x hx => hn x (by simp [nmT, hx])]
  | .two o n a b, hw, hs, hn => by
    simp only [T.shaped, Bool.and_eq_true] at hs
    rw [T.evalT, T.evalT, evalT_agr hb h hw.2.1 hs.2.1 fun x hx => hn x (by simp [nmT, hx]), evalT_agr hb h hw.2.2 hs.2.2 fun x hx => hn x (by simp [nmT, hx])]
namespace Agr
variable {P : Int → Prop} {r q : R}
theorem refl (r : R) : Agr P r r := ⟨rfl, rfl, rfl, rfl, rfl, fun _ _ => rfl⟩
theorem fin (h : Agr P r q) : r.fin = q.fin := by unfold R.fin; rw [h.trap, h.e]
theorem add (h : Agr P r q) (n : Int) : Agr P (r.add n) (q.add n) := ⟨h.fuel, by simp only [R.add, h.sum], h.trap, h.e, h.len, h.get⟩
theorem trapped (h : Agr P r q) (n : Int) : Agr P { r with trap := n } { q with trap := n } := ⟨h.fuel, h.sum, rfl, h.e, h.len, h.get⟩
theorem err (h : Agr P r q) (n : Int) : Agr P { r with e := n } { q with e := n } := ⟨h.fuel, h.sum, h.trap, rfl, h.len, h.get⟩
theorem more (h : Agr P r q) : Agr P r.fuelMore q.fuelMore := ⟨by simp only [R.fuelMore, h.fuel], h.sum, h.trap, h.e, h.len, h.get⟩
theorem weak {P' : Int → Prop} (h : Agr P r q) (hp : ∀ x, P' x → P x) : Agr P' r q := ⟨h.fuel, h.sum, h.trap, h.e, h.len, fun n hn => h.get n (hp _ hn)⟩
theorem set (h : Agr P r q) (wo : Nat) (v : Int) : Agr (fun x => P x ∨ x = wo) { r with ws := r.ws.set wo v } { q with ws := q.ws.set wo v } := by
  refine ⟨h.fuel, h.sum, h.trap, h.e, by simp only [List.length_set]; exact h.len, fun n hn => ?_⟩
  simp only [List.getElem?_set, h.len]
  split
  · rfl
  · rename_i hne
    rcases hn with hn | hn
    · exact h.get n hn
    · exact absurd (by omega) hne
theorem put (h : Agr P r q) (wo : Nat) {v u : Int} (hv : P wo → v = u) : Agr P (r.put wo v) (q.put wo u) := by
  refine ⟨h.fuel, h.sum, h.trap, h.e, by simp only [R.put, List.length_set]; exact h.len, fun n hn => ?_⟩
  simp only [R.put, List.getElem?_set, h.len]
  split
  · rename_i e
    subst e
    rw [hv hn]
  · exact h.get n hn
theorem rnd {f : R → R} {wo : Nat} (hf : ∀ r q : R, Agr (fun x => P x ∨ x = wo) r q → Agr (fun x => P x ∨ x = wo) (f r) (f q)) : ∀ (n : Nat) (i : Int) (r q : R), Agr P r q → Agr P (rndR f wo n i r) (rndR f wo n i q)
  | 0, i, r, q, h => by rw [rndR, rndR]; exact h
  | n + 1, i, r, q, h => by
    rw [rndR, rndR, h.fin]
    split
    · exact h
    · exact rnd hf n (i + 1) _ _ ((hf _ _ (h.set wo i)).weak fun _ => .inl)
end Agr

theorem allR_agr {wt : Int} {P : Int → Prop} : ∀ {l : List C}, (∀ c ∈ l, ∀ r q : R, Agr P r q → Agr P (oneR wt c r) (oneR wt c q)) → ∀ r q : R, Agr P r q → Agr P (allR wt l r) (allR wt l q)
  | [], _, r, q, h => by rw [allR, allR]; exact h
  | c :: l, hl, r, q, h => by
    rw [allR, allR, h.fin]
    split
    · exact h
    · exact allR_agr (fun x hx => hl x (by simp [hx])) _ _ (hl c (by simp) r q h)
theorem nthR_agr {wt : Int} {P : Int → Prop} : ∀ {l : List C} {n : Nat}, (∀ c ∈ l, ∀ r q : R, Agr P r q → Agr P (oneR wt c r) (oneR wt c q)) → ∀ r q : R, Agr P r q → Agr P (nthR wt l n r) (nthR wt l n q)
  | [], _, _, r, q, h => by rw [nthR, nthR]; exact h
  | c :: l, 0, hl, r, q, h => by rw [nthR, nthR]; exact hl c (by simp) r q h
  | c :: l, n + 1, hl, r, q, h => by rw [nthR, nthR]; exact nthR_agr (fun x hx => hl x (by simp [hx])) r q h

theorem oneR_agr {wt : Int} : ∀ c : C, c.Wf → shC c = true → ∀ (bd : List Int) (P : Int → Prop), (∀ x ∈ bd, P x) → (∀ x ∈ gaC bd c, P x) → ∀ r q : R, Agr P r q → Agr P (oneR wt c r) (oneR wt c q) := C.ind' fun c ih hw hs bd P hb hg r q hr => by
  obtain ⟨hk, hn, hl, hta, htb, hsl⟩ := (shC_iff c).1 hs
  obtain ⟨ha, hbw, hwl⟩ := (C.wf_iff c).1 hw
  have N := nums_of hn
  rw [gaC_eq] at hg
  have ga : ∀ x ∈ nmT bd c.a, P x := fun x hx => hg x (by simp [hx])
  have gb : ∀ x ∈ nmT bd c.b, P x := fun x hx => hg x (by simp [hx])
  have gl : ∀ x ∈ gaL (bdC bd c) c.l, P x := fun x hx => hg x (by simp [hx])
  have one : ¬ c.kind = 4 → ∀ x ∈ c.l, ∀ r q : R, Agr P r q → Agr P (oneR wt x r) (oneR wt x q) := fun h4 x hx => by
    have e : bdC bd c = bd := if_neg h4
    rw [e] at gl
    exact ih x hx (wfL_all hwl x hx) (shL_all hsl x hx) bd P hb fun y hy => gl y (gaL_mem hx hy)
  have shA : 3 ≤ c.kind → c.a.shaped = true := fun h3 => by
    rw [decide_eq_true h3] at hta
    have : (c.a.shaped && lowT c.a) = true := hta
    rw [Bool.and_eq_true] at this; exact this.1
  have shB : c.kind = 4 ∨ c.kind = 6 → c.b.shaped = true := fun h3 => by
    rw [decide_eq_true h3] at htb
    have : (c.b.shaped && lowT c.b) = true := htb
    rw [Bool.and_eq_true] at this; exact this.1
  have evA : 3 ≤ c.kind → ∀ r q : R, Agr P r q → c.a.evalT r.ws = c.a.evalT q.ws := fun h3 r q h => evalT_agr hb h.get ha (shA h3) ga
  have evB : c.kind = 4 ∨ c.kind = 6 → ∀ r q : R, Agr P r q → c.b.evalT r.ws = c.b.evalT q.ws := fun h3 r q h => evalT_agr hb h.get hbw (shB h3) gb
  have evl : ∀ (t : T) (r q : R), Agr P r q → t.evalT r.ws = t.evalT q.ws → Agr P (r.evl t) (q.evl t) := fun t r q h e => ⟨h.fuel, h.sum, by simp only [R.evl, e, h.trap], h.e, h.len, h.get⟩
  have val : ∀ (t : T) (r q : R), t.evalT r.ws = t.evalT q.ws → r.val t = q.val t := fun t r q e => by unfold R.val; rw [e]
  rw [oneR_eq, oneR_eq]
  have hm := hr.more
  by_cases hf : r.fuel ≤ 0
  · rw [if_pos hf, if_pos (show q.fuel ≤ 0 by rw [← hr.fuel]; exact hf)]; exact hr.err 70
  rw [if_neg hf, if_neg (show ¬ q.fuel ≤ 0 by rw [← hr.fuel]; exact hf)]
  by_cases hc : c.kind = 1
  · rw [if_pos hc, if_pos hc]
    exact hm.add _
  rw [if_neg hc, if_neg hc]
  by_cases hc : c.kind = 2
  · rw [if_pos hc, if_pos hc]
    exact allR_agr (one (by omega)) _ _ hm
  rw [if_neg hc, if_neg hc]
  by_cases hc : c.kind = 3
  · rw [if_pos hc, if_pos hc]
    have e1 := evA (by omega) _ _ hm
    have h1 := evl _ _ _ hm e1
    unfold condR
    rw [h1.fin, val _ _ _ e1]
    split
    · exact h1
    · split
      · exact nthR_agr (one (by omega)) _ _ h1
      · exact nthR_agr (one (by omega)) _ _ h1
  rw [if_neg hc, if_neg hc]
  by_cases hc : c.kind = 4
  · rw [if_pos hc, if_pos hc]
    have e1 := evA (by omega) _ _ hm
    have h1 := evl _ _ _ hm e1
    have e2 := evB (.inl hc) _ _ h1
    have h2 := evl _ _ _ h1 e2
    unfold roundsR
    rw [h1.fin, val _ _ _ e1, val _ _ _ e2]
    split
    · exact h1
    · have hwo := N.word hc
      have ewo : ((c.word.toNat : Nat) : Int) = c.word := by omega
      refine Agr.put (Agr.rnd (fun r q h => allR_agr (fun x hx => ?_) r q h) _ _ _ _ h2) _ fun hP => by rw [h2.get _ hP]
      have e : bdC bd c = bd ++ [c.word] := if_pos hc
      rw [e] at gl
      refine ih x hx (wfL_all hwl x hx) (shL_all hsl x hx) (bd ++ [c.word]) _ (fun y hy => ?_) fun y hy => .inl (gl y (gaL_mem hx hy))
      rcases List.mem_append.1 hy with hy | hy
      · exact .inl (hb y hy)
      · rw [List.mem_singleton] at hy; exact .inr (by omega)
  rw [if_neg hc, if_neg hc]
  by_cases hc : c.kind = 5
  · rw [if_pos hc, if_pos hc]
    have e1 := evA (by omega) _ _ hm
    unfold stopR
    rw [← e1, ← val _ _ _ e1]
    split
    · exact hm.trapped 2
    split
    · exact hm
    have h2 := allR_agr (one (by omega)) _ _ hm
    rw [← h2.fin]
    split
    · exact h2
    · exact h2.trapped _
  rw [if_neg hc, if_neg hc]
  by_cases hc : c.kind = 6
  · rw [if_pos hc, if_pos hc]
    have e1 := evA (by omega) _ _ hm
    have h1 := evl _ _ _ hm e1
    have e2 := evB (.inr hc) _ _ h1
    have h2 := evl _ _ _ h1 e2
    unfold divR
    rw [h1.fin, h2.fin, val _ _ _ e1, val _ _ _ e2]
    split
    · exact h1
    split
    · exact h2
    · exact h2.add _
  · rw [if_neg hc, if_neg hc]; exact hm

/-- the words that are put in the place of others: those that are named stay -/
def ownL (nm ot ws : List Int) : List Int := ws.mapIdx fun i w => if (i : Int) ∈ nm then w else (ot[i]?).getD w
theorem ownL_len (nm ot ws : List Int) : (ownL nm ot ws).length = ws.length := List.length_mapIdx
theorem ownL_get {nm ot ws : List Int} {i : Nat} {w : Int} (h : ws[i]? = some w) : (ownL nm ot ws)[i]? = some (if (i : Int) ∈ nm then w else (ot[i]?).getD w) := by
  unfold ownL; rw [List.getElem?_mapIdx, h]; rfl
theorem fillW_get (ws : List Int) (n : Nat) (h : n < 254) : (fillW ws)[n]? = some ((ws[n]?).getD 0) := by
  unfold fillW
  rw [List.getElem?_append]
  split
  · rename_i hl
    rw [List.length_take] at hl
    rw [List.getElem?_take, if_pos h, List.getElem?_eq_getElem (by omega)]; rfl
  · rename_i hl
    rw [List.length_take] at hl
    rw [List.getElem?_replicate, List.length_take, if_pos (by omega), List.getElem?_eq_none (by omega)]; rfl
theorem fillW_len (ws : List Int) : (fillW ws).length = 254 := by
  unfold fillW; rw [List.length_append, List.length_take, List.length_replicate]; omega
theorem words_evC {c : C} (hw : c.Wf) (hs : shC c = true) {nm : List Int} (hn : ∀ x ∈ gaC [] c, x ∈ nm) (ws ot : List Int) (wait fuel : Int) : evC c (ownL nm ot ws) wait fuel = evC c ws wait fuel := by
  unfold evC
  split
  · rfl
  · have h : Agr (fun x => x ∈ nm) (r0 (ownL nm ot ws) fuel) (r0 ws fuel) := by
      refine ⟨rfl, rfl, rfl, rfl, by show (fillW _).length = (fillW _).length; rw [fillW_len, fillW_len], fun n hn => ?_⟩
      show (fillW _)[n]? = (fillW _)[n]?
      by_cases hl : n < 254
      · rw [fillW_get _ _ hl, fillW_get _ _ hl]
        cases hv : ws[n]? with
        | none => rw [List.getElem?_eq_none (by rw [ownL_len]; exact List.getElem?_eq_none_iff.1 hv)]
        | some v => rw [ownL_get hv, if_pos hn]
      · rw [List.getElem?_eq_none (by rw [fillW_len]; omega), List.getElem?_eq_none (by rw [fillW_len]; omega)]
    have h2 := oneR_agr (wt := wait) c hw hs [] _ (by simp) hn _ _ h
    unfold EvR
    rw [h2.e, h2.sum, h2.trap]

end Go.Proofs.YtfnjlkmhnhojpaaDoor.Pw

/- Chapter 21 over values: the words that a cost names, gathered. -/
set_option linter.unusedVariables false
namespace Go.Proofs.YtfnjlkmhnhojpaaDoor.Pw
open Go Go.RowKit

def intsP (l : List Int) : List PV := l.map (PV.int .i64)
theorem intsP_len (l : List Int) : (intsP l).length = l.length := List.length_map ..
theorem intsP_app (l m : List Int) : intsP (l ++ m) = intsP l ++ intsP m := List.map_append ..
open Classical in
noncomputable def idxG {α : Type} (p : α → Prop) : List α → Nat → Int
  | [], _ => -1
  | x :: l, i => if p x then (i : Int) else idxG p l (i + 1)
theorem idxG_iff {α : Type} {p : α → Prop} : ∀ {l : List α} {i : Nat}, 0 ≤ idxG p l i ↔ ∃ x ∈ l, p x
  | [], i => by simp [idxG]
  | x :: l, i => by
    rw [idxG]
    by_cases h : p x
    · rw [if_pos h]
      exact ⟨fun _ => ⟨x, by simp, h⟩, fun _ => by omega⟩
    · rw [if_neg h, idxG_iff (l := l)]
      refine ⟨fun ⟨y, hy, hp⟩ => ⟨y, by simp [hy], hp⟩, fun ⟨y, hy, hp⟩ => ?_⟩
      rcases List.mem_cons.1 hy with rfl | hy
      · exact absurd hp h
      · exact ⟨y, hy, hp⟩
theorem idxG_step {α : Type} {p : α → Prop} {l : List α} {i : Nat} {x : α} (h : l[i]? = some x) : (p x → idxG p (l.drop i) i = i) ∧ (¬ p x → idxG p (l.drop i) i = idxG p (l.drop (i + 1)) (i + 1)) := by
  obtain ⟨hlt, hx⟩ := List.getElem?_eq_some_iff.1 h
  rw [List.drop_eq_getElem_cons hlt, hx, idxG]
  exact ⟨fun h => if_pos h, fun h => if_neg h⟩
theorem idxG_end {α : Type} {p : α → Prop} {l : List α} {i : Nat} (h : l.length ≤ i) : idxG p (l.drop i) i = -1 := by rw [List.drop_of_length_le h]; rfl

set_option maxRecDepth 10000 in
theorem index_pure (l : List Int) (x : Int) : PureF gT 67 [.sl 1 (intsP l), .int .i64 x] (.int .i64 (idxG (x = ·) l 0)) := by
  refine Spec.enter gTok P67 100 Tryd.func67 rfl (by kernel_rfl) ?_
  intro hm
  obtain ⟨z, hz⟩ : ∃ z, z = idxG (x = ·) l 0 := ⟨_, rfl⟩
  rw [← hz]
  refine SW.loopS gTok P67 (by kernel_rfl) (α := {i : Nat // idxG (x = ·) (l.drop i) i = z}) (fun i => [(8, .int .i64 i.1)]) (fun i => l.length - i.1) ⟨0, hz.symm⟩ 60 ?_ ?_
  · repeat' first | exact trivial | exact rfl | refine And.intro ?_ ?_
  rintro ⟨i, hi⟩
  have el : (intsP l).length = l.length := List.length_map ..
  refine And.intro (fun h => ?_) (fun h => ?_)
  · have h' : (i : Int) < ((intsP l).length : Nat) := h
    refine ⟨Int, l, PV.int .i64, rfl, show (0 : Int) ≤ (i : Int) by omega, show (i : Int) < (l.length : Int) by omega, fun y hy => ?_⟩
    have hy' : l[i]? = some y := hy
    refine And.intro (fun he => ?_) (fun he => ?_)
    · refine retE ?_
      exact (show (i : Int) = z by rw [← hi, (idxG_step hy').1 he])
    · unfold maxLen at hm
      refine .inl ⟨inR_i64 (show _ ≤ (i : Int) + 1 ∧ (i : Int) + 1 ≤ _ by omega), ⟨⟨i + 1, by rw [← hi, (idxG_step hy').2 he]⟩, show l.length - (i + 1) < l.length - i by omega, ?_⟩⟩
      repeat' first | exact trivial | exact rfl | refine And.intro ?_ ?_
  · have h' : ¬ (i : Int) < ((intsP l).length : Nat) := h
    refine retE ?_
    exact (show (-1 : Int) = z by rw [← hi, idxG_end (by omega)])
theorem icontains_pure (l : List Int) (x : Int) : PureF gT 47 [.sl 1 (intsP l), .int .i64 x] (.bool (x ∈ l)) := by
  refine Spec.enter gTok P47 100 Tryd.func47 rfl (by kernel_rfl) ?_
  refine ⟨[], no_rl, (index_pure l x).use (by repeat' first | exact trivial | exact rfl | exact Iff.rfl | exact Or.inl rfl | refine And.intro ?_ ?_) rfl rfl ?_⟩
  refine retE ?_
  exact (show 0 ≤ idxG (x = ·) l 0 ↔ x ∈ l by rw [idxG_iff]; exact ⟨fun ⟨y, hy, e⟩ => e ▸ hy, fun h => ⟨x, h, rfl⟩⟩)


def oS (x : PV) : PBlk := ⟨.loc, 40, 1, .w, true, [x]⟩
def dI (cs : List PV) : PBlk := ⟨.dyn, 3, 1, .w, true, cs⟩
def sN (c0 : C) (xs : List Int) : List PBlk := [xB c0, oS (.wref 2), dI (intsP xs)]
theorem nmT_take {bd : List Int} {t x : T} {i : Nat} (h : (kidsL t)[i]? = some x) : ((kidsL t).take (i + 1)).flatMap (nmT bd) = ((kidsL t).take i).flatMap (nmT bd) ++ nmT bd x := by
  rw [List.take_add_one, h, List.flatMap_append]; simp
theorem flat_take_le (bd : List Int) (l : List T) (i : Nat) : ((l.take i).flatMap (nmT bd)).length ≤ (l.flatMap (nmT bd)).length := by
  have h : l.flatMap (nmT bd) = (l.take i).flatMap (nmT bd) ++ (l.drop i).flatMap (nmT bd) := by rw [← List.flatMap_append, List.take_append_drop]
  rw [h, List.length_append]; omega

theorem rl2 {n : Nat} {rl0 : List Nat} {st : List PBlk} (hn : n ≤ 2 ∨ 2 ∈ rl0) (hb : ∀ b, st[2]? = some b → b.m ≠ .p) : ∀ l ∈ [2], (n ≤ l ∨ l ∈ rl0) ∧ ∀ b, st[l]? = some b → b.m ≠ .p := fun l hl => by
  rw [List.mem_singleton] at hl; subst hl; exact ⟨hn, hb⟩
set_option maxRecDepth 10000 in
theorem named_spec (c0 : C) (bd : List Int) : ∀ t : T, t.Wf → ∀ xs : List Int, xs.length + (nmT bd t).length ≤ 1000000 →
    Spec gT 37 [tpv t, .sl 1 (intsP bd), .ptr 1 0] (sN c0 xs) [2] fun r S' => r = .tup [] ∧ S' = sN c0 (xs ++ nmT bd t) := T.ind' fun t ih hw xs hl => by
  have hnum : 0 ≤ t.num ∧ t.num ≤ 4294967295 := by cases t <;> simp only [T.Wf] at hw <;> first | exact hw | exact hw.1
  have hkw : ∀ x ∈ kidsL t, x.Wf := by cases t <;> simp [kidsL, T.Wf] at hw ⊢ <;> first | exact hw.2 | skip
  rw [nmT_eq, List.length_append] at hl
  rw [nmT_eq]
  obtain ⟨o, ho⟩ : ∃ o, ownN bd t.op t.num = o := ⟨_, rfl⟩
  rw [ho] at hl ⊢
  have el : (kidsP t).length = (kidsL t).length := by rw [kidsP_eq, List.length_map]
  have el3 : (kidsL t).length ≤ 2 := by cases t <;> simp [kidsL]
  have fl : ∀ i, ((((kidsL t).take i).flatMap (nmT bd)).length) ≤ ((kidsL t).flatMap (nmT bd)).length := flat_take_le bd _
  refine Spec.enterN gTok P37 100 Tryd.func37 rfl (by kernel_rfl) ?_
  refine And.intro (fun h1 => ?_) (fun h1 => ?_)
  · refine .inl ⟨inR_i64 (by omega), ?_⟩
    refine ⟨[], no_rl, (icontains_pure bd t.num).use (by repeat' first | exact trivial | exact rfl | exact Iff.rfl | exact Or.inl rfl | refine And.intro ?_ ?_) rfl rfl ?_⟩
    refine And.intro (fun h2 => ?_) (fun h2 => ?_)
    · refine .inl ⟨inR_i64 (by omega), ?_⟩
      refine ⟨show (intsP xs).length + 1 ≤ maxLen by rw [intsP_len]; unfold maxLen; omega, show ((intsP xs).length + 1) * 8 ≤ 140737488355328 by rw [intsP_len]; omega, ?_⟩
      intro hm
      refine SW.loopX gTok P37 (by kernel_rfl) (fun i : Nat => [(1, .sl 1 (intsP bd)), (2, .ptr 1 0), (30, .sl 3 (kidsP t)), (31, .int .i64 (kidsP t).length), (32, .int .i64 i)]) (fun i => sN c0 (xs ++ (o ++ ((kidsL t).take i).flatMap (nmT bd)))) (fun i => (kidsL t).length - i) 0 60 [some 0, some 1, some 5] ?_ fun i => ?_
      · repeat' first | exact trivial | exact rfl | exact Iff.rfl | refine And.intro ?_ ?_
        all_goals exact (show intsP xs ++ [PV.int .i64 t.num] = intsP _ by rw [← ho, ownN, if_pos ⟨h1, h2⟩, intsP_app, intsP_app]; rfl)
      refine And.intro (fun h => ?_) (fun h => ?_)
      · have h' : (i : Int) < ((kidsP t).length : Nat) := h
        rw [el] at h'
        refine ⟨T, kidsL t, tpv, kidsP_eq t, show (0 : Int) ≤ (i : Int) by omega, show (i : Int) < ((kidsL t).length : Int) by omega, fun x hx => ?_⟩
        have hx' : (kidsL t)[i]? = some x := hx
        have hm' := List.mem_of_getElem? hx'
        have e1 := nmT_take (bd := bd) hx'
        have l1 := fl (i + 1)
        rw [e1, List.length_append] at l1
        have hp := ih x hm' (hkw x hm') (xs ++ (o ++ ((kidsL t).take i).flatMap (nmT bd))) (by rw [List.length_append, List.length_append]; omega)
        refine ⟨[2], rl2 (.inr (by simp)) (by rintro b ⟨⟩; nofun), hp.useR rfl rfl rfl rfl rfl (by repeat' first | exact trivial | exact rfl | exact Iff.rfl | exact Or.inl rfl | refine And.intro ?_ ?_) (And.intro (by repeat' first | exact trivial | exact rfl | exact Iff.rfl | exact Or.inl rfl | refine And.intro ?_ ?_) (And.intro (by repeat' first | exact trivial | exact rfl | exact Iff.rfl | exact Or.inl rfl | refine And.intro ?_ ?_) (And.intro (by repeat' first | exact trivial | exact rfl | exact Iff.rfl | exact Or.inl rfl | refine And.intro ?_ ?_) (And.intro trivial ?_))))⟩
        refine .inl ⟨inR_i64 (show _ ≤ (i : Int) + 1 ∧ (i : Int) + 1 ≤ _ by omega), ⟨i + 1, [some 0, some 1, some 2], by omega, ?_⟩⟩
        repeat' first | exact trivial | exact rfl | exact Iff.rfl | refine And.intro ?_ ?_
        exact (show intsP _ = intsP _ by rw [e1]; simp only [List.append_assoc])
      · have h' : ¬ (i : Int) < ((kidsP t).length : Nat) := h
        rw [el] at h'
        rw [List.take_of_length_le (by omega)]
        refine Exists.intro [some 0, some 1, some 2] (Exists.intro [] (Exists.intro (sN c0 (xs ++ (o ++ (kidsL t).flatMap (nmT bd)))) (And.intro ?_ (And.intro (Nat.le_of_ble_eq_true rfl) (And.intro rfl rfl)))))
        repeat' first | exact trivial | exact rfl | exact Iff.rfl | refine And.intro ?_ ?_
    · have h2 : ¬ ¬ t.num ∈ bd := h2
      intro hm
      refine SW.loopX gTok P37 (by kernel_rfl) (fun i : Nat => [(1, .sl 1 (intsP bd)), (2, .ptr 1 0), (30, .sl 3 (kidsP t)), (31, .int .i64 (kidsP t).length), (32, .int .i64 i)]) (fun i => sN c0 (xs ++ (o ++ ((kidsL t).take i).flatMap (nmT bd)))) (fun i => (kidsL t).length - i) 0 60 [some 0, some 1, some 2] ?_ fun i => ?_
      · repeat' first | exact trivial | exact rfl | exact Iff.rfl | refine And.intro ?_ ?_
        all_goals exact (show intsP xs = intsP _ by rw [← ho, ownN, if_neg (by first | exact fun h => h1 h.1 | exact fun h => h2 h.2)]; simp)
      refine And.intro (fun h => ?_) (fun h => ?_)
      · have h' : (i : Int) < ((kidsP t).length : Nat) := h
        rw [el] at h'
        refine ⟨T, kidsL t, tpv, kidsP_eq t, show (0 : Int) ≤ (i : Int) by omega, show (i : Int) < ((kidsL t).length : Int) by omega, fun x hx => ?_⟩
        have hx' : (kidsL t)[i]? = some x := hx
        have hm' := List.mem_of_getElem? hx'
        have e1 := nmT_take (bd := bd) hx'
        have l1 := fl (i + 1)
        rw [e1, List.length_append] at l1
        have hp := ih x hm' (hkw x hm') (xs ++ (o ++ ((kidsL t).take i).flatMap (nmT bd))) (by rw [List.length_append, List.length_append]; omega)
        refine ⟨[2], rl2 (.inr (by simp)) (by rintro b ⟨⟩; nofun), hp.useR rfl rfl rfl rfl rfl (by repeat' first | exact trivial | exact rfl | exact Iff.rfl | exact Or.inl rfl | refine And.intro ?_ ?_) (And.intro (by repeat' first | exact trivial | exact rfl | exact Iff.rfl | exact Or.inl rfl | refine And.intro ?_ ?_) (And.intro (by repeat' first | exact trivial | exact rfl | exact Iff.rfl | exact Or.inl rfl | refine And.intro ?_ ?_) (And.intro (by repeat' first | exact trivial | exact rfl | exact Iff.rfl | exact Or.inl rfl | refine And.intro ?_ ?_) (And.intro trivial ?_))))⟩
        refine .inl ⟨inR_i64 (show _ ≤ (i : Int) + 1 ∧ (i : Int) + 1 ≤ _ by omega), ⟨i + 1, [some 0, some 1, some 2], by omega, ?_⟩⟩
        repeat' first | exact trivial | exact rfl | exact Iff.rfl | refine And.intro ?_ ?_
        exact (show intsP _ = intsP _ by rw [e1]; simp only [List.append_assoc])
      · have h' : ¬ (i : Int) < ((kidsP t).length : Nat) := h
        rw [el] at h'
        rw [List.take_of_length_le (by omega)]
        refine Exists.intro [some 0, some 1, some 2] (Exists.intro [] (Exists.intro (sN c0 (xs ++ (o ++ (kidsL t).flatMap (nmT bd)))) (And.intro ?_ (And.intro (Nat.le_of_ble_eq_true rfl) (And.intro rfl rfl)))))
        repeat' first | exact trivial | exact rfl | exact Iff.rfl | refine And.intro ?_ ?_
  · skip
    intro hm
    refine SW.loopX gTok P37 (by kernel_rfl) (fun i : Nat => [(1, .sl 1 (intsP bd)), (2, .ptr 1 0), (30, .sl 3 (kidsP t)), (31, .int .i64 (kidsP t).length), (32, .int .i64 i)]) (fun i => sN c0 (xs ++ (o ++ ((kidsL t).take i).flatMap (nmT bd)))) (fun i => (kidsL t).length - i) 0 60 [some 0, some 1, some 2] ?_ fun i => ?_
    · repeat' first | exact trivial | exact rfl | exact Iff.rfl | refine And.intro ?_ ?_
      all_goals exact (show intsP xs = intsP _ by rw [← ho, ownN, if_neg (by first | exact fun h => h1 h.1 | exact fun h => h2 h.2)]; simp)
    refine And.intro (fun h => ?_) (fun h => ?_)
    · have h' : (i : Int) < ((kidsP t).length : Nat) := h
      rw [el] at h'
      refine ⟨T, kidsL t, tpv, kidsP_eq t, show (0 : Int) ≤ (i : Int) by omega, show (i : Int) < ((kidsL t).length : Int) by omega, fun x hx => ?_⟩
      have hx' : (kidsL t)[i]? = some x := hx
      have hm' := List.mem_of_getElem? hx'
      have e1 := nmT_take (bd := bd) hx'
      have l1 := fl (i + 1)
      rw [e1, List.length_append] at l1
      have hp := ih x hm' (hkw x hm') (xs ++ (o ++ ((kidsL t).take i).flatMap (nmT bd))) (by rw [List.length_append, List.length_append]; omega)
      refine ⟨[2], rl2 (.inr (by simp)) (by rintro b ⟨⟩; nofun), hp.useR rfl rfl rfl rfl rfl (by repeat' first | exact trivial | exact rfl | exact Iff.rfl | exact Or.inl rfl | refine And.intro ?_ ?_) (And.intro (by repeat' first | exact trivial | exact rfl | exact Iff.rfl | exact Or.inl rfl | refine And.intro ?_ ?_) (And.intro (by repeat' first | exact trivial | exact rfl | exact Iff.rfl | exact Or.inl rfl | refine And.intro ?_ ?_) (And.intro (by repeat' first | exact trivial | exact rfl | exact Iff.rfl | exact Or.inl rfl | refine And.intro ?_ ?_) (And.intro trivial ?_))))⟩
      refine .inl ⟨inR_i64 (show _ ≤ (i : Int) + 1 ∧ (i : Int) + 1 ≤ _ by omega), ⟨i + 1, [some 0, some 1, some 2], by omega, ?_⟩⟩
      repeat' first | exact trivial | exact rfl | exact Iff.rfl | refine And.intro ?_ ?_
      exact (show intsP _ = intsP _ by rw [e1]; simp only [List.append_assoc])
    · have h' : ¬ (i : Int) < ((kidsP t).length : Nat) := h
      rw [el] at h'
      rw [List.take_of_length_le (by omega)]
      refine Exists.intro [some 0, some 1, some 2] (Exists.intro [] (Exists.intro (sN c0 (xs ++ (o ++ (kidsL t).flatMap (nmT bd)))) (And.intro ?_ (And.intro (Nat.le_of_ble_eq_true rfl) (And.intro rfl rfl)))))
      repeat' first | exact trivial | exact rfl | exact Iff.rfl | refine And.intro ?_ ?_

end Go.Proofs.YtfnjlkmhnhojpaaDoor.Pw

/- Chapter 21 over values: the words that a cost names: gather. -/
set_option linter.unusedVariables false
namespace Go.Proofs.YtfnjlkmhnhojpaaDoor.Pw
open Go Go.RowKit

/-- a list of words that are bound, nil where there is none -/
def BdP (b : PV) (bd : List Int) : Prop := (b = .nil ∧ bd = []) ∨ (b = .sl 1 (intsP bd) ∧ bd ≠ [])
theorem clone_new (b : PV) (bd : List Int) (h : BdP b bd) (hl : bd.length ≤ 1000000) : Spec gT 38 [b] [] [] fun r S' => r = .wref 0 ∧ S' = [dI (intsP bd)] := by
  rcases h with ⟨rfl, rfl⟩ | ⟨rfl, hne⟩
  · refine Spec.enterN gTok P38 100 Tryd.func38 rfl (by kernel_rfl) ?_
    refine Exists.intro [none] (Exists.intro [(2, .wref 0)] (Exists.intro [dI (intsP [])] (And.intro ?_ (And.intro (Nat.le_of_ble_eq_true rfl) (And.intro rfl rfl)))))
    repeat' first | exact trivial | exact rfl | exact Iff.rfl | refine And.intro ?_ ?_
  · refine Spec.enterN gTok P38 100 Tryd.func38 rfl (by kernel_rfl) ?_
    have h1 : (intsP bd).length ≠ 0 := by rw [intsP_len]; intro e; exact hne (List.eq_nil_of_length_eq_zero e)
    refine And.intro h1 ?_
    refine ⟨show 0 + (intsP bd).length ≤ maxLen by rw [intsP_len]; unfold maxLen; omega, show (0 + (intsP bd).length) * 8 ≤ 140737488355328 by rw [intsP_len]; omega, ?_⟩
    refine Exists.intro [some 1] (Exists.intro [(2, .wref 0)] (Exists.intro [dI (intsP bd)] (And.intro ?_ (And.intro (Nat.le_of_ble_eq_true rfl) (And.intro rfl rfl)))))
    repeat' first | exact trivial | exact rfl | exact Iff.rfl | refine And.intro ?_ ?_
theorem gaL_take {bd : List Int} {l : List C} {x : C} {i : Nat} (h : l[i]? = some x) : gaL bd (l.take (i + 1)) = gaL bd (l.take i) ++ gaC bd x := by
  rw [List.take_add_one, h, gaL_append]
  show _ ++ (gaC bd x ++ []) = _
  rw [List.append_nil]
theorem gaL_take_le (bd : List Int) (l : List C) (i : Nat) : (gaL bd (l.take i)).length ≤ (gaL bd l).length := by
  have h := gaL_append bd (l.take i) (l.drop i)
  rw [List.take_append_drop] at h
  rw [h, List.length_append]; omega
theorem cN_mem {c x : C} (h : x ∈ c.l) : cN x + 1 ≤ cN c := by
  have h1 := cN_eq c
  have h2 : ∀ {l : List C}, x ∈ l → cN x ≤ cNL l := by
    intro l
    induction l with
    | nil => intro h; simp at h
    | cons y l ih =>
      intro h
      rw [cNL]
      rcases List.mem_cons.1 h with rfl | h
      · omega
      · have := ih h; omega
  have := h2 h
  omega

set_option maxHeartbeats 4000000 in
set_option maxRecDepth 10000 in
theorem gather_spec (c0 : C) : ∀ c : C, c.Wf → ∀ (bd : List Int) (b : PV), BdP b bd → bd.length + cN c ≤ 1000000 → c.l.length ≤ 1000000 → ∀ xs : List Int, xs.length + (gaC bd c).length ≤ 1000000 →
    Spec gT 20 [cpv c, b, .ptr 1 0] (sN c0 xs) [2] fun r S' => r = .tup [] ∧ S' = sN c0 (xs ++ gaC bd c) := C.ind' fun c ih hw bd b hb hN hcl xs hl => by
  obtain ⟨ha, hbw, hwl⟩ := (C.wf_iff c).1 hw
  have hcl2 : ∀ x ∈ c.l, x.l.length ≤ 1000000 := fun x hx => by
    have h1 := cN_mem hx; have h2 := cNL_len x.l; have h3 := cN_eq x; omega
  rw [gaC_eq] at hl ⊢
  simp only [List.length_append] at hl
  have el : (kidsC c).length = c.l.length := by rw [kidsC_eq, List.length_map]
  have hc := clone_new b bd hb (by have := cN_pos c; omega)
  have hbo := hb
  rcases hb with ⟨rfl, rfl⟩ | ⟨rfl, hne⟩
  · have hA := named_spec c0 [] c.a ha xs (by omega)
    have hB := named_spec c0 [] c.b hbw (xs ++ nmT [] c.a) (by simp only [List.length_append]; omega)
    refine Spec.enterN gTok P20 100 Tryd.func20 rfl (by kernel_rfl) ?_
    refine ⟨[2], rl2 (.inr (by simp)) (by rintro b ⟨⟩; nofun), hA.useR rfl rfl rfl rfl rfl (by repeat' first | exact trivial | exact rfl | exact Iff.rfl | exact Or.inl rfl | refine And.intro ?_ ?_) (And.intro (by repeat' first | exact trivial | exact rfl | exact Iff.rfl | exact Or.inl rfl | refine And.intro ?_ ?_) (And.intro (by repeat' first | exact trivial | exact rfl | exact Iff.rfl | exact Or.inl rfl | refine And.intro ?_ ?_) (And.intro (by repeat' first | exact trivial | exact rfl | exact Iff.rfl | exact Or.inl rfl | refine And.intro ?_ ?_) (And.intro trivial ?_))))⟩
    refine ⟨[2], rl2 (.inr (by simp)) (by rintro b ⟨⟩; nofun), hB.useR rfl rfl rfl rfl rfl (by repeat' first | exact trivial | exact rfl | exact Iff.rfl | exact Or.inl rfl | refine And.intro ?_ ?_) (And.intro (by repeat' first | exact trivial | exact rfl | exact Iff.rfl | exact Or.inl rfl | refine And.intro ?_ ?_) (And.intro (by repeat' first | exact trivial | exact rfl | exact Iff.rfl | exact Or.inl rfl | refine And.intro ?_ ?_) (And.intro (by repeat' first | exact trivial | exact rfl | exact Iff.rfl | exact Or.inl rfl | refine And.intro ?_ ?_) (And.intro trivial ?_))))⟩
    refine And.intro (fun h1 => ?_) (fun h1 => ?_)
    · have e4 : bdC [] c = [] ++ [c.word] := if_pos h1
      rw [e4] at hl ⊢
      have hbl : ([] : List Int).length ≤ 1000000 := by have := cN_pos c; omega
      refine And.intro ?_ (And.intro ?_ trivial)
      · refine ⟨[], no_rl, hc.useNew rfl rfl rfl (by repeat' first | exact trivial | exact rfl | exact Iff.rfl | exact Or.inl rfl | refine And.intro ?_ ?_) rfl ?_⟩
        refine ⟨show (intsP []).length + 1 ≤ maxLen by rw [intsP_len]; unfold maxLen; omega, show ((intsP []).length + 1) * 8 ≤ 140737488355328 by rw [intsP_len]; omega, ?_⟩
        have gl : ∀ i, (gaL ([] ++ [c.word]) (c.l.take i)).length ≤ (gaL ([] ++ [c.word]) c.l).length := gaL_take_le _ _
        refine fun hm => ?_
        refine SW.sub (Sub.freeze [6] rfl) ?_
        refine SW.loopX gTok P20 (by kernel_rfl) (fun i : Nat => [(1, .sl 1 (intsP ([] ++ [c.word]))), (2, .ptr 1 0), (28, .sl 12 (kidsC c)), (29, .int .i64 (kidsC c).length), (30, .int .i64 i)]) (fun i => sN c0 (xs ++ nmT [] c.a ++ nmT [] c.b ++ gaL ([] ++ [c.word]) (c.l.take i))) (fun i => c.l.length - i) 0 60 [some 0, some 1, some 2] ?_ fun i => ?_
        · repeat' first | exact trivial | exact rfl | exact Iff.rfl | refine And.intro ?_ ?_
          all_goals first | exact (show intsP bd ++ [PV.int .i64 c.word] = intsP (bd ++ [c.word]) by rw [intsP_app]; rfl) | exact (show intsP _ = intsP _ by rw [List.take_zero, gaL, List.append_nil])
        refine And.intro (fun h => ?_) (fun h => ?_)
        · have h' : (i : Int) < ((kidsC c).length : Nat) := h
          rw [el] at h'
          refine ⟨C, c.l, cpv, kidsC_eq c, show (0 : Int) ≤ (i : Int) by omega, show (i : Int) < (c.l.length : Int) by omega, fun x hx => ?_⟩
          have hx' : c.l[i]? = some x := hx
          have hm' := List.mem_of_getElem? hx'
          have e1 := gaL_take (bd := [] ++ [c.word]) hx'
          have l1 := gl (i + 1)
          rw [e1, List.length_append] at l1
          have hxN := cN_mem hm'
          have hp := ih x hm' (wfL_all hwl x hm') ([] ++ [c.word]) (.sl 1 (intsP ([] ++ [c.word]))) (.inr ⟨rfl, by simp⟩) (by first | omega | (simp only [List.length_append, List.length_cons, List.length_nil] at hN ⊢; omega)) (hcl2 x hm') (xs ++ nmT [] c.a ++ nmT [] c.b ++ gaL ([] ++ [c.word]) (c.l.take i)) (by simp only [List.length_append]; omega)
          refine ⟨[2], rl2 (.inr (by simp)) (by rintro b ⟨⟩; nofun), hp.useR rfl rfl rfl rfl rfl (by repeat' first | exact trivial | exact rfl | exact Iff.rfl | exact Or.inl rfl | refine And.intro ?_ ?_) (And.intro (by repeat' first | exact trivial | exact rfl | exact Iff.rfl | exact Or.inl rfl | refine And.intro ?_ ?_) (And.intro (by repeat' first | exact trivial | exact rfl | exact Iff.rfl | exact Or.inl rfl | refine And.intro ?_ ?_) (And.intro (by repeat' first | exact trivial | exact rfl | exact Iff.rfl | exact Or.inl rfl | refine And.intro ?_ ?_) (And.intro trivial ?_))))⟩
          refine .inl ⟨inR_i64 (show _ ≤ (i : Int) + 1 ∧ (i : Int) + 1 ≤ _ by omega), ⟨i + 1, [some 0, some 1, some 2], by omega, ?_⟩⟩
          repeat' first | exact trivial | exact rfl | exact Iff.rfl | refine And.intro ?_ ?_
          exact (show intsP _ = intsP _ by rw [e1]; simp only [List.append_assoc])
        · have h' : ¬ (i : Int) < ((kidsC c).length : Nat) := h
          rw [el] at h'
          rw [List.take_of_length_le (by omega)]
          refine Exists.intro [some 0, some 1, some 2] (Exists.intro [] (Exists.intro (sN c0 (xs ++ (nmT [] c.a ++ nmT [] c.b ++ gaL ([] ++ [c.word]) c.l))) (And.intro ?_ (And.intro (Nat.le_of_ble_eq_true rfl) (And.intro rfl rfl)))))
          repeat' first | exact trivial | exact rfl | exact Iff.rfl | refine And.intro ?_ ?_
          all_goals exact (show intsP _ = intsP _ by simp only [List.append_assoc])
      · refine ⟨[], no_rl, hc.useNew rfl rfl rfl (by repeat' first | exact trivial | exact rfl | exact Iff.rfl | exact Or.inl rfl | refine And.intro ?_ ?_) rfl ?_⟩
        refine ⟨show (intsP []).length + 1 ≤ maxLen by rw [intsP_len]; unfold maxLen; omega, show ((intsP []).length + 1) * 8 ≤ 140737488355328 by rw [intsP_len]; omega, ?_⟩
        have gl : ∀ i, (gaL ([] ++ [c.word]) (c.l.take i)).length ≤ (gaL ([] ++ [c.word]) c.l).length := gaL_take_le _ _
        refine fun hm => ?_
        refine SW.sub (Sub.freeze [6] rfl) ?_
        refine SW.loopX gTok P20 (by kernel_rfl) (fun i : Nat => [(1, .sl 1 (intsP ([] ++ [c.word]))), (2, .ptr 1 0), (28, .sl 12 (kidsC c)), (29, .int .i64 (kidsC c).length), (30, .int .i64 i)]) (fun i => sN c0 (xs ++ nmT [] c.a ++ nmT [] c.b ++ gaL ([] ++ [c.word]) (c.l.take i))) (fun i => c.l.length - i) 0 60 [some 0, some 1, some 2] ?_ fun i => ?_
        · repeat' first | exact trivial | exact rfl | exact Iff.rfl | refine And.intro ?_ ?_
          all_goals first | exact (show intsP bd ++ [PV.int .i64 c.word] = intsP (bd ++ [c.word]) by rw [intsP_app]; rfl) | exact (show intsP _ = intsP _ by rw [List.take_zero, gaL, List.append_nil])
        refine And.intro (fun h => ?_) (fun h => ?_)
        · have h' : (i : Int) < ((kidsC c).length : Nat) := h
          rw [el] at h'
          refine ⟨C, c.l, cpv, kidsC_eq c, show (0 : Int) ≤ (i : Int) by omega, show (i : Int) < (c.l.length : Int) by omega, fun x hx => ?_⟩
          have hx' : c.l[i]? = some x := hx
          have hm' := List.mem_of_getElem? hx'
          have e1 := gaL_take (bd := [] ++ [c.word]) hx'
          have l1 := gl (i + 1)
          rw [e1, List.length_append] at l1
          have hxN := cN_mem hm'
          have hp := ih x hm' (wfL_all hwl x hm') ([] ++ [c.word]) (.sl 1 (intsP ([] ++ [c.word]))) (.inr ⟨rfl, by simp⟩) (by first | omega | (simp only [List.length_append, List.length_cons, List.length_nil] at hN ⊢; omega)) (hcl2 x hm') (xs ++ nmT [] c.a ++ nmT [] c.b ++ gaL ([] ++ [c.word]) (c.l.take i)) (by simp only [List.length_append]; omega)
          refine ⟨[2], rl2 (.inr (by simp)) (by rintro b ⟨⟩; nofun), hp.useR rfl rfl rfl rfl rfl (by repeat' first | exact trivial | exact rfl | exact Iff.rfl | exact Or.inl rfl | refine And.intro ?_ ?_) (And.intro (by repeat' first | exact trivial | exact rfl | exact Iff.rfl | exact Or.inl rfl | refine And.intro ?_ ?_) (And.intro (by repeat' first | exact trivial | exact rfl | exact Iff.rfl | exact Or.inl rfl | refine And.intro ?_ ?_) (And.intro (by repeat' first | exact trivial | exact rfl | exact Iff.rfl | exact Or.inl rfl | refine And.intro ?_ ?_) (And.intro trivial ?_))))⟩
          refine .inl ⟨inR_i64 (show _ ≤ (i : Int) + 1 ∧ (i : Int) + 1 ≤ _ by omega), ⟨i + 1, [some 0, some 1, some 2], by omega, ?_⟩⟩
          repeat' first | exact trivial | exact rfl | exact Iff.rfl | refine And.intro ?_ ?_
          exact (show intsP _ = intsP _ by rw [e1]; simp only [List.append_assoc])
        · have h' : ¬ (i : Int) < ((kidsC c).length : Nat) := h
          rw [el] at h'
          rw [List.take_of_length_le (by omega)]
          refine Exists.intro [some 0, some 1, some 2] (Exists.intro [] (Exists.intro (sN c0 (xs ++ (nmT [] c.a ++ nmT [] c.b ++ gaL ([] ++ [c.word]) c.l))) (And.intro ?_ (And.intro (Nat.le_of_ble_eq_true rfl) (And.intro rfl rfl)))))
          repeat' first | exact trivial | exact rfl | exact Iff.rfl | refine And.intro ?_ ?_
          all_goals exact (show intsP _ = intsP _ by simp only [List.append_assoc])
    · have e4 : bdC [] c = [] := if_neg h1
      rw [e4] at hl ⊢
      have gl : ∀ i, (gaL ([]) (c.l.take i)).length ≤ (gaL ([]) c.l).length := gaL_take_le _ _
      refine fun hm => ?_
      refine SW.loopX gTok P20 (by kernel_rfl) (fun i : Nat => [(1, .nil), (2, .ptr 1 0), (28, .sl 12 (kidsC c)), (29, .int .i64 (kidsC c).length), (30, .int .i64 i)]) (fun i => sN c0 (xs ++ nmT [] c.a ++ nmT [] c.b ++ gaL ([]) (c.l.take i))) (fun i => c.l.length - i) 0 60 [some 0, some 1, some 2] ?_ fun i => ?_
      · repeat' first | exact trivial | exact rfl | exact Iff.rfl | refine And.intro ?_ ?_
        all_goals first | exact (show intsP bd ++ [PV.int .i64 c.word] = intsP (bd ++ [c.word]) by rw [intsP_app]; rfl) | exact (show intsP _ = intsP _ by rw [List.take_zero, gaL, List.append_nil])
      refine And.intro (fun h => ?_) (fun h => ?_)
      · have h' : (i : Int) < ((kidsC c).length : Nat) := h
        rw [el] at h'
        refine ⟨C, c.l, cpv, kidsC_eq c, show (0 : Int) ≤ (i : Int) by omega, show (i : Int) < (c.l.length : Int) by omega, fun x hx => ?_⟩
        have hx' : c.l[i]? = some x := hx
        have hm' := List.mem_of_getElem? hx'
        have e1 := gaL_take (bd := []) hx'
        have l1 := gl (i + 1)
        rw [e1, List.length_append] at l1
        have hxN := cN_mem hm'
        have hp := ih x hm' (wfL_all hwl x hm') ([]) (.nil) hbo (by first | omega | (simp only [List.length_append, List.length_cons, List.length_nil] at hN ⊢; omega)) (hcl2 x hm') (xs ++ nmT [] c.a ++ nmT [] c.b ++ gaL ([]) (c.l.take i)) (by simp only [List.length_append]; omega)
        refine ⟨[2], rl2 (.inr (by simp)) (by rintro b ⟨⟩; nofun), hp.useR rfl rfl rfl rfl rfl (by repeat' first | exact trivial | exact rfl | exact Iff.rfl | exact Or.inl rfl | refine And.intro ?_ ?_) (And.intro (by repeat' first | exact trivial | exact rfl | exact Iff.rfl | exact Or.inl rfl | refine And.intro ?_ ?_) (And.intro (by repeat' first | exact trivial | exact rfl | exact Iff.rfl | exact Or.inl rfl | refine And.intro ?_ ?_) (And.intro (by repeat' first | exact trivial | exact rfl | exact Iff.rfl | exact Or.inl rfl | refine And.intro ?_ ?_) (And.intro trivial ?_))))⟩
        refine .inl ⟨inR_i64 (show _ ≤ (i : Int) + 1 ∧ (i : Int) + 1 ≤ _ by omega), ⟨i + 1, [some 0, some 1, some 2], by omega, ?_⟩⟩
        repeat' first | exact trivial | exact rfl | exact Iff.rfl | refine And.intro ?_ ?_
        exact (show intsP _ = intsP _ by rw [e1]; simp only [List.append_assoc])
      · have h' : ¬ (i : Int) < ((kidsC c).length : Nat) := h
        rw [el] at h'
        rw [List.take_of_length_le (by omega)]
        refine Exists.intro [some 0, some 1, some 2] (Exists.intro [] (Exists.intro (sN c0 (xs ++ (nmT [] c.a ++ nmT [] c.b ++ gaL ([]) c.l))) (And.intro ?_ (And.intro (Nat.le_of_ble_eq_true rfl) (And.intro rfl rfl)))))
        repeat' first | exact trivial | exact rfl | exact Iff.rfl | refine And.intro ?_ ?_
        all_goals exact (show intsP _ = intsP _ by simp only [List.append_assoc])
  · have hA := named_spec c0 bd c.a ha xs (by omega)
    have hB := named_spec c0 bd c.b hbw (xs ++ nmT bd c.a) (by simp only [List.length_append]; omega)
    refine Spec.enterN gTok P20 100 Tryd.func20 rfl (by kernel_rfl) ?_
    refine ⟨[2], rl2 (.inr (by simp)) (by rintro b ⟨⟩; nofun), hA.useR rfl rfl rfl rfl rfl (by repeat' first | exact trivial | exact rfl | exact Iff.rfl | exact Or.inl rfl | refine And.intro ?_ ?_) (And.intro (by repeat' first | exact trivial | exact rfl | exact Iff.rfl | exact Or.inl rfl | refine And.intro ?_ ?_) (And.intro (by repeat' first | exact trivial | exact rfl | exact Iff.rfl | exact Or.inl rfl | refine And.intro ?_ ?_) (And.intro (by repeat' first | exact trivial | exact rfl | exact Iff.rfl | exact Or.inl rfl | refine And.intro ?_ ?_) (And.intro trivial ?_))))⟩
    refine ⟨[2], rl2 (.inr (by simp)) (by rintro b ⟨⟩; nofun), hB.useR rfl rfl rfl rfl rfl (by repeat' first | exact trivial | exact rfl | exact Iff.rfl | exact Or.inl rfl | refine And.intro ?_ ?_) (And.intro (by repeat' first | exact trivial | exact rfl | exact Iff.rfl | exact Or.inl rfl | refine And.intro ?_ ?_) (And.intro (by repeat' first | exact trivial | exact rfl | exact Iff.rfl | exact Or.inl rfl | refine And.intro ?_ ?_) (And.intro (by repeat' first | exact trivial | exact rfl | exact Iff.rfl | exact Or.inl rfl | refine And.intro ?_ ?_) (And.intro trivial ?_))))⟩
    refine And.intro (fun h1 => ?_) (fun h1 => ?_)
    · have e4 : bdC bd c = bd ++ [c.word] := if_pos h1
      rw [e4] at hl ⊢
      have hbl : (bd : List Int).length ≤ 1000000 := by have := cN_pos c; omega
      refine And.intro ?_ (And.intro ?_ trivial)
      · refine ⟨[], no_rl, hc.useNew rfl rfl rfl (by repeat' first | exact trivial | exact rfl | exact Iff.rfl | exact Or.inl rfl | refine And.intro ?_ ?_) rfl ?_⟩
        refine ⟨show (intsP bd).length + 1 ≤ maxLen by rw [intsP_len]; unfold maxLen; omega, show ((intsP bd).length + 1) * 8 ≤ 140737488355328 by rw [intsP_len]; omega, ?_⟩
        have gl : ∀ i, (gaL (bd ++ [c.word]) (c.l.take i)).length ≤ (gaL (bd ++ [c.word]) c.l).length := gaL_take_le _ _
        refine fun hm => ?_
        refine SW.sub (Sub.freeze [6] rfl) ?_
        refine SW.loopX gTok P20 (by kernel_rfl) (fun i : Nat => [(1, .sl 1 (intsP (bd ++ [c.word]))), (2, .ptr 1 0), (28, .sl 12 (kidsC c)), (29, .int .i64 (kidsC c).length), (30, .int .i64 i)]) (fun i => sN c0 (xs ++ nmT bd c.a ++ nmT bd c.b ++ gaL (bd ++ [c.word]) (c.l.take i))) (fun i => c.l.length - i) 0 60 [some 0, some 1, some 2] ?_ fun i => ?_
        · repeat' first | exact trivial | exact rfl | exact Iff.rfl | refine And.intro ?_ ?_
          all_goals first | exact (show intsP bd ++ [PV.int .i64 c.word] = intsP (bd ++ [c.word]) by rw [intsP_app]; rfl) | exact (show intsP _ = intsP _ by rw [List.take_zero, gaL, List.append_nil])
        refine And.intro (fun h => ?_) (fun h => ?_)
        · have h' : (i : Int) < ((kidsC c).length : Nat) := h
          rw [el] at h'
          refine ⟨C, c.l, cpv, kidsC_eq c, show (0 : Int) ≤ (i : Int) by omega, show (i : Int) < (c.l.length : Int) by omega, fun x hx => ?_⟩
          have hx' : c.l[i]? = some x := hx
          have hm' := List.mem_of_getElem? hx'
          have e1 := gaL_take (bd := bd ++ [c.word]) hx'
          have l1 := gl (i + 1)
          rw [e1, List.length_append] at l1
          have hxN := cN_mem hm'
          have hp := ih x hm' (wfL_all hwl x hm') (bd ++ [c.word]) (.sl 1 (intsP (bd ++ [c.word]))) (.inr ⟨rfl, by simp⟩) (by first | omega | (simp only [List.length_append, List.length_cons, List.length_nil] at hN ⊢; omega)) (hcl2 x hm') (xs ++ nmT bd c.a ++ nmT bd c.b ++ gaL (bd ++ [c.word]) (c.l.take i)) (by simp only [List.length_append]; omega)
          refine ⟨[2], rl2 (.inr (by simp)) (by rintro b ⟨⟩; nofun), hp.useR rfl rfl rfl rfl rfl (by repeat' first | exact trivial | exact rfl | exact Iff.rfl | exact Or.inl rfl | refine And.intro ?_ ?_) (And.intro (by repeat' first | exact trivial | exact rfl | exact Iff.rfl | exact Or.inl rfl | refine And.intro ?_ ?_) (And.intro (by repeat' first | exact trivial | exact rfl | exact Iff.rfl | exact Or.inl rfl | refine And.intro ?_ ?_) (And.intro (by repeat' first | exact trivial | exact rfl | exact Iff.rfl | exact Or.inl rfl | refine And.intro ?_ ?_) (And.intro trivial ?_))))⟩
          refine .inl ⟨inR_i64 (show _ ≤ (i : Int) + 1 ∧ (i : Int) + 1 ≤ _ by omega), ⟨i + 1, [some 0, some 1, some 2], by omega, ?_⟩⟩
          repeat' first | exact trivial | exact rfl | exact Iff.rfl | refine And.intro ?_ ?_
          exact (show intsP _ = intsP _ by rw [e1]; simp only [List.append_assoc])
        · have h' : ¬ (i : Int) < ((kidsC c).length : Nat) := h
          rw [el] at h'
          rw [List.take_of_length_le (by omega)]
          refine Exists.intro [some 0, some 1, some 2] (Exists.intro [] (Exists.intro (sN c0 (xs ++ (nmT bd c.a ++ nmT bd c.b ++ gaL (bd ++ [c.word]) c.l))) (And.intro ?_ (And.intro (Nat.le_of_ble_eq_true rfl) (And.intro rfl rfl)))))
          repeat' first | exact trivial | exact rfl | exact Iff.rfl | refine And.intro ?_ ?_
          all_goals exact (show intsP _ = intsP _ by simp only [List.append_assoc])
      · refine ⟨[], no_rl, hc.useNew rfl rfl rfl (by repeat' first | exact trivial | exact rfl | exact Iff.rfl | exact Or.inl rfl | refine And.intro ?_ ?_) rfl ?_⟩
        refine ⟨show (intsP bd).length + 1 ≤ maxLen by rw [intsP_len]; unfold maxLen; omega, show ((intsP bd).length + 1) * 8 ≤ 140737488355328 by rw [intsP_len]; omega, ?_⟩
        have gl : ∀ i, (gaL (bd ++ [c.word]) (c.l.take i)).length ≤ (gaL (bd ++ [c.word]) c.l).length := gaL_take_le _ _
        refine fun hm => ?_
        refine SW.sub (Sub.freeze [6] rfl) ?_
        refine SW.loopX gTok P20 (by kernel_rfl) (fun i : Nat => [(1, .sl 1 (intsP (bd ++ [c.word]))), (2, .ptr 1 0), (28, .sl 12 (kidsC c)), (29, .int .i64 (kidsC c).length), (30, .int .i64 i)]) (fun i => sN c0 (xs ++ nmT bd c.a ++ nmT bd c.b ++ gaL (bd ++ [c.word]) (c.l.take i))) (fun i => c.l.length - i) 0 60 [some 0, some 1, some 2] ?_ fun i => ?_
        · repeat' first | exact trivial | exact rfl | exact Iff.rfl | refine And.intro ?_ ?_
          all_goals first | exact (show intsP bd ++ [PV.int .i64 c.word] = intsP (bd ++ [c.word]) by rw [intsP_app]; rfl) | exact (show intsP _ = intsP _ by rw [List.take_zero, gaL, List.append_nil])
        refine And.intro (fun h => ?_) (fun h => ?_)
        · have h' : (i : Int) < ((kidsC c).length : Nat) := h
          rw [el] at h'
          refine ⟨C, c.l, cpv, kidsC_eq c, show (0 : Int) ≤ (i : Int) by omega, show (i : Int) < (c.l.length : Int) by omega, fun x hx => ?_⟩
          have hx' : c.l[i]? = some x := hx
          have hm' := List.mem_of_getElem? hx'
          have e1 := gaL_take (bd := bd ++ [c.word]) hx'
          have l1 := gl (i + 1)
          rw [e1, List.length_append] at l1
          have hxN := cN_mem hm'
          have hp := ih x hm' (wfL_all hwl x hm') (bd ++ [c.word]) (.sl 1 (intsP (bd ++ [c.word]))) (.inr ⟨rfl, by simp⟩) (by first | omega | (simp only [List.length_append, List.length_cons, List.length_nil] at hN ⊢; omega)) (hcl2 x hm') (xs ++ nmT bd c.a ++ nmT bd c.b ++ gaL (bd ++ [c.word]) (c.l.take i)) (by simp only [List.length_append]; omega)
          refine ⟨[2], rl2 (.inr (by simp)) (by rintro b ⟨⟩; nofun), hp.useR rfl rfl rfl rfl rfl (by repeat' first | exact trivial | exact rfl | exact Iff.rfl | exact Or.inl rfl | refine And.intro ?_ ?_) (And.intro (by repeat' first | exact trivial | exact rfl | exact Iff.rfl | exact Or.inl rfl | refine And.intro ?_ ?_) (And.intro (by repeat' first | exact trivial | exact rfl | exact Iff.rfl | exact Or.inl rfl | refine And.intro ?_ ?_) (And.intro (by repeat' first | exact trivial | exact rfl | exact Iff.rfl | exact Or.inl rfl | refine And.intro ?_ ?_) (And.intro trivial ?_))))⟩
          refine .inl ⟨inR_i64 (show _ ≤ (i : Int) + 1 ∧ (i : Int) + 1 ≤ _ by omega), ⟨i + 1, [some 0, some 1, some 2], by omega, ?_⟩⟩
          repeat' first | exact trivial | exact rfl | exact Iff.rfl | refine And.intro ?_ ?_
          exact (show intsP _ = intsP _ by rw [e1]; simp only [List.append_assoc])
        · have h' : ¬ (i : Int) < ((kidsC c).length : Nat) := h
          rw [el] at h'
          rw [List.take_of_length_le (by omega)]
          refine Exists.intro [some 0, some 1, some 2] (Exists.intro [] (Exists.intro (sN c0 (xs ++ (nmT bd c.a ++ nmT bd c.b ++ gaL (bd ++ [c.word]) c.l))) (And.intro ?_ (And.intro (Nat.le_of_ble_eq_true rfl) (And.intro rfl rfl)))))
          repeat' first | exact trivial | exact rfl | exact Iff.rfl | refine And.intro ?_ ?_
          all_goals exact (show intsP _ = intsP _ by simp only [List.append_assoc])
    · have e4 : bdC bd c = bd := if_neg h1
      rw [e4] at hl ⊢
      have gl : ∀ i, (gaL (bd) (c.l.take i)).length ≤ (gaL (bd) c.l).length := gaL_take_le _ _
      refine fun hm => ?_
      refine SW.loopX gTok P20 (by kernel_rfl) (fun i : Nat => [(1, .sl 1 (intsP bd)), (2, .ptr 1 0), (28, .sl 12 (kidsC c)), (29, .int .i64 (kidsC c).length), (30, .int .i64 i)]) (fun i => sN c0 (xs ++ nmT bd c.a ++ nmT bd c.b ++ gaL (bd) (c.l.take i))) (fun i => c.l.length - i) 0 60 [some 0, some 1, some 2] ?_ fun i => ?_
      · repeat' first | exact trivial | exact rfl | exact Iff.rfl | refine And.intro ?_ ?_
        all_goals first | exact (show intsP bd ++ [PV.int .i64 c.word] = intsP (bd ++ [c.word]) by rw [intsP_app]; rfl) | exact (show intsP _ = intsP _ by rw [List.take_zero, gaL, List.append_nil])
      refine And.intro (fun h => ?_) (fun h => ?_)
      · have h' : (i : Int) < ((kidsC c).length : Nat) := h
        rw [el] at h'
        refine ⟨C, c.l, cpv, kidsC_eq c, show (0 : Int) ≤ (i : Int) by omega, show (i : Int) < (c.l.length : Int) by omega, fun x hx => ?_⟩
        have hx' : c.l[i]? = some x := hx
        have hm' := List.mem_of_getElem? hx'
        have e1 := gaL_take (bd := bd) hx'
        have l1 := gl (i + 1)
        rw [e1, List.length_append] at l1
        have hxN := cN_mem hm'
        have hp := ih x hm' (wfL_all hwl x hm') (bd) (.sl 1 (intsP bd)) hbo (by first | omega | (simp only [List.length_append, List.length_cons, List.length_nil] at hN ⊢; omega)) (hcl2 x hm') (xs ++ nmT bd c.a ++ nmT bd c.b ++ gaL (bd) (c.l.take i)) (by simp only [List.length_append]; omega)
        refine ⟨[2], rl2 (.inr (by simp)) (by rintro b ⟨⟩; nofun), hp.useR rfl rfl rfl rfl rfl (by repeat' first | exact trivial | exact rfl | exact Iff.rfl | exact Or.inl rfl | refine And.intro ?_ ?_) (And.intro (by repeat' first | exact trivial | exact rfl | exact Iff.rfl | exact Or.inl rfl | refine And.intro ?_ ?_) (And.intro (by repeat' first | exact trivial | exact rfl | exact Iff.rfl | exact Or.inl rfl | refine And.intro ?_ ?_) (And.intro (by repeat' first | exact trivial | exact rfl | exact Iff.rfl | exact Or.inl rfl | refine And.intro ?_ ?_) (And.intro trivial ?_))))⟩
        refine .inl ⟨inR_i64 (show _ ≤ (i : Int) + 1 ∧ (i : Int) + 1 ≤ _ by omega), ⟨i + 1, [some 0, some 1, some 2], by omega, ?_⟩⟩
        repeat' first | exact trivial | exact rfl | exact Iff.rfl | refine And.intro ?_ ?_
        exact (show intsP _ = intsP _ by rw [e1]; simp only [List.append_assoc])
      · have h' : ¬ (i : Int) < ((kidsC c).length : Nat) := h
        rw [el] at h'
        rw [List.take_of_length_le (by omega)]
        refine Exists.intro [some 0, some 1, some 2] (Exists.intro [] (Exists.intro (sN c0 (xs ++ (nmT bd c.a ++ nmT bd c.b ++ gaL (bd) c.l))) (And.intro ?_ (And.intro (Nat.le_of_ble_eq_true rfl) (And.intro rfl rfl)))))
        repeat' first | exact trivial | exact rfl | exact Iff.rfl | refine And.intro ?_ ?_
        all_goals exact (show intsP _ = intsP _ by simp only [List.append_assoc])

end Go.Proofs.YtfnjlkmhnhojpaaDoor.Pw

/- Contracts of library functions, laid at this program. Written by a program (mklay.py) off the given program; no condition. -/
namespace Go.Proofs.YtfnjlkmhnhojpaaDoor.Pw
open Go Go.RowKit Go.Proofs

def laidSort_ren : Go.Shelf.Ren := ⟨fun | 5 => 21 | 8 => 40 | 7 => 39 | 19 => 57 | 20 => 58 | 10 => 48 | 11 => 49 | 12 => 50 | 13 => 51 | 14 => 52 | 15 => 53 | 16 => 54 | 17 => 55 | 18 => 56 | 30 => 68 | 31 => 69 | 32 => 70 | 33 => 71 | 34 => 72 | 35 => 73 | 40 => 78 | n => n, fun | 23 => 40 | 25 => 3 | 3 => 3 | 32 => 78 | 22 => 40 | 0 => 0 | 44 => 25 | 46 => 35 | 4 => 4 | 36 => 88 | 35 => 87 | 41 => 93 | 5 => 5 | 9 => 9 | 53 => 103 | 57 => 46 | 63 => 112 | 64 => 113 | n => n, fun | n => n⟩
theorem laidSort : Go.Proofs.SlLaysM.n5 Tryd.prog laidSort_ren where
  mixed := by kernel_rfl
  f5 := ⟨ "slices.Sort[[]int,int]", by decide, Tryd.func21.trans (congrArg some (by kernel_rfl))⟩
  f7 := ⟨ "slices.pdqsortOrdered[int]", by decide, Tryd.func39.trans (congrArg some (by kernel_rfl))⟩
  f8 := Tryd.func40.trans (congrArg some (by kernel_rfl))
  f10 := ⟨ "slices.insertionSortOrdered[int]", by decide, Tryd.func48.trans (congrArg some (by kernel_rfl))⟩
  f11 := ⟨ "slices.heapSortOrdered[int]", by decide, Tryd.func49.trans (congrArg some (by kernel_rfl))⟩
  f12 := ⟨ "slices.breakPatternsOrdered[int]", by decide, Tryd.func50.trans (congrArg some (by kernel_rfl))⟩
  f13 := ⟨ "slices.choosePivotOrdered[int]", by decide, Tryd.func51.trans (congrArg some (by kernel_rfl))⟩
  f14 := ⟨ "slices.reverseRangeOrdered[int]", by decide, Tryd.func52.trans (congrArg some (by kernel_rfl))⟩
  f15 := ⟨ "slices.partialInsertionSortOrdered[int]", by decide, Tryd.func53.trans (congrArg some (by kernel_rfl))⟩
  f16 := ⟨ "cmp.Less[int]", by decide, Tryd.func54.trans (congrArg some (by kernel_rfl))⟩
  f17 := ⟨ "slices.partitionEqualOrdered[int]", by decide, Tryd.func55.trans (congrArg some (by kernel_rfl))⟩
  f18 := ⟨ "slices.partitionOrdered[int]", by decide, Tryd.func56.trans (congrArg some (by kernel_rfl))⟩
  f19 := Tryd.func57.trans (congrArg some (by kernel_rfl))
  f20 := Tryd.func58.trans (congrArg some (by kernel_rfl))
  f30 := ⟨ "slices.siftDownOrdered[int]", by decide, Tryd.func68.trans (congrArg some (by kernel_rfl))⟩
  f31 := Tryd.func69.trans (congrArg some (by kernel_rfl))
  f32 := Tryd.func70.trans (congrArg some (by kernel_rfl))
  f33 := ⟨ "slices.medianAdjacentOrdered[int]", by decide, Tryd.func71.trans (congrArg some (by kernel_rfl))⟩
  f34 := ⟨ "slices.medianOrdered[int]", by decide, Tryd.func72.trans (congrArg some (by kernel_rfl))⟩
  f35 := ⟨ "cmp.isNaN[int]", by decide, Tryd.func73.trans (congrArg some (by kernel_rfl))⟩
  f40 := ⟨ "slices.order2Ordered[int]", by decide, Tryd.func78.trans (congrArg some (by kernel_rfl))⟩
  t0 := Tryd.underlying0
  a0 := Tryd.isAgg0
  z0 := Tryd.sizeOf0
  v0 := Tryd.zeroValue0
  t3 := Tryd.underlying3
  a3 := Tryd.isAgg3
  z3 := Tryd.sizeOf3
  v3 := Tryd.zeroValue3
  t4 := Tryd.underlying4
  a4 := Tryd.isAgg4
  z4 := Tryd.sizeOf4
  v4 := Tryd.zeroValue4
  t5 := Tryd.underlying5
  a5 := Tryd.isAgg5
  z5 := Tryd.sizeOf5
  v5 := Tryd.zeroValue5
  t9 := Tryd.underlying9
  a9 := Tryd.isAgg9
  z9 := Tryd.sizeOf9
  v9 := Tryd.zeroValue9
  t22 := Tryd.underlying40
  a22 := Tryd.isAgg40
  z22 := Tryd.sizeOf40
  v22 := Tryd.zeroValue40
  t23 := Tryd.underlying40
  a23 := Tryd.isAgg40
  z23 := Tryd.sizeOf40
  v23 := Tryd.zeroValue40
  t25 := Tryd.underlying3
  a25 := Tryd.isAgg3
  z25 := Tryd.sizeOf3
  v25 := Tryd.zeroValue3
  t32 := Tryd.underlying78
  a32 := Tryd.isAgg78
  z32 := Tryd.sizeOf78
  v32 := Tryd.zeroValue78
  t35 := Tryd.underlying87
  a35 := Tryd.isAgg87
  z35 := Tryd.sizeOf87
  v35 := Tryd.zeroValue87
  t36 := Tryd.underlying88
  a36 := Tryd.isAgg88
  z36 := Tryd.sizeOf88
  v36 := Tryd.zeroValue88
  t41 := Tryd.underlying93
  a41 := Tryd.isAgg93
  z41 := Tryd.sizeOf93
  v41 := Tryd.zeroValue93
  t44 := Tryd.underlying25
  a44 := Tryd.isAgg25
  z44 := Tryd.sizeOf25
  v44 := Tryd.zeroValue25
  t46 := Tryd.underlying35
  a46 := Tryd.isAgg35
  z46 := Tryd.sizeOf35
  v46 := Tryd.zeroValue35
  t53 := Tryd.underlying103
  a53 := Tryd.isAgg103
  z53 := Tryd.sizeOf103
  v53 := Tryd.zeroValue103
  t57 := Tryd.underlying46
  a57 := Tryd.isAgg46
  z57 := Tryd.sizeOf46
  v57 := Tryd.zeroValue46
  t63 := Tryd.underlying112
  a63 := Tryd.isAgg112
  z63 := Tryd.sizeOf112
  v63 := Tryd.zeroValue112
  t64 := Tryd.underlying113
  a64 := Tryd.isAgg113
  z64 := Tryd.sizeOf113
  v64 := Tryd.zeroValue113
def laidCompact_ren : Go.Shelf.Ren := ⟨fun | 43 => 22 | n => n, fun | 22 => 40 | 23 => 3 | 3 => 3 | 4 => 4 | 0 => 0 | n => n, fun | n => n⟩
theorem laidCompact : Go.Proofs.SlLaysN.n43 Tryd.prog laidCompact_ren where
  mixed := by kernel_rfl
  f43 := ⟨ "slices.Compact[[]int,int]", by decide, Tryd.func22.trans (congrArg some (by kernel_rfl))⟩
  t0 := Tryd.underlying0
  a0 := Tryd.isAgg0
  z0 := Tryd.sizeOf0
  v0 := Tryd.zeroValue0
  t3 := Tryd.underlying3
  a3 := Tryd.isAgg3
  z3 := Tryd.sizeOf3
  v3 := Tryd.zeroValue3
  t4 := Tryd.underlying4
  a4 := Tryd.isAgg4
  z4 := Tryd.sizeOf4
  v4 := Tryd.zeroValue4
  t22 := Tryd.underlying40
  a22 := Tryd.isAgg40
  z22 := Tryd.sizeOf40
  v22 := Tryd.zeroValue40
  t23 := Tryd.underlying3
  a23 := Tryd.isAgg3
  z23 := Tryd.sizeOf3
  v23 := Tryd.zeroValue3
  i23 := by kernel_rfl

end Go.Proofs.YtfnjlkmhnhojpaaDoor.Pw

/- Chapter 21 over values: lists of numbers of the caller's own, sorted and made to hold each number once, by the library's contracts. -/
set_option linter.unusedVariables false
namespace Go.Proofs.YtfnjlkmhnhojpaaDoor.Pw
open Go Go.RowKit

section
variable {w w' : World} {I : Nat → Prop} {β : Places} {G : Gx} {S : List PBlk}
theorem ints_cells {xs : List Int} {g : Nat} (h : IsEs w I (intsP xs) 1 g 0) {j : Nat} {v : Int} (hv : xs[j]? = some v) : w.cell? ⟨g, j, none⟩ = some (.int .i64 v) := by
  have he := h.get (i := j) (e := .int .i64 v) (by simp [intsP, hv])
  obtain ⟨_, he⟩ := he
  obtain ⟨u, hu, hi, _⟩ := he.get (i := 0) rfl
  simp only [PV.Is] at hi
  subst hi
  simpa using hu
theorem ints_es {xs : List Int} {g : Nat} (h : ∀ j v, xs[j]? = some v → w.cell? ⟨g, j, none⟩ = some (.int .i64 v)) : IsEs w I (intsP xs) 1 g 0 := IsEs.of fun i e he => by
  have he' : (xs.map (PV.int .i64))[i]? = some e := he
  rw [List.getElem?_map, Option.map_eq_some_iff] at he'
  obtain ⟨v, hv, rfl⟩ := he'
  refine ⟨rfl, IsAt.of fun j c hj => ?_⟩
  have hj' : ([PV.int .i64 v] : List PV)[j]? = some c := hj
  cases j with
  | succ j => simp at hj'
  | zero =>
    have hc : PV.int .i64 v = c := by simpa using hj'
    subst hc
    exact ⟨.int .i64 v, by simpa using h i v hv, by simp only [PV.Is], rfl⟩
/-- a world but for one block's cells, for new blocks, and for draws -/
structure RowNow (w w' : World) (g : Nat) (t : TypeId) (arr' : Array Value) : Prop where
  os : w'.os = w.os
  tape : w'.tape = w.tape
  output : w'.output = w.output
  size : w.heap.size ≤ w'.heap.size
  old : ∀ k, k < w.heap.size → k ≠ g → w'.heap[k]? = w.heap[k]?
  at_ : w'.heap[g]? = some (.cells arr' t (0, 0))
theorem rowNow {g n : Nat} {t : TypeId} {arr : Array Value} {d : Array Int} {os : Array Obj} (h : w.heap[g]? = some (.cells arr t (0, 0))) : RowNow w (Sort.grow (Sort.putRow (Value.int .i64) (Sort.ahead w n) g 0 d) os) g t (Sort.putCells (Value.int .i64) 0 d arr) := by
  have hlt : g < w.heap.size := (Array.getElem?_eq_some_iff.1 h).1
  refine ⟨rfl, rfl, rfl, by simp, fun k hk hne => ?_, ?_⟩
  · show ((w.heap.modify g _) ++ os)[k]? = _
    rw [Array.getElem?_append_left (by simpa using hk), Array.getElem?_modify, if_neg (fun e => hne e.symm)]
  · show ((w.heap.modify g _) ++ os)[g]? = _
    rw [Array.getElem?_append_left (by simpa using hlt), Array.getElem?_modify, if_pos rfl, h]
    rfl
theorem putCells_get {ys : List Int} {arr : Array Value} {j : Nat} {v : Int} (hj : j < arr.size) (hv : ys[j]? = some v) : (Sort.putCells (Value.int .i64) 0 ys.toArray arr)[j]? = some (.int .i64 v) := by
  have hlt : j < ys.length := (List.getElem?_eq_some_iff.1 hv).1
  unfold Sort.putCells
  rw [Array.getElem?_mapIdx, Array.getElem?_eq_getElem hj]
  simp only [Option.map_some, List.size_toArray, Nat.zero_le, true_and, Nat.zero_add, hlt, if_true, Nat.sub_zero]
  congr 2
  simp [hlt] at hv ⊢
  exact hv
theorem grown_ok (hH : HeapOk I β S w) (hM : ImmOk G I w) (h1 : w'.os = w.os) (h2 : w'.tape = w.tape) (h3 : w'.output = w.output) (hsz : w.heap.size ≤ w'.heap.size) (hold : ∀ k, k < w.heap.size → w'.heap[k]? = w.heap[k]?) : HeapOk I β S w' ∧ Ext I β S w I β S w' := by
  refine ⟨⟨hH.far, fun l b hb hlive => ?_⟩, ⟨h1, h2, h3, hsz, fun g hg _ => hold g hg, fun _ _ h => h, fun _ h => h, fun _ _ h => .inl h⟩⟩
  have hB := hH.blk l b hb hlive
  refine hB.mono (fun _ h => h) (fun g hg => hold g (hM.imm g hg)) (fun _ _ h => h) fun p g o hp ha => ?_
  obtain ⟨arr, ty, fr, hh, ho⟩ := hB.place hp ha
  exact ⟨hold g (lt_of_heap hh), fun hr => ⟨(ho.1 hr).2.1, (ho.1 hr).2.2⟩⟩
/-- a list of the caller's own, other numbers in it -/
theorem ints_put {l : Nat} {xs ys : List Int} {p : Plc} {g : Nat} {arr : Array Value} (hH : HeapOk I β S w) (hM : ImmOk G I w) (hl : S[l]? = some (dI (intsP xs))) (hp : β l = some p) (ha : p.a = some (g, 0)) (hh : w.heap[g]? = some (.cells arr 3 (0, 0)))
    (hyl : ys.length = xs.length) (hw : RowNow w w' g 3 (Sort.putCells (Value.int .i64) 0 ys.toArray arr)) : HeapOk I β (S.set l (dI (intsP ys))) w' ∧ ImmOk G I w' ∧ Ext I β S w I β (S.set l (dI (intsP ys))) w' := by
  obtain ⟨hsp, hlen, hle, hmx, hor⟩ := whole_dyn hH hl rfl rfl hp
  have hlen' : (intsP xs).length = p.len := hlen
  rw [intsP_len] at hlen'
  rcases hor with ⟨hn, _⟩ | ⟨g', arr0, fr, ha', _, hhg, _, hown, has⟩
  · rw [hn] at ha; cases ha
  rw [ha] at ha'
  cases ha'
  rw [hh] at hhg
  cases hhg
  have has' : arr.size = p.cap * 1 := has
  obtain ⟨arr', harr⟩ : ∃ A, Sort.putCells (Value.int .i64) 0 ys.toArray arr = A := ⟨_, rfl⟩
  have hsa : arr'.size = arr.size := by rw [← harr]; simp [Sort.putCells]
  have hget : ∀ (j : Nat) (v : Int), ys[j]? = some v → arr'[j]? = some (Value.int .i64 v) := fun j v hv => by
    have : j < ys.length := (List.getElem?_eq_some_iff.1 hv).1
    rw [← harr]; exact putCells_get (by omega) hv
  rw [harr] at hw
  obtain ⟨hW, hE⟩ := hH.write (b' := dI (intsP ys)) hl rfl rfl hp ha hh rfl rfl (arr' := arr') (fun hI hO => by
    have hr := setRow_heap w g arr arr' 3 (0, 0) hh
    refine ⟨p, hp, ⟨Nat.zero_lt_one, by show (intsP ys).length = p.len; rw [intsP_len]; omega, hle, hmx⟩, .inr ⟨g, arr', (0, 0), ha, hr, ints_es fun j v hv => ?_, hO, by rw [hsa]; exact has'⟩⟩
    rw [Ev.cells_of hr]; exact hget j v hv)
  have hI1 : ∀ x, I x → x < (w.setRow g arr').heap.size := fun x hx => by rw [setRow_size]; exact hM.imm x hx
  have hM1 : ImmOk G I (w.setRow g arr') := hM.ext hH hE hI1
  have hlt : g < w.heap.size := lt_of_heap hh
  obtain ⟨hG2, hE2⟩ := grown_ok (w' := w') hW hM1 hw.os hw.tape hw.output (by rw [setRow_size]; exact hw.size) (fun k hk => by
    rw [setRow_size] at hk
    by_cases hkg : k = g
    · subst hkg; rw [hw.at_, setRow_heap w k arr arr' 3 (0, 0) hh]
    · rw [hw.old k hk hkg, setRow_other w g k arr' hkg])
  exact ⟨hG2, hM1.ext hW hE2 (fun x hx => Nat.lt_of_lt_of_le (hI1 x hx) hE2.size), hE.trans hE2⟩
theorem ints_holds {xs : List Int} {g : Nat} {arr : Array Value} (h : IsEs w I (intsP xs) 1 g 0) (hh : w.heap[g]? = some (.cells arr 3 (0, 0))) : Sort.Holds (Value.int .i64) w g 0 xs.toArray := fun j hj => by
  have hj' : j < xs.length := by simpa using hj
  refine ⟨?_, ?_⟩
  · rw [Nat.zero_add, ints_cells h (List.getElem?_eq_getElem hj')]
    simp [hj']
  · unfold World.frozen?
    rw [hh]
    simp
end

theorem own_fr {I : Nat → Prop} {β : Places} {S : List PBlk} {l g : Nat} {fr : Nat × Nat} {b : PBlk} (h : Own I β S l g fr b) (hm : b.m = .w) : fr = (0, 0) := (h.1 (by rw [hm]; decide)).1
def sortI (xs : List Int) : List Int := xs.mergeSort fun x y => decide (x ≤ y)
theorem set_self {S : List PBlk} {l : Nat} {b : PBlk} (h : S[l]? = some b) : S.set l b = S := by
  obtain ⟨hl, he⟩ := List.getElem?_eq_some_iff.1 h
  rw [← he]; exact List.set_getElem_self hl
theorem sort_spec {S : List PBlk} {l : Nat} {xs : List Int} (hl : S[l]? = some (dI (intsP xs))) (hn : xs.length ≤ 1000000) : Spec gT 21 [.wref l] S [] fun r S' => r = .tup [] ∧ S' = S.set l (dI (intsP (sortI xs))) := by
  refine Spec.intro (entersT Tryd.func21 rfl (by kernel_rfl)) fun I β w vals hH hM hA => ?_
  obtain ⟨v, rfl, hv⟩ := isL1 hA
  simp only [PV.Is] at hv
  obtain ⟨p, hp, rfl⟩ := hv
  obtain ⟨hsp, hlen, hle, hmx, hor⟩ := whole_dyn hH hl rfl rfl hp
  have hlen' : (intsP xs).length = p.len := hlen
  rw [intsP_len] at hlen'
  rcases hor with ⟨ha, hc0, hw⟩ | ⟨g, arr, fr, ha, hw, hhg, hes, hown, has⟩
  · have hx : xs = [] := List.eq_nil_of_length_eq_zero (by omega)
    subst hx
    rw [hw]
    refine Calls.mono (show Calls gT.cx.P 21 [Value.slice none 0 0].toArray w _ from AnyM.slices_Sort_int_none laidSort none 0 w) ?_
    rintro e w2 ⟨rfl, rfl⟩
    have e1 : sortI [] = [] := by unfold sortI; simp
    exact ⟨_, .tup [], S, I, β, rfl, ⟨rfl, by rw [e1, set_self hl]⟩, is_tup isLn, hH, hM, Ext.refl, Nat.le_refl _, fun _ _ _ => rfl⟩
  · have hfr := own_fr hown rfl
    subst hfr
    rw [hw, ← hlen']
    refine Calls.mono (show Calls gT.cx.P 21 [Value.slice (some ⟨g, 0, none⟩) xs.length p.cap].toArray w _ from AnyM.slices_Sort_int laidSort g 0 p.cap xs w (ints_holds hes hhg) (lt_of_heap hhg) (by omega)) ?_
    rintro e w2 ⟨rfl, n, os, rfl⟩
    have hyl : (sortI xs).length = xs.length := by unfold sortI; exact List.length_mergeSort _
    obtain ⟨k1, k2, k3⟩ := ints_put (ys := sortI xs) hH hM hl hp ha hhg hyl (rowNow hhg)
    exact ⟨_, .tup [], _, I, β, rfl, ⟨rfl, rfl⟩, is_tup isLn, k1, k2, k3, by simp, fun _ _ _ => rfl⟩
theorem compact_spec {S : List PBlk} {l : Nat} {xs : List Int} (hl : S[l]? = some (dI (intsP xs))) (hn : xs.length ≤ 1000000) : Spec gT 22 [.wref l] S [] fun r S' => r = .sl 1 (intsP (Lib.compact xs)) := by
  refine Spec.intro (entersT Tryd.func22 rfl (by kernel_rfl)) fun I β w vals hH hM hA => ?_
  obtain ⟨v, rfl, hv⟩ := isL1 hA
  simp only [PV.Is] at hv
  obtain ⟨p, hp, rfl⟩ := hv
  obtain ⟨hsp, hlen, hle, hmx, hor⟩ := whole_dyn hH hl rfl rfl hp
  have hlen' : (intsP xs).length = p.len := hlen
  rw [intsP_len] at hlen'
  rcases hor with ⟨ha, hc0, hw⟩ | ⟨g, arr, fr, ha, hw, hhg, hes, hown, has⟩
  · have hx : xs = [] := List.eq_nil_of_length_eq_zero (by omega)
    subst hx
    rw [hw]
    refine Calls.mono (show Calls gT.cx.P 22 [Value.slice none 0 0].toArray w _ from AnyG.slices_Compact_int_empty laidCompact none 0 w) ?_
    rintro e w2 ⟨rfl, rfl⟩
    refine ⟨_, .sl 1 (intsP (Lib.compact [])), S, I, β, rfl, rfl, ?_, hH, hM, Ext.refl, Nat.le_refl _, fun _ _ _ => rfl⟩
    exact nil_sl (by simp only [PV.Is])
  · have hfr := own_fr hown rfl
    subst hfr
    rw [hw, ← hlen']
    refine Calls.mono (show Calls gT.cx.P 22 [Value.slice (some ⟨g, 0, none⟩) xs.length p.cap].toArray w _ from AnyG.slices_Compact_int laidCompact g 0 p.cap xs w (ints_holds hes hhg) (by omega) (by omega)) ?_
    rintro e w2 ⟨rfl, q, rfl⟩
    have hcl := Lib.compact_length_le xs
    obtain ⟨cs, hcs⟩ : ∃ cs, Lib.compact xs = cs := ⟨_, rfl⟩
    rw [hcs] at hcl ⊢
    obtain ⟨ys, hys⟩ : ∃ ys, cs ++ List.replicate (xs.length - cs.length) (0 : Int) = ys := ⟨_, rfl⟩
    rw [hys]
    have hyl : ys.length = xs.length := by rw [← hys, List.length_append, List.length_replicate]; omega
    have hRN : RowNow w (Sort.putRow (Value.int .i64) (Sort.ahead w q) g 0 ys.toArray) g 3 (Sort.putCells (Value.int .i64) 0 ys.toArray arr) := by
      have := rowNow (n := q) (d := ys.toArray) (os := #[]) hhg
      rwa [Sort.grow_empty] at this
    obtain ⟨k1, k2, k3⟩ := ints_put (ys := ys) hH hM hl hp ha hhg hyl hRN
    have hll : l < S.length := (List.getElem?_eq_some_iff.1 hl).1
    have hsl : (S.set l (dI (intsP ys)))[l]? = some (dI (intsP ys)) := by rw [List.getElem?_set_self hll]
    have hz : okZ (S.set l (dI (intsP ys))) [l] = true := by
      unfold okZ
      simp only [List.all_cons, List.all_nil, Bool.and_true, hsl]
      rfl
    have hLg : LentI I β (S.set l (dI (intsP ys))) [l] g := .inr ⟨l, _, p, 0, by simp, hsl, rfl, rfl, hp, ha⟩
    have hext : Ext I β (S.set l (dI (intsP ys))) (Sort.putRow (Value.int .i64) (Sort.ahead w q) g 0 ys.toArray) (LentI I β (S.set l (dI (intsP ys))) [l]) β (frzS [l] (S.set l (dI (intsP ys)))) (Sort.putRow (Value.int .i64) (Sort.ahead w q) g 0 ys.toArray) := by
      refine ⟨rfl, rfl, rfl, Nat.le_refl _, fun _ _ _ => rfl, fun x _ h => ?_, fun _ h => .inl h, fun x _ h => ?_⟩
      · obtain ⟨l2, b1, p2, o, h1, h2, h3, h4, h5⟩ := h
        obtain ⟨b0, hb0, rfl⟩ := frzS_get h1
        refine ⟨l2, b0, p2, o, hb0, h2, ?_, h4, h5⟩
        cases hc : inL l2 [l] with
        | true => simp only [hc, frzM, cond_true] at h3; cases h3
        | false => simpa only [hc, frzM, cond_false] using h3
      · rcases h with h | ⟨l2, b1, p2, o, hm, hb, hlive, hmd, hp2, ha2⟩
        · exact .inl h
        · rw [List.mem_singleton] at hm
          subst hm
          rw [hsl] at hb
          cases hb
          exact .inr ⟨l2, _, p2, o, hsl, rfl, rfl, hp2, ha2⟩
    refine ⟨_, .sl 1 (intsP cs), frzS [l] (S.set l (dI (intsP ys))), LentI I β (S.set l (dI (intsP ys))) [l], β, rfl, rfl, ?_, k1.frz k2 hz, lent_imm k1 k2, k3.trans hext, by unfold frzS; rw [mapM_len, List.length_set]; exact Nat.le_refl _, fun _ _ _ => rfl⟩
    simp only [PV.Is]
    refine ⟨some ⟨g, 0, none⟩, p.cap, by rw [intsP_len], by rw [intsP_len]; omega, by rw [intsP_len]; unfold maxLen; omega, fun g' o' e => ?_, fun _ => ⟨g, 0, rfl, hLg, by decide⟩⟩
    cases e
    refine ints_es fun j v hv => ?_
    have hj : j < cs.length := (List.getElem?_eq_some_iff.1 hv).1
    rw [Ev.cells_of hRN.at_]
    have has' : arr.size = p.cap * 1 := has
    exact putCells_get (by omega) (by rw [← hys, List.getElem?_append_left hj]; exact hv)

/-- sorted numbers, each once -/
theorem compact_up {xs : List Int} (hs : xs.Pairwise (· ≤ ·)) : ∀ m, m ≤ xs.length → (Lib.compactUpTo xs.toArray m).Pairwise (· < ·) ∧ (∀ j, j < m → xs.toArray[j]! ∈ Lib.compactUpTo xs.toArray m) ∧ (∀ x ∈ Lib.compactUpTo xs.toArray m, ∃ j, j < m ∧ x = xs.toArray[j]!)
  | 0, _ => ⟨by simp [Lib.compactUpTo], fun j hj => by omega, fun x hx => by simp [Lib.compactUpTo] at hx⟩
  | m + 1, hm => by
    obtain ⟨h1, h2, h3⟩ := compact_up hs m (by omega)
    have le : ∀ i j, i ≤ j → j < xs.length → xs.toArray[i]! ≤ xs.toArray[j]! := fun i j hij hj => by
      have hi : i < xs.length := by omega
      simp only [hi, hj, List.getElem!_toArray, List.getElem!_eq_getElem?_getD, List.getElem?_eq_getElem, Option.getD_some]
      rcases Nat.eq_or_lt_of_le hij with e | e
      · subst e; exact Int.le_refl _
      · exact List.pairwise_iff_getElem.1 hs i j hi hj e
    rw [Lib.compactUpTo_succ]
    by_cases hk : Lib.keeps xs.toArray m = true
    · rw [if_pos hk]
      have hk' : m = 0 ∨ xs.toArray[m]! ≠ xs.toArray[m - 1]! := by unfold Lib.keeps at hk; exact of_decide_eq_true hk
      refine ⟨List.pairwise_append.2 ⟨h1, by simp, fun x hx y hy => ?_⟩, fun j hj => ?_, fun x hx => ?_⟩
      · rw [List.mem_singleton] at hy
        subst hy
        obtain ⟨j, hj, rfl⟩ := h3 x hx
        have := le j (m - 1) (by omega) (by omega)
        have := le (m - 1) m (by omega) (by omega)
        have hne := hk'.resolve_left (by omega)
        omega
      · rw [List.mem_append, List.mem_singleton]
        by_cases e : j = m
        · subst e; exact .inr rfl
        · exact .inl (h2 j (by omega))
      · rw [List.mem_append, List.mem_singleton] at hx
        rcases hx with hx | hx
        · obtain ⟨j, hj, e⟩ := h3 x hx
          exact ⟨j, by omega, e⟩
        · exact ⟨m, by omega, hx⟩
    · rw [if_neg hk, List.append_nil]
      have hk' : ¬ (m = 0 ∨ xs.toArray[m]! ≠ xs.toArray[m - 1]!) := fun h => hk (by unfold Lib.keeps; exact decide_eq_true h)
      refine ⟨h1, fun j hj => ?_, fun x hx => ?_⟩
      · by_cases e : j = m
        · subst e
          have h4 : xs.toArray[j]! = xs.toArray[j - 1]! := Classical.not_not.1 fun h => hk' (.inr h)
          rw [h4]
          exact h2 (j - 1) (by have : j ≠ 0 := fun h => hk' (.inl h); omega)
        · exact h2 j (by omega)
      · obtain ⟨j, hj, e⟩ := h3 x hx
        exact ⟨j, by omega, e⟩
/-- the words' names: rising -/
def onceI (xs : List Int) : List Int := Lib.compact (sortI xs)
theorem onceI_up (xs : List Int) : (onceI xs).Pairwise (· < ·) ∧ (∀ x ∈ xs, x ∈ onceI xs) := by
  have hs : (sortI xs).Pairwise (· ≤ ·) := by
    have := List.pairwise_mergeSort (le := fun (x y : Int) => decide (x ≤ y)) (fun a b c h1 h2 => by simp at h1 h2 ⊢; omega) (fun a b => by simp; omega) xs
    exact this.imp fun h => by simpa using h
  obtain ⟨h1, h2, _⟩ := compact_up hs (sortI xs).length (Nat.le_refl _)
  refine ⟨h1, fun x hx => ?_⟩
  have hx2 : x ∈ sortI xs := by unfold sortI; exact List.mem_mergeSort.2 hx
  obtain ⟨j, hj, e⟩ := List.mem_iff_getElem.1 hx2
  have := h2 j hj
  have e2 : (sortI xs).toArray[j]! = x := by simp [hj, e]
  rw [e2] at this
  exact this

end Go.Proofs.YtfnjlkmhnhojpaaDoor.Pw

/- Chapter 21 over values: the words that a cost names; CostWords. -/
set_option linter.unusedVariables false
namespace Go.Proofs.YtfnjlkmhnhojpaaDoor.Pw
open Go Go.RowKit

theorem nmT_len (bd : List Int) : ∀ t : T, (nmT bd t).length ≤ t.size
  | .leaf o n => by simp only [nmT, ownN, T.size]; split <;> simp
  | .one o n a => by have := nmT_len bd a; simp only [nmT, ownN, T.size, List.length_append]; split <;> simp <;> omega
  | .two o n a b => by have := nmT_len bd a; have := nmT_len bd b; simp only [nmT, ownN, T.size, List.length_append]; split <;> simp <;> omega
mutual
theorem gaC_len : ∀ (c : C) (bd : List Int), c.AllT MT → (gaC bd c).length ≤ 8 * cN c
  | .mk k cy mi wo si a b l, bd, h => by
    have h1 := nmT_len bd a
    have h2 := nmT_len bd b
    have h3 := gaL_len l (if k = 4 then bd ++ [wo] else bd) h.2.2
    have h4 := h.1.cases.2.1
    have h5 := h.2.1.cases.2.1

    have h6' : cN (.mk k cy mi wo si a b l) = 1 + szT a + szT b + cNL l := cN_eq _
    rw [gaC, List.length_append, List.length_append]
    omega
theorem gaL_len : ∀ (l : List C) (bd : List Int), allTL MT l → (gaL bd l).length ≤ 8 * cNL l
  | [], bd, _ => by rw [gaL]; simp
  | c :: l, bd, h => by
    have h1 := gaC_len c bd h.1
    have h2 := gaL_len l bd h.2
    rw [gaL, List.length_append, cNL]; omega
end

set_option maxRecDepth 10000 in
theorem words_pure (c : C) (hT : c.AllT MT) (hN : cN c ≤ 1000) : PureF gT 10 [cpv c] (.sl 1 (intsP (onceI (gaC [] c)))) := by
  have hw := wf_of_MT c hT
  have hlen := gaC_len c [] hT
  have hcl : c.l.length ≤ 1000000 := by have h1 := cNL_len c.l; have h2 := cN_eq c; omega
  have hg := gather_spec c c hw [] .nil (.inl ⟨rfl, rfl⟩) (by show 0 + cN c ≤ _; omega) hcl [] (by show 0 + _ ≤ _; omega)
  obtain ⟨g, hgg⟩ : ∃ g, gaC [] c = g := ⟨_, rfl⟩
  rw [hgg] at hg hlen ⊢
  rw [List.nil_append] at hg
  have hs := sort_spec (S := sN c g) (l := 2) (xs := g) rfl (by omega)
  have hc := compact_spec (S := (sN c g).set 2 (dI (intsP (sortI g)))) (l := 2) (xs := sortI g) rfl (by unfold sortI; rw [List.length_mergeSort]; omega)
  refine Spec.enter gTok P10 100 Tryd.func10 rfl (by kernel_rfl) ?_
  refine ⟨[], no_rl, (Spec.ren gTok hg [some 0, some 1, none] ?_ rfl (by simp)).mono ?_⟩
  · repeat' first | exact trivial | exact rfl | exact Iff.rfl | refine And.intro ?_ ?_
  rintro r S' ⟨rfl, rfl⟩
  refine ⟨[], no_rl, hs.mono ?_⟩
  rintro r S' ⟨rfl, rfl⟩
  refine ⟨[], no_rl, hc.mono ?_⟩
  rintro r S' rfl
  refine retE ?_
  exact (show intsP (Lib.compact (sortI g)) = intsP (onceI g) from rfl)

end Go.Proofs.YtfnjlkmhnhojpaaDoor.Pw

/- Chapter 21 over values: CostWords. -/
set_option linter.unusedVariables false
namespace Go.Proofs.YtfnjlkmhnhojpaaDoor.Pw
open Go Go.RowKit

theorem wordsP_len (l : List Int) : (wordsP l).length = l.length := List.length_map ..
theorem up_lt {nm : List Int} (h : nm.Pairwise (· < ·)) {k : Nat} {a b : Int} (h0 : 0 < k) (ha : nm[k - 1]? = some a) (hb : nm[k]? = some b) : a < b := by
  obtain ⟨h1, rfl⟩ := List.getElem?_eq_some_iff.1 ha
  obtain ⟨h2, rfl⟩ := List.getElem?_eq_some_iff.1 hb
  exact List.pairwise_iff_getElem.1 h (k - 1) k h1 h2 (by omega)
/-- what stands for a word, k names having been looked at -/
def ownX (nm : List Int) (i : Nat) (w o : Int) (k : Nat) : Int := if (i : Int) ∈ nm.take k then w else o
theorem ownX_step {nm : List Int} {i k : Nat} {w o n : Int} (h : nm[k]? = some n) : ownX nm i w o (k + 1) = if n = i then w else ownX nm i w o k := by
  unfold ownX
  rw [List.take_add_one, h]
  by_cases hn : n = i
  · subst hn; simp
  · rw [if_neg hn]
    simp only [Option.toList_some, List.mem_append, List.mem_singleton, show ¬ ((i : Int) = n) from fun e => hn e.symm, or_false]
theorem ownL_take {nm ot ws : List Int} {i : Nat} {w : Int} (h : ws[i]? = some w) : (ownL nm ot ws).take (i + 1) = (ownL nm ot ws).take i ++ [ownX nm i w ((ot[i]?).getD w) nm.length] := by
  rw [List.take_add_one, ownL_get h]
  unfold ownX
  rw [List.take_length]
  rfl
theorem ownL_bd {nm ot ws : List Int} (h1 : ∀ v ∈ ws, 0 ≤ v ∧ v ≤ 4294967295) (h2 : ∀ v ∈ ot, 0 ≤ v ∧ v ≤ 4294967295) : ∀ v ∈ ownL nm ot ws, 0 ≤ v ∧ v ≤ 4294967295 := by
  intro v hv
  obtain ⟨i, hi, e⟩ := List.mem_iff_getElem.1 hv
  rw [ownL_len] at hi
  have h3 := ownL_get (nm := nm) (ot := ot) (List.getElem?_eq_getElem hi)
  rw [List.getElem?_eq_getElem (by rw [ownL_len]; exact hi), e, Option.some.injEq] at h3
  rw [h3]
  split
  · exact h1 _ (List.getElem_mem hi)
  · cases ho : ot[i]? with
    | none => exact h1 _ (List.getElem_mem hi)
    | some o => exact h2 o (List.mem_of_getElem? ho)
def dU (cs : List PV) : PBlk := ⟨.dyn, 25, 1, .w, true, cs⟩

set_option maxHeartbeats 4000000 in
set_option maxRecDepth 10000 in
theorem CostWords_pure (l : List IT) (hl : l.length ≤ maxLen) (hx : ∀ x ∈ l, x.Ok) (ws : List Int) (hws : ∀ v ∈ ws, 0 ≤ v ∧ v ≤ 4294967295) (hwl : ws.length * 4 ≤ reachBytes) (ot : List Int) (hot : ∀ v ∈ ot, 0 ≤ v ∧ v ≤ 4294967295) (wait : Int) :
    PureF gT 4 [.sl 12 (l.map itP), .sl 1 (wordsP ws), .sl 1 (wordsP ot), .int .i64 wait] .tt := by
  unfold reachBytes at hwl
  refine Spec.enter gTok P4 100 Tryd.func4 rfl (by kernel_rfl) ?_
  refine ⟨[], no_rl, anchor21_pure.use trivial rfl rfl ?_⟩
  refine ⟨[], no_rl, (made_pure l hl).use (by repeat' first | exact trivial | exact rfl | exact Iff.rfl | exact Or.inl rfl | refine And.intro ?_ ?_) rfl rfl ?_⟩
  refine And.intro (fun _ => retE trivial) (fun h => ?_)
  have h30 : l.length ≤ 30 := Classical.not_not.1 h
  have hT : (madeC l).AllT MT := builtC_MT hx 13 0
  have hT2 : (madeC l).AllT fun t => t.size ≤ 1000000 := C.AllT.mono (fun t ht => by have := ht.small; omega) _ hT
  have hN := madeC_cN hx h30
  generalize madeC l = c at *
  refine ⟨[], no_rl, (cright_pure c hT hT2 (by omega)).use (by repeat' first | exact trivial | exact rfl | exact Iff.rfl | exact Or.inl rfl | refine And.intro ?_ ?_) rfl rfl ?_⟩
  refine And.intro (fun _ => retE trivial) (fun h => ?_)
  obtain ⟨_, hs⟩ := Classical.not_not.1 h
  have hw := wf_of_MT c hT
  have hup := onceI_up (gaC [] c)
  refine ⟨[], no_rl, (words_pure c hT (by omega)).use (by repeat' first | exact trivial | exact rfl | exact Iff.rfl | exact Or.inl rfl | refine And.intro ?_ ?_) rfl rfl ?_⟩
  have hev : ∀ ow : List Int, ow = ownL (onceI (gaC [] c)) ot ws → evC c ow wait 2000 = evC c ws wait 2000 := fun ow e => by rw [e]; exact words_evC hw hs hup.2 ws ot wait 2000
  obtain ⟨nm, hnm⟩ : ∃ nm, onceI (gaC [] c) = nm := ⟨_, rfl⟩
  rw [hnm] at hup hev ⊢
  obtain ⟨ow, how⟩ : ∃ ow, ownL nm ot ws = ow := ⟨_, rfl⟩
  have hev := hev ow how.symm
  have howb : ∀ v ∈ ow, 0 ≤ v ∧ v ≤ 4294967295 := by rw [← how]; exact ownL_bd hws hot
  have howl : ow.length = ws.length := by rw [← how]; exact ownL_len ..
  have e1 := evalC_pure c hw hs ws hws wait 2000 (by omega)
  have e2 := evalC_pure c hw hs ow howb wait 2000 (by omega)
  rw [hev] at e2
  refine fun hm => ?_
  refine SW.loopX gTok P4 (by kernel_rfl) (fun i : Nat => [(1, .sl 1 (wordsP ws)), (2, .sl 1 (wordsP ot)), (3, .int .i64 wait), (9, .ptr 0 0), (11, .sl 1 (intsP nm)), (12, .wref 1), (40, .sl 1 (wordsP ws)), (41, .int .i64 (wordsP ws).length), (42, .int .i64 i)]) (fun i => [xB c, dU (wordsP (ow.take i))]) (fun i => ws.length - i) 0 60 [some 0, none] ?_ fun i => ?_
  · repeat' first | exact trivial | exact rfl | exact Iff.rfl | refine And.intro ?_ ?_
  have elw := wordsP_len ws
  refine And.intro (fun h => ?_) (fun h => ?_)
  · have h' : (i : Int) < ((wordsP ws).length : Nat) := h
    rw [elw] at h'
    refine ⟨Int, ws, PV.int .u32, rfl, show (0 : Int) ≤ (i : Int) by omega, show (i : Int) < (ws.length : Int) by omega, fun w hx => ?_⟩
    have hx' : ws[i]? = some w := hx
    have etk : ow.take (i + 1) = ow.take i ++ [ownX nm i w ((ot[i]?).getD w) nm.length] := by rw [← how]; exact ownL_take hx'
    refine fun hmo => ?_
    have elo := wordsP_len ot
    refine And.intro (fun h2 => ?_) (fun h2 => ?_)
    · have h2' : (i : Int) < ((wordsP ot).length : Nat) := h2
      rw [elo] at h2'
      refine ⟨Int, ot, PV.int .u32, rfl, show (0 : Int) ≤ (i : Int) by omega, show (i : Int) < (ot.length : Int) by omega, fun o ho => ?_⟩
      have ho' : ot[i]? = some o := ho
      refine fun hmn => ?_
      have eln := intsP_len nm
      refine SW.loopX gTok P4 (by kernel_rfl) (fun k : Nat => [(1, .sl 1 (wordsP ws)), (2, .sl 1 (wordsP ot)), (3, .int .i64 wait), (9, .ptr 0 0), (11, .sl 1 (intsP nm)), (12, .wref 1), (40, .sl 1 (wordsP ws)), (41, .int .i64 (wordsP ws).length), (42, .int .i64 i), (13, .int .i64 i), (14, .int .u32 w), (15, .int .u32 (ownX nm i w ((ot[i]?).getD w) k)), (56, .sl 1 (intsP nm)), (57, .int .i64 (intsP nm).length), (58, .int .i64 k)]) (fun _ => [xB c, dU (wordsP (ow.take i))]) (fun k => nm.length - k) 0 60 [some 0, some 1] ?_ fun k => ?_
      · repeat' first | exact trivial | exact rfl | exact Iff.rfl | refine And.intro ?_ ?_
        all_goals exact (show o = ownX nm i w ((ot[i]?).getD w) 0 by unfold ownX; rw [ho', if_neg (by simp)]; rfl)
      refine And.intro (fun h => ?_) (fun h => ?_)
      · have hk' : (k : Int) < ((intsP nm).length : Nat) := h
        rw [eln] at hk'
        refine ⟨Int, nm, PV.int .i64, rfl, show (0 : Int) ≤ (k : Int) by omega, show (k : Int) < (nm.length : Int) by omega, fun n hn => ?_⟩
        have hn' : nm[k]? = some n := hn
        have est := ownX_step (i := i) (w := w) (o := (ot[i]?).getD w) hn'
        unfold maxLen at hmn
        refine And.intro (fun hk0 => ?_) (fun hk0 => ?_)
        · have hk0' : (0 : Int) < (k : Int) := hk0
          refine .inl ⟨inR_i64 (show _ ≤ (k : Int) - 1 ∧ (k : Int) - 1 ≤ _ by omega), ?_⟩
          refine ⟨Int, nm, PV.int .i64, rfl, show (0 : Int) ≤ (k : Int) - 1 by omega, show (k : Int) - 1 < (nm.length : Int) by omega, fun n0 hn0 => ?_⟩
          have hn0' : nm[k - 1]? = some n0 := by rw [← show ((k : Int) - 1).toNat = k - 1 by omega]; exact hn0
          have hlt := up_lt hup.1 (by omega) hn0' hn'
          refine And.intro (fun hge => ?_) (fun hge => ?_)
          · have hge' : n ≤ n0 := hge
            exact absurd hlt (by omega)
          refine And.intro (fun hni => ?_) (fun hni => ?_)
          · refine .inl ⟨inR_i64 (show _ ≤ (k : Int) + 1 ∧ (k : Int) + 1 ≤ _ by omega), ⟨k + 1, [some 0, some 1], by omega, ?_⟩⟩
            repeat' first | exact trivial | exact rfl | exact Iff.rfl | refine And.intro ?_ ?_
            all_goals exact (show w = ownX nm i w ((ot[i]?).getD w) (k + 1) by rw [est, if_pos hni])
          · refine .inl ⟨inR_i64 (show _ ≤ (k : Int) + 1 ∧ (k : Int) + 1 ≤ _ by omega), ⟨k + 1, [some 0, some 1], by omega, ?_⟩⟩
            repeat' first | exact trivial | exact rfl | exact Iff.rfl | refine And.intro ?_ ?_
            all_goals exact (show ownX nm i w ((ot[i]?).getD w) k = ownX nm i w ((ot[i]?).getD w) (k + 1) by rw [est, if_neg hni])
        · refine And.intro (fun hni => ?_) (fun hni => ?_)
          · refine .inl ⟨inR_i64 (show _ ≤ (k : Int) + 1 ∧ (k : Int) + 1 ≤ _ by omega), ⟨k + 1, [some 0, some 1], by omega, ?_⟩⟩
            repeat' first | exact trivial | exact rfl | exact Iff.rfl | refine And.intro ?_ ?_
            all_goals exact (show w = ownX nm i w ((ot[i]?).getD w) (k + 1) by rw [est, if_pos hni])
          · refine .inl ⟨inR_i64 (show _ ≤ (k : Int) + 1 ∧ (k : Int) + 1 ≤ _ by omega), ⟨k + 1, [some 0, some 1], by omega, ?_⟩⟩
            repeat' first | exact trivial | exact rfl | exact Iff.rfl | refine And.intro ?_ ?_
            all_goals exact (show ownX nm i w ((ot[i]?).getD w) k = ownX nm i w ((ot[i]?).getD w) (k + 1) by rw [est, if_neg hni])
      · have hk' : ¬ (k : Int) < ((intsP nm).length : Nat) := h
        rw [eln] at hk'
        have ekx : ownX nm i w ((ot[i]?).getD w) k = ownX nm i w ((ot[i]?).getD w) nm.length := by unfold ownX; rw [List.take_of_length_le (by omega), List.take_length]
        have etl : (wordsP (ow.take i)).length ≤ ws.length := by rw [wordsP_len, List.length_take]; omega
        refine ⟨show (wordsP (ow.take i)).length + 1 ≤ maxLen by unfold maxLen; omega, show ((wordsP (ow.take i)).length + 1) * 4 ≤ 140737488355328 by rw [wordsP_len, List.length_take]; omega, ?_⟩
        refine .inl ⟨inR_i64 (show _ ≤ (i : Int) + 1 ∧ (i : Int) + 1 ≤ _ by omega), ⟨i + 1, [some 0, some 3], by omega, ?_⟩⟩
        repeat' first | exact trivial | exact rfl | exact Iff.rfl | refine And.intro ?_ ?_
        all_goals exact (show wordsP (ow.take i) ++ [PV.int .u32 _] = wordsP (ow.take (i + 1)) by rw [etk, ekx]; unfold wordsP; rw [List.map_append]; rfl)
    · have h2' : ¬ (i : Int) < ((wordsP ot).length : Nat) := h2
      rw [elo] at h2'
      have ho' : ot[i]? = none := List.getElem?_eq_none (by omega)
      refine fun hmn => ?_
      have eln := intsP_len nm
      refine SW.loopX gTok P4 (by kernel_rfl) (fun k : Nat => [(1, .sl 1 (wordsP ws)), (2, .sl 1 (wordsP ot)), (3, .int .i64 wait), (9, .ptr 0 0), (11, .sl 1 (intsP nm)), (12, .wref 1), (40, .sl 1 (wordsP ws)), (41, .int .i64 (wordsP ws).length), (42, .int .i64 i), (13, .int .i64 i), (14, .int .u32 w), (15, .int .u32 (ownX nm i w ((ot[i]?).getD w) k)), (56, .sl 1 (intsP nm)), (57, .int .i64 (intsP nm).length), (58, .int .i64 k)]) (fun _ => [xB c, dU (wordsP (ow.take i))]) (fun k => nm.length - k) 0 60 [some 0, some 1] ?_ fun k => ?_
      · repeat' first | exact trivial | exact rfl | exact Iff.rfl | refine And.intro ?_ ?_
        all_goals exact (show w = ownX nm i w ((ot[i]?).getD w) 0 by unfold ownX; rw [ho', if_neg (by simp)]; rfl)
      refine And.intro (fun h => ?_) (fun h => ?_)
      · have hk' : (k : Int) < ((intsP nm).length : Nat) := h
        rw [eln] at hk'
        refine ⟨Int, nm, PV.int .i64, rfl, show (0 : Int) ≤ (k : Int) by omega, show (k : Int) < (nm.length : Int) by omega, fun n hn => ?_⟩
        have hn' : nm[k]? = some n := hn
        have est := ownX_step (i := i) (w := w) (o := (ot[i]?).getD w) hn'
        unfold maxLen at hmn
        refine And.intro (fun hk0 => ?_) (fun hk0 => ?_)
        · have hk0' : (0 : Int) < (k : Int) := hk0
          refine .inl ⟨inR_i64 (show _ ≤ (k : Int) - 1 ∧ (k : Int) - 1 ≤ _ by omega), ?_⟩
          refine ⟨Int, nm, PV.int .i64, rfl, show (0 : Int) ≤ (k : Int) - 1 by omega, show (k : Int) - 1 < (nm.length : Int) by omega, fun n0 hn0 => ?_⟩
          have hn0' : nm[k - 1]? = some n0 := by rw [← show ((k : Int) - 1).toNat = k - 1 by omega]; exact hn0
          have hlt := up_lt hup.1 (by omega) hn0' hn'
          refine And.intro (fun hge => ?_) (fun hge => ?_)
          · have hge' : n ≤ n0 := hge
            exact absurd hlt (by omega)
          refine And.intro (fun hni => ?_) (fun hni => ?_)
          · refine .inl ⟨inR_i64 (show _ ≤ (k : Int) + 1 ∧ (k : Int) + 1 ≤ _ by omega), ⟨k + 1, [some 0, some 1], by omega, ?_⟩⟩
            repeat' first | exact trivial | exact rfl | exact Iff.rfl | refine And.intro ?_ ?_
            all_goals exact (show w = ownX nm i w ((ot[i]?).getD w) (k + 1) by rw [est, if_pos hni])
          · refine .inl ⟨inR_i64 (show _ ≤ (k : Int) + 1 ∧ (k : Int) + 1 ≤ _ by omega), ⟨k + 1, [some 0, some 1], by omega, ?_⟩⟩
            repeat' first | exact trivial | exact rfl | exact Iff.rfl | refine And.intro ?_ ?_
            all_goals exact (show ownX nm i w ((ot[i]?).getD w) k = ownX nm i w ((ot[i]?).getD w) (k + 1) by rw [est, if_neg hni])
        · refine And.intro (fun hni => ?_) (fun hni => ?_)
          · refine .inl ⟨inR_i64 (show _ ≤ (k : Int) + 1 ∧ (k : Int) + 1 ≤ _ by omega), ⟨k + 1, [some 0, some 1], by omega, ?_⟩⟩
            repeat' first | exact trivial | exact rfl | exact Iff.rfl | refine And.intro ?_ ?_
            all_goals exact (show w = ownX nm i w ((ot[i]?).getD w) (k + 1) by rw [est, if_pos hni])
          · refine .inl ⟨inR_i64 (show _ ≤ (k : Int) + 1 ∧ (k : Int) + 1 ≤ _ by omega), ⟨k + 1, [some 0, some 1], by omega, ?_⟩⟩
            repeat' first | exact trivial | exact rfl | exact Iff.rfl | refine And.intro ?_ ?_
            all_goals exact (show ownX nm i w ((ot[i]?).getD w) k = ownX nm i w ((ot[i]?).getD w) (k + 1) by rw [est, if_neg hni])
      · have hk' : ¬ (k : Int) < ((intsP nm).length : Nat) := h
        rw [eln] at hk'
        have ekx : ownX nm i w ((ot[i]?).getD w) k = ownX nm i w ((ot[i]?).getD w) nm.length := by unfold ownX; rw [List.take_of_length_le (by omega), List.take_length]
        have etl : (wordsP (ow.take i)).length ≤ ws.length := by rw [wordsP_len, List.length_take]; omega
        refine ⟨show (wordsP (ow.take i)).length + 1 ≤ maxLen by unfold maxLen; omega, show ((wordsP (ow.take i)).length + 1) * 4 ≤ 140737488355328 by rw [wordsP_len, List.length_take]; omega, ?_⟩
        refine .inl ⟨inR_i64 (show _ ≤ (i : Int) + 1 ∧ (i : Int) + 1 ≤ _ by omega), ⟨i + 1, [some 0, some 3], by omega, ?_⟩⟩
        repeat' first | exact trivial | exact rfl | exact Iff.rfl | refine And.intro ?_ ?_
        all_goals exact (show wordsP (ow.take i) ++ [PV.int .u32 _] = wordsP (ow.take (i + 1)) by rw [etk, ekx]; unfold wordsP; rw [List.map_append]; rfl)
  · have h' : ¬ (i : Int) < ((wordsP ws).length : Nat) := h
    rw [elw] at h'
    rw [List.take_of_length_le (show ow.length ≤ i by omega)]
    refine ⟨[], no_rl, e1.use (by repeat' first | exact trivial | exact rfl | exact Iff.rfl | exact Or.inl rfl | refine And.intro ?_ ?_) rfl rfl ?_⟩
    refine ⟨[], no_rl, e2.useB [1] (by repeat' first | exact trivial | exact rfl | exact Iff.rfl | exact Or.inl rfl | refine And.intro ?_ ?_) rfl rfl ?_⟩
    refine And.intro (fun _ => ?_) (fun hne => absurd rfl hne)
    refine And.intro (fun _ => ?_) (fun hne => absurd rfl hne)
    refine retE ?_
    exact (show _ = _ from rfl)

end Go.Proofs.YtfnjlkmhnhojpaaDoor.Pw

/- CostWords as its frame wants it. -/
namespace Go.Proofs.YtfnjlkmhnhojpaaDoor.Pw
open Go Go.RowKit

theorem CostWords_pure' (x : PV) (s : SItems x) (y : PV) (t : SLs 1 4 (PV.int .u32) U32Ok y) (z : PV) (u : SLs 1 4 (PV.int .u32) U32Ok z) (v : PV) (t1 : SInt .i64 v) : PureF gT 4 [x, y, z, v] .tt := by
  obtain ⟨l, h1, h2, rfl⟩ := s
  obtain ⟨ws, h3, h4, rfl⟩ := t
  obtain ⟨ot, h5, h6, rfl⟩ := u
  obtain ⟨w, h7, rfl⟩ := t1
  exact CostWords_pure l h1.1 h2 ws h4 h3.2 ot h6 w

end Go.Proofs.YtfnjlkmhnhojpaaDoor.Pw

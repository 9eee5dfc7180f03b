/- What the laws of this claim are proved with, joined (join.py) of 3 texts: no condition. -/
import Derived.Test.YtfnjlkmhnhojpaaDoorJc6
import Derived.Test.YtfnjlkmhnhojpaaDoorJc4
import Derived.Test.YtfnjlkmhnhojpaaDoorRows
import Derived.ProofKit
import Derived.LaidMore
import Derived.OpenShut
import Derived.Stop.Joined
import Derived.Lib.LaidTab
set_option linter.unusedVariables false
set_option linter.unusedSimpArgs false

/- Chapter 21 over values: CostJoins. -/
set_option linter.unusedVariables false
namespace Go.Proofs.YtfnjlkmhnhojpaaDoor.Pw
open Go Go.RowKit

/-- what a right cost's parts are -/
structure PartOk (c : C) : Prop where
  mt : c.AllT MT
  sh : shC c = true
theorem PartOk.kid {c : C} (h : PartOk c) : ∀ x ∈ c.l, PartOk x := fun x hx =>
  ⟨allTL_all ((C.allT_iff c).1 h.mt).2.2 x hx, shL_all ((shC_iff c).1 h.sh).2.2.2.2.2 x hx⟩
theorem PartOk.flat {c : C} (h : PartOk c) : FlatTo 2147483647 c := fun hk => by
  have N := nums_of ((shC_iff c).1 h.sh).2.1
  exact ⟨N.cyc, N.mis⟩
theorem spL_part {l : List C} (h : ∀ c ∈ l, PartOk c) : ∀ x ∈ spL l, PartOk x := spL_all (fun c hc => hc.kid) (fun c _ hc => spC_all (fun c hc => hc.kid) c hc) h
theorem cNL_spL : ∀ {l : List C}, (∀ c ∈ l, cNL (spC c) ≤ cN c) → cNL (spL l) ≤ cNL l
  | [], _ => Nat.le_refl _
  | c :: l, h => by
    rw [spL, cNL_append, cNL]
    have h1 := h c (by simp)
    have h2 := cNL_spL (l := l) fun x hx => h x (by simp [hx])
    omega
theorem cNL_spC : ∀ c : C, cNL (spC c) ≤ cN c := C.ind' fun c ih => by
  rw [spC_eq]
  split
  · have := cNL_spL ih; rw [cN_eq]; omega
  · rw [cNL, cNL]; omega
theorem cN_flat (a b : Int) : cN (flatC a b) = 1 := rfl
theorem cNL_joinS (out : List C) (c : C) : cNL (joinS out c) ≤ cNL out + cN c := by
  have app : cNL (out ++ [c]) ≤ cNL out + cN c := by rw [cNL_append, cNL, cNL]; omega
  unfold joinS
  split
  · rename_i d hd
    split
    · obtain ⟨pre, hpre⟩ := List.getLast?_eq_some_iff.1 hd
      have := cN_pos c; have := cN_pos d
      rw [hpre, List.dropLast_concat, cNL_append, cNL_append, cNL, cNL, cNL, cNL, cN_flat]; omega
    · exact app
  · exact app
theorem cNL_fold : ∀ (l out : List C), cNL (l.foldl joinS out) ≤ cNL out + cNL l
  | [], out => by rw [cNL]; exact Nat.le_refl _
  | c :: l, out => by
    have h1 := cNL_fold l (joinS out c)
    have h2 := cNL_joinS out c
    rw [List.foldl_cons, cNL]; omega
theorem cNL_filter (p : C → Bool) : ∀ l : List C, cNL (l.filter p) ≤ cNL l
  | [] => Nat.le_refl _
  | c :: l => by
    have h := cNL_filter p l
    cases hp : p c with
    | true => rw [List.filter_cons_of_pos hp, cNL, cNL]; omega
    | false => rw [List.filter_cons_of_neg (by rw [hp]; decide), cNL]; omega
theorem cNL_outC (l : List C) : cNL (outC l) ≤ cNL l := by
  have h1 := cNL_filter keepB ((spL l).foldl joinS [])
  have h2 := cNL_fold (spL l) []
  have h3 := cNL_spL (l := l) fun c _ => cNL_spC c
  unfold outC
  rw [cNL] at h2; omega
theorem szT_leaf0 : szT leaf0 = 0 := rfl
theorem cN_joinC (l : List C) : cN (joinC l) ≤ 1 + cNL l := by
  have h := cNL_outC l
  unfold joinC
  split
  · rename_i c hc
    rw [hc, cNL, cNL] at h; omega
  · rw [cN_eq]
    show 1 + szT leaf0 + szT leaf0 + cNL (outC l) ≤ _
    rw [szT_leaf0]; omega
theorem allTL_of {p : T → Prop} : ∀ {l : List C}, (∀ c ∈ l, c.AllT p) → allTL p l
  | [], _ => trivial
  | c :: l, h => ⟨h c (by simp), allTL_of fun x hx => h x (by simp [hx])⟩
theorem flat_MT (a b : Int) : (flatC a b).AllT MT := (C.allT_iff _).2 ⟨MT.zero, MT.zero, trivial⟩
theorem fold_MT : ∀ (l out : List C), (∀ c ∈ l, c.AllT MT) → (∀ c ∈ out, c.AllT MT) → ∀ c ∈ l.foldl joinS out, c.AllT MT
  | [], out, _, h => h
  | c :: l, out, h1, h2 => fold_MT l _ (fun x hx => h1 x (by simp [hx])) (joinS_mem h2 (h1 c (by simp)) fun d _ _ _ => flat_MT _ _)
theorem outC_MT {l : List C} (h : ∀ c ∈ l, PartOk c) : ∀ c ∈ outC l, c.AllT MT := fun c hc =>
  fold_MT (spL l) [] (fun x hx => (spL_part h x hx).mt) (by simp) c (List.mem_filter.1 hc).1
theorem joinC_MT {l : List C} (h : ∀ c ∈ l, PartOk c) : (joinC l).AllT MT := by
  have ho := outC_MT h
  unfold joinC
  split
  · rename_i c hc; exact ho c (by rw [hc]; simp)
  · exact (C.allT_iff _).2 ⟨MT.zero, MT.zero, allTL_of ho⟩
theorem seq_sh {l : List C} (h : ∀ c ∈ l, PartOk c) (hl : l.length ≤ 1000000) : shC (.mk 2 0 0 0 0 leaf0 leaf0 l) = true := by
  have hL : ∀ {l : List C}, (∀ c ∈ l, PartOk c) → shL l = true := by
    intro l
    induction l with
    | nil => intro _; rfl
    | cons c l ih => intro h; rw [shL, (h c (by simp)).sh, ih fun x hx => h x (by simp [hx])]; rfl
  refine (shC_iff _).2 ⟨(show (1 : Int) ≤ 2 ∧ (2 : Int) ≤ 6 by decide), (show numsB 2 0 0 0 0 = true by decide), ⟨?_, ?_⟩, (show termB leaf0 (decide ((3 : Int) ≤ 2)) = true by decide), (show termB leaf0 (decide ((2 : Int) = 4 ∨ (2 : Int) = 6)) = true by decide), hL h⟩
  · show leastN 2 ≤ ((l.length : Nat) : Int); have : leastN 2 = 0 := by decide
    omega
  · show ((l.length : Nat) : Int) ≤ mostN 2; have : mostN 2 = 2147483647 := by decide
    omega
theorem seq_wf {l : List C} (h : ∀ c ∈ l, PartOk c) : (C.mk 2 0 0 0 0 leaf0 leaf0 l).Wf :=
  wf_of_MT _ ((C.allT_iff _).2 ⟨MT.zero, MT.zero, allTL_of fun c hc => (h c hc).mt⟩)

set_option maxHeartbeats 8000000 in
set_option maxRecDepth 10000 in
theorem CostJoins_pure (a b d : List IT) (ha : a.length ≤ maxLen) (hb : b.length ≤ maxLen) (hd : d.length ≤ maxLen) (oa : ∀ x ∈ a, x.Ok) (ob : ∀ x ∈ b, x.Ok) (od : ∀ x ∈ d, x.Ok) (ws : List Int) (hws : ∀ v ∈ ws, 0 ≤ v ∧ v ≤ 4294967295) (wait : Int) :
    PureF gT 3 [.sl 12 (a.map itP), .sl 12 (b.map itP), .sl 12 (d.map itP), .sl 1 (wordsP ws), .int .i64 wait] .tt := by
  refine Spec.enter gTok P3 100 Tryd.func3 rfl (by kernel_rfl) ?_
  refine ⟨[], no_rl, anchor21_pure.use trivial rfl rfl ?_⟩
  refine ⟨[], no_rl, (made_pure a ha).use (by repeat' first | exact trivial | exact rfl | exact Iff.rfl | exact Or.inl rfl | refine And.intro ?_ ?_) rfl rfl ?_⟩
  refine ⟨[], no_rl, (made_pure b hb).use (by repeat' first | exact trivial | exact rfl | exact Iff.rfl | exact Or.inl rfl | refine And.intro ?_ ?_) rfl rfl ?_⟩
  refine ⟨[], no_rl, (made_pure d hd).use (by repeat' first | exact trivial | exact rfl | exact Iff.rfl | exact Or.inl rfl | refine And.intro ?_ ?_) rfl rfl ?_⟩
  have r1 : ∀ l : List IT, (∀ x ∈ l, x.Ok) → l.length ≤ 30 → PureF gT 7 [cpv (madeC l)] (.bool (cN (madeC l) ≤ 16384 ∧ shC (madeC l) = true)) := fun l hl h30 => by
    have hT : (madeC l).AllT MT := builtC_MT hl 13 0
    have hN := madeC_cN hl h30
    exact cright_pure _ hT (C.AllT.mono (fun t ht => by have := ht.small; omega) _ hT) (by omega)
  refine And.intro (fun _ => retE trivial) (fun h1 => ?_)
  have ha30 : a.length ≤ 30 := Classical.not_not.1 h1
  refine And.intro (fun _ => retE trivial) (fun h2 => ?_)
  have hb30 : b.length ≤ 30 := Classical.not_not.1 h2
  refine And.intro (fun _ => retE trivial) (fun h3 => ?_)
  have hd30 : d.length ≤ 30 := Classical.not_not.1 h3
  refine ⟨[], no_rl, (r1 a oa ha30).use (by repeat' first | exact trivial | exact rfl | exact Iff.rfl | exact Or.inl rfl | refine And.intro ?_ ?_) rfl rfl ?_⟩
  refine And.intro (fun _ => retE trivial) (fun h4 => ?_)
  refine ⟨[], no_rl, (r1 b ob hb30).use (by repeat' first | exact trivial | exact rfl | exact Iff.rfl | exact Or.inl rfl | refine And.intro ?_ ?_) rfl rfl ?_⟩
  refine And.intro (fun _ => retE trivial) (fun h5 => ?_)
  refine ⟨[], no_rl, (r1 d od hd30).use (by repeat' first | exact trivial | exact rfl | exact Iff.rfl | exact Or.inl rfl | refine And.intro ?_ ?_) rfl rfl ?_⟩
  refine And.intro (fun _ => retE trivial) (fun h6 => ?_)
  have sa : cN (madeC a) ≤ 16384 ∧ shC (madeC a) = true := Classical.not_not.1 h4
  have sb : cN (madeC b) ≤ 16384 ∧ shC (madeC b) = true := Classical.not_not.1 h5
  have sd : cN (madeC d) ≤ 16384 ∧ shC (madeC d) = true := Classical.not_not.1 h6
  have na := madeC_cN oa ha30
  have nb := madeC_cN ob hb30
  have nd := madeC_cN od hd30
  obtain ⟨x, hx⟩ : ∃ x, madeC a = x := ⟨_, rfl⟩
  obtain ⟨y, hy⟩ : ∃ y, madeC b = y := ⟨_, rfl⟩
  obtain ⟨z, hz⟩ : ∃ z, madeC d = z := ⟨_, rfl⟩
  have pa : PartOk (madeC a) := ⟨builtC_MT oa 13 0, sa.2⟩
  have pb : PartOk (madeC b) := ⟨builtC_MT ob 13 0, sb.2⟩
  have pd : PartOk (madeC d) := ⟨builtC_MT od 13 0, sd.2⟩
  rw [hx] at na pa
  rw [hy] at nb pb
  rw [hz] at nd pd
  rw [hx, hy, hz]
  have hall : ∀ c ∈ [x, y, z], PartOk c := by
    intro c hc
    simp only [List.mem_cons, List.not_mem_nil, or_false] at hc
    rcases hc with rfl | rfl | rfl
    · exact pa
    · exact pb
    · exact pd
  have hcn : cNL [x, y, z] ≤ 2541 := by rw [cNL, cNL, cNL, cNL]; omega
  have hsl : (spL [x, y, z]).length ≤ 1000000 := by
    have h1 := cNL_len (spL [x, y, z])
    have h2 := cNL_spL (l := [x, y, z]) fun c _ => cNL_spC c
    omega
  have hj := join_pure [x, y, z] hsl fun c hc => (spL_part hall c hc).flat
  have hflat : ∀ c ∈ spL [x, y, z], FlatOk c := fun c hc k => by have := (spL_part hall c hc).flat k; omega
  refine ⟨[], no_rl, hj.useF [3] (by repeat' first | exact trivial | exact rfl | exact Iff.rfl | exact Or.inl rfl | refine And.intro ?_ ?_) (by repeat' first | exact trivial | exact rfl | exact Iff.rfl | exact Or.inl rfl | refine And.intro ?_ ?_) rfl rfl ?_⟩
  refine fun hm => ?_
  refine SW.loopS gTok P3 (by kernel_rfl) (fun i : Nat => [(76, .int .i64 i)]) (fun i => (joinC [x, y, z]).l.length - i) 0 60 ?_ fun i => ?_
  · repeat' first | exact trivial | exact rfl | exact Iff.rfl | refine And.intro ?_ ?_
  have hcJ := cN_joinC [x, y, z]
  have hap := @joinC_apart [x, y, z]
  have hMT := joinC_MT hall
  obtain ⟨J, hJ⟩ : ∃ J, joinC [x, y, z] = J := ⟨_, rfl⟩
  rw [hJ] at hj hm hcJ hap hMT ⊢
  have hJl : J.l.length ≤ 10000 := by have h1 := cNL_len J.l; have h2 := cN_eq J; omega
  have el : (((kidsC J).length : Nat) : Int) = J.l.length := by rw [kidsC_eq, List.length_map]
  refine And.intro (fun h => ?_) (fun h => ?_)
  · have h' : (i : Int) < ((kidsC J).length : Nat) := h
    rw [el] at h'
    refine ⟨C, J.l, cpv, kidsC_eq J, show (0 : Int) ≤ (i : Int) by omega, show (i : Int) < (J.l.length : Int) by omega, fun c hc => ?_⟩
    have hc' : J.l[i]? = some c := hc
    refine And.intro (fun hk => ?_) (fun hk => ?_)
    · have hk' : J.kind = 2 := hk
      obtain ⟨q1, q2⟩ := hap hk' i c hc'
      refine And.intro (fun h2 => absurd h2 q1) (fun _ => ?_)
      refine And.intro (fun h0 => ?_) (fun _ => ?_)
      · have h0' : (0 : Int) < (i : Int) := h0
        refine And.intro (fun hc1 => ?_) (fun _ => ?_)
        · refine .inl ⟨inR_i64 (show _ ≤ (i : Int) - 1 ∧ (i : Int) - 1 ≤ _ by omega), ?_⟩
          refine ⟨C, J.l, cpv, kidsC_eq J, show (0 : Int) ≤ (i : Int) - 1 by omega, show (i : Int) - 1 < (J.l.length : Int) by omega, fun e he => ?_⟩
          have he' : J.l[i - 1]? = some e := by rw [← show ((i : Int) - 1).toNat = i - 1 by omega]; exact he
          refine And.intro (fun he1 => absurd he1 (q2 e (by omega) he' hc1)) (fun _ => ?_)
          refine .inl ⟨inR_i64 (show _ ≤ (i : Int) + 1 ∧ (i : Int) + 1 ≤ _ by omega), ⟨i + 1, show J.l.length - (i + 1) < J.l.length - i by omega, ?_⟩⟩
          repeat' first | exact trivial | exact rfl | exact Iff.rfl | refine And.intro ?_ ?_
        · refine .inl ⟨inR_i64 (show _ ≤ (i : Int) + 1 ∧ (i : Int) + 1 ≤ _ by omega), ⟨i + 1, show J.l.length - (i + 1) < J.l.length - i by omega, ?_⟩⟩
          repeat' first | exact trivial | exact rfl | exact Iff.rfl | refine And.intro ?_ ?_
      · refine .inl ⟨inR_i64 (show _ ≤ (i : Int) + 1 ∧ (i : Int) + 1 ≤ _ by omega), ⟨i + 1, show J.l.length - (i + 1) < J.l.length - i by omega, ?_⟩⟩
        repeat' first | exact trivial | exact rfl | exact Iff.rfl | refine And.intro ?_ ?_
    · refine .inl ⟨inR_i64 (show _ ≤ (i : Int) + 1 ∧ (i : Int) + 1 ≤ _ by omega), ⟨i + 1, show J.l.length - (i + 1) < J.l.length - i by omega, ?_⟩⟩
      repeat' first | exact trivial | exact rfl | exact Iff.rfl | refine And.intro ?_ ?_
  · have h' : ¬ (i : Int) < ((kidsC J).length : Nat) := h
    have rJ := cright_pure J hMT (C.AllT.mono (fun t ht => by have := ht.small; omega) _ hMT) (by omega)
    refine ⟨[], no_rl, rJ.use (by repeat' first | exact trivial | exact rfl | exact Iff.rfl | exact Or.inl rfl | refine And.intro ?_ ?_) rfl rfl ?_⟩
    refine And.intro (fun _ => retE trivial) (fun hR => ?_)
    have hR' : cN J ≤ 16384 ∧ shC J = true := Classical.not_not.1 hR
    have e1 := evalC_pure J (wf_of_MT J hMT) hR'.2 ws hws wait 3000 (by omega)
    have e2 := evalC_pure (.mk 2 0 0 0 0 leaf0 leaf0 [x, y, z]) (seq_wf hall) (seq_sh hall (show 3 ≤ 1000000 by decide)) ws hws wait 3000 (by omega)
    have hev := @join_evC [x, y, z] hflat ws wait 3000
    rw [hJ] at hev
    refine ⟨[], no_rl, e1.use (by repeat' first | exact trivial | exact rfl | exact Iff.rfl | exact Or.inl rfl | refine And.intro ?_ ?_) rfl rfl ?_⟩
    first
      | refine ⟨[], no_rl, e2.useF [5] (by repeat' first | exact trivial | exact rfl | exact Iff.rfl | exact Or.inl rfl | refine And.intro ?_ ?_) (by repeat' first | exact trivial | exact rfl | exact Iff.rfl | exact Or.inl rfl | refine And.intro ?_ ?_) rfl rfl ?_⟩
      | refine ⟨[], no_rl, e2.useF [6] (by repeat' first | exact trivial | exact rfl | exact Iff.rfl | exact Or.inl rfl | refine And.intro ?_ ?_) (by repeat' first | exact trivial | exact rfl | exact Iff.rfl | exact Or.inl rfl | refine And.intro ?_ ?_) rfl rfl ?_⟩
      | refine ⟨[], no_rl, e2.useF [7] (by repeat' first | exact trivial | exact rfl | exact Iff.rfl | exact Or.inl rfl | refine And.intro ?_ ?_) (by repeat' first | exact trivial | exact rfl | exact Iff.rfl | exact Or.inl rfl | refine And.intro ?_ ?_) rfl rfl ?_⟩
      | refine ⟨[], no_rl, e2.useF [4] (by repeat' first | exact trivial | exact rfl | exact Iff.rfl | exact Or.inl rfl | refine And.intro ?_ ?_) (by repeat' first | exact trivial | exact rfl | exact Iff.rfl | exact Or.inl rfl | refine And.intro ?_ ?_) rfl rfl ?_⟩
    refine And.intro (fun _ => retE trivial) (fun k1 => ?_)
    refine And.intro (fun _ => retE trivial) (fun k2 => ?_)
    have q := hev (Classical.not_not.1 k1) (Classical.not_not.1 k2)
    refine And.intro (fun _ => ?_) (fun hv => absurd (congrArg (fun x => x.1) q) hv)
    refine retE ?_
    exact congrArg (fun x => x.2.1) q

end Go.Proofs.YtfnjlkmhnhojpaaDoor.Pw

/- Items that come in to chapter 21's laws, opened. -/
namespace Go.Proofs.YtfnjlkmhnhojpaaDoor.Pw
open Go Go.RowKit

theorem inR_u32b {z : Int} (h : InR .u32 z) : 0 ≤ z ∧ z ≤ 4294967295 := by unfold InR Ev.kmin Ev.kmax at h; simp only [IntKind.signed, IntKind.bits] at h; simpa using h
theorem opT : Op Tryd.prog 60 (SAgg [SInt .i64, SInt .u32, SInt .i64]) :=
  opAgg (Ss := [SInt .i64, SInt .u32, SInt .i64]) Tryd.underlying60 ⟨rfl, opInt Tryd.underlying3 (by kernel_rfl), (show _ = _ by kernel_rfl), opInt Tryd.underlying25 (by kernel_rfl), (show _ = _ by kernel_rfl), opInt Tryd.underlying3 (by kernel_rfl), (show _ = _ by kernel_rfl)⟩
set_option maxRecDepth 100000 in
theorem opItems : Op Tryd.prog 22 (SLs 12 96 itP IT.Ok) :=
  opList (opSlice (opAgg (Ss := [SInt .i64, SInt .i64, SInt .i64, SInt .i64, SInt .i64, SAgg [SInt .i64, SInt .u32, SInt .i64], SAgg [SInt .i64, SInt .u32, SInt .i64], SInt .i64]) Tryd.underlying62
    ⟨rfl, opInt Tryd.underlying3 (by kernel_rfl), (show _ = _ by kernel_rfl), opInt Tryd.underlying3 (by kernel_rfl), (show _ = _ by kernel_rfl), opInt Tryd.underlying3 (by kernel_rfl), (show _ = _ by kernel_rfl), opInt Tryd.underlying3 (by kernel_rfl), (show _ = _ by kernel_rfl), opInt Tryd.underlying3 (by kernel_rfl), (show _ = _ by kernel_rfl),
      opT, (show _ = _ by kernel_rfl), opT, (show _ = _ by kernel_rfl), opInt Tryd.underlying3 (by kernel_rfl), (show _ = _ by kernel_rfl)⟩) 12 96 (by kernel_rfl) Tryd.underlying22 (by kernel_rfl) (by decide) (by kernel_rfl)) fun x ⟨xs, h, e⟩ => by
    obtain ⟨_, _, rfl, ⟨k, _, rfl⟩, h_1⟩ := all2_cons h
    obtain ⟨_, _, rfl, ⟨cy, _, rfl⟩, h_2⟩ := all2_cons h_1
    obtain ⟨_, _, rfl, ⟨mi, _, rfl⟩, h_3⟩ := all2_cons h_2
    obtain ⟨_, _, rfl, ⟨wo, _, rfl⟩, h_4⟩ := all2_cons h_3
    obtain ⟨_, _, rfl, ⟨si, _, rfl⟩, h_5⟩ := all2_cons h_4
    obtain ⟨_, _, rfl, ⟨as_, ha, rfl⟩, h_6⟩ := all2_cons h_5
    obtain ⟨_, _, rfl, ⟨bs_, hb, rfl⟩, h_7⟩ := all2_cons h_6
    obtain ⟨_, _, rfl, ⟨n, _, rfl⟩, h_8⟩ := all2_cons h_7
    obtain rfl := all2_nil h_8
    obtain ⟨_, _, rfl, ⟨ao, _, rfl⟩, ha_1⟩ := all2_cons ha
    obtain ⟨_, _, rfl, ⟨au, hau, rfl⟩, ha_2⟩ := all2_cons ha_1
    obtain ⟨_, _, rfl, ⟨aw, _, rfl⟩, ha_3⟩ := all2_cons ha_2
    obtain rfl := all2_nil ha_3
    obtain ⟨_, _, rfl, ⟨bo, _, rfl⟩, hb_1⟩ := all2_cons hb
    obtain ⟨_, _, rfl, ⟨bu, hbu, rfl⟩, hb_2⟩ := all2_cons hb_1
    obtain ⟨_, _, rfl, ⟨bw, _, rfl⟩, hb_3⟩ := all2_cons hb_2
    obtain rfl := all2_nil hb_3
    exact ⟨⟨k, cy, mi, wo, si, ao, au, aw, bo, bu, bw, n⟩, ⟨inR_u32b hau, inR_u32b hbu⟩, e⟩
abbrev SItems := SLs 12 96 itP IT.Ok

end Go.Proofs.YtfnjlkmhnhojpaaDoor.Pw

/- What comes in to CostJoins and CostWords, opened; the table of rules. -/
namespace Go.Proofs.YtfnjlkmhnhojpaaDoor.costLaid
open Go.ChangeShapes Go.WideShapes Go.ChangeAt Go.RowKit Go.Deep

def laidList : List (String × DataW Unit) := [("remontoire/cost.rules", Rows.laid_remontoire_cost_rules)]
def fuel : Nat := 2000
theorem door_met (os : Os) (args : Array Value) : laidMetH Tryd.prog laidList ((World.doorLaid Tryd.prog fuel os).forCall (fun _ _ => 0) ⟨#[], args, []⟩).memory :=
  laidMetH_of_parts3 (fuel := 8) (laidMet_of_run' 8 (by kernel_rfl) (by kernel_rfl)) (by kernel_rfl) (by kernel_rfl)

end Go.Proofs.YtfnjlkmhnhojpaaDoor.costLaid
namespace Go.Proofs.YtfnjlkmhnhojpaaDoor.Pw
open Go Go.RowKit

def U32Ok (v : Int) : Prop := 0 ≤ v ∧ v ≤ 4294967295
theorem opWords : Op Tryd.prog 23 (SLs 1 4 (PV.int .u32) U32Ok) :=
  opList (opSlice (opInt Tryd.underlying25 (by kernel_rfl)) 1 4 (by kernel_rfl) Tryd.underlying23 (by kernel_rfl) (by decide) (by kernel_rfl)) fun x ⟨a, ha, e⟩ => ⟨a, inR_u32b ha, e⟩
theorem opI64 : Op Tryd.prog 3 (SInt .i64) := opInt Tryd.underlying3 (by kernel_rfl)

theorem immC {W : World} (h : laidMetH Tryd.prog costLaid.laidList W) : ImmOk gT (In W) W :=
  immOk_laid (laid := costLaid.laidList) (by kernel_rfl) h fun x hx => by
    obtain rfl : x = (0, rulesP) := List.mem_singleton.1 hx
    exact ⟨"remontoire/cost.rules", _, 67, List.mem_singleton.2 rfl, by kernel_rfl, by kernel_rfl, by kernel_rfl, nofun⟩
theorem CostJoins_pure' (x : PV) (s : SItems x) (y : PV) (s1 : SItems y) (z : PV) (s2 : SItems z) (u : PV) (t : SLs 1 4 (PV.int .u32) U32Ok u) (v : PV) (t1 : SInt .i64 v) : PureF gT 3 [x, y, z, u, v] .tt := by
  obtain ⟨a, h1, h2, rfl⟩ := s
  obtain ⟨b, h3, h4, rfl⟩ := s1
  obtain ⟨d, h5, h6, rfl⟩ := s2
  obtain ⟨ws, h7, h8, rfl⟩ := t
  obtain ⟨w, h9, rfl⟩ := t1
  exact CostJoins_pure a b d h1.1 h3.1 h5.1 h2 h4 h6 ws h8 w

end Go.Proofs.YtfnjlkmhnhojpaaDoor.Pw

/- May a term be: the walks of shaped, of the library's ContainsFunc at terms, and of Right. -/
import Derived.Test.YtfnjlkmhnhojpaaDoorJcTermE
import Derived.Test.YtfnjlkmhnhojpaaDoorJcTermN
namespace Go.Proofs.YtfnjlkmhnhojpaaDoor
open Go Go.RowKit

def needsT (op : Int) : Int := if op ≤ 2 then 0 else if op ≤ 4 then 1 else 2
theorem tneeds_any (op : Int) (w : World) : Calls Tryd.prog 74 #[.int .i64 op] w fun e w' => e = .returned (.int .i64 (needsT op)) ∧ w' = w := by
  go_enter Tryd.func74, Tryd.ntmps74
  go_wp2
  all_goals (go_ret; exact ⟨congrArg Ending.returned (congrArg (Value.int IntKind.i64) (by unfold needsT; (repeat' split) <;> omega)), rfl⟩)
namespace T
def root (t : T) : Bool := goodN (t.op, t.num, t.kids)
def shaped : T → Bool
  | .leaf o n => goodN (o, n, 0) | .one o n a => goodN (o, n, 1) && a.shaped | .two o n a b => goodN (o, n, 2) && (a.shaped && b.shaped)
def kidsOk : T → Bool
  | .leaf .. => true | .one _ _ a => a.shaped | .two _ _ a b => a.shaped && b.shaped
theorem shaped_eq (t : T) : t.shaped = (t.root && t.kidsOk) := by cases t <;> simp [shaped, root, kidsOk, op, num, kids]
theorem shaped_nodes : ∀ t : T, t.nodes.all goodN = t.shaped
  | .leaf .. => by simp [nodes, shaped]
  | .one _ _ a => by simp [nodes, shaped, shaped_nodes a]
  | .two _ _ a b => by simp [nodes, shaped, shaped_nodes a, shaped_nodes b]
end T
def BoolPost (w : World) (b : Bool) (e : Ending) (w' : World) : Prop := e = .returned (.bool b) ∧ Below w.heap.size w w'
def ShapedCalls (t : T) : Prop := ∀ (s : Value) (bl : List Nat) (w : World), t.IsS w s bl → (∀ b ∈ bl, b < w.heap.size) → Calls Tryd.prog 59 #[.agg #[.int .i64 t.op, .int .u32 t.num, s]] w (BoolPost w t.shaped)

theorem shaped1_calls (t : T) (ih : ShapedCalls t) (s : Value) (bl : List Nat) (w : World) (h : t.IsS w s bl) (hbl : ∀ b ∈ bl, b < w.heap.size) :
    Calls Tryd.prog 75 #[.agg #[.int .i64 t.op, .int .u32 t.num, s]] w (BoolPost w (!t.shaped)) := by
  obtain ⟨p, c, rfl⟩ := h.form
  have hB : Below w.heap.size w (w.alloc (.cells #[.int .i64 t.op, .int .u32 t.num, .slice p t.kids c] 28)) := (Below.refl _ w).alloc (Nat.le_refl _) _
  go_enter Tryd.func75, Tryd.ntmps75
  go_wp2_with fail
  refine (ih _ bl _ (h.keep fun b hb => hB.block b (hbl b hb)) (fun b hb => Nat.lt_of_lt_of_le (hbl b hb) hB.size)).mono ?_
  rintro e w2 ⟨rfl, hB2⟩
  go_wp2_with fail
  go_ret
  exact ⟨rfl, hB.trans (hB2.mono hB.size)⟩

def idx1 (a : Bool) : Int := if a then -1 else 0
def idx2 (a b : Bool) : Int := if a then (if b then -1 else 1) else 0
def IntPost (w : World) (n : Int) (e : Ending) (w' : World) : Prop := e = .returned (.int .i64 n) ∧ Below w.heap.size w w'
theorem index0 (p : Option Addr) (c : Nat) (w : World) : Calls Tryd.prog 76 #[.slice p 0 c, .func (.func 75) #[] #[]] w (IntPost w (-1)) := by
  go_enter Tryd.func76, Tryd.ntmps76
  go_wp2
  refine wp_loop_rounds 1 ?_
  rw [rounds_succ]
  go_wp2
  go_ret
  exact ⟨rfl, Below.refl _ _⟩
set_option maxHeartbeats 4000000 in
set_option maxRecDepth 100000 in
theorem index1 (o n : Int) (a : T) (ih : ShapedCalls a) (s : Value) (bl : List Nat) (w : World) (h : (T.one o n a).IsS w s bl) (hbl : ∀ b ∈ bl, b < w.heap.size) :
    Calls Tryd.prog 76 #[s, .func (.func 75) #[] #[]] w (IntPost w (idx1 a.shaped)) := by
  obtain ⟨g, cap, p, c, bla, rfl, hcap, hg, c0, c1, c2, ha, hs⟩ := h.cells1
  have hc := shaped1_calls a ih _ bla w ha (fun b hb => hbl b (hs b hb))
  cases hx : a.shaped <;> rw [hx] at hc
  all_goals
    go_enter Tryd.func76, Tryd.ntmps76
    go_wp2
    refine wp_loop_rounds 2 ?_
    rw [rounds_succ]
    go_wp2_with fail
    refine hc.mono ?_
    rintro e w2 ⟨rfl, hB2⟩
    go_wp2_with fail
  · exact bodyPost_ret (v := .int .i64 0) (by simp [results, Tryd.results76, go_sem]) rfl ⟨rfl, hB2⟩
  · rw [rounds_succ]
    go_wp2
    exact bodyPost_ret (v := .int .i64 (-1)) (by simp [results, Tryd.results76, go_sem]) rfl ⟨rfl, hB2⟩
set_option maxHeartbeats 4000000 in
set_option maxRecDepth 100000 in
theorem index2 (o n : Int) (a b : T) (iha : ShapedCalls a) (ihb : ShapedCalls b) (s : Value) (bl : List Nat) (w : World) (h : (T.two o n a b).IsS w s bl) (hbl : ∀ b ∈ bl, b < w.heap.size) :
    Calls Tryd.prog 76 #[s, .func (.func 75) #[] #[]] w (IntPost w (idx2 a.shaped b.shaped)) := by
  obtain ⟨g, cap, p, c, q, d, bla, blb, rfl, hcap, hg, ⟨c0, c1, c2⟩, ⟨c3, c4, c5⟩, ha, hb, hs, ht⟩ := h.cells2
  have hc := shaped1_calls a iha _ bla w ha (fun b hb => hbl b (hs b hb))
  cases hx : a.shaped <;> rw [hx] at hc
  · go_enter Tryd.func76, Tryd.ntmps76
    go_wp2
    refine wp_loop_rounds 3 ?_
    rw [rounds_succ]
    go_wp2_with fail
    refine hc.mono ?_
    rintro e w2 ⟨rfl, hB2⟩
    go_wp2_with fail
    exact bodyPost_ret (v := .int .i64 0) (by simp [results, Tryd.results76, go_sem]) rfl ⟨rfl, hB2⟩
  · cases hy : b.shaped
    all_goals
      go_enter Tryd.func76, Tryd.ntmps76
      go_wp2
      refine wp_loop_rounds 3 ?_
      rw [rounds_succ]
      go_wp2_with fail
      refine hc.mono ?_
      rintro e w2 ⟨rfl, hB2⟩
      have hZ2 := hB2.size
      have e3 : w2.cell? ⟨g, 3, none⟩ = some (.int .i64 b.op) := (hB2.cell (p := ⟨g, 3, none⟩) hg).trans c3
      have e4 : w2.cell? ⟨g, 4, none⟩ = some (.int .u32 b.num) := (hB2.cell (p := ⟨g, 4, none⟩) hg).trans c4
      have e5 : w2.cell? ⟨g, 5, none⟩ = some (.slice q b.kids d) := (hB2.cell (p := ⟨g, 5, none⟩) hg).trans c5
      have hd := shaped1_calls b ihb _ blb w2 (hb.keep fun b hb => hB2.block b (hbl b (ht b hb))) (fun b hb => Nat.lt_of_lt_of_le (hbl b (ht b hb)) hZ2)
      rw [hy] at hd
      go_wp2_with fail
      rw [rounds_succ]
      go_wp2_with fail
      refine hd.mono ?_
      rintro e w3 ⟨rfl, hB3⟩
      have hBf : Below w.heap.size w w3 := hB2.trans (hB3.mono hZ2)
      go_wp2_with fail
    · exact bodyPost_ret (v := .int .i64 1) (by simp [results, Tryd.results76, go_sem]) rfl ⟨rfl, hBf⟩
    · rw [rounds_succ]
      go_wp2
      exact bodyPost_ret (v := .int .i64 (-1)) (by simp [results, Tryd.results76, go_sem]) rfl ⟨rfl, hBf⟩
theorem contains_calls (s : Value) (k : Int) (w : World) (h : Calls Tryd.prog 76 #[s, .func (.func 75) #[] #[]] w (IntPost w k)) :
    Calls Tryd.prog 60 #[s, .func (.func 75) #[] #[]] w (BoolPost w (decide (0 ≤ k))) := by
  go_enter Tryd.func60, Tryd.ntmps60
  go_wp2_with fail
  refine h.mono ?_
  rintro e w2 ⟨rfl, hB2⟩
  go_wp2_with fail
  go_ret
  exact ⟨rfl, hB2⟩

set_option maxHeartbeats 40000000 in
set_option maxRecDepth 100000 in
theorem shaped_step (t : T) (s : Value) (bl : List Nat) (w : World) (h : t.IsS w s bl)
    (hk : ∀ w', Below w.heap.size w w' → Calls Tryd.prog 60 #[s, .func (.func 75) #[] #[]] w' (BoolPost w' (!t.kidsOk))) :
    Calls Tryd.prog 59 #[.agg #[.int .i64 t.op, .int .u32 t.num, s]] w (BoolPost w t.shaped) := by
  obtain ⟨p, c, rfl⟩ := h.form
  have he := T.shaped_eq t
  obtain ⟨W1, hW1⟩ : ∃ W1, w.alloc (.cells #[.int .i64 t.op, .int .u32 t.num, .slice p t.kids c] 28) = W1 := ⟨_, rfl⟩
  have hB1 : Below w.heap.size w W1 := hW1 ▸ (Below.refl _ w).alloc (Nat.le_refl _) _
  have hP1 : Blk W1 w.heap.size 28 #[.int .i64 t.op, .int .u32 t.num, .slice p t.kids c] := hW1 ▸ Blk.new w _ _
  obtain ⟨c0, c1, c2⟩ := hP1.c3
  have hnT : 1 ≤ t.op → t.op ≤ 17 → needsN t.op = needsT t.op := fun h1 h2 => by unfold needsN needsT; (repeat' split) <;> omega
  obtain ⟨nT, hnTe⟩ : ∃ x, needsT t.op = x := ⟨_, rfl⟩
  obtain ⟨nN, hnNe⟩ : ∃ x, needsN t.op = x := ⟨_, rfl⟩
  obtain ⟨o, hoe⟩ : ∃ x, t.op = x := ⟨_, rfl⟩
  obtain ⟨n, hne⟩ : ∃ x, t.num = x := ⟨_, rfl⟩
  obtain ⟨q, hqe⟩ : ∃ x, t.kids = x := ⟨_, rfl⟩
  have hroot : t.root = decide (1 ≤ o ∧ o ≤ 17 ∧ nN = (q : Int) ∧ (2 < o → n = 0) ∧ (o = 2 → n ≤ 255)) := by unfold T.root goodN; dsimp only; rw [hnNe, hoe, hne, hqe]
  rw [hoe] at hnT hnTe hnNe
  rw [hnTe, hnNe] at hnT
  simp only [hoe, hne, hqe] at hW1 c0 c1 c2 hk ⊢
  clear hP1 h
  by_cases h1 : 1 ≤ o
  · have hd1 : decide (o < 1) = false := decide_eq_false (by omega)
    by_cases h2 : o ≤ 17
    · have hd2 : decide (17 < o) = false := decide_eq_false (by omega)
      have hnT' := hnT h1 h2
      by_cases h3 : (q : Int) = nT
      · have hd3 : ((q : Int) != needsT o) = false := by rw [hnTe]; simpa using h3
        by_cases h4 : 2 < o
        · have hd4 : decide (2 < o) = true := decide_eq_true h4
          have hd6 : (o == 2) = false := by simpa using (show ¬ o = 2 by omega)
          by_cases h5 : n = 0
          · have hd5 : (n != 0) = false := by simpa using h5
            have HG := Lib.hid (show t.shaped = t.kidsOk by rw [he, show t.root = true by rw [hroot]; exact decide_eq_true (by omega), Bool.true_and])
            clear hroot he hnT hnTe hnNe hoe hne hqe
            try clear hnT'
            try clear h3
            try clear h5
            try clear h6
            go_enter Tryd.func59, Tryd.ntmps59
            go_wp2
            try rw [hW1]
            clear hW1
            go_quiet ((go_at_call 74; exact Calls.quiet_of_same (tneeds_any _ _)))
            have hBn := hB1.trans (below_drewN w.heap.size W1 nq)
            have hcf := hk (W1.drewN nq) hBn
            go_wp2_with fail
            refine hcf.mono ?_
            rintro e w2 ⟨rfl, hB2⟩
            go_wp2_with fail
            go_ret
            exact ⟨congrArg Ending.returned (congrArg Value.bool (by rw [HG.out]; try simp)), hBn.trans (hB2.mono hBn.size)⟩
          · have hd5 : (n != 0) = true := by simpa using h5
            have HB := Lib.hid (show t.shaped = false by rw [he, show t.root = false by rw [hroot]; exact decide_eq_false (by omega), Bool.false_and])
            clear hroot he hnT hnTe hnNe hoe hne hqe
            try clear hnT'
            try clear h3
            try clear h5
            try clear h6
            go_enter Tryd.func59, Tryd.ntmps59
            go_wp2
            try rw [hW1]
            clear hW1
            go_quiet ((go_at_call 74; exact Calls.quiet_of_same (tneeds_any _ _)))
            go_wp2
            go_ret
            exact ⟨congrArg Ending.returned (congrArg Value.bool HB.out.symm), hB1.trans (below_drewN _ _ _)⟩
        · have hd4 : decide (2 < o) = false := decide_eq_false h4
          by_cases h6 : o = 2
          · have hd6 : (o == 2) = true := by simpa using h6
            by_cases h7 : 255 < n
            · have hd7 : decide (255 < n) = true := decide_eq_true h7
              have HB := Lib.hid (show t.shaped = false by rw [he, show t.root = false by rw [hroot]; exact decide_eq_false (by omega), Bool.false_and])
              clear hroot he hnT hnTe hnNe hoe hne hqe
              try clear hnT'
              try clear h3
              try clear h5
              try clear h6
              go_enter Tryd.func59, Tryd.ntmps59
              go_wp2
              try rw [hW1]
              clear hW1
              go_quiet ((go_at_call 74; exact Calls.quiet_of_same (tneeds_any _ _)))
              go_wp2
              go_ret
              exact ⟨congrArg Ending.returned (congrArg Value.bool HB.out.symm), hB1.trans (below_drewN _ _ _)⟩
            · have hd7 : decide (255 < n) = false := decide_eq_false h7
              have HG := Lib.hid (show t.shaped = t.kidsOk by rw [he, show t.root = true by rw [hroot]; exact decide_eq_true (by omega), Bool.true_and])
              clear hroot he hnT hnTe hnNe hoe hne hqe
              try clear hnT'
              try clear h3
              try clear h5
              try clear h6
              go_enter Tryd.func59, Tryd.ntmps59
              go_wp2
              try rw [hW1]
              clear hW1
              go_quiet ((go_at_call 74; exact Calls.quiet_of_same (tneeds_any _ _)))
              have hBn := hB1.trans (below_drewN w.heap.size W1 nq)
              have hcf := hk (W1.drewN nq) hBn
              go_wp2_with fail
              refine hcf.mono ?_
              rintro e w2 ⟨rfl, hB2⟩
              go_wp2_with fail
              go_ret
              exact ⟨congrArg Ending.returned (congrArg Value.bool (by rw [HG.out]; try simp)), hBn.trans (hB2.mono hBn.size)⟩
          · have hd6 : (o == 2) = false := by simpa using h6
            have HG := Lib.hid (show t.shaped = t.kidsOk by rw [he, show t.root = true by rw [hroot]; exact decide_eq_true (by omega), Bool.true_and])
            clear hroot he hnT hnTe hnNe hoe hne hqe
            try clear hnT'
            try clear h3
            try clear h5
            try clear h6
            go_enter Tryd.func59, Tryd.ntmps59
            go_wp2
            try rw [hW1]
            clear hW1
            go_quiet ((go_at_call 74; exact Calls.quiet_of_same (tneeds_any _ _)))
            have hBn := hB1.trans (below_drewN w.heap.size W1 nq)
            have hcf := hk (W1.drewN nq) hBn
            go_wp2_with fail
            refine hcf.mono ?_
            rintro e w2 ⟨rfl, hB2⟩
            go_wp2_with fail
            go_ret
            exact ⟨congrArg Ending.returned (congrArg Value.bool (by rw [HG.out]; try simp)), hBn.trans (hB2.mono hBn.size)⟩
      · have hd3 : ((q : Int) != needsT o) = true := by rw [hnTe]; simpa using h3
        have HB := Lib.hid (show t.shaped = false by rw [he, show t.root = false by rw [hroot]; exact decide_eq_false (by omega), Bool.false_and])
        clear hroot he hnT hnTe hnNe hoe hne hqe
        try clear hnT'
        try clear h3
        try clear h5
        try clear h6
        go_enter Tryd.func59, Tryd.ntmps59
        go_wp2
        try rw [hW1]
        clear hW1
        go_quiet ((go_at_call 74; exact Calls.quiet_of_same (tneeds_any _ _)))
        go_wp2
        go_ret
        exact ⟨congrArg Ending.returned (congrArg Value.bool HB.out.symm), hB1.trans (below_drewN _ _ _)⟩
    · have hd2 : decide (17 < o) = true := decide_eq_true (by omega)
      have HB := Lib.hid (show t.shaped = false by rw [he, show t.root = false by rw [hroot]; exact decide_eq_false (by omega), Bool.false_and])
      clear hroot he hnT hnTe hnNe hoe hne hqe
      try clear hnT'
      try clear h3
      try clear h5
      try clear h6
      go_enter Tryd.func59, Tryd.ntmps59
      go_wp2
      try rw [hW1]
      clear hW1
      go_quiet ((go_at_call 74; exact Calls.quiet_of_same (tneeds_any _ _)))
      go_wp2
      go_ret
      exact ⟨congrArg Ending.returned (congrArg Value.bool HB.out.symm), hB1.trans (below_drewN _ _ _)⟩
  · have hd1 : decide (o < 1) = true := decide_eq_true (by omega)
    have HB := Lib.hid (show t.shaped = false by rw [he, show t.root = false by rw [hroot]; exact decide_eq_false (by omega), Bool.false_and])
    clear hroot he hnT hnTe hnNe hoe hne hqe
    try clear hnT'
    try clear h3
    try clear h5
    try clear h6
    go_enter Tryd.func59, Tryd.ntmps59
    go_wp2
    try rw [hW1]
    clear hW1
    go_quiet ((go_at_call 74; exact Calls.quiet_of_same (tneeds_any _ _)))
    go_wp2
    go_ret
    exact ⟨congrArg Ending.returned (congrArg Value.bool HB.out.symm), hB1.trans (below_drewN _ _ _)⟩

theorem shaped_calls : ∀ t : T, ShapedCalls t
  | .leaf o n => fun s bl w h hbl => shaped_step _ s bl w h fun w' hB => by
    obtain ⟨rfl, _⟩ := h
    exact contains_calls _ _ _ (index0 _ _ w')
  | .one o n a => fun s bl w h hbl => shaped_step _ s bl w h fun w' hB => by
    have := contains_calls _ _ _ (index1 o n a (shaped_calls a) s bl w' (h.keep fun b hb => hB.block b (hbl b hb)) (fun b hb => Nat.lt_of_lt_of_le (hbl b hb) hB.size))
    have e : decide (0 ≤ idx1 a.shaped) = !(T.one o n a).kidsOk := by simp only [T.kidsOk]; cases a.shaped <;> rfl
    rwa [e] at this
  | .two o n a b => fun s bl w h hbl => shaped_step _ s bl w h fun w' hB => by
    have := contains_calls _ _ _ (index2 o n a b (shaped_calls a) (shaped_calls b) s bl w' (h.keep fun b hb => hB.block b (hbl b hb)) (fun b hb => Nat.lt_of_lt_of_le (hbl b hb) hB.size))
    have e : decide (0 ≤ idx2 a.shaped b.shaped) = !(T.two o n a b).kidsOk := by simp only [T.kidsOk]; cases a.shaped <;> cases b.shaped <;> rfl
    rwa [e] at this

theorem tright_calls (t : T) (s : Value) (bl : List Nat) (w : World) (h : t.IsS w s bl) (hbl : ∀ b ∈ bl, b < w.heap.size) (hz : t.size ≤ 16384) :
    Calls Tryd.prog 42 #[.agg #[.int .i64 t.op, .int .u32 t.num, s]] w (BoolPost w t.shaped) := by
  obtain ⟨p, c, rfl⟩ := h.form
  obtain ⟨W1, hW1⟩ : ∃ W1, w.alloc (.cells #[.int .i64 t.op, .int .u32 t.num, .slice p t.kids c] 28) = W1 := ⟨_, rfl⟩
  have hB1 : Below w.heap.size w W1 := hW1 ▸ (Below.refl _ w).alloc (Nat.le_refl _) _
  have hP1 : Blk W1 w.heap.size 28 #[.int .i64 t.op, .int .u32 t.num, .slice p t.kids c] := hW1 ▸ Blk.new w _ _
  obtain ⟨c0, c1, c2⟩ := hP1.c3
  go_enter Tryd.func42, Tryd.ntmps42
  go_wp2_with fail
  try rw [hW1]
  clear hW1
  refine (count_calls t _ bl W1 (h.keep fun b hb => hB1.block b (hbl b hb)) (fun b hb => Nat.lt_of_lt_of_le (hbl b hb) hB1.size) (by omega)).mono ?_
  rintro e w2 ⟨rfl, hB2⟩
  have hP2 := hP1.below hB2 hP1.lt
  obtain ⟨d0, d1, d2⟩ := hP2.c3
  have hBf : Below w.heap.size w w2 := hB1.trans (hB2.mono hB1.size)
  go_wp2_with fail
  refine (shaped_calls t _ bl w2 (h.keep fun b hb => hBf.block b (hbl b hb)) (fun b hb => Nat.lt_of_lt_of_le (hbl b hb) hBf.size)).mono ?_
  rintro e w3 ⟨rfl, hB3⟩
  go_wp2_with fail
  go_ret
  exact ⟨rfl, hBf.trans (hB3.mono hBf.size)⟩

end Go.Proofs.YtfnjlkmhnhojpaaDoor

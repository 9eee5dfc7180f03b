/- What the laws of this claim are proved with, joined (join.py) of 5 texts: no condition. -/
import Derived.Test.YtjcacjeoddnmhaaDoorNc10
import Derived.Laws.AppendOwn
import Derived.Maps.Views
import Derived.Carry
import Derived.Laws.BytesArg
set_option linter.unusedVariables false
set_option linter.unusedSimpArgs false

/- clear of a block's end, as the evaluator says. -/
namespace Go.Proofs.YtjcacjeoddnmhaaDoor.Pw
open Go Go.RowKit

section
variable {w w' : World} {I I' : Nat → Prop} {β β' : Places} {G : Gx} {s : PSt} {a : Act} {st st' : List PBlk}
/-- a call that yields the caller's own block, or its first elements: they are not changed any more, the block is given up -/
theorem Spec.cut {f : FuncId} {args : List PV} {b0 : PBlk} {n : Nat} {es : List PV} (h : Spec G f args [b0] [] fun r S' => ∃ b : PBlk, S' = [b] ∧ b.k = .dyn ∧ b.live = true ∧ b.m = .w ∧ b.size = n ∧ ((r = .wref 0 ∧ b.cs = es) ∨ (r = .ref 0 0 es.length ∧ b.cs.take es.length = es))) :
    Spec G f args [b0] [] fun r S' => r = .sl n es ∧ S' = [⟨.dyn, b0.ty, n, .w, false, []⟩] := by
  refine Spec.intro h.run.1 fun I β w vals hH hM hA => (h.run.2 I β w vals hH hM hA).mono fun e w' ⟨v, r, S', I', β', he, ⟨b, hS, hk, hl, hm, hn, hc⟩, hi, hH', hM', hE, hlen, hβ⟩ => ?_
  subst hS
  have hb : [b][0]? = some b := rfl
  obtain ⟨p, hp, hbk⟩ := hH'.blk 0 b hb hl
  obtain ⟨hsp, hplen, hle, hmx, hor⟩ := whole_dyn hH' hb hl hk hp
  rw [hn] at hsp hor
  have hII : ∀ g, I' g → (I' g ∨ ∃ o, p.a = some (g, o)) := fun g h => .inl h
  have hwr : ∀ {g o : Nat}, p.a = some (g, o) → Wr β' [b] g := fun {g o} ha => ⟨0, b, p, o, hb, hl, hm, hp, ha⟩
  have hI2 : ∀ g, (I' g ∨ ∃ o, p.a = some (g, o)) → g < w'.heap.size := fun g hg => by
    rcases hg with hg | ⟨o, ha⟩
    · exact hM'.imm g hg
    · rcases hor with ⟨hno, _⟩ | ⟨g1, arr, fr, ha1, _, hhg, _⟩
      · rw [hno] at ha; cases ha
      · rw [ha1] at ha; cases ha; exact lt_of_heap hhg
  have hel : es.length ≤ b.cs.length := by
    rcases hc with ⟨_, rfl⟩ | ⟨_, hc⟩
    · exact Nat.le_refl _
    · rw [← hc, List.length_take]; omega
  have htk : b.cs.take es.length = es := by
    rcases hc with ⟨_, rfl⟩ | ⟨_, hc⟩
    · rw [List.take_length]
    · exact hc
  have hIs : (PV.sl n es).Is w' (fun g => I' g ∨ ∃ o, p.a = some (g, o)) β' v := by
    simp only [PV.Is]
    rcases hor with ⟨hno, hc0, hw⟩ | ⟨g, arr, fr, ha, hw, hhg, hes, hown, has⟩
    · have h0 : es = [] := List.eq_nil_of_length_eq_zero (by omega)
      subst h0
      rcases hc with ⟨rfl, _⟩ | ⟨rfl, _⟩
      · simp only [PV.Is] at hi
        obtain ⟨p', hp', rfl⟩ := hi
        rw [hp] at hp'; cases hp'
        exact ⟨none, 0, by rw [hw]; rfl, Nat.le_refl _, Nat.zero_le _, (fun _ _ e => by cases e), fun hn => absurd rfl hn⟩
      · simp only [PV.Is] at hi
        obtain ⟨p', g', o', cap', hp', ha', _⟩ := hi
        rw [hp] at hp'; cases hp'
        rw [hno] at ha'; cases ha'
    · obtain ⟨xs, hxs, hxc⟩ := hes.row
      have hEs : IsEs w' (fun g => I' g ∨ ∃ o, p.a = some (g, o)) es n g 0 := by
        have h1 := hxs.take (k := es.length) hel
        rw [htk] at h1
        exact h1.at (fun j u hu => by
          rw [List.getElem?_take] at hu
          split at hu
          · have := hxc j u hu
            rwa [Nat.zero_add] at this
          · cases hu) hII (fun _ _ => rfl)
      have hgI : es.length ≠ 0 → ∃ g' o', (some (⟨g, 0, none⟩ : Addr)) = some ⟨g', o', none⟩ ∧ (I' g' ∨ ∃ o, p.a = some (g', o)) ∧ 0 < n := fun _ => ⟨g, 0, rfl, .inr ⟨0, ha⟩, hsp⟩
      rcases hc with ⟨rfl, hce⟩ | ⟨rfl, _⟩
      · simp only [PV.Is] at hi
        obtain ⟨p', hp', rfl⟩ := hi
        rw [hp] at hp'; cases hp'
        have hpl : p.len = es.length := by rw [← hplen, hce]
        exact ⟨some ⟨g, 0, none⟩, p.cap, by rw [hw, hpl], by omega, by omega, (fun g' o' e => by cases e; exact hEs), hgI⟩
      · simp only [PV.Is] at hi
        obtain ⟨p', g', o', cap', hp', ha', rfl, hlc⟩ := hi
        rw [hp] at hp'; cases hp'
        rw [ha] at ha'; cases ha'
        exact ⟨some ⟨g, 0, none⟩, cap', rfl, hlc, by omega, (fun g' o' e => by cases e; exact hEs), hgI⟩
  refine ⟨v, .sl n es, _, _, β', he, ⟨rfl, rfl⟩, hIs, ⟨fun l hl2 => hH'.far l hl2, fun l b2 hb2 hlive => ?_⟩, ⟨hI2, fun g cs hg => ⟨.inl (hM'.tab g cs hg).1, IsAt.mono hII (fun _ _ => rfl) _ _ _ rfl (hM'.tab g cs hg).2⟩, hM'.row⟩, ⟨hE.os, hE.tape, hE.output, hE.size, hE.block, fun g _ h => ?_, fun g hg => .inl (hE.imm g hg), fun g hg h => ?_⟩, hlen, hβ⟩
  · match l, hb2 with
    | 0, hb2 => cases hb2; cases hlive
    | l + 1, hb2 => simp at hb2
  · obtain ⟨l, b2, p2, o2, hb2, hlive, _⟩ := h
    match l, hb2 with
    | 0, hb2 => cases hb2; cases hlive
    | l + 1, hb2 => simp at hb2
  · rcases h with h | ⟨o, ha⟩
    · exact hE.new g hg h
    · exact .inr (hE.wr g hg (hwr ha))
/-- the same, where the block is the second one -/
theorem Spec.cut1 {f : FuncId} {args : List PV} {z b0 : PBlk} (hz : z.k = .loc) (hzm : z.m = .w) (hzl : z.live = true) {n : Nat} {es : List PV} (h : Spec G f args [z, b0] [] fun r S' => ∃ b : PBlk, S' = [z, b] ∧ b.k = .dyn ∧ b.live = true ∧ b.m = .w ∧ b.size = n ∧ ((r = .wref 1 ∧ b.cs = es) ∨ (r = .ref 1 0 es.length ∧ b.cs.take es.length = es))) :
    Spec G f args [z, b0] [] fun r S' => r = .sl n es ∧ S' = [z, ⟨.dyn, b0.ty, n, .w, false, []⟩] := by
  refine Spec.intro h.run.1 fun I β w vals hH hM hA => (h.run.2 I β w vals hH hM hA).mono fun e w' ⟨v, r, S', I', β', he, ⟨b, hS, hk, hl, hm, hn, hc⟩, hi, hH', hM', hE, hlen, hβ⟩ => ?_
  subst hS
  have hb : [z, b][1]? = some b := rfl
  obtain ⟨p, hp, hbk⟩ := hH'.blk 1 b hb hl
  obtain ⟨hsp, hplen, hle, hmx, hor⟩ := whole_dyn hH' hb hl hk hp
  rw [hn] at hsp hor
  have hII : ∀ g, I' g → (I' g ∨ ∃ o, p.a = some (g, o)) := fun g h => .inl h
  have hwr : ∀ {g o : Nat}, p.a = some (g, o) → Wr β' [z, b] g := fun {g o} ha => ⟨1, b, p, o, hb, hl, hm, hp, ha⟩
  have hI2 : ∀ g, (I' g ∨ ∃ o, p.a = some (g, o)) → g < w'.heap.size := fun g hg => by
    rcases hg with hg | ⟨o, ha⟩
    · exact hM'.imm g hg
    · rcases hor with ⟨hno, _⟩ | ⟨g1, arr, fr, ha1, _, hhg, _⟩
      · rw [hno] at ha; cases ha
      · rw [ha1] at ha; cases ha; exact lt_of_heap hhg
  have hel : es.length ≤ b.cs.length := by
    rcases hc with ⟨_, rfl⟩ | ⟨_, hc⟩
    · exact Nat.le_refl _
    · rw [← hc, List.length_take]; omega
  have htk : b.cs.take es.length = es := by
    rcases hc with ⟨_, rfl⟩ | ⟨_, hc⟩
    · rw [List.take_length]
    · exact hc
  have hIs : (PV.sl n es).Is w' (fun g => I' g ∨ ∃ o, p.a = some (g, o)) β' v := by
    simp only [PV.Is]
    rcases hor with ⟨hno, hc0, hw⟩ | ⟨g, arr, fr, ha, hw, hhg, hes, hown, has⟩
    · have h0 : es = [] := List.eq_nil_of_length_eq_zero (by omega)
      subst h0
      rcases hc with ⟨rfl, _⟩ | ⟨rfl, _⟩
      · simp only [PV.Is] at hi
        obtain ⟨p', hp', rfl⟩ := hi
        rw [hp] at hp'; cases hp'
        exact ⟨none, 0, by rw [hw]; rfl, Nat.le_refl _, Nat.zero_le _, (fun _ _ e => by cases e), fun hn => absurd rfl hn⟩
      · simp only [PV.Is] at hi
        obtain ⟨p', g', o', cap', hp', ha', _⟩ := hi
        rw [hp] at hp'; cases hp'
        rw [hno] at ha'; cases ha'
    · obtain ⟨xs, hxs, hxc⟩ := hes.row
      have hEs : IsEs w' (fun g => I' g ∨ ∃ o, p.a = some (g, o)) es n g 0 := by
        have h1 := hxs.take (k := es.length) hel
        rw [htk] at h1
        exact h1.at (fun j u hu => by
          rw [List.getElem?_take] at hu
          split at hu
          · have := hxc j u hu
            rwa [Nat.zero_add] at this
          · cases hu) hII (fun _ _ => rfl)
      have hgI : es.length ≠ 0 → ∃ g' o', (some (⟨g, 0, none⟩ : Addr)) = some ⟨g', o', none⟩ ∧ (I' g' ∨ ∃ o, p.a = some (g', o)) ∧ 0 < n := fun _ => ⟨g, 0, rfl, .inr ⟨0, ha⟩, hsp⟩
      rcases hc with ⟨rfl, hce⟩ | ⟨rfl, _⟩
      · simp only [PV.Is] at hi
        obtain ⟨p', hp', rfl⟩ := hi
        rw [hp] at hp'; cases hp'
        have hpl : p.len = es.length := by rw [← hplen, hce]
        exact ⟨some ⟨g, 0, none⟩, p.cap, by rw [hw, hpl], by omega, by omega, (fun g' o' e => by cases e; exact hEs), hgI⟩
      · simp only [PV.Is] at hi
        obtain ⟨p', g', o', cap', hp', ha', rfl, hlc⟩ := hi
        rw [hp] at hp'; cases hp'
        rw [ha] at ha'; cases ha'
        exact ⟨some ⟨g, 0, none⟩, cap', rfl, hlc, by omega, (fun g' o' e => by cases e; exact hEs), hgI⟩
  refine ⟨v, .sl n es, _, _, β', he, ⟨rfl, rfl⟩, hIs, ⟨fun l hl2 => hH'.far l hl2, fun l b2 hb2 hlive => ?_⟩, ⟨hI2, fun g cs hg => ⟨.inl (hM'.tab g cs hg).1, IsAt.mono hII (fun _ _ => rfl) _ _ _ rfl (hM'.tab g cs hg).2⟩, hM'.row⟩, ⟨hE.os, hE.tape, hE.output, hE.size, hE.block, fun g _ h => ?_, fun g hg => .inl (hE.imm g hg), fun g hg h => ?_⟩, hlen, hβ⟩
  · match l, hb2 with
    | 0, hb2 =>
      cases hb2
      obtain ⟨p0, hp0, hk0⟩ := hH'.blk 0 z rfl hlive
      rw [hz] at hk0
      obtain ⟨g0, o0, arr, ty, fr, q1, q2, q3, q4⟩ := hk0
      obtain ⟨r1, r2, r3⟩ := q4.1 (by rw [hzm]; decide)
      refine ⟨p0, hp0, ?_⟩
      rw [hz]
      refine ⟨g0, o0, arr, ty, fr, q1, q2, CellsAt.mono hII (fun _ _ => rfl) (fun _ _ h => h) q3, ⟨fun _ => ⟨r1, fun hI => ?_, fun l' b' hne hl' hlive' => ?_⟩, fun hm' => by rw [hzm] at hm'; cases hm'⟩⟩
      · rcases hI with hI | ⟨o, ha⟩
        · exact r2 hI
        · exact r3 1 b (by decide) rfl hl p g0 o hp ha rfl
      · match l', hl' with
        | 0, _ => exact absurd rfl hne
        | 1, hl' => cases hl'; cases hlive'
        | l' + 2, hl' => simp at hl'
    | 1, hb2 => cases hb2; cases hlive
    | l + 2, hb2 => simp at hb2
  · obtain ⟨l, b2, p2, o2, hb2, hlive, hm2, hp2, ha2⟩ := h
    match l, hb2 with
    | 0, hb2 => cases hb2; exact hE.wr _ (by assumption) ⟨0, z, p2, o2, rfl, hzl, hm2, hp2, ha2⟩
    | 1, hb2 => cases hb2; cases hlive
    | l + 2, hb2 => simp at hb2
  · rcases h with h | ⟨o, ha⟩
    · exact hE.new g hg h
    · exact .inr (hE.wr g hg (hwr ha))
end

end Go.Proofs.YtjcacjeoddnmhaaDoor.Pw

/- Calls of functions that may move some of the caller's blocks (append through a pointer); a variable that is nil as a list of its own; a list of the caller's that doesn't change any more. -/
namespace Go.Proofs.YtjcacjeoddnmhaaDoor.Pw
open Go Go.RowKit

def canL (S : List PBlk) (l : Nat) : Bool := match S[l]? with
  | some b => b.can
  | none => false
theorem canL_ok {S : List PBlk} {l : Nat} (h : canL S l = true) : l < S.length ∧ ∀ b, S[l]? = some b → b.m = .w := by
  unfold canL at h
  split at h
  · rename_i b hb
    refine ⟨(List.getElem?_eq_some_iff.1 hb).1, fun b' hb' => ?_⟩
    rw [hb] at hb'; cases hb'
    unfold PBlk.can at h
    simp only [Bool.and_eq_true] at h
    cases hm : b.m with
    | w => rfl
    | p => rw [hm] at h; cases h.2
    | r => rw [hm] at h; cases h.2
  · cases h
/-- blocks whose cells lead to none of rl -/
def restB (rl : List Nat) (b : PBlk) : Bool := match b.k with
  | .dyn => true
  | .mp => true
  | _ => b.cs.all fun c => c.uses.all fun l => !(inL l rl)
def restOk (rl : List Nat) (T : List PBlk) : Bool := T.all (restB rl)
theorem restOk_ok {rl : List Nat} {T : List PBlk} (h : restOk rl T = true) {b : PBlk} (hb : b ∈ T) (hk : b.k.isC = true) : ∀ c ∈ b.cs, ∀ m ∈ c.uses, m ∉ rl := fun c hc m hm hr => by
  have h1 := List.all_eq_true.1 h b hb
  unfold restB at h1
  have h2 : b.cs.all (fun c => c.uses.all fun l => !(inL l rl)) = true := by
    cases hkk : b.k with
    | dyn => rw [hkk] at hk; cases hk
    | mp => rw [hkk] at hk; cases hk
    | loc => rw [hkk] at h1; exact h1
    | arr => rw [hkk] at h1; exact h1
  have h3 := List.all_eq_true.1 (List.all_eq_true.1 h2 c hc) m hm
  rw [inL_iff.2 hr] at h3
  cases h3
section
variable {w w' : World} {I I' : Nat → Prop} {β β' : Places} {G : Gx} {s : PSt} {a : Act} {st st' : List PBlk}
theorem CellsAt.monoU {cs : List PV} {arr : Array Value} {o : Nat} (hI : ∀ g, I g → I' g) (hw : ∀ g, I g → w'.heap[g]? = w.heap[g]?) (hb : ∀ c ∈ cs, ∀ l ∈ c.uses, ∀ p, β l = some p → β' l = some p) (h : CellsAt w I β cs arr o) : CellsAt w' I' β' cs arr o :=
  fun i c hc => let ⟨v, h1, h2, h3⟩ := h i c hc; ⟨v, h1, PV.Is.mono hI hw c β β' v (fun l p hl => hb c (List.mem_of_getElem? hc) l hl p) h2, h3⟩
theorem BlkOk.monoU {l : Nat} {b : PBlk} (hI : ∀ g, I g → I' g) (hw : ∀ g, I g → w'.heap[g]? = w.heap[g]?) (hβ : ∀ p, β l = some p → β' l = some p) (hu : b.k.isC = true → ∀ c ∈ b.cs, ∀ l ∈ c.uses, ∀ p, β l = some p → β' l = some p)
    (hg : ∀ p g o, β l = some p → p.a = some (g, o) → w'.heap[g]? = w.heap[g]? ∧ (b.m ≠ .r → ¬ I' g ∧ ∀ l' b', l' ≠ l → st'[l']? = some b' → b'.live = true → ∀ p g' o', β' l' = some p → p.a = some (g', o') → g' ≠ g)) (hb : BlkOk I β st w l b) : BlkOk I' β' st' w' l b := by
  obtain ⟨p, hp, hk⟩ := hb
  refine ⟨p, hβ p hp, ?_⟩
  have own : ∀ {g o : Nat} {fr : Nat × Nat}, p.a = some (g, o) → Own I β st l g fr b → Own I' β' st' l g fr b := fun ha ho => ⟨fun hr => ⟨(ho.1 hr).1, (hg p _ _ hp ha).2 hr⟩, fun hr => hI _ (ho.2 hr)⟩
  split at hk
  · rename_i hkk
    obtain ⟨g, o, arr, ty, fr, ha, hh, hc, ho⟩ := hk
    exact ⟨g, o, arr, ty, fr, ha, (hg p g o hp ha).1.trans hh, hc.monoU hI hw (hu (by rw [hkk]; rfl)), own ha ho⟩
  · rename_i hkk
    obtain ⟨g, arr, fr, ha, hh, hc, ho, h1⟩ := hk
    exact ⟨g, arr, fr, ha, (hg p g 0 hp ha).1.trans hh, hc.monoU hI hw (hu (by rw [hkk]; rfl)), own ha ho, h1⟩
  · obtain ⟨h1, hk⟩ := hk
    refine ⟨h1, ?_⟩
    rcases hk with h | ⟨g, arr, fr, ha, hh, hc, ho, h2⟩
    · exact .inl h
    · exact .inr ⟨g, arr, fr, ha, (hg p g 0 hp ha).1.trans hh, IsEs.mono hI hw _ _ _ _ (hg p g 0 hp ha).1 hc, own ha ho, h2⟩
  · obtain ⟨g, ha, hm, ho⟩ := hk
    exact ⟨g, ha, hm.keep (hg p g 0 hp ha).1, own ha ho⟩

/-- a call whose store is the first blocks; those of rl may lie elsewhere behind it -/
theorem Spec.useR {f : FuncId} {args args' : List PV} {r0 : PV} {S0 S1 : List PBlk} {rl : List Nat} {K : PV → List PBlk → Prop} (h : Spec G f args' S0 rl fun r S' => r = r0 ∧ S' = S1) (hm : modeS S0 S1 = true) (hlow : S0.all (lowB S0.length) = true) (hu : (usesL args').all (fun l => Nat.blt l S0.length) = true)
    (hr0 : r0.uses.all (fun l => Nat.blt l S0.length) = true) (hrl : rl.all (fun l => canL S0 l) = true) (hle : leL leK args args') (hK : stLe st S0 fun T => (bif restOk rl T then True else False) ∧ frBB S1 fun S1 => appK S1 T (K r0)) : Spec G f args st rl K := by
  obtain ⟨st0, T, rfl, hl0, hk, hle0⟩ := stLe_ok hK
  obtain ⟨hT, hk⟩ := hk
  replace hT := (bif_ok hT).1
  replace hk := appK_ok (frBB_ok hk)
  obtain ⟨hl1, hmd⟩ := modeS_ok hm
  refine Spec.intro h.run.1 fun I β w vals hH hM hA => ?_
  let β0 : Places := fun l => if l < S0.length then β l else none
  have hβ0 : ∀ l, l < S0.length → β0 l = β l := fun l hl => if_pos hl
  have hβn : ∀ {l p}, β0 l = some p → l < S0.length ∧ β l = some p := fun {l p} h => by
    by_cases hl : l < S0.length
    · exact ⟨hl, by rw [← hβ0 l hl]; exact h⟩
    · have : β0 l = none := if_neg hl
      rw [this] at h; cases h
  have old : ∀ {l : Nat} {b' : PBlk}, S0[l]? = some b' → l < S0.length ∧ ∃ b, (st0 ++ T)[l]? = some b ∧ leBlk b b' := fun {l b'} hb' => by
    have hlt : l < S0.length := (List.getElem?_eq_some_iff.1 hb').1
    have hlt0 : l < st0.length := by omega
    refine ⟨hlt, st0[l], by rw [List.getElem?_append_left hlt0]; simp [hlt0], hle0 l _ b' (by simp [hlt0]) hb'⟩
  have low : ∀ {l : Nat} {b' : PBlk}, S0[l]? = some b' → b'.k.isC = true → ∀ c ∈ b'.cs, ∀ m ∈ c.uses, m < S0.length := fun {l b'} hb' hk c hc m hm' => by
    rw [List.all_eq_true] at hlow
    have := hlow b' (List.mem_of_getElem? hb')
    unfold lowB at this
    have hall : b'.cs.all (fun c => c.uses.all fun l => Nat.blt l S0.length) = true := by
      cases hkk : b'.k with
      | dyn => rw [hkk] at hk; cases hk
      | mp => rw [hkk] at hk; cases hk
      | loc => rw [hkk] at this; exact this
      | arr => rw [hkk] at this; exact this
    rw [List.all_eq_true] at hall
    have := hall c hc
    rw [List.all_eq_true] at this
    exact Nat.le_of_ble_eq_true (this m hm')
  have hH0 : HeapOk I β0 S0 w := by
    refine ⟨fun l hl => if_neg (by omega), fun l b' hb' hlive => ?_⟩
    obtain ⟨hlt, b, hb, hle1⟩ := old hb'
    obtain ⟨e1, e2, e3, e4, e5, e6, e7⟩ := leBlk_ok hle1
    obtain ⟨p, hp, hB⟩ := hH.blk l b hb e4
    have own : ∀ {g : Nat} {fr : Nat × Nat}, Own I β (st0 ++ T) l g fr b → Own I β0 S0 l g fr b' := fun {g fr} ho => by
      refine ⟨fun hr => ?_, fun hr => ho.2 (by rw [e3]; exact hr)⟩
      obtain ⟨h1, h2, h3⟩ := ho.1 (by rw [e3]; exact hr)
      refine ⟨h1, h2, fun l2 b2 hne hl2 hlive2 p2 g2 o2 hp2 ha2 => ?_⟩
      obtain ⟨_, b3, hb3, hle3⟩ := old hl2
      exact h3 l2 b3 hne hb3 (leBlk_ok hle3).2.2.2.1 p2 g2 o2 (hβn hp2).2 ha2
    have cells : b'.k.isC = true → ∀ {arr : Array Value} {o : Nat}, CellsAt w I β b.cs arr o → CellsAt w I β0 b'.cs arr o := fun hk {arr o} hc i c hi => by
      have hc2 : CellsAt w I β b'.cs arr o := by
        rcases e7 with ⟨hd, _⟩ | ⟨_, h7⟩
        · (rw [e6, hk] at hd; cases hd)
        · exact leL_cells h7 hc
      obtain ⟨u, hu', hi', h1⟩ := hc2 i c hi
      exact ⟨u, hu', PV.Is.mono (fun _ h => h) (fun _ _ => rfl) c β β0 u (fun m p hm' hp' => by rw [hβ0 m (low hb' hk c (List.mem_of_getElem? hi) m hm')]; exact hp') hi', h1⟩
    refine ⟨p, by rw [hβ0 l hlt]; exact hp, ?_⟩
    split at hB
    · rename_i hkk
      have hk' : b'.k = .loc := by rw [← e6]; exact hkk
      obtain ⟨g, o, arr, ty, fr, h1, h2, h3, ho⟩ := hB
      rw [hk']
      exact ⟨g, o, arr, ty, fr, h1, h2, cells (by rw [hk']; rfl) h3, own ho⟩
    · rename_i hkk
      have hk' : b'.k = .arr := by rw [← e6]; exact hkk
      obtain ⟨g, arr, fr, h1, h2, h3, ho, h4, h5, h6, h7, h8⟩ := hB
      have hlen : b'.cs.length = b.cs.length := by
        rcases e7 with ⟨hd, _⟩ | ⟨_, h9⟩
        · rw [hkk] at hd; cases hd
        · exact (leL_len h9).symm
      rw [hk']
      exact ⟨g, arr, fr, h1, by rw [← e1]; exact h2, cells (by rw [hk']; rfl) h3, own ho, by rw [hlen, ← e2]; exact h4, h5, h6, by rw [← e2]; exact h7, by rw [← e2]; exact h8⟩
    · rename_i hkk
      have hk' : b'.k = .dyn := by rw [← e6]; exact hkk
      have hcs : b.cs = b'.cs := by
        rcases e7 with ⟨_, h9⟩ | ⟨hd, _⟩
        · exact h9
        · (rw [hkk] at hd; cases hd)
      obtain ⟨⟨h1, h2, h3, h4⟩, hB⟩ := hB
      rw [hk']
      refine ⟨⟨by rw [← e2]; exact h1, by rw [← hcs]; exact h2, h3, h4⟩, ?_⟩
      rcases hB with h | ⟨g, arr, fr, h5, h6, h7, ho, h8⟩
      · exact .inl h
      · exact .inr ⟨g, arr, fr, h5, by rw [← e1]; exact h6, by rw [← hcs, ← e2]; exact h7, own ho, by rw [← e2]; exact h8⟩
    · rename_i hkk
      have hk' : b'.k = .mp := by rw [← e6]; exact hkk
      have hcs : b.cs = b'.cs := by
        rcases e7 with ⟨_, h9⟩ | ⟨hd, _⟩
        · exact h9
        · (rw [hkk] at hd; cases hd)
      obtain ⟨g, h1, h2, ho⟩ := hB
      rw [hk']
      exact ⟨g, h1, by rw [← hcs]; exact h2, own ho⟩
  have hA' : IsL w I args' β0 vals := by
    have := leL_ok (fun _ _ => leK_ok) hle hA
    refine IsL.mono (fun _ h => h) (fun _ _ => rfl) args' β β0 vals (fun m p hm' hp' => ?_) this
    rw [List.all_eq_true] at hu
    rw [hβ0 m (Nat.le_of_ble_eq_true (hu m hm'))]; exact hp'
  refine (h.run.2 I β0 w vals hH0 hM hA').mono fun e w' ⟨v, r, S', I', β', he, ⟨e1, e2⟩, hi, hH', hM', hE, hlen, hβ⟩ => ?_
  subst e1; subst e2
  have hβ' : ∀ l, l < S0.length → l ∉ rl → β' l = β l := fun l hl hr => (hβ l hl hr).trans (hβ0 l hl)
  let β2 : Places := fun l => if l < S0.length then β' l else β l
  have h2lo : ∀ l, l < S0.length → β2 l = β' l := fun l hl => if_pos hl
  have h2hi : ∀ l, ¬ l < S0.length → β2 l = β l := fun l hl => if_neg hl
  have hβm : ∀ l p, β' l = some p → β2 l = some p := fun l p hp => by
    have : l < S0.length := by have := hH'.lt hp; omega
    rw [h2lo l this]; exact hp
  have hcan : ∀ l, l ∈ rl → l < S0.length ∧ ∀ b, S0[l]? = some b → b.m = .w := fun l hl => canL_ok (List.all_eq_true.1 hrl l hl)
  have wr0 : ∀ {g}, Wr β0 S0 g → Wr β (st0 ++ T) g := fun {g} ⟨l, b, p, o, h1, h2, h3, h4, h5⟩ => by
    obtain ⟨hlt, b2, hb2, hle2⟩ := old h1
    obtain ⟨_, _, q3, q4, _⟩ := leBlk_ok hle2
    exact ⟨l, b2, p, o, hb2, q4, by rw [q3]; exact h3, (hβn h4).2, h5⟩
  have wr1 : ∀ {g}, Wr β2 (S' ++ T) g → (Wr β' S' g) ∨ ∃ l b p o, S0.length ≤ l ∧ (st0 ++ T)[l]? = some b ∧ b.live = true ∧ b.m = .w ∧ β l = some p ∧ p.a = some (g, o) := fun {g} ⟨l, b, p, o, h1, h2, h3, h4, h5⟩ => by
    by_cases hl : l < S'.length
    · rw [List.getElem?_append_left hl] at h1
      exact .inl ⟨l, b, p, o, h1, h2, h3, by rw [← h2lo l (by omega)]; exact h4, h5⟩
    · rw [List.getElem?_append_right (by omega)] at h1
      refine .inr ⟨l, b, p, o, by omega, ?_, h2, h3, by rw [← h2hi l (by omega)]; exact h4, h5⟩
      rw [List.getElem?_append_right (by omega), hl0, hl1]; exact h1
  -- a block of the rest lies apart from those of S0
  have apart : ∀ {l : Nat} {b : PBlk} {p : Plc} {g o : Nat}, S0.length ≤ l → (st0 ++ T)[l]? = some b → b.live = true → β l = some p → p.a = some (g, o) → ¬ Wr β0 S0 g := fun {l b p g o} hl hb hlive hp ha ⟨l2, b2, p2, o2, h1, h2, h3, h4, h5⟩ => by
    obtain ⟨hlt, b3, hb3, hle3⟩ := old h1
    obtain ⟨_, _, q3, q4, _⟩ := leBlk_ok hle3
    obtain ⟨arr, ty, fr, _, ho⟩ := (hH.blk l2 b3 hb3 q4).place (hβn h4).2 h5
    exact (ho.1 (by rw [q3, h3]; nofun)).2.2 l b (by omega) hb hlive p g o hp ha rfl
  refine ⟨v, r, S' ++ T, I', β2, he, hk, PV.Is.mono (fun _ h => h) (fun _ _ => rfl) r β' β2 v (fun m p _ hp => hβm m p hp) hi, ⟨fun l hl => by rw [h2hi l (by simp only [List.length_append] at hl; omega)]; exact hH.far l (by simp only [List.length_append] at hl ⊢; omega), fun l b hb hlive => ?_⟩, hM', ⟨hE.os, hE.tape, hE.output, hE.size, fun g hg hn => hE.block g hg fun h => hn (wr0 h), fun g hg h => ?_, hE.imm, fun g hg h => (hE.new g hg h).imp id wr0⟩, by simp only [List.length_append]; omega, fun l _ hr => by
      by_cases hl : l < S0.length
      · rw [h2lo l hl]; exact hβ' l hl hr
      · exact h2hi l hl⟩
  · by_cases hl : l < S'.length
    · rw [List.getElem?_append_left hl] at hb
      have hB := hH'.blk l b hb hlive
      refine hB.mono (fun _ h => h) (fun _ _ => rfl) hβm fun p g o hp ha => ⟨rfl, fun hr => ?_⟩
      obtain ⟨arr, ty, fr, hh, ho⟩ := hB.place hp ha
      obtain ⟨h1, h2, h3⟩ := ho.1 hr
      refine ⟨h2, fun l2 b2 hne hb2 hlive2 p2 g2 o2 hp2 ha2 => ?_⟩
      by_cases hl2 : l2 < S'.length
      · rw [List.getElem?_append_left hl2] at hb2
        exact h3 l2 b2 hne hb2 hlive2 p2 g2 o2 (by rw [← h2lo l2 (by omega)]; exact hp2) ha2
      · rw [List.getElem?_append_right (by omega)] at hb2
        have hb2' : (st0 ++ T)[l2]? = some b2 := by rw [List.getElem?_append_right (by omega), hl0, hl1]; exact hb2
        have hp2' : β l2 = some p2 := by rw [← h2hi l2 (by omega)]; exact hp2
        have hg2 := hH.lives_lt ⟨l2, b2, p2, o2, hb2', hlive2, hp2', ha2⟩
        obtain ⟨b0, hb0⟩ : ∃ b0, S0[l]? = some b0 := ⟨S0[l]'(by omega), by simp [show l < S0.length by omega]⟩
        obtain ⟨_, q5⟩ := hmd l b0 b hb0 hb
        by_cases hlr : l ∈ rl
        · intro e
          subst e
          have hw : b.m = .w := by rw [← q5]; exact (hcan l hlr).2 b0 hb0
          exact apart (by omega) hb2' hlive2 hp2' ha2 (hE.wr _ hg2 ⟨l, b, p, o, hb, hlive, hw, hp, ha⟩)
        · obtain ⟨_, b3, hb3, hle3⟩ := old hb0
          obtain ⟨_, _, q3, q4, _⟩ := leBlk_ok hle3
          have hpo : β l = some p := by rw [← hβ' l (by omega) hlr]; exact hp
          obtain ⟨_, _, _, _, ho3⟩ := (hH.blk l b3 hb3 q4).place hpo ha
          exact (ho3.1 (by rw [q3, q5]; exact hr)).2.2 l2 b2 hne hb2' hlive2 p2 g2 o2 hp2' ha2
    · rw [List.getElem?_append_right (by omega)] at hb
      have hb' : (st0 ++ T)[l]? = some b := by rw [List.getElem?_append_right (by omega), hl0, hl1]; exact hb
      have hB := hH.blk l b hb' hlive
      have same : ∀ {p g o}, β l = some p → p.a = some (g, o) → g < w.heap.size ∧ w'.heap[g]? = w.heap[g]? := fun {p g o} hp ha => by
        have hlt := hH.lives_lt ⟨l, b, p, o, hb', hlive, hp, ha⟩
        exact ⟨hlt, hE.block g hlt (apart (by omega) hb' hlive hp ha)⟩
      have hTb := restOk_ok hT (List.mem_of_getElem? hb)
      refine hB.monoU hE.imm (fun g hg => hE.block g (hM.imm g hg) fun hw => ?_) (fun p hp => by rw [h2hi l (by omega)]; exact hp) (fun hk c hc m hm p hp => ?_) fun p g o hp ha => ⟨(same hp ha).2, fun hr => ?_⟩
      · exact hH0.wr_imm hw hg
      · by_cases hml : m < S0.length
        · rw [h2lo m hml, hβ' m hml (hTb hk c hc m hm)]; exact hp
        · rw [h2hi m hml]; exact hp
      · obtain ⟨arr, ty, fr, hh, ho⟩ := hB.place hp ha
        obtain ⟨h1, h2, h3⟩ := ho.1 hr
        refine ⟨fun hI => (hE.new g (same hp ha).1 hI).elim h2 (apart (by omega) hb' hlive hp ha), fun l2 b2 hne hb2 hlive2 p2 g2 o2 hp2 ha2 => ?_⟩
        have hgl := (same hp ha).1
        by_cases hl2 : l2 < S'.length
        · rw [List.getElem?_append_left hl2] at hb2
          have hp2' : β' l2 = some p2 := by rw [← h2lo l2 (by omega)]; exact hp2
          obtain ⟨b0, hb0⟩ : ∃ b0, S0[l2]? = some b0 := ⟨S0[l2]'(by omega), by simp [show l2 < S0.length by omega]⟩
          by_cases hlr : l2 ∈ rl
          · intro e
            subst e
            obtain ⟨_, q5⟩ := hmd l2 b0 b2 hb0 hb2
            have hw : b2.m = .w := by rw [← q5]; exact (hcan l2 hlr).2 b0 hb0
            exact apart (by omega) hb' hlive hp ha (hE.wr _ hgl ⟨l2, b2, p2, o2, hb2, hlive2, hw, hp2', ha2⟩)
          · obtain ⟨_, b3, hb3, hle3⟩ := old hb0
            exact h3 l2 b3 hne hb3 (leBlk_ok hle3).2.2.2.1 p2 g2 o2 (by rw [← hβ' l2 (by omega) hlr]; exact hp2') ha2
        · rw [List.getElem?_append_right (by omega)] at hb2
          exact h3 l2 b2 hne (by rw [List.getElem?_append_right (by omega), hl0, hl1]; exact hb2) hlive2 p2 g2 o2 (by rw [← h2hi l2 (by omega)]; exact hp2) ha2
  · rcases wr1 h with h | ⟨l, b, p, o, _, h2, h3, h4, h5, h6⟩
    · exact wr0 (hE.wr g hg h)
    · exact ⟨l, b, p, o, h2, h3, h4, h5, h6⟩

/-! ### lists of the caller's own that don't change any more -/
def frzV (st : List PBlk) (fz : List Nat) (x : PV) : PV := match x with
  | .wref l => bif inL l fz then (match st[l]? with
    | some ⟨.dyn, _, n, _, _, cs⟩ => .sl n cs
    | _ => .wref l) else .wref l
  | x => x
def TM.mapV (f : PV → PV) : TM → TM
  | .nil => .nil
  | .node v l r => .node (match v with
    | some x => some (f x)
    | none => none) (l.mapV f) (r.mapV f)
def PSt.frz (s : PSt) (fz : List Nat) : PSt := match s with
  | ⟨n, t, st, b, rl⟩ => ⟨n, t.mapV (frzV st fz), frzS fz st, b, rl⟩
theorem TM.mapV_get (f : PV → PV) : ∀ (t : TM) (n : Nat), (t.mapV f).get n = (t.get n).map f
  | .nil, _ => rfl
  | .node v l r, n => by
    show TM.get (.node (match v with
      | some x => some (f x)
      | none => none) (l.mapV f) (r.mapV f)) n = _
    rw [TM.get, TM.get]
    cases Nat.beq n 0 <;> cases Nat.beq (n % 2) 1 <;> simp only [cond_true, cond_false]
    · exact TM.mapV_get f r _
    · exact TM.mapV_get f l _
    · cases v <;> rfl
    · cases v <;> rfl
theorem frzS_get {S : List PBlk} {fz : List Nat} {l : Nat} {b : PBlk} (hb : (frzS fz S)[l]? = some b) : ∃ b0, S[l]? = some b0 ∧ b = { b0 with m := frzM (inL l fz) b0.m } := by
  unfold frzS at hb
  rw [mapM_get, Option.map_eq_some_iff] at hb
  obtain ⟨b0, h1, h2⟩ := hb
  rw [Nat.zero_add] at h2
  exact ⟨b0, h1, h2.symm⟩
theorem HeapOk.frz {S : List PBlk} (hH : HeapOk I β S w) (hM : ImmOk G I w) {fz : List Nat} (hz : okZ S fz = true) : HeapOk (LentI I β S fz) β (frzS fz S) w := by
  refine ⟨fun l hl => hH.far l (by unfold frzS at hl; rw [mapM_len] at hl; exact hl), fun l b hb hlive => ?_⟩
  obtain ⟨b0, hb0, rfl⟩ := frzS_get hb
  obtain ⟨p, hp, hk⟩ := hH.blk l b0 hb0 hlive
  have hII : ∀ g, I g → LentI I β S fz g := fun g h => .inl h
  have own : ∀ {g o : Nat} {fr : Nat × Nat}, p.a = some (g, o) → Own I β S l g fr b0 → Own (LentI I β S fz) β (frzS fz S) l g fr { b0 with m := frzM (inL l fz) b0.m } := fun {g o fr} ha ho => by
    refine ⟨fun hm => ?_, fun hm => ?_⟩
    · have hm0 : inL l fz = false ∧ b0.m ≠ .r := by
        cases hc : inL l fz with
        | true => simp only [hc, frzM, cond_true, ne_eq, not_true_eq_false] at hm
        | false => exact ⟨rfl, by simpa only [hc, frzM, cond_false] using hm⟩
      obtain ⟨h1, h2, h3⟩ := ho.1 hm0.2
      refine ⟨h1, fun hI => ?_, fun l2 b2 hne hl2 hlive2 p2 g2 o2 hp2 ha2 => ?_⟩
      · rcases hI with hI | ⟨l2, b2, p2, o2, hl2, hb2, hlive2, _, hp2, ha2⟩
        · exact h2 hI
        · refine h3 l2 b2 (fun e => ?_) hb2 hlive2 p2 g o2 hp2 ha2 rfl
          subst e
          rw [inL_iff.2 hl2] at hm0
          cases hm0.1
      · obtain ⟨b3, hb3, rfl⟩ := frzS_get hl2
        exact h3 l2 b3 hne hb3 hlive2 p2 g2 o2 hp2 ha2
    · cases hc : inL l fz with
      | true =>
        obtain ⟨b1, hb1, k1, k2⟩ := okZ_ok hz (inL_iff.1 hc)
        rw [hb0] at hb1; cases hb1
        exact .inr ⟨l, b0, p, o, inL_iff.1 hc, hb0, k1, k2, hp, ha⟩
      | false => exact hII g (ho.2 (by simpa only [hc, frzM, cond_false] using hm))
  have hwI : ∀ g, I g → w.heap[g]? = w.heap[g]? := fun _ _ => rfl
  refine ⟨p, hp, ?_⟩
  split at hk
  · rename_i hkk
    obtain ⟨g, o, arr, ty, fr, h1, h2, h3, ho⟩ := hk
    simp only [hkk]
    exact ⟨g, o, arr, ty, fr, h1, h2, CellsAt.mono hII hwI (fun _ _ h => h) h3, own h1 ho⟩
  · rename_i hkk
    obtain ⟨g, arr, fr, h1, h2, h3, ho, h4⟩ := hk
    simp only [hkk]
    exact ⟨g, arr, fr, h1, h2, CellsAt.mono hII hwI (fun _ _ h => h) h3, own h1 ho, h4⟩
  · rename_i hkk
    obtain ⟨h1, hk⟩ := hk
    simp only [hkk]
    refine ⟨h1, ?_⟩
    rcases hk with h | ⟨g, arr, fr, h2, h3, h4, ho, h5⟩
    · exact .inl h
    · exact .inr ⟨g, arr, fr, h2, h3, IsEs.mono hII hwI _ _ _ _ rfl h4, own h2 ho, h5⟩
  · rename_i hkk
    obtain ⟨g, h1, h2, ho⟩ := hk
    simp only [hkk]
    exact ⟨g, h1, h2, own h1 ho⟩
theorem frzV_is {S : List PBlk} (hH : HeapOk I β S w) {fz : List Nat} (hz : okZ S fz = true) {x : PV} {v : Value} (hx : x.Is w I β v) : (frzV S fz x).Is w (LentI I β S fz) β v := by
  have keep : ∀ y : PV, y.Is w I β v → y.Is w (LentI I β S fz) β v := fun y hy => PV.Is.mono (fun _ h => .inl h) (fun _ _ => rfl) y β β v (fun _ _ _ h => h) hy
  unfold frzV
  split
  · rename_i l
    cases hc : inL l fz with
    | false => exact keep _ hx
    | true =>
      obtain ⟨b, hb, hlive, hm⟩ := okZ_ok hz (inL_iff.1 hc)
      simp only [cond_true]
      split
      · rename_i _ ty n m live cs hs
        rw [hb] at hs
        cases hs
        have h1 := lent_sl hH (inL_iff.1 hc) hb (n := n) (es := cs) (by
          simp only at hlive hm
          show (bif live && notP m && Nat.beq n n then cs = cs else False)
          rw [hlive, hm, Nat.beq_refl]; exact rfl) hx
        exact PV.Is.mono (fun _ h => h) (fun _ _ => rfl) _ no β v (fun l p hl => by simp [PV.uses] at hl) h1
      · exact keep _ hx
  · exact keep _ hx
theorem Sub.freeze (fz : List Nat) (hz : okZ s.st fz = true) : Sub G s (s.frz fz) := fun I β a w hR => by
  obtain ⟨n, t, st, b, rl⟩ := s
  refine ⟨LentI I β st fz, β, ⟨hR.small, hR.defers, hR.size, by show b ≤ (frzS fz st).length; unfold frzS; rw [mapM_len]; exact hR.base, fun i x hx => ?_, hR.heap.frz hR.imm hz, lent_imm hR.heap hR.imm⟩, ⟨⟨rfl, rfl, rfl, Nat.le_refl _, fun _ _ _ => rfl, fun g _ h => ?_, fun _ h => .inl h, fun g _ h => ?_⟩, rfl, rfl, rfl, fun _ _ _ => rfl⟩⟩
  · have hx' : (t.mapV (frzV st fz)).get i = some x := hx
    rw [TM.mapV_get, Option.map_eq_some_iff] at hx'
    obtain ⟨y, hy, rfl⟩ := hx'
    obtain ⟨v, hv, hi⟩ := hR.get i y hy
    exact ⟨v, hv, frzV_is hR.heap hz hi⟩
  · obtain ⟨l, b1, p, o, h1, h2, h3, h4, h5⟩ := h
    obtain ⟨b0, hb0, rfl⟩ := frzS_get h1
    refine ⟨l, b0, p, o, hb0, h2, ?_, h4, h5⟩
    cases hc : inL l fz with
    | true => simp only [hc, frzM, cond_true] at h3; cases h3
    | false => simpa only [hc, frzM, cond_false] using h3
  · rcases h with h | ⟨l, b1, p, o, hl, hb, hlive, hm, hp, ha⟩
    · exact .inl h
    · cases hmm : b1.m with
      | w => exact .inr ⟨l, b1, p, o, hb, hlive, hmm, hp, ha⟩
      | p => rw [hmm] at hm; cases hm
      | r =>
        obtain ⟨arr, ty, fr, _, ho⟩ := (hR.heap.blk l b1 hb hlive).place hp ha
        exact .inl (ho.2 hmm)
theorem SW.sub {c : Code} {Q : X → PSt → Prop} {s s' : PSt} (h : Sub G s s') (h' : SW G c Q s') : SW G c Q s := SW.intro fun I β a w hR => by
  obtain ⟨I', β', hR', hg⟩ := h I β a w hR
  exact h'.from hR' hg

/-! ### a loop of whose slots just some are kept -/
def PSt.bare (s : PSt) (vs : List (Nat × PV)) (st : List PBlk) : PSt := match s with
  | ⟨n, _, _, b, rl⟩ => ⟨n, layF vs .nil, st, b, rl⟩
theorem SW.loopX (hG : GOk G) (R : List (Nat × Plan)) {α : Type} {c : Code} {Q : X → PSt → Prop} (hc : planAll R c = true) (vs : α → List (Nat × PV)) (st : α → List PBlk) (μ : α → Nat) (x0 : α) (N : Nat) (π0 : Ren) (h0 : subK G.cx π0 s (s.bare (vs x0) (st x0)))
    (h : ∀ x, frS (s.bare (vs x) (st x)) (pw G R N c (backK (fun s' => ∃ y π, μ y < μ x ∧ subK G.cx π s' (s.bare (vs y) (st y))) Q))) : SW G (.loop c) Q s :=
  SW.inv hG (fun x => s.bare (vs x) (st x)) μ (N := N) hc x0 (subK_ok hG.ok h0) (fun x s' => ∃ y π, μ y < μ x ∧ subK G.cx π s' (s.bare (vs y) (st y))) (fun x s' ⟨y, π, hy, hs⟩ => ⟨y, hy, subK_ok hG.ok hs⟩) fun x => frS_ok (h x)

/-- a store as another one, the first blocks the same -/
theorem Spec.ren (hG : GOk G) {f : FuncId} {args : List PV} {S S' : List PBlk} {rl : List Nat} {K : PV → List PBlk → Prop} (h : Spec G f args S' rl K) (π : Ren) (hs : subK G.cx π ⟨0, .nil, S, S.length, []⟩ ⟨0, .nil, S', S.length, []⟩) (hu : (usesL args).all (fun l => Nat.blt l S.length) = true) (hrl : ∀ l ∈ rl, S.length ≤ l) : Spec G f args S [] K := by
  refine Spec.intro h.run.1 fun I β w vals hH hM hA => ?_
  have hR : Rel G I β ⟨0, .nil, S, S.length, []⟩ { tmps := #[], defers := [] } w := ⟨Nat.zero_le _, rfl, rfl, Nat.le_refl _, fun n x hx => (by cases hx), hH, hM⟩
  obtain ⟨I', β', hR', hg⟩ := subK_ok hG.ok hs I β _ w hR
  have hA' : IsL w I' args β' vals := IsL.mono hg.ext.imm (fun g hgI => hg.ext.block g (hM.imm g hgI) (fun hw => hH.wr_imm hw hgI)) args β β' vals (fun m p hm hp => by
    rw [List.all_eq_true] at hu
    rw [hg.low m (Nat.le_of_ble_eq_true (hu m hm)) (by simp)]; exact hp) hA
  have hlen : S.length ≤ S'.length := hR'.base
  refine (h.run.2 I' β' w vals hR'.heap hR'.imm hA').mono fun e w' ⟨v, r, S2, I2, β2, he, hK, hr, hH2, hM2, hE, hl, hβ⟩ => ?_
  refine ⟨v, r, S2, I2, β2, he, hK, hr, hH2, hM2, hg.ext.trans hE, by omega, fun l hl' _ => ?_⟩
  rw [hβ l (by omega) (fun hm => by have := hrl l hm; omega)]
  exact hg.low l hl' (by simp)
end

end Go.Proofs.YtjcacjeoddnmhaaDoor.Pw

/- Maps from ints to ints, over values: made, put into, looked up. -/
namespace Go.Proofs.YtjcacjeoddnmhaaDoor.Pw
open Go Go.RowKit

/-- an entry that is put in -/
def kvP (x : Int × Int) : PV := .agg [.int .i64 x.1, .int .i64 x.2]
/-- what a map holds at a key, by what was put in, one after the other -/
def lkM (l : List (Int × Int)) (k : Int) : Int := l.foldl (fun a x => if x.1 = k then x.2 else a) 0
theorem lkM_snoc (l : List (Int × Int)) (x : Int × Int) (k : Int) : lkM (l ++ [x]) k = if x.1 = k then x.2 else lkM l k := by unfold lkM; rw [List.foldl_append]; rfl
theorem mapD_at (k : Int) : ∀ (l : List (Int × Int)) (D : DataW Unit) (a : Int), Maps.IsMap D → D.atKey (.int .i64 k) (.lit (.int .i64 0)) = .lit (.int .i64 a) →
    ((l.map kvP).foldl (fun D e => D.put (kvD e).1 (kvD e).2) D).atKey (.int .i64 k) (.lit (.int .i64 0)) = .lit (.int .i64 (l.foldl (fun a x => if x.1 = k then x.2 else a) a))
  | [], _, _, _, h => h
  | x :: l, D, a, hD, h => by
    refine mapD_at k l _ _ (by obtain ⟨es, rfl⟩ := hD; exact ⟨_, rfl⟩) ?_
    show (D.put (.int .i64 x.1) (.lit (.int .i64 x.2))).atKey (.int .i64 k) (.lit (.int .i64 0)) = .lit (.int .i64 (if x.1 = k then x.2 else a))
    by_cases hx : x.1 = k
    · subst hx
      rw [if_pos rfl]
      exact Maps.atKey_put_same hD (show WideAt.IsKeyLit (.int .i64 x.1) from trivial) _ _
    · rw [if_neg hx, Maps.atKey_put_other (fun e => hx (by injection e with _ e; exact e.symm))]
      exact h
theorem mapD_lk (l : List (Int × Int)) (k : Int) : (mapD (l.map kvP)).atKey (.int .i64 k) (.lit (.int .i64 0)) = .lit (.int .i64 (lkM l k)) := mapD_at k l (.map []) 0 ⟨_, rfl⟩ rfl
theorem mapD_snoc (cs : List PV) (x : Int × Int) : mapD (cs ++ [kvP x]) = (mapD cs).put (.int .i64 x.1) (.lit (.int .i64 x.2)) := by unfold mapD; rw [List.foldl_append]; rfl
theorem wf_i64 {k : Int} (h : InR .i64 k) : (Lit.int .i64 k).wf = true := by
  unfold InR Ev.kmin Ev.kmax at h
  simp only [IntKind.signed, IntKind.bits] at h
  simp only [Lit.wf, IntKind.min, IntKind.max, IntKind.signed, IntKind.bits, Bool.and_eq_true, decide_eq_true_eq]
  simpa using h

def mpB (l : List (Int × Int)) : PBlk := ⟨.mp, 0, 1, .w, true, l.map kvP⟩
/-- a map's type is this one, of ints -/
def mpT (G : Gx) (t : TypeId) (q : Prop) : Prop := need (G.cx.und t) fun d => match d with
  | .map k e => bif Nat.beq k 3 && Nat.beq e 3 then G.cx.P = Tryd.prog ∧ q else False
  | _ => False
def pmakeMap (s : PSt) (o : Oper) (q : PV → PSt → Prop) : Prop := match o.op with
  | .makeMap _ none => lenK s.st 0 fun l => addB s.st ⟨.mp, 0, 1, .w, true, []⟩ fun st => q (.mref l) (s.store st)
  | _ => False
def plookup (G : Gx) (s : PSt) (o : Oper) (q : PV → PSt → Prop) : Prop := match o.op with
  | .lookup t x i false => mpT G t (s.ev x fun x => s.ev i fun i => match x with
    | .mref l => need s.st[l]? fun b => (match b.k with
      | .mp => bif b.live then need i.num fun n => InR .i64 n.2.2 ∧ n.2.1 = .i64 ∧ ∃ L : List (Int × Int), b.cs = L.map kvP ∧ q (.int .i64 (lkM L n.2.2)) s else False
      | _ => False)
    | _ => False)
  | _ => False
def pmapPut (G : Gx) (s : PSt) (o : Oper) (q : PV → PSt → Prop) : Prop := match o.op with
  | .mapUpdate t x i v => mpT G t (s.ev x fun x => s.ev i fun i => s.ev v fun v => match x with
    | .mref l => need s.st[l]? fun b => (match b.k with
      | .mp => bif b.can then need i.num fun n => need v.num fun m => InR .i64 n.2.2 ∧ n.2.1 = .i64 ∧ InR .i64 m.2.2 ∧ m.2.1 = .i64 ∧ b.cs.length < maxLen ∧ setB s.st l (b.withCs (b.cs ++ [kvP (n.2.2, m.2.2)])) fun st => q (.tup []) (s.store st) else False
      | _ => False)
    | _ => False)
  | _ => False

section
variable {w w' : World} {I I' : Nat → Prop} {β β' : Places} {G : Gx} {s : PSt} {a : Act} {st st' : List PBlk}
theorem alloc_newO (hh : HeapOk I β st w) (hI : ∀ g, I g → g < w.heap.size) {ob : Obj} {b : PBlk} {p : Plc} (hp : p.a = some (w.heap.size, 0))
    (hb : Own I (β.set st.length p) (st ++ [b]) st.length w.heap.size (0, 0) b → BlkOk I (β.set st.length p) (st ++ [b]) (w.alloc ob) st.length b) (hm : b.m = .w) :
    HeapOk I (β.set st.length p) (st ++ [b]) (w.alloc ob) ∧ Ext I β st w I (β.set st.length p) (st ++ [b]) (w.alloc ob) := by
  have hfresh : ∀ g o, p.a = some (g, o) → ¬ I g ∧ ¬ Lives β st g := fun g o ha => by
    rw [hp] at ha; cases ha
    exact ⟨fun h => by have := hI _ h; omega, fun h => by have := hh.lives_lt h; omega⟩
  refine ⟨hh.add (alloc_keeps hh hI _) hfresh (hb ⟨fun _ => ⟨rfl, (hfresh _ _ hp).1, fun l' b' hne hl' hlive' p' g' o' hp' ha' e => ?_⟩, fun hr => by rw [hm] at hr; cases hr⟩), Ext.add (w' := w.alloc ob) hh rfl rfl rfl (by simp) (fun g hg _ => Ev.heap_old w _ g hg) (fun g o ha hg => by rw [hp] at ha; cases ha; omega)⟩
  subst e
  unfold Places.set at hp'
  rw [if_neg hne] at hp'
  have := hh.lt hp'
  rw [List.getElem?_append_left this] at hl'
  exact (hfresh _ _ hp).2 ⟨l', b', p', o', hl', hlive', hp', ha'⟩
theorem pmakeMap_ok {o : Oper} {q : PV → PSt → Prop} (h : pmakeMap s o q) : OpS G s o q := OpS.intro fun I β a w hR => by
  unfold pmakeMap at h
  split at h
  · rename_i t hop
    replace h := addB_ok (lenK_ok h)
    rw [Nat.zero_add] at h
    have hrun : (execOp a.eval o).run G.cx.P w = .ok (.value (.map (some w.heap.size))) (w.alloc (.map #[] 0)) := by
      unfold execOp
      rw [hop]
      simp only [Option.map_none, Sem.run_bind, run_makeMap, Result.andThen_ok, Sem.run_pure]
    rw [hrun]
    have hset := Places.set_mono hR.heap ⟨some (w.heap.size, 0), 0, 0⟩
    obtain ⟨hH, hE⟩ := alloc_newO (ob := .map #[] 0) hR.heap hR.imm.imm (b := ⟨.mp, 0, 1, .w, true, []⟩) (p := ⟨some (w.heap.size, 0), 0, 0⟩) rfl (fun ho => ⟨_, Places.set_self .., ⟨w.heap.size, rfl, World.ownsMap_made w .., ho⟩⟩) rfl
    refine OpPost.mk' hR h hH hE hset (by simp) (fun l hl => if_neg (by omega)) ?_
    simp only [PV.Is]; exact ⟨_, _, Places.set_self .., rfl, rfl⟩
  · exact h.elim
theorem num_is {x : PV} {v : Value} {n : Bool × IntKind × Int} (h : x.num = some n) (hx : x.Is w I β v) : v = .int n.2.1 n.2.2 := by
  cases x <;> simp only [PV.num] at h <;> first | cases h; simp only [PV.Is] at hx; exact hx | cases h
theorem map_at (hH : HeapOk I β st w) {l : Nat} {b : PBlk} {v : Value} (hb : st[l]? = some b) (hl : b.live = true) (hk : b.k = .mp) (hx : (PV.mref l).Is w I β v) : ∃ p g, β l = some p ∧ p.a = some (g, 0) ∧ v = .map (some g) ∧ MapAt w g b.cs ∧ Own I β st l g (0, 0) b := by
  simp only [PV.Is] at hx
  obtain ⟨p, g, hp, ha, rfl⟩ := hx
  obtain ⟨p', hp', hB⟩ := hH.blk l b hb hl
  rw [hp] at hp'
  cases hp'
  rw [hk] at hB
  obtain ⟨g', ha', hm, ho⟩ := hB
  rw [ha] at ha'
  cases ha'
  exact ⟨p, g, hp, ha, rfl, hm, ho⟩
theorem mpT_ok (hG : GOk G) {t : TypeId} {q : Prop} (h : mpT G t q) : G.cx.P = Tryd.prog ∧ Tryd.prog.underlying t = some (.map 3 3) ∧ q := by
  obtain ⟨d, hd, h⟩ := need_ok h
  split at h
  · obtain ⟨hc, hP, h⟩ := bif_ok h
    simp only [Bool.and_eq_true] at hc
    obtain ⟨h1, h2⟩ := hc
    have := hG.ok.un hd
    rw [hP, Nat.eq_of_beq_eq_true h1, Nat.eq_of_beq_eq_true h2] at this
    exact ⟨hP, this, h⟩
  · exact h.elim
theorem plookup_ok (hG : GOk G) {o : Oper} {q : PV → PSt → Prop} (h : plookup G s o q) : OpS G s o q := OpS.intro fun I β a w hR => by
  unfold plookup at h
  split at h
  · rename_i t ox oi hop
    replace h := mpT_ok hG h
    obtain ⟨hP, hu, h⟩ := h
    replace h := PSt.ev_ok hR h
    obtain ⟨x, h, hx⟩ := h
    replace h := PSt.ev_ok hR h
    obtain ⟨i, h, hi⟩ := h
    split at h
    · rename_i l
      replace h := need_ok h
      obtain ⟨b, hb, h⟩ := h
      split at h
      · rename_i hk
        replace h := bif_ok h
        obtain ⟨hl, h⟩ := h
        replace h := need_ok h
        obtain ⟨n, hn, hr, hkn, L, hL, h⟩ := h
        have hiv := num_is hn hi
        rw [hkn] at hiv
        obtain ⟨p, g, hp, ha, hv, hm, ho⟩ := map_at hR.heap hb hl hk hx
        have hz : ∀ w, (zeroValue 3).run Tryd.prog w = .ok (.int .i64 0) w := Tryd.zeroValue3
        obtain ⟨c, hrun, hat, _⟩ := World.ownsMap.lookup_int hm (Maps.int_keyed Tryd.underlying3) hu Tryd.underlying3 (hz w) (Maps.keyOf_int_mk Tryd.underlying3 (wf_i64 hr))
        rw [hL, mapD_lk] at hat
        obtain rfl : lkM L n.2.2 = c := (Lit.int.inj (DataW.lit.inj hat)).2
        have hrun2 : (execOp a.eval o).run G.cx.P w = .ok (.value (.int .i64 (lkM L n.2.2))) w := by
          unfold execOp
          rw [hop]
          simp only [hv, hiv, hP, Sem.run_bind, hrun, Result.andThen_ok, Sem.run_pure]
        rw [hrun2]
        exact OpPost.same hR h (by simp only [PV.Is])
      · exact h.elim
    · exact h.elim
  · exact h.elim
theorem pmapPut_ok (hG : GOk G) {o : Oper} {q : PV → PSt → Prop} (h : pmapPut G s o q) : OpS G s o q := OpS.intro fun I β a w hR => by
  unfold pmapPut at h
  split at h
  · rename_i t ox oi ov hop
    replace h := mpT_ok hG h
    obtain ⟨hP, hu, h⟩ := h
    replace h := PSt.ev_ok hR h
    obtain ⟨x, h, hx⟩ := h
    replace h := PSt.ev_ok hR h
    obtain ⟨i, h, hi⟩ := h
    replace h := PSt.ev_ok hR h
    obtain ⟨v, h, hv⟩ := h
    split at h
    · rename_i l
      replace h := need_ok h
      obtain ⟨b, hb, h⟩ := h
      split at h
      · rename_i hk
        replace h := bif_ok h
        obtain ⟨hc, h⟩ := h
        obtain ⟨hlive, hmw⟩ := can_ok hc
        replace h := need_ok h
        obtain ⟨n, hn, h⟩ := h
        replace h := need_ok h
        obtain ⟨m, hm1, hr, hkn, hr2, hkm, hlen, h⟩ := h
        replace h := setB_ok h
        obtain ⟨hlt, h⟩ := h
        have hiv := num_is hn hi
        rw [hkn] at hiv
        have hvv := num_is hm1 hv
        rw [hkm] at hvv
        obtain ⟨p, g, hp, ha, hxv, hm, ho⟩ := map_at hR.heap hb hlive hk hx
        obtain ⟨w', hrun, hown, hgrow⟩ := World.ownsMap.update hm (Maps.int_keyed Tryd.underlying3) hu hlen (Maps.keyOf_int_mk Tryd.underlying3 (wf_i64 hr)) (plainElem_int Tryd.underlying3 (wf_i64 hr2))
        have hrun2 : (execOp a.eval o).run G.cx.P w = .ok .skip w' := by
          unfold execOp
          rw [hop]
          simp only [hxv, hiv, hvv, hP, Sem.run_bind, hrun, Result.andThen_ok, Sem.run_pure]
        rw [hrun2]
        obtain ⟨k1, k2, k3, k4, k5, k6⟩ := withCs_k b (b.cs ++ [kvP (n.2.2, m.2.2)])
        have hgl : g < w.heap.size := by obtain ⟨es, clock, hb, _⟩ := hm; exact lt_of_heap hb
        obtain ⟨_, hIg, huniq⟩ := ho.1 (by rw [hmw]; decide)
        have hold : ∀ y, y < w.heap.size → y ≠ g → w'.heap[y]? = w.heap[y]? := fun y hy hne => hgrow.block y hy (fun e => hne (Option.some.inj e))
        have hII : ∀ y, I y → w'.heap[y]? = w.heap[y]? := fun y hy => hold y (hR.imm.imm y hy) fun e => hIg (e ▸ hy)
        have huniq' : ∀ l' b'', l' ≠ l → (s.st.set l (b.withCs (b.cs ++ [kvP (n.2.2, m.2.2)])))[l']? = some b'' → b''.live = true → ∀ p g' o', β l' = some p → p.a = some (g', o') → g' ≠ g := fun l' b'' hne hl'' hlive'' p g' o' hp' ha' => by
          rw [List.getElem?_set_ne (fun e => hne e.symm)] at hl''
          exact huniq l' b'' hne hl'' hlive'' p g' o' hp' ha'
        have hH : HeapOk I β (s.st.set l (b.withCs (b.cs ++ [kvP (n.2.2, m.2.2)]))) w' := by
          refine ⟨fun l2 hl2 => hR.heap.far l2 (by simpa using hl2), fun l2 b2 hl2 hlive2 => ?_⟩
          by_cases hne : l2 = l
          · subst hne
            rw [List.getElem?_set_self hlt] at hl2
            cases hl2
            refine ⟨p, hp, ?_⟩
            rw [k1, hk]
            refine ⟨g, ha, ?_, ⟨fun _ => ⟨rfl, hIg, huniq'⟩, fun hr => by rw [k4, hmw] at hr; cases hr⟩⟩
            rw [k6]
            unfold MapAt
            rw [mapD_snoc, List.length_append, List.length_singleton]
            exact hown
          · rw [List.getElem?_set_ne (fun e => hne e.symm)] at hl2
            have hb2 := hR.heap.blk l2 b2 hl2 hlive2
            refine hb2.mono (fun _ h => h) hII (fun _ _ h => h) fun q2 g2 o2 hq ha2 => ?_
            obtain ⟨ob, _, fr2, hh2, ho2⟩ := hb2.place hq ha2
            have hg2 : g2 ≠ g := huniq l2 b2 hne hl2 hlive2 q2 g2 o2 hq ha2
            refine ⟨hold g2 (lt_of_heap hh2) hg2, fun hr => ⟨(ho2.1 hr).2.1, fun l3 b3 hne3 hl3 hlive3 p3 g3 o3 hp3 ha3 => ?_⟩⟩
            by_cases h3 : l3 = l
            · subst h3
              rw [hp] at hp3
              cases hp3
              rw [ha] at ha3
              cases ha3
              exact fun e => hg2 e.symm
            · rw [List.getElem?_set_ne (fun e => h3 e.symm)] at hl3
              exact (ho2.1 hr).2.2 l3 b3 hne3 hl3 hlive3 p3 g3 o3 hp3 ha3
        have hE : Ext I β s.st w I β (s.st.set l (b.withCs (b.cs ++ [kvP (n.2.2, m.2.2)]))) w' :=
          ⟨hgrow.os, hgrow.tape, hgrow.output, hgrow.size, fun y hy hn => hold y hy fun e => hn (e ▸ ⟨l, b, p, 0, hb, hlive, hmw, hp, ha⟩), fun y hy hw => wr_set (.inr ⟨b, hb, by rw [k5], by rw [k4]⟩) hw, fun _ h => h, fun _ _ h => .inl h⟩
        refine OpPost.mk' hR h hH hE (fun _ _ h => h) (by simp) (fun _ _ => rfl) ?_
        simp only [PV.Is]; exact ⟨#[], rfl, by simp only [IsL]⟩
      · exact h.elim
    · exact h.elim
  · exact h.elim
end

end Go.Proofs.YtjcacjeoddnmhaaDoor.Pw

/- Slices of a length that is told. -/
namespace Go.Proofs.YtjcacjeoddnmhaaDoor.Pw
open Go Go.RowKit

/-- make of a length that is told, elements of one cell -/
def pmakeN (G : Gx) (s : PSt) (o : Oper) (q : PV → PSt → Prop) : Prop := match o.op with
  | .makeSlice t l c => need (G.cx.und t) fun d => match d with
    | .slice elem => need (Ev.sizeT G.cx elem) fun n => need (Ev.lkT elem G.bt) fun by_ => zerosO G.cx elem fun z => s.ev l fun l => s.ev c fun c => need l.num fun n1 => need c.num fun n2 => (match z with
      | [x] => bif Nat.beq n 1 && x.noRef then ∃ N : Nat, n1.2.2 = N ∧ n2.2.2 = N ∧ n1.2.1 = .i64 ∧ n2.2.1 = .i64 ∧ by_ * N ≤ 281474976710656 ∧ N ≤ maxLen ∧ pnewS s ⟨.dyn, elem, 1, .w, true, List.replicate N x.norm⟩ q else False
      | _ => False)
    | _ => False
  | _ => False
section
variable {w w' : World} {I I' : Nat → Prop} {β β' : Places} {G : Gx} {s : PSt} {a : Act} {st st' : List PBlk}
theorem pmakeN_ok (hG : GOk G) {o : Oper} {q : PV → PSt → Prop} (h : pmakeN G s o q) : OpS G s o q := OpS.intro fun I β a w hR => by
  unfold pmakeN at h
  split at h
  · rename_i t l c hop
    replace h := need_ok h
    obtain ⟨d, hu, h⟩ := h
    split at h
    · rename_i elem
      replace h := need_ok h
      obtain ⟨n, hn, h⟩ := h
      replace h := need_ok h
      obtain ⟨by_, hby, h⟩ := h
      replace h := zerosO_ok (w := w) (I := I) (β := β) hG.ok h
      obtain ⟨z, i, v, h, hi, hzv, hzz⟩ := h
      replace h := PSt.ev_ok hR h
      obtain ⟨x, h, hx⟩ := h
      replace h := PSt.ev_ok hR h
      obtain ⟨y, h, hy⟩ := h
      replace h := need_ok h
      obtain ⟨n1, hn1, h⟩ := h
      replace h := need_ok h
      obtain ⟨n2, hn2, h⟩ := h
      have hx := num_is hn1 hx
      have hy := num_is hn2 hy
      split at h
      · rename_i x
        replace h := bif_ok h
        obtain ⟨hc, N, e1, e2, k1, k2, h4, h5, h⟩ := h
        simp only [Bool.and_eq_true] at hc
        obtain ⟨h3, h6⟩ := hc
        obtain rfl := Nat.eq_of_beq_eq_true h3
        rw [e1, k1] at hx
        rw [e2, k2] at hy
        obtain ⟨i2, hi2, hib⟩ := hG.by_ _ (Ev.lkT_mem hby)
        rw [hi] at hi2; cases hi2
        obtain ⟨i3, hi3, his⟩ := Ev.size_inf hG.ok hn
        rw [hi] at hi3; cases hi3
        match hvc : v.cells.toList, hzz with
        | [u], hzz =>
          have hvc' : v.cells = #[u] := by rw [← Array.toArray_toList (xs := v.cells), hvc]
          simp only [IsL, and_true] at hzz
          have hu1 : u.oneCell' = true := by
            refine flat_one (hzz.flat (show x.cell1 = true from ?_))
            cases x <;> first | rfl | cases h6
          have hv1 : v.cells = #[u] := hvc'
          have hrun : (execOp a.eval o).run G.cx.P w = .ok (.value (.slice (some ⟨w.heap.size, 0, none⟩) N N)) (w.alloc (.cells (madeCells #[u] N) elem)) := by
            have h7 : ((by_ * N : Nat) : Int) ≤ 281474976710656 := Int.ofNat_le.2 h4
            have h8 : (i.bytes : Int) * (N : Int) ≤ 281474976710656 := by rw [hib, ← Int.natCast_mul]; exact h7
            have := run_make (P := G.cx.P) w t elem i v (hG.ok.un hu) hi hzv .i64 .i64 N N (by omega) (Int.le_refl _) h8 (by unfold maxLen at h5; omega)
            rw [show i.size = 1 from his, hv1] at this
            simp only [Int.toNat_natCast, Nat.mul_one] at this
            unfold execOp
            rw [hop]
            simp only [hx, hy, Sem.run_bind, this, Result.andThen_ok, Sem.run_pure]
          rw [hrun]
          replace h := addB_ok (lenK_ok h)
          rw [Nat.zero_add] at h
          have hset := Places.set_mono hR.heap ⟨some (w.heap.size, 0), N, N⟩
          have hsz : (madeCells #[u] N).size = N := size_madeCells _ _
          have hec : x.norm.cells = [x.norm] := by cases x <;> first | rfl | cases h6
          have hEs : IsEs (w.alloc (.cells (madeCells #[u] N) elem)) I (List.replicate N x.norm) 1 w.heap.size 0 := IsEs.of fun j e he => by
            rw [List.getElem?_replicate] at he
            split at he
            · rename_i hj
              cases he
              refine ⟨by rw [hec]; rfl, IsAt.of fun j2 c hc => ?_⟩
              rw [hec] at hc
              match j2, hc with
              | 0, hc =>
                simp at hc; subst hc
                refine ⟨u, ?_, norm_is ?_, hu1⟩
                · rw [Ev.cells_of (Ev.heap_new w _)]
                  simp [madeCells, hj, Nat.mod_one]
                · refine PV.Is.mono (fun _ h => h) (fun g hg => alloc_keeps hR.heap hR.imm.imm _ g (.inr hg)) x β _ u (fun l p hl => ?_) hzz
                  exfalso
                  cases x <;> first | (simp [PV.uses] at hl; done) | (simp [PV.noRef] at h6; done)
            · cases he
          obtain ⟨hH, hE⟩ := alloc_new (vs := madeCells #[u] N) (t := elem) hR.heap hR.imm.imm (b := ⟨.dyn, elem, 1, .w, true, List.replicate N x.norm⟩) (p := ⟨some (w.heap.size, 0), N, N⟩) rfl (fun ho =>
            ⟨_, Places.set_self .., ⟨Nat.zero_lt_one, List.length_replicate, Nat.le_refl _, h5⟩, .inr ⟨w.heap.size, madeCells #[u] N, (0, 0), rfl, Ev.heap_new w _, hEs, ho, by rw [hsz, Nat.mul_one]⟩⟩) rfl
          refine OpPost.mk' hR h hH hE hset (by simp) (fun l hl => if_neg (by omega)) ?_
          simp only [PV.Is]; exact ⟨_, Places.set_self .., rfl⟩
        | [], hzz => simp only [IsL] at hzz
        | _ :: _ :: _, hzz => simp only [IsL, and_false] at hzz
      · exact h.elim
    · exact h.elim
  · exact h.elim
end

end Go.Proofs.YtjcacjeoddnmhaaDoor.Pw

/- Bytes as a string. -/
namespace Go.Proofs.YtjcacjeoddnmhaaDoor.Pw
open Go Go.RowKit

def strK (x : PV) (q : List Int → Prop) : Prop := match x with
  | .sl n es => n = 1 ∧ ∃ l : List Int, es = l.map (PV.int .u8) ∧ q l
  | .nil => q []
  | _ => False
/-- what a string is made of bytes -/
def pstr (G : Gx) (s : PSt) (o : Oper) (q : PV → PSt → Prop) : Prop := match o.op with
  | .convert src dst x => need (G.cx.und src) fun d => (match d with
    | .slice e => need (G.cx.und dst) fun d2 => need (G.cx.und e) fun d3 => (match d2, d3 with
      | .string, .int .u8 => s.ev x fun x => strK x fun l => q (.val (.string (strOfNums l))) s
      | _, _ => False)
    | _ => False)
  | _ => False
section
variable {w : World} {I : Nat → Prop} {β : Places} {G : Gx} {s : PSt}
theorem bytes_cells {l : List Int} {g o : Nat} (h : IsEs w I (l.map (PV.int .u8)) 1 g o) : ∀ i, i < l.length → w.cell? ⟨g, o + i, none⟩ = some (.int .u8 (l.getD i 0)) := fun i hi => by
  obtain ⟨_, h2⟩ := IsEs.get h (i := i) (e := PV.int .u8 l[i]) (by rw [List.getElem?_map, List.getElem?_eq_getElem hi]; rfl)
  obtain ⟨v, h3, h4, _⟩ := IsAt.get h2 (i := 0) (c := PV.int .u8 l[i]) rfl
  simp only [PV.Is] at h4
  subst h4
  rw [List.getD_eq_getElem?_getD, List.getElem?_eq_getElem hi]
  simpa using h3
theorem pstr_ok (hG : GOk G) {o : Oper} {q : PV → PSt → Prop} (h : pstr G s o q) : OpS G s o q := OpS.intro fun I β a w hR => by
  unfold pstr at h
  split at h
  · rename_i src dst ox hop
    replace h := need_ok h
    obtain ⟨d, hd, h⟩ := h
    split at h
    · rename_i e
      replace h := need_ok h
      obtain ⟨d2, hd2, h⟩ := h
      replace h := need_ok h
      obtain ⟨d3, hd3, h⟩ := h
      split at h
      · replace h := PSt.ev_ok hR h
        obtain ⟨x, h, hx⟩ := h
        have key : ∃ l : List Int, q (.val (.string (strOfNums l))) s ∧ (convert src dst (a.eval ox)).run G.cx.P w = .ok (.string (strOfNums l)) w := by
          unfold strK at h
          split at h
          · obtain ⟨rfl, l, rfl, h⟩ := h
            simp only [PV.Is] at hx
            obtain ⟨ad, cap, hv, _, _, h1, h2⟩ := hx
            rw [List.length_map] at hv h2
            refine ⟨l, h, ?_⟩
            by_cases hl : l.length = 0
            · obtain rfl := List.eq_nil_of_length_eq_zero hl
              rw [hv]
              cases ad with
              | none => exact run_convert_bytes_nil w src e (hG.ok.un hd) (hG.ok.un hd3) _ _ dst (hG.ok.un hd2)
              | some ad =>
                rw [run_convert_bytes_string w src dst e _ _ cap (hG.ok.un hd) (hG.ok.un hd3) (hG.ok.un hd2)]
                exact (run_bytesToString (P := G.cx.P) w ad 0 cap [] (run_loadCells_list (P := G.cx.P) w ad [] fun j v hj => by simp at hj)).trans rfl
            · obtain ⟨g, off, rfl, _, _⟩ := h2 hl
              rw [hv]
              exact run_convert_bytes_arg w src e (hG.ok.un hd) (hG.ok.un hd3) g off l.length cap l rfl (bytes_cells (h1 g off rfl)) dst (hG.ok.un hd2)
          · simp only [PV.Is] at hx
            refine ⟨[], h, ?_⟩
            rw [hx]
            exact run_convert_bytes_nil w src e (hG.ok.un hd) (hG.ok.un hd3) _ _ dst (hG.ok.un hd2)
          · exact h.elim
        obtain ⟨l, h, hrun⟩ := key
        have hrun2 : (execOp a.eval o).run G.cx.P w = .ok (.value (.string (strOfNums l))) w := by
          unfold execOp
          rw [hop]
          simp only [Sem.run_bind, hrun, Result.andThen_ok, Sem.run_pure]
        rw [hrun2]
        exact OpPost.same hR h (by simp only [PV.Is]; exact ⟨trivial, rfl⟩)
      · exact h.elim
    · exact h.elim
  · exact h.elim
end
end Go.Proofs.YtjcacjeoddnmhaaDoor.Pw

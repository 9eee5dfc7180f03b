/- The functions that InstRight and InstFields call again and again, as terms. -/
import Derived.Test.YtnbngokbamifbaaGreatDoorNaInstO
import Derived.Test.YtnbngokbamifbaaGreatDoorNaImmA
namespace Go.Proofs.YtnbngokbamifbaaGreatDoor.Ev
open Go Go.RowKit

def facTab : Tab := (1, .u32, [1, 65537, 16777472, 16843009])
theorem fac_of_tab {w : World} (h : TabOk w facTab) : Fac w := h
def jx2 : Jx := jxTabs [facTab, shTab]
theorem jx2_mk {w : World} (h1 : TabOk w facTab) (h2 : TabOk w shTab) : jx2.J w := fun t ht => by
  rcases List.mem_cons.1 ht with rfl | ht
  · exact h1
  · rw [List.mem_singleton] at ht; subst ht; exact h2
theorem jx2_fac {w : World} (h : jx2.J w) : Fac w := fac_of_tab (h facTab (by simp))
theorem jx2_sh {w : World} (h : jx2.J w) : TabOk w shTab := h shTab (by simp)
/-- numbers from a list; a word of twelve bits' number, and its trap -/
def envW (xs : List Int) : Env := ⟨fun i => xs.getD i 0, fun f a => bif Nat.beq f 0 then Rm.wordX (a.getD 0 0) else Rm.wordE (a.getD 0 0), fun _ => undef⟩

/-! ### a wide register -/
def wideT (e : E) (pc : PC) : E := mkIte pc (mkLe pc (.lit 0) e) (mkIte pc (mkLe pc e (.lit 14)) (mkNot pc (mkEq pc e (.lit 13))) (.lit 0)) (.lit 0)
def isWide (r : Int) : Bool := decide (0 ≤ r ∧ r ≤ 14 ∧ r ≠ 13)
theorem wideT_den {ρ : Env} {pc : PC} (hp : pcOk ρ pc) (e : E) : (wideT e pc).den ρ = truth (isWide (e.den ρ)) := by
  simp only [wideT, mkIte_den hp, mkLe_den hp, mkNot_den hp, mkEq_den hp, E.den, isWide]
  by_cases h1 : 0 ≤ e.den ρ <;> by_cases h2 : e.den ρ ≤ 14 <;> by_cases h3 : e.den ρ = 13 <;> simp [h1, h2, h3, truth] <;> omega
noncomputable def cxN : Cx := cxOf [] []
theorem wide_leaves : ([(-9223372036854775808, -1), (0, 12), (13, 13), (14, 14), (15, 9223372036854775807)] : List (Int × Int)).all (fun b => allLeaves (boolIs (wideT (.var 0))) (evFn cxN 1000 205 (tabBlks []) (pcOf [(.var 0, b)]) [.v (.c (.int .i64 (.var 0)))])) = true := by kernel_rfl
theorem wide_calls (r : Int) (w : World) (h : -9223372036854775808 ≤ r ∧ r ≤ 9223372036854775807) :
    Calls Tryz.prog 205 #[.int .i64 r] w fun e w' => e = .returned (.bool (isWide r)) ∧ Below w.heap.size w w' := by
  obtain ⟨b, hb, hr⟩ : ∃ b ∈ ([(-9223372036854775808, -1), (0, 12), (13, 13), (14, 14), (15, 9223372036854775807)] : List (Int × Int)), b.1 ≤ r ∧ r ≤ b.2 := by
    by_cases h1 : r < 0
    · exact ⟨(-9223372036854775808, -1), by simp, h.1, by show r ≤ -1; omega⟩
    by_cases h2 : r ≤ 12
    · exact ⟨(0, 12), by simp, by show 0 ≤ r; omega, h2⟩
    by_cases h3 : r = 13
    · exact ⟨(13, 13), by simp, by show 13 ≤ r; omega, by show r ≤ 13; omega⟩
    by_cases h4 : r = 14
    · exact ⟨(14, 14), by simp, by show 14 ≤ r; omega, by show r ≤ 14; omega⟩
    · exact ⟨(15, 9223372036854775807), by simp, by show 15 ≤ r; omega, h.2⟩
  have := bool_calls (cx := cxN) (jx := Jx.none) (ρ := envOf [r]) (w := w) (vals := [.int .i64 r]) (tabs := []) (cxOk _ _) (fun m hm => by cases hm) (wideT (.var 0)) (truth (isWide r)) (List.all_eq_true.1 wide_leaves b hb) (fun pc hp => wideT_den hp _) rfl (fun t ht => by cases ht) (pcOk_one hr) trivial ⟨rfl, trivial⟩
  rw [tb_truth] at this; exact this

def wideSum : Sum := pureSum 205 fun pc args => match args with
  | [.v (.c (.int .i64 e))] => if inR pc e (-9223372036854775808) 9223372036854775807 then some (ret1 (.bool (wideT e pc))) else none
  | _ => none
theorem one_val {ρ : Env} {β : Pl} {k : IntKind} {e : E} {vals : List Value} (h : All2 (AV.Is ρ β) [.v (.c (.int k e))] vals) : vals = [.int k (e.den ρ)] := by
  cases vals with
  | nil => exact h.elim
  | cons v l =>
    cases l with
    | nil => rw [show v = .int k (e.den ρ) from h.1]
    | cons _ _ => exact h.2.elim
theorem wideSum_ok {ρ : Env} : SumOk Tryz.prog jx2 ρ wideSum :=
  pureSum_ok (enters_fn Tryz.func205 rfl (by decide)) fun pc args r vals w β hr hp hj ha => by
    split at hr
    · rename_i e
      split at hr
      · rename_i hb
        cases hr
        rw [one_val ha]
        refine (wide_calls (e.den ρ) w (inR_ok hp hb)).mono fun x w' ⟨he, hb⟩ => ⟨⟨_, he, ?_⟩, hb⟩
        show Value.bool _ = .bool (tb _)
        rw [wideT_den hp, tb_truth]
      · cases hr
    · cases hr

/-! ### words -/
def wordSum : Sum := pureSum 181 fun pc args => match args with
  | [.v (.c (.int .i64 e))] => if inR pc e (-9223372036854775808) 9223372036854775807 then some (.t [.c (.int .u32 (.ap 0 (.cons e .nil))), .c (.int .i64 (.ap 1 (.cons e .nil)))]) else none
  | _ => none
def refWordSum : Sum := pureSum 192 fun pc args => match args with
  | [.v (.c (.int .i64 e))] => if inR pc e 0 4095 then some (.t [.c (.int .u32 (.ap 0 (.cons e .nil))), .c (.bool (.eq (.ap 1 (.cons e .nil)) (.lit 0)))]) else none
  | _ => none
theorem wordSum_ok {l : List Int} : SumOk Tryz.prog jx2 (envW l) wordSum :=
  pureSum_ok (enters_fn Tryz.func181 rfl (by decide)) fun pc args r vals w β hr hp hj ha => by
    split at hr
    · rename_i e
      split at hr
      · rename_i hb
        cases hr
        rw [one_val ha]
        have hb := inR_ok hp hb
        refine (word_any (e.den (envW l)) w (jx2_fac hj) hb.1 hb.2).mono fun x w' ⟨he, hw⟩ => ⟨⟨_, he, ?_⟩, hw ▸ Below.refl _ _⟩
        exact ⟨_, rfl, rfl, rfl, trivial⟩
      · cases hr
    · cases hr
theorem isSome_wordE (n : Int) (h0 : 0 ≤ n) (h1 : n ≤ 4095) : (Rm.immW n.toNat).isSome = decide (Rm.wordE n = 0) := by
  cases h : Rm.immW n.toNat with
  | none => rw [Rm.wordE_none n h0 h1 h]; rfl
  | some x => rw [Rm.wordE_some n x h0 h1 h]; rfl
theorem refWordSum_ok {l : List Int} : SumOk Tryz.prog jx2 (envW l) refWordSum :=
  pureSum_ok (enters_fn Tryz.func192 rfl (by decide)) fun pc args r vals w β hr hp hj ha => by
    split at hr
    · rename_i e
      split at hr
      · rename_i hb
        cases hr
        rw [one_val ha]
        have hb := inR_ok hp hb
        refine (refword_any (e.den (envW l)) w hb.1 hb.2).mono fun x w' ⟨he, hw⟩ => ⟨⟨_, he, ?_⟩, hw ▸ Below.refl _ _⟩
        refine ⟨_, rfl, rfl, ?_, trivial⟩
        show Value.bool _ = .bool (tb _)
        rw [isSome_wordE _ hb.1 hb.2]
        simp only [E.den, tb_truth]
        rfl
      · cases hr
    · cases hr

noncomputable def cx2 : Cx := cxOf (tabGlob 0 [shTab]) [wideSum, wordSum, refWordSum]
theorem cx2_sums {l : List Int} : ∀ m ∈ cx2.sums, SumOk cx2.P jx2 (envW l) m := all_cons wideSum_ok (all_cons wordSum_ok (all_cons refWordSum_ok all_nil))

end Go.Proofs.YtnbngokbamifbaaGreatDoor.Ev

/- What the laws of this claim are proved with, joined (join.py) of 12 texts: no condition. -/
import Derived.Test.YthpkejlmelednaaDoorKe6
import Derived.Test.YthpkejlmelednaaDoorRows
import Derived.Test.YthpkejlmelednaaDoorKe4
import Derived.ProofKit
import Derived.LaidMore
import Derived.OpenShut
import Derived.Stop.Joined
import Derived.Lib.LaidTab
set_option linter.unusedVariables false
set_option linter.unusedSimpArgs false

/- Chapter 18 over values: the document's operations that may be; what may be done by instructions. -/
namespace Go.Proofs.YthpkejlmelednaaDoor.Pw
open Go Go.RowKit

theorem vto_bd (k : Int) (h : 1 ≤ k ∧ k ≤ 31) : 0 ≤ vto k ∧ vto k ≤ 2 := by
  rcases kinds h with rfl | rfl | rfl | rfl | rfl | rfl | rfl | rfl | rfl | rfl | rfl | rfl | rfl | rfl | rfl | rfl | rfl | rfl | rfl | rfl | rfl | rfl | rfl | rfl | rfl | rfl | rfl | rfl | rfl | rfl | rfl <;> decide
set_option maxHeartbeats 8000000 in
set_option maxRecDepth 100000 in
theorem oright_pure (o : VO) (hn : 0 ≤ o.n ∧ o.n ≤ 4294967295) : PureF gT 47 [voP o] (.bool (vright o)) := by
  by_cases hk : 1 ≤ o.kind ∧ o.kind ≤ 31
  · have hv := vto_bd o.kind hk
    have hs := rshape_pure o.kind hk
    have e : vright o ↔ ((plc 0 (vto o.kind) o.t0 ∧ plc 1 (vto o.kind) o.t1) ∧ (plc 0 (vfrom o.kind) o.f0 ∧ plc 1 (vfrom o.kind) o.f1 ∧ plc 2 (vfrom o.kind) o.f2 ∧ plc 3 (vfrom o.kind) o.f3) ∧ (vto o.kind < 2 ∨ o.t0 ≠ o.t1) ∧ vnum o.kind o.n) := ⟨fun h => h.2, fun h => ⟨hk, h⟩⟩
    refine Spec.enter gTok P47 100 Tryd.func47 rfl (by kernel_rfl) ?_
    refine ⟨[], no_rl, hs.use (by repeat' first | exact trivial | exact rfl | exact Iff.rfl | exact Or.inl rfl | refine And.intro ?_ ?_) rfl rfl ?_⟩
    obtain ⟨to, hto⟩ : ∃ to, to = vto o.kind := ⟨_, rfl⟩
    obtain ⟨fr, hfr⟩ : ∃ fr, fr = vfrom o.kind := ⟨_, rfl⟩
    rw [← hto, ← hfr] at e ⊢
    rw [← hto] at hv
    clear hfr hto hs hk
    repeat' ((conv => whnf); first | (refine (And.intro (fun _ => ?_) (fun _ => ?_) : (_ → _) ∧ (_ → _)) <;> (first | (exfalso; first | contradiction | omega) | skip)) | refine Or.inl (And.intro (by first | exact inR_i64 (by omega) | exact inR_u32 (by omega) | exact inR_u64 (by omega) | exact inR_u8 (by omega)) ?_) | (refine And.intro (show (_ : Int) ≠ 0 by omega) (Or.inl (And.intro (show (0 : Int) ≤ _ by omega) (And.intro (show (0 : Int) < _ by omega) ?_)))) | (refine And.intro (show (_ : Int) ≠ 0 by omega) (Or.inl (And.intro (show (0 : Int) ≤ _ by omega) (And.intro (by first | exact (show (_ : Int) ≤ 9223372036854775807 by omega) | exact (show (_ : Int) ≤ 4294967295 by omega)) (And.intro (show (0 : Int) < _ by omega) ?_))))) | (refine SW.rounds gTok P47 (by kernel_rfl) (N := 60) 5 ?_) | (refine retE ?_; (show ¬ vright o); rw [e]; (try simp only [Classical.not_not, wr1, wr2, wr3, wr4, wr5, wr6, wr7, wr8, wr9, wr10, wr11] at *); clear e; simp only [plc, vnum] at *; omega) | (refine retE ?_; (show _ ↔ vright o); rw [e]; (try simp only [Classical.not_not, wr1, wr2, wr3, wr4, wr5, wr6, wr7, wr8, wr9, wr10, wr11] at *); clear e; simp only [plc, vnum] at *; omega) | (refine retE ?_; (show vright o); rw [e]; (try simp only [Classical.not_not, wr1, wr2, wr3, wr4, wr5, wr6, wr7, wr8, wr9, wr10, wr11] at *); clear e; simp only [plc, vnum] at *; omega) | (refine Exists.intro [] (And.intro no_rl ((rreg_pure _ _ _).use (by repeat' first | exact trivial | exact rfl | exact Iff.rfl | exact Or.inl rfl | refine And.intro ?_ ?_) rfl rfl ?_))) | (intro _))
  · refine Spec.enter gTok P47 100 Tryd.func47 rfl (by kernel_rfl) ?_
    refine ⟨[], no_rl, (rshape_no o.kind hk).use (by repeat' first | exact trivial | exact rfl | exact Iff.rfl | exact Or.inl rfl | refine And.intro ?_ ?_) rfl rfl ?_⟩
    repeat' ((conv => whnf); first | (refine (And.intro (fun _ => ?_) (fun _ => ?_) : (_ → _) ∧ (_ → _)) <;> (first | (exfalso; first | contradiction | omega) | skip)) | refine Or.inl (And.intro (by first | exact inR_i64 (by omega) | exact inR_u32 (by omega) | exact inR_u64 (by omega) | exact inR_u8 (by omega)) ?_) | (refine And.intro (show (_ : Int) ≠ 0 by omega) (Or.inl (And.intro (show (0 : Int) ≤ _ by omega) (And.intro (show (0 : Int) < _ by omega) ?_)))) | (refine And.intro (show (_ : Int) ≠ 0 by omega) (Or.inl (And.intro (show (0 : Int) ≤ _ by omega) (And.intro (by first | exact (show (_ : Int) ≤ 9223372036854775807 by omega) | exact (show (_ : Int) ≤ 4294967295 by omega)) (And.intro (show (0 : Int) < _ by omega) ?_))))) | (refine retE ?_; exact (show ¬ vright o from fun h => hk h.1)) | (intro _))

end Go.Proofs.YthpkejlmelednaaDoor.Pw

/- Chapter 18 over values: what may be done by instructions; the document's examples. -/
namespace Go.Proofs.YthpkejlmelednaaDoor.Pw
open Go Go.RowKit

def vpair (t f : Int) : Prop := ¬ 7 < t ∧ ¬ 7 < f ∧ ¬ (0 ≤ t ∧ t = f)
theorem mem_nm (l : List Int) (x : Int) : x ∈ nm l ↔ x ∈ l ∧ x ≠ -1 := by simp [nm]
theorem vsmall_iff (o : VO) (hv : vright o) : (vright o ∧ vsmall o) ↔ (vpair o.t0 o.f0 ∧ vpair o.t0 o.f1 ∧ vpair o.t0 o.f2 ∧ vpair o.t0 o.f3) ∧ (vpair o.t1 o.f0 ∧ vpair o.t1 o.f1 ∧ vpair o.t1 o.f2 ∧ vpair o.t1 o.f3) := by
  have hv0 := hv
  obtain ⟨_, ⟨a0, a1⟩, ⟨b0, b1, b2, b3⟩, _⟩ := hv
  have g : ∀ i n r, plc i n r → -1 ≤ r := fun i n r h => by unfold plc at h; omega
  have a0 := g _ _ _ a0; have a1 := g _ _ _ a1; have b0 := g _ _ _ b0; have b1 := g _ _ _ b1; have b2 := g _ _ _ b2; have b3 := g _ _ _ b3
  refine ⟨fun ⟨_, h1, h2⟩ => ?_, fun h => ⟨hv0, ?_, ?_⟩⟩
  · have hf : ∀ x ∈ o.from_, x ≠ -1 → x < 8 := fun x hx hn => h1 x (List.mem_append_left _ ((mem_nm _ _).2 ⟨hx, hn⟩))
    have ht : ∀ x ∈ o.to, x ≠ -1 → x < 8 := fun x hx hn => h1 x (List.mem_append_right _ ((mem_nm _ _).2 ⟨hx, hn⟩))
    have hp : ∀ x ∈ o.to, x ≠ -1 → x ∉ o.from_ := fun x hx hn hf => h2 ⟨x, (mem_nm _ _).2 ⟨hx, hn⟩, (mem_nm _ _).2 ⟨hf, hn⟩⟩
    have f0 := hf o.f0 (by simp [VO.from_]); have f1 := hf o.f1 (by simp [VO.from_]); have f2 := hf o.f2 (by simp [VO.from_]); have f3 := hf o.f3 (by simp [VO.from_])
    have t0 := ht o.t0 (by simp [VO.to]); have t1 := ht o.t1 (by simp [VO.to])
    have p0 := hp o.t0 (by simp [VO.to]); have p1 := hp o.t1 (by simp [VO.to])
    simp only [VO.from_, List.mem_cons, List.not_mem_nil, or_false, not_or] at p0 p1
    unfold vpair
    omega
  · intro x hx
    simp only [List.mem_append, mem_nm, VO.from_, VO.to, List.mem_cons, List.not_mem_nil, or_false] at hx
    unfold vpair at h
    omega
  · rintro ⟨x, hx, hy⟩
    simp only [mem_nm, VO.from_, VO.to, List.mem_cons, List.not_mem_nil, or_false] at hx hy
    unfold vpair at h
    omega
set_option maxHeartbeats 8000000 in
set_option maxRecDepth 100000 in
theorem fits_pure (o : VO) (hn : 0 ≤ o.n ∧ o.n ≤ 4294967295) : PureF gT 21 [voP o] (.bool (vright o ∧ vsmall o)) := by
  refine Spec.enter gTok P21 100 Tryd.func21 rfl (by kernel_rfl) ?_
  refine ⟨[], no_rl, (oright_pure o hn).use (by repeat' first | exact trivial | exact rfl | exact Iff.rfl | exact Or.inl rfl | refine And.intro ?_ ?_) rfl rfl ?_⟩
  refine And.intro (fun h1 => ?_) (fun h1 => ?_)
  · refine retE ?_
    exact (show ¬ (vright o ∧ vsmall o) from fun h => h1 h.1)
  have e := vsmall_iff o (Classical.not_not.1 h1)
  clear h1
  repeat' ((conv => whnf); first | (refine (And.intro (fun _ => ?_) (fun _ => ?_) : (_ → _) ∧ (_ → _)) <;> (first | (exfalso; first | contradiction | omega) | skip)) | refine Or.inl (And.intro (by first | exact inR_i64 (by omega) | exact inR_u32 (by omega) | exact inR_u64 (by omega) | exact inR_u8 (by omega)) ?_) | (refine And.intro (show (_ : Int) ≠ 0 by omega) (Or.inl (And.intro (show (0 : Int) ≤ _ by omega) (And.intro (show (0 : Int) < _ by omega) ?_)))) | (refine And.intro (show (_ : Int) ≠ 0 by omega) (Or.inl (And.intro (show (0 : Int) ≤ _ by omega) (And.intro (by first | exact (show (_ : Int) ≤ 9223372036854775807 by omega) | exact (show (_ : Int) ≤ 4294967295 by omega)) (And.intro (show (0 : Int) < _ by omega) ?_))))) | (refine retE ?_; (show ¬ (vright o ∧ vsmall o)); rw [e]; clear e; unfold vpair; omega) | (refine retE ?_; (show vright o ∧ vsmall o); rw [e]; clear e; unfold vpair; omega) | (refine SW.rounds gTok P21 (by kernel_rfl) (N := 60) 5 ?_) | (intro _))

def oNum (n : Int) : VO := ⟨1, 3, -1, -1, -1, -1, -1, n⟩
theorem oNum_ok (n : Int) : vright (oNum n) ∧ vsmall (oNum n) := by
  have h : vright (oNum n) := by
    refine ⟨show (1 : Int) ≤ 1 ∧ (1 : Int) ≤ 31 by decide, ?_, ?_, .inl (show vto 1 < 2 by decide), .inl rfl⟩
    · show plc 0 (vto 1) 3 ∧ plc 1 (vto 1) (-1)
      rw [show vto 1 = 1 by decide]; unfold plc; omega
    · show plc 0 (vfrom 1) (-1) ∧ plc 1 (vfrom 1) (-1) ∧ plc 2 (vfrom 1) (-1) ∧ plc 3 (vfrom 1) (-1)
      rw [show vfrom 1 = 0 by decide]; unfold plc; omega
  refine (vsmall_iff _ h).2 ?_
  show (vpair 3 (-1) ∧ vpair 3 (-1) ∧ vpair 3 (-1) ∧ vpair 3 (-1)) ∧ (vpair (-1) (-1) ∧ vpair (-1) (-1) ∧ vpair (-1) (-1) ∧ vpair (-1) (-1))
  unfold vpair
  omega
set_option maxHeartbeats 8000000 in
set_option maxRecDepth 100000 in
theorem anchor18_pure : PureF gT 20 [] .tt := by
  have e1 : insR (oNum 256) = .tup [.sl 11 (insP [iM 60 3 3968]), .int .i64 0] := by
    rw [insR, if_pos (oNum_ok _)]
    have h1 : Rm.ofE 256 = 0 := by decide +kernel
    have h2 : Rm.ofN 256 = 3968 := by decide +kernel
    simp only [insL, oNum, threeF, memL, pairL, singL, testL, numL, h1, h2, ne_eq, reduceIte, Int.reduceEq, Int.reduceLE, not_false_eq_true, not_true_eq_false, List.nil_append, List.append_nil]
  have e2 : insR (oNum 305419896) = .tup [.sl 11 (insP [iM 48 3 22136, iM 49 3 4660]), .int .i64 0] := by
    rw [insR, if_pos (oNum_ok _)]
    have h1 : Rm.ofE 305419896 ≠ 0 := by decide +kernel
    have h2 : Rm.ofE (4294967295 - 305419896) ≠ 0 := by decide +kernel
    simp only [insL, oNum, threeF, memL, pairL, singL, testL, numL, h1, h2, ne_eq, reduceIte, Int.reduceEq, Int.reduceLE, Int.reduceDiv, Int.reduceMod, not_false_eq_true, not_true_eq_false, List.nil_append, List.append_nil]
  have i1 := insts_pure (oNum 256) (show (0 : Int) ≤ 256 ∧ (256 : Int) ≤ 4294967295 by decide)
  have i2 := insts_pure (oNum 305419896) (show (0 : Int) ≤ 305419896 ∧ (305419896 : Int) ≤ 4294967295 by decide)
  rw [e1] at i1
  rw [e2] at i2
  refine Spec.enter gTok P20 100 Tryd.func20 rfl (by kernel_rfl) ?_
  repeat' ((conv => whnf); first | (refine (And.intro (fun _ => ?_) (fun _ => ?_) : (_ → _) ∧ (_ → _)) <;> (first | (exfalso; first | contradiction | omega) | skip)) | refine Or.inl (And.intro (by first | exact inR_i64 (by omega) | exact inR_u32 (by omega) | exact inR_u64 (by omega) | exact inR_u8 (by omega)) ?_) | (refine And.intro (show (_ : Int) ≠ 0 by omega) (Or.inl (And.intro (show (0 : Int) ≤ _ by omega) (And.intro (show (0 : Int) < _ by omega) ?_)))) | (refine And.intro (show (_ : Int) ≠ 0 by omega) (Or.inl (And.intro (show (0 : Int) ≤ _ by omega) (And.intro (by first | exact (show (_ : Int) ≤ 9223372036854775807 by omega) | exact (show (_ : Int) ≤ 4294967295 by omega)) (And.intro (show (0 : Int) < _ by omega) ?_))))) | (refine SW.rounds gTok P99 (by kernel_rfl) (N := 60) 5 ?_) | (refine Exists.intro [] (And.intro no_rl (Spec.enter gTok P99 100 Tryd.func99 rfl (by kernel_rfl) ?_))) | (refine Exists.intro [] (And.intro no_rl (Spec.enter gTok P46 100 Tryd.func46 rfl (by kernel_rfl) ?_))) | (refine Exists.intro _ (And.intro (PLe.refl _) ?_)) | (intro _))
  refine ⟨[], no_rl, i1.use (by repeat' first | exact trivial | exact rfl | exact Iff.rfl | exact Or.inl rfl | refine And.intro ?_ ?_) rfl rfl ?_⟩
  repeat' ((conv => whnf); first | (refine (And.intro (fun _ => ?_) (fun _ => ?_) : (_ → _) ∧ (_ → _)) <;> (first | (exfalso; first | contradiction | omega) | skip)) | refine Or.inl (And.intro (by first | exact inR_i64 (by omega) | exact inR_u32 (by omega) | exact inR_u64 (by omega) | exact inR_u8 (by omega)) ?_) | (refine And.intro (show (_ : Int) ≠ 0 by omega) (Or.inl (And.intro (show (0 : Int) ≤ _ by omega) (And.intro (show (0 : Int) < _ by omega) ?_)))) | (refine And.intro (show (_ : Int) ≠ 0 by omega) (Or.inl (And.intro (show (0 : Int) ≤ _ by omega) (And.intro (by first | exact (show (_ : Int) ≤ 9223372036854775807 by omega) | exact (show (_ : Int) ≤ 4294967295 by omega)) (And.intro (show (0 : Int) < _ by omega) ?_))))) | (refine SW.rounds gTok P99 (by kernel_rfl) (N := 60) 5 ?_) | (refine Exists.intro [] (And.intro no_rl (Spec.enter gTok P99 100 Tryd.func99 rfl (by kernel_rfl) ?_))) | (refine Exists.intro [] (And.intro no_rl (Spec.enter gTok P46 100 Tryd.func46 rfl (by kernel_rfl) ?_))) | (refine Exists.intro _ (And.intro (PLe.refl _) ?_)) | (intro _))
  refine ⟨[], no_rl, i2.use (by repeat' first | exact trivial | exact rfl | exact Iff.rfl | exact Or.inl rfl | refine And.intro ?_ ?_) rfl rfl ?_⟩
  refine And.intro (fun _ => ?_) (fun h => absurd rfl h)
  refine And.intro (fun _ => ?_) (fun h => absurd rfl h)
  intro _
  refine And.intro (fun _ => ?_) (fun h => absurd rfl h)
  refine ⟨IN, [iM 60 3 3968], inP, rfl, by decide, by decide, fun x hx => ?_⟩
  obtain rfl : iM 60 3 3968 = x := Option.some.inj hx
  refine And.intro (fun _ => ?_) (fun h => absurd ⟨rfl, rfl, rfl, rfl, rfl, rfl, rfl, rfl, rfl, rfl, rfl, trivial⟩ h)
  intro _
  refine And.intro (fun _ => ?_) (fun h => absurd rfl h)
  refine ⟨IN, [iM 48 3 22136, iM 49 3 4660], inP, rfl, by decide, by decide, fun x hx => ?_⟩
  obtain rfl : iM 48 3 22136 = x := Option.some.inj hx
  refine And.intro (fun _ => ?_) (fun h => absurd rfl h)
  refine ⟨IN, [iM 48 3 22136, iM 49 3 4660], inP, rfl, by decide, by decide, fun x hx => ?_⟩
  obtain rfl : iM 49 3 4660 = x := Option.some.inj hx
  exact retE rfl

end Go.Proofs.YthpkejlmelednaaDoor.Pw

/- Operations that come in to chapter 18's laws, opened; the tables. -/
namespace Go.Proofs.YthpkejlmelednaaDoor.selLaid
open Go.ChangeShapes Go.WideShapes Go.ChangeAt Go.RowKit Go.Deep

def laidList : List (String × DataW Unit) := [("remontoire/imm.factors", Rows.laid_remontoire_imm_factors), ("remontoire/inst.shapes", Rows.laid_remontoire_inst_shapes), ("remontoire/vop.rows", Rows.laid_remontoire_vop_rows)]

def fuel : Nat := 3000
theorem door_met (os : Os) (args : Array Value) : laidMetH Tryd.prog laidList ((World.doorLaid Tryd.prog fuel os).forCall (fun _ _ => 0) ⟨#[], args, []⟩).memory :=
  laidMetH_of_parts3 (fuel := 8) (laidMet_of_run' 8 (by kernel_rfl) (by kernel_rfl)) (by kernel_rfl) (by kernel_rfl)

end Go.Proofs.YthpkejlmelednaaDoor.selLaid

namespace Go.Proofs.YthpkejlmelednaaDoor.Pw
open Go Go.RowKit

theorem immSel {W : World} (h : laidMetH Tryd.prog selLaid.laidList W) : ImmOk gT (In W) W :=
  immOk_laid (laid := selLaid.laidList) (by kernel_rfl) h fun x hx => by
    have hx' : x ∈ [(2, facP), (0, shP), (1, vrowsP)] := hx
    simp only [List.mem_cons, List.not_mem_nil, or_false] at hx'
    rcases hx' with rfl | rfl | rfl
    · exact ⟨"remontoire/imm.factors", _, 156, List.mem_cons_self, by kernel_rfl, by kernel_rfl, by kernel_rfl, nofun⟩
    · exact ⟨"remontoire/inst.shapes", _, 137, List.mem_cons_of_mem _ List.mem_cons_self, by kernel_rfl, by kernel_rfl, by kernel_rfl, nofun⟩
    · exact ⟨"remontoire/vop.rows", _, 143, List.mem_cons_of_mem _ (List.mem_cons_of_mem _ List.mem_cons_self), by kernel_rfl, by kernel_rfl, by kernel_rfl, nofun⟩

/-- an array that comes in -/
theorem opArr {P : Program} {t e : TypeId} {S : PV → Prop} {n : Nat} (ht : P.underlying t = some (.array n e)) (he : Op P e S) (hc : P.cellsOf t = n * P.cellsOf e) : Op P t (SAgg (List.replicate n S)) := fun {H} ec w base held fuel cs x h hwt => by
  obtain ⟨xs, m, _, rfl, hl, hxl, hx⟩ := DataW.trod_array ht h
  have key : ∀ (k off : Nat), k + off = n → ∃ ys, All2S (List.replicate k S) ys ∧ IsL w (In w) (ys.flatMap PV.cells) no (cs.drop (off * P.cellsOf e)) ∧ ∀ c ∈ cs.drop (off * P.cellsOf e), c.oneCell' = true := by
    intro k
    induction k with
    | zero =>
      intro off hk
      have hge : cs.length ≤ off * P.cellsOf e := by rw [hl, hc, show off = n by omega]; exact Nat.le_refl _
      refine ⟨[], trivial, ?_, ?_⟩
      · rw [List.drop_eq_nil_of_le hge]; simp only [List.flatMap_nil, IsL]
      · rw [List.drop_eq_nil_of_le hge]; intro c hc; cases hc
    | succ k ih =>
      intro off hk
      obtain ⟨ys, h1, h2, h3⟩ := ih (off + 1) (by omega)
      have hi := hx off (by omega)
      have hlt : off < xs.length := by omega
      rw [List.getElem?_eq_getElem hlt] at hi
      obtain ⟨y, hS, _, hy, hyl, hy1⟩ := he ec w base held m _ _ hi fun n hn => hwt n (by
        simp only [DataW.weights, ht]
        exact weights_all (List.mem_map.2 ⟨xs[off], List.getElem_mem hlt, rfl⟩) hn)
      have hd : cs.drop (off * P.cellsOf e) = (cs.drop (off * P.cellsOf e)).take (P.cellsOf e) ++ cs.drop ((off + 1) * P.cellsOf e) := by
        rw [Nat.succ_mul, ← List.drop_drop, List.take_append_drop]
      refine ⟨y :: ys, ⟨hS, h1⟩, ?_, ?_⟩
      · rw [hd, List.flatMap_cons]; exact hy.append h2
      · intro c hcc
        rw [hd, List.mem_append] at hcc
        exact hcc.elim (hy1 c) (h3 c)
  obtain ⟨ys, h1, h2, h3⟩ := key n 0 rfl
  rw [Nat.zero_mul, List.drop_zero] at h2 h3
  exact ⟨.agg (ys.flatMap PV.cells), ⟨ys, h1, rfl⟩, nofun, h2, hl, h3⟩

structure VO.Ok (o : VO) : Prop where
  n : 0 ≤ o.n ∧ o.n ≤ 4294967295
theorem inR_u32s {z : Int} (h : InR .u32 z) : 0 ≤ z ∧ z ≤ 4294967295 := by unfold InR Ev.kmin Ev.kmax at h; simp only [IntKind.signed, IntKind.bits] at h; simpa using h
theorem opVO_ : Op Tryd.prog 40 (SAgg [SInt .i64, SAgg (List.replicate 2 (SInt .i64)), SAgg (List.replicate 4 (SInt .i64)), SInt .u32]) :=
  opAgg (Ss := [SInt .i64, SAgg (List.replicate 2 (SInt .i64)), SAgg (List.replicate 4 (SInt .i64)), SInt .u32]) Tryd.underlying40
    ⟨rfl, opInt Tryd.underlying3 (by kernel_rfl), (show _ = _ by kernel_rfl), opArr Tryd.underlying37 (opInt Tryd.underlying3 (by kernel_rfl)) (by kernel_rfl), (show _ = _ by kernel_rfl), opArr Tryd.underlying38 (opInt Tryd.underlying3 (by kernel_rfl)) (by kernel_rfl), (show _ = _ by kernel_rfl), opInt Tryd.underlying25 (by kernel_rfl), (show _ = _ by kernel_rfl)⟩
theorem vo_dec (x : PV) (h : SAgg [SInt .i64, SAgg (List.replicate 2 (SInt .i64)), SAgg (List.replicate 4 (SInt .i64)), SInt .u32] x) : ∃ o : VO, o.Ok ∧ x = voP o := by
  obtain ⟨xs, h, rfl⟩ := h
  obtain ⟨_, _, rfl, ⟨k, _, rfl⟩, h_1⟩ := all2_cons h
  obtain ⟨_, _, rfl, ⟨ts, ht, rfl⟩, h_2⟩ := all2_cons h_1
  obtain ⟨_, _, rfl, ⟨fs, hf, rfl⟩, h_3⟩ := all2_cons h_2
  obtain ⟨_, _, rfl, ⟨n, hn, rfl⟩, h_4⟩ := all2_cons h_3
  obtain rfl := all2_nil h_4
  obtain ⟨_, _, rfl, ⟨t0, _, rfl⟩, ht_1⟩ := all2_cons ht
  obtain ⟨_, _, rfl, ⟨t1, _, rfl⟩, ht_2⟩ := all2_cons ht_1
  obtain rfl := all2_nil ht_2
  obtain ⟨_, _, rfl, ⟨f0, _, rfl⟩, hf_1⟩ := all2_cons hf
  obtain ⟨_, _, rfl, ⟨f1, _, rfl⟩, hf_2⟩ := all2_cons hf_1
  obtain ⟨_, _, rfl, ⟨f2, _, rfl⟩, hf_3⟩ := all2_cons hf_2
  obtain ⟨_, _, rfl, ⟨f3, _, rfl⟩, hf_4⟩ := all2_cons hf_3
  obtain rfl := all2_nil hf_4
  exact ⟨⟨k, t0, t1, f0, f1, f2, f3, n⟩, ⟨inR_u32s hn⟩, rfl⟩
def SVO (x : PV) : Prop := ∃ o : VO, o.Ok ∧ x = voP o
theorem opVO : Op Tryd.prog 40 SVO := opVO_.weak vo_dec
theorem opVOs : Op Tryd.prog 48 (SLs 8 64 voP VO.Ok) :=
  opList (opSlice opVO_ 8 64 (by kernel_rfl) Tryd.underlying48 (by kernel_rfl) (by decide) (by kernel_rfl)) vo_dec

end Go.Proofs.YthpkejlmelednaaDoor.Pw

/- Chapter 18 over values: SelSome. -/
namespace Go.Proofs.YthpkejlmelednaaDoor.Pw
open Go Go.RowKit

theorem insL_len2 (o : VO) : (insL o).length ≤ 100 := by
  unfold insL
  split
  · simp
  · have := insLen o
    simp only [List.length_append]; omega
theorem insts_yes (o : VO) (h : o.Ok) (hf : vright o ∧ vsmall o) : PureF gT 22 [voP o] (.tup [.sl 11 (insP (insL o)), .int .i64 0]) := by
  have := insts_pure o h.n
  rwa [insR, if_pos hf] at this
theorem insts_no (o : VO) (h : o.Ok) (hf : ¬ (vright o ∧ vsmall o)) : PureF gT 22 [voP o] (.tup [.sl 11 [], .int .i64 10]) := by
  have := insts_pure o h.n
  rwa [insR, if_neg hf] at this
def trapC (k : Int) : Int := if k = 30 then 2 else if k = 31 then 0 else -1
def trapN (k : Int) : Int := if k = 30 then 1 else if k = 31 then 2 else 0
theorem trap_pure (o : VO) : PureF gT 37 [voP o] (.tup [.int .i64 (trapC o.kind), .int .i64 (trapN o.kind)]) := by
  refine Spec.enter gTok P37 100 Tryd.func37 rfl (by kernel_rfl) ?_
  repeat' ((conv => whnf); first | (refine (And.intro (fun _ => ?_) (fun _ => ?_) : (_ → _) ∧ (_ → _)) <;> (first | (exfalso; first | contradiction | omega) | skip)) | refine Or.inl (And.intro (by first | exact inR_i64 (by omega) | exact inR_u32 (by omega) | exact inR_u64 (by omega) | exact inR_u8 (by omega)) ?_) | (refine And.intro (show (_ : Int) ≠ 0 by omega) (Or.inl (And.intro (show (0 : Int) ≤ _ by omega) (And.intro (show (0 : Int) < _ by omega) ?_)))) | (refine And.intro (show (_ : Int) ≠ 0 by omega) (Or.inl (And.intro (show (0 : Int) ≤ _ by omega) (And.intro (by first | exact (show (_ : Int) ≤ 9223372036854775807 by omega) | exact (show (_ : Int) ≤ 4294967295 by omega)) (And.intro (show (0 : Int) < _ by omega) ?_))))) | ((simp only [trapC, trapN, *, if_true, if_false, reduceIte, Int.reduceEq]); (refine retE ?_; repeat' first | exact trivial | exact rfl | exact Iff.rfl | exact Or.inl rfl | refine And.intro ?_ ?_)) | (intro _))
/-- an operation that is done and doesn't trap -/
def okO (o : VO) : Prop := (vright o ∧ vsmall o) ∧ o.kind ≠ 30 ∧ o.kind ≠ 31
theorem trapC_ok {o : VO} (h : okO o) : trapC o.kind = -1 := by unfold trapC; rw [if_neg h.2.1, if_neg h.2.2]
theorem okO_of {o : VO} (h1 : vright o ∧ vsmall o) (h2 : trapC o.kind = -1) : okO o := by
  unfold trapC at h2
  refine ⟨h1, fun h => ?_, fun h => ?_⟩
  · rw [if_pos h] at h2; omega
  · rw [if_neg (by omega), if_pos h] at h2; omega
def allIns (l : List VO) : List IN := l.flatMap insL
theorem allIns_len (l : List VO) : (allIns l).length ≤ 100 * l.length := by
  induction l with
  | nil => simp [allIns]
  | cons o l ih =>
    have := insL_len2 o
    unfold allIns at ih ⊢
    rw [List.flatMap_cons, List.length_append, List.length_cons]; omega
theorem allIns_take {l : List VO} {i : Nat} {o : VO} (h : l[i]? = some o) : allIns (l.take (i + 1)) = allIns (l.take i) ++ insL o := by
  unfold allIns
  rw [List.take_add_one, h, List.flatMap_append]; simp

set_option maxHeartbeats 8000000 in
set_option maxRecDepth 100000 in
theorem some_yes (l : List VO) (hl : l.length ≤ 60) (hn : ∀ o ∈ l, o.Ok) (hall : ∀ o ∈ l, okO o) : PureF gT 24 [.sl 8 (l.map voP)] (.tup [.sl 11 (insP (allIns l)), .int .i64 0]) := by
  have el : (l.map voP).length = l.length := List.length_map ..
  refine Spec.enter gTok P24 100 Tryd.func24 rfl (by kernel_rfl) ?_
  intro _
  refine SW.loopW gTok P24 (by kernel_rfl) (fun i : Nat => [(13, .int .i64 i), (4, .wref 0)]) (fun i => [dIn (insP (allIns (l.take i)))]) (fun i => l.length - i) 0 60 [none] ?_ fun i => ?_
  · repeat' first | exact trivial | exact rfl | refine And.intro ?_ ?_
  have ea : (insP (allIns (l.take i))).length ≤ 6000 := by
    have := allIns_len (l.take i)
    rw [insP, List.length_map]
    have h2 : (l.take i).length ≤ l.length := by rw [List.length_take]; omega
    omega
  refine And.intro (fun h => ?_) (fun h => ?_)
  · have h' : (i : Int) < ((l.map voP).length : Nat) := h
    refine ⟨VO, l, voP, rfl, show (0 : Int) ≤ (i : Int) by omega, show (i : Int) < (l.length : Int) by omega, fun o ho => ?_⟩
    have ho' : l[i]? = some o := ho
    have hm := List.mem_of_getElem? ho'
    have hok := hall o hm
    have hi := insts_yes o (hn o hm) hok.1
    have et := allIns_take ho'
    have hle : (insP (insL o)).length ≤ 100 := by rw [insP, List.length_map]; exact insL_len2 o
    generalize insL o = L at hi et hle
    refine ⟨[], no_rl, hi.use (by repeat' first | exact trivial | exact rfl | exact Iff.rfl | exact Or.inl rfl | refine And.intro ?_ ?_) rfl rfl ?_⟩
    refine ⟨[], no_rl, (trap_pure o).use (by repeat' first | exact trivial | exact rfl | exact Iff.rfl | exact Or.inl rfl | refine And.intro ?_ ?_) rfl rfl ?_⟩
    have htc := trapC_ok hok
    refine And.intro (fun h => absurd htc h) (fun _ => ?_)
    refine And.intro (fun h => absurd rfl h) (fun _ => ?_)
    refine ⟨show (insP (allIns (l.take i))).length + (insP L).length ≤ maxLen by unfold maxLen; omega, show ((insP (allIns (l.take i))).length + (insP L).length) * 88 ≤ 140737488355328 by omega, ?_⟩
    refine .inl ⟨inR_i64 (show _ ≤ (i : Int) + 1 ∧ (i : Int) + 1 ≤ _ by omega), ⟨i + 1, [some 2], show l.length - (i + 1) < l.length - i by omega, ?_⟩⟩
    repeat' first | exact trivial | exact rfl | refine And.intro ?_ ?_
    exact (show insP (allIns (l.take i)) ++ insP L = insP (allIns (l.take (i + 1))) by rw [et]; simp [insP])
  · have h' : ¬ (i : Int) < ((l.map voP).length : Nat) := h
    refine retE ?_
    have e : insP (allIns (l.take i)) = insP (allIns l) := by rw [List.take_of_length_le (by omega)]
    refine And.intro (show leA (.sl 11 (insP (allIns (l.take i)))) (.sl 11 (insP (allIns l))) from ?_) (by repeat' first | exact trivial | exact rfl | exact Iff.rfl | exact Or.inl rfl | refine And.intro ?_ ?_)
    rw [e]
    repeat' first | exact trivial | exact rfl | refine And.intro ?_ ?_

end Go.Proofs.YthpkejlmelednaaDoor.Pw

/- Chapter 18 over values: the document's instructions of an operation. -/
namespace Go.Proofs.YthpkejlmelednaaDoor.Pw
open Go Go.RowKit

theorem ofM_iff (x : Int) : (0 ≤ Rm.ofM x ↔ Rm.ofE x = 0) ∧ (0 ≤ Rm.ofM x → Rm.ofM x = Rm.ofN x) := by
  unfold Rm.ofM Rm.ofE Rm.ofN
  cases Rm.dec x.toNat with
  | none => simp
  | some n => simp
theorem of_fours (n : Int) (h : n % 4 = 0) (h0 : 256 ≤ n) (h1 : n ≤ 1024) : Rm.ofM n = Rm.ofN n := by
  have key : ∀ k : Fin 193, 0 ≤ Rm.ofM (256 + 4 * (k.1 : Int)) := by decide +kernel
  have := key ⟨((n - 256) / 4).toNat, by omega⟩
  rw [show 256 + 4 * ((((n - 256) / 4).toNat : Nat) : Int) = n by omega] at this
  exact (ofM_iff n).2 this

set_option maxRecDepth 100000 in
theorem rthree_pure (f d n m : Int) : PureF gT 59 [.int .i64 f, .int .i64 d, .int .i64 n, .int .i64 m] (inP (iF f d n m)) := by
  refine Spec.enter gTok P59 100 Tryd.func59 rfl (by kernel_rfl) ?_
  (refine retE ?_; repeat' first | exact trivial | exact rfl | exact Iff.rfl | exact Or.inl rfl | refine And.intro ?_ ?_)
set_option maxRecDepth 100000 in
theorem rimm_pure (f d n : Int) : PureF gT 61 [.int .i64 f, .int .i64 d, .int .i64 n] (inP (iM f d n)) := by
  refine Spec.enter gTok P61 100 Tryd.func61 rfl (by kernel_rfl) ?_
  (refine retE ?_; repeat' first | exact trivial | exact rfl | exact Iff.rfl | exact Or.inl rfl | refine And.intro ?_ ?_)
set_option maxHeartbeats 4000000 in
set_option maxRecDepth 100000 in
theorem rnumber_pure (t n : Int) (hn : 0 ≤ n ∧ n ≤ 4294967295) : PureF gT 57 [.int .i64 t, .int .u32 n] (.sl 11 (insP (numL t n))) := by
  obtain ⟨i1, i2⟩ := ofM_iff n
  obtain ⟨j1, j2⟩ := ofM_iff (4294967295 - n)
  refine Spec.enter gTok P57 100 Tryd.func57 rfl (by kernel_rfl) ?_
  refine And.intro (fun h1 => ?_) (fun h1 => ?_)
  · refine .inl ⟨inR_i64 (by omega), ?_⟩
    refine ⟨[], no_rl, (rimm_pure 8 t n).use (by repeat' first | exact trivial | exact rfl | exact Iff.rfl | exact Or.inl rfl | refine And.intro ?_ ?_) rfl rfl ?_⟩
    refine retE ?_
    show _ = _
    rw [numL, if_pos (by omega)]; rfl
  refine ⟨[], no_rl, (refof_pure n hn).use (by repeat' first | exact trivial | exact rfl | exact Iff.rfl | exact Or.inl rfl | refine And.intro ?_ ?_) rfl rfl ?_⟩
  refine And.intro (fun h2 => ?_) (fun h2 => ?_)
  · refine ⟨[], no_rl, (rimm_pure 60 t (Rm.ofM n)).use (by repeat' first | exact trivial | exact rfl | exact Iff.rfl | exact Or.inl rfl | refine And.intro ?_ ?_) rfl rfl ?_⟩
    refine retE ?_
    show _ = _
    rw [numL, if_neg (by omega), if_pos (i1.1 h2), ← i2 h2]; rfl
  refine .inl ⟨inR_u32 (by omega), ?_⟩
  refine ⟨[], no_rl, (refof_pure (4294967295 - n) (by omega)).use (by repeat' first | exact trivial | exact rfl | exact Iff.rfl | exact Or.inl rfl | refine And.intro ?_ ?_) rfl rfl ?_⟩
  refine And.intro (fun h3 => ?_) (fun h3 => ?_)
  · refine ⟨[], no_rl, (rimm_pure 61 t (Rm.ofM (4294967295 - n))).use (by repeat' first | exact trivial | exact rfl | exact Iff.rfl | exact Or.inl rfl | refine And.intro ?_ ?_) rfl rfl ?_⟩
    refine retE ?_
    show _ = _
    rw [numL, if_neg (by omega), if_neg (fun h => h2 (i1.2 h)), if_pos (j1.1 h3), ← j2 h3]; rfl
  refine ⟨by decide, .inl ⟨hn.1, by decide, ?_⟩⟩
  refine .inl ⟨inR_i64 (by omega), ?_⟩
  refine ⟨[], no_rl, (rimm_pure 48 t (n % 65536)).use (by repeat' first | exact trivial | exact rfl | exact Iff.rfl | exact Or.inl rfl | refine And.intro ?_ ?_) rfl rfl ?_⟩
  refine And.intro (fun h4 => ?_) (fun h4 => ?_)
  · refine retE ?_
    show _ = _
    rw [numL, if_neg (by omega), if_neg (fun h => h2 (i1.2 h)), if_neg (fun h => h3 (j1.2 h)), if_neg (by omega)]; rfl
  · refine ⟨by decide, .inl ⟨hn.1, show n ≤ 4294967295 from hn.2, by decide, ?_⟩⟩
    refine .inl ⟨inR_i64 (by omega), ?_⟩
    refine ⟨[], no_rl, (rimm_pure 49 t (n / 65536)).use (by repeat' first | exact trivial | exact rfl | exact Iff.rfl | exact Or.inl rfl | refine And.intro ?_ ?_) rfl rfl ?_⟩
    refine retE ?_
    show _ = _
    rw [numL, if_neg (by omega), if_neg (fun h => h2 (i1.2 h)), if_neg (fun h => h3 (j1.2 h)), if_pos (by omega)]; rfl

set_option maxHeartbeats 4000000 in
set_option maxRecDepth 100000 in
theorem rmem_2 (o : VO) (hk : o.kind = 2) (hn : 0 ≤ o.n ∧ o.n ≤ 4294967295) : PureF gT 58 [voP o] (.sl 11 (insP (memL o))) := by
  refine Spec.enter gTok P58 100 Tryd.func58 rfl (by kernel_rfl) ?_
  repeat' ((conv => whnf); first | (refine (And.intro (fun _ => ?_) (fun _ => ?_) : (_ → _) ∧ (_ → _)) <;> (first | (exfalso; first | contradiction | omega) | skip)) | refine Or.inl (And.intro (by first | exact inR_i64 (by omega) | exact inR_u32 (by omega) | exact inR_u64 (by omega) | exact inR_u8 (by omega)) ?_) | (refine And.intro (show (_ : Int) ≠ 0 by omega) (Or.inl (And.intro (show (0 : Int) ≤ _ by omega) (And.intro (show (0 : Int) < _ by omega) ?_)))) | (refine And.intro (show (_ : Int) ≠ 0 by omega) (Or.inl (And.intro (show (0 : Int) ≤ _ by omega) (And.intro (by first | exact (show (_ : Int) ≤ 9223372036854775807 by omega) | exact (show (_ : Int) ≤ 4294967295 by omega)) (And.intro (show (0 : Int) < _ by omega) ?_))))) | (refine Exists.intro [] (And.intro no_rl ((rthree_pure _ _ _ _).use (by repeat' first | exact trivial | exact rfl | exact Iff.rfl | exact Or.inl rfl | refine And.intro ?_ ?_) rfl rfl ?_))) | (refine Exists.intro [] (And.intro no_rl ((rimm_pure _ _ _).use (by repeat' first | exact trivial | exact rfl | exact Iff.rfl | exact Or.inl rfl | refine And.intro ?_ ?_) rfl rfl ?_))) | (refine retE ?_; (show _ = _); simp only [memL, hk, reduceIte, Int.reduceEq]; rfl) | (intro _))
set_option maxHeartbeats 4000000 in
set_option maxRecDepth 100000 in
theorem rmem_3 (o : VO) (hk : o.kind = 3) (hn : 0 ≤ o.n ∧ o.n ≤ 4294967295) : PureF gT 58 [voP o] (.sl 11 (insP (memL o))) := by
  refine Spec.enter gTok P58 100 Tryd.func58 rfl (by kernel_rfl) ?_
  repeat' ((conv => whnf); first | (refine (And.intro (fun _ => ?_) (fun _ => ?_) : (_ → _) ∧ (_ → _)) <;> (first | (exfalso; first | contradiction | omega) | skip)) | refine Or.inl (And.intro (by first | exact inR_i64 (by omega) | exact inR_u32 (by omega) | exact inR_u64 (by omega) | exact inR_u8 (by omega)) ?_) | (refine And.intro (show (_ : Int) ≠ 0 by omega) (Or.inl (And.intro (show (0 : Int) ≤ _ by omega) (And.intro (show (0 : Int) < _ by omega) ?_)))) | (refine And.intro (show (_ : Int) ≠ 0 by omega) (Or.inl (And.intro (show (0 : Int) ≤ _ by omega) (And.intro (by first | exact (show (_ : Int) ≤ 9223372036854775807 by omega) | exact (show (_ : Int) ≤ 4294967295 by omega)) (And.intro (show (0 : Int) < _ by omega) ?_))))) | (refine Exists.intro [] (And.intro no_rl ((rthree_pure _ _ _ _).use (by repeat' first | exact trivial | exact rfl | exact Iff.rfl | exact Or.inl rfl | refine And.intro ?_ ?_) rfl rfl ?_))) | (refine Exists.intro [] (And.intro no_rl ((rimm_pure _ _ _).use (by repeat' first | exact trivial | exact rfl | exact Iff.rfl | exact Or.inl rfl | refine And.intro ?_ ?_) rfl rfl ?_))) | (refine retE ?_; (show _ = _); simp only [memL, hk, reduceIte, Int.reduceEq]; rfl) | (intro _))
set_option maxHeartbeats 4000000 in
set_option maxRecDepth 100000 in
theorem rmem_4 (o : VO) (hk : o.kind = 4) (hn : 0 ≤ o.n ∧ o.n ≤ 4294967295) : PureF gT 58 [voP o] (.sl 11 (insP (memL o))) := by
  refine Spec.enter gTok P58 100 Tryd.func58 rfl (by kernel_rfl) ?_
  repeat' ((conv => whnf); first | (refine (And.intro (fun _ => ?_) (fun _ => ?_) : (_ → _) ∧ (_ → _)) <;> (first | (exfalso; first | contradiction | omega) | skip)) | refine Or.inl (And.intro (by first | exact inR_i64 (by omega) | exact inR_u32 (by omega) | exact inR_u64 (by omega) | exact inR_u8 (by omega)) ?_) | (refine And.intro (show (_ : Int) ≠ 0 by omega) (Or.inl (And.intro (show (0 : Int) ≤ _ by omega) (And.intro (show (0 : Int) < _ by omega) ?_)))) | (refine And.intro (show (_ : Int) ≠ 0 by omega) (Or.inl (And.intro (show (0 : Int) ≤ _ by omega) (And.intro (by first | exact (show (_ : Int) ≤ 9223372036854775807 by omega) | exact (show (_ : Int) ≤ 4294967295 by omega)) (And.intro (show (0 : Int) < _ by omega) ?_))))) | (refine Exists.intro [] (And.intro no_rl ((rthree_pure _ _ _ _).use (by repeat' first | exact trivial | exact rfl | exact Iff.rfl | exact Or.inl rfl | refine And.intro ?_ ?_) rfl rfl ?_))) | (refine Exists.intro [] (And.intro no_rl ((rimm_pure _ _ _).use (by repeat' first | exact trivial | exact rfl | exact Iff.rfl | exact Or.inl rfl | refine And.intro ?_ ?_) rfl rfl ?_))) | (refine retE ?_; (show _ = _); simp only [memL, hk, reduceIte, Int.reduceEq]; rfl) | (intro _))
set_option maxHeartbeats 4000000 in
set_option maxRecDepth 100000 in
theorem rmem_5 (o : VO) (hk : o.kind = 5) (hn : 0 ≤ o.n ∧ o.n ≤ 4294967295) : PureF gT 58 [voP o] (.sl 11 (insP (memL o))) := by
  refine Spec.enter gTok P58 100 Tryd.func58 rfl (by kernel_rfl) ?_
  repeat' ((conv => whnf); first | (refine (And.intro (fun _ => ?_) (fun _ => ?_) : (_ → _) ∧ (_ → _)) <;> (first | (exfalso; first | contradiction | omega) | skip)) | refine Or.inl (And.intro (by first | exact inR_i64 (by omega) | exact inR_u32 (by omega) | exact inR_u64 (by omega) | exact inR_u8 (by omega)) ?_) | (refine And.intro (show (_ : Int) ≠ 0 by omega) (Or.inl (And.intro (show (0 : Int) ≤ _ by omega) (And.intro (show (0 : Int) < _ by omega) ?_)))) | (refine And.intro (show (_ : Int) ≠ 0 by omega) (Or.inl (And.intro (show (0 : Int) ≤ _ by omega) (And.intro (by first | exact (show (_ : Int) ≤ 9223372036854775807 by omega) | exact (show (_ : Int) ≤ 4294967295 by omega)) (And.intro (show (0 : Int) < _ by omega) ?_))))) | (refine Exists.intro [] (And.intro no_rl ((rthree_pure _ _ _ _).use (by repeat' first | exact trivial | exact rfl | exact Iff.rfl | exact Or.inl rfl | refine And.intro ?_ ?_) rfl rfl ?_))) | (refine Exists.intro [] (And.intro no_rl ((rimm_pure _ _ _).use (by repeat' first | exact trivial | exact rfl | exact Iff.rfl | exact Or.inl rfl | refine And.intro ?_ ?_) rfl rfl ?_))) | (refine retE ?_; (show _ = _); simp only [memL, hk, reduceIte, Int.reduceEq]; rfl) | (intro _))
set_option maxHeartbeats 4000000 in
set_option maxRecDepth 100000 in
theorem rmem_6 (o : VO) (hk : o.kind = 6) (hn : 0 ≤ o.n ∧ o.n ≤ 4294967295) : PureF gT 58 [voP o] (.sl 11 (insP (memL o))) := by
  refine Spec.enter gTok P58 100 Tryd.func58 rfl (by kernel_rfl) ?_
  repeat' ((conv => whnf); first | (refine (And.intro (fun _ => ?_) (fun _ => ?_) : (_ → _) ∧ (_ → _)) <;> (first | (exfalso; first | contradiction | omega) | skip)) | refine Or.inl (And.intro (by first | exact inR_i64 (by omega) | exact inR_u32 (by omega) | exact inR_u64 (by omega) | exact inR_u8 (by omega)) ?_) | (refine And.intro (show (_ : Int) ≠ 0 by omega) (Or.inl (And.intro (show (0 : Int) ≤ _ by omega) (And.intro (show (0 : Int) < _ by omega) ?_)))) | (refine And.intro (show (_ : Int) ≠ 0 by omega) (Or.inl (And.intro (show (0 : Int) ≤ _ by omega) (And.intro (by first | exact (show (_ : Int) ≤ 9223372036854775807 by omega) | exact (show (_ : Int) ≤ 4294967295 by omega)) (And.intro (show (0 : Int) < _ by omega) ?_))))) | (refine Exists.intro [] (And.intro no_rl ((rthree_pure _ _ _ _).use (by repeat' first | exact trivial | exact rfl | exact Iff.rfl | exact Or.inl rfl | refine And.intro ?_ ?_) rfl rfl ?_))) | (refine Exists.intro [] (And.intro no_rl ((rimm_pure _ _ _).use (by repeat' first | exact trivial | exact rfl | exact Iff.rfl | exact Or.inl rfl | refine And.intro ?_ ?_) rfl rfl ?_))) | (refine retE ?_; (show _ = _); simp only [memL, hk, reduceIte, Int.reduceEq]; rfl) | (intro _))
set_option maxHeartbeats 4000000 in
set_option maxRecDepth 100000 in
theorem rpair_23 (o : VO) (hk : o.kind = 23) : PureF gT 62 [voP o] (.sl 11 (insP (pairL o))) := by
  refine Spec.enter gTok P62 100 Tryd.func62 rfl (by kernel_rfl) ?_
  repeat' ((conv => whnf); first | (refine (And.intro (fun _ => ?_) (fun _ => ?_) : (_ → _) ∧ (_ → _)) <;> (first | (exfalso; first | contradiction | omega) | skip)) | refine Or.inl (And.intro (by first | exact inR_i64 (by omega) | exact inR_u32 (by omega) | exact inR_u64 (by omega) | exact inR_u8 (by omega)) ?_) | (refine And.intro (show (_ : Int) ≠ 0 by omega) (Or.inl (And.intro (show (0 : Int) ≤ _ by omega) (And.intro (show (0 : Int) < _ by omega) ?_)))) | (refine And.intro (show (_ : Int) ≠ 0 by omega) (Or.inl (And.intro (show (0 : Int) ≤ _ by omega) (And.intro (by first | exact (show (_ : Int) ≤ 9223372036854775807 by omega) | exact (show (_ : Int) ≤ 4294967295 by omega)) (And.intro (show (0 : Int) < _ by omega) ?_))))) | (refine Exists.intro [] (And.intro no_rl ((rthree_pure _ _ _ _).use (by repeat' first | exact trivial | exact rfl | exact Iff.rfl | exact Or.inl rfl | refine And.intro ?_ ?_) rfl rfl ?_))) | (refine Exists.intro [] (And.intro no_rl (Spec.enter gTok P60 100 Tryd.func60 rfl (by kernel_rfl) ?_))) | (refine retE ?_; (show _ = _); simp only [pairL, hk, reduceIte, Int.reduceEq]; rfl) | (refine Exists.intro _ (And.intro (PLe.refl _) ?_)) | (intro _))
set_option maxHeartbeats 4000000 in
set_option maxRecDepth 100000 in
theorem rpair_24 (o : VO) (hk : o.kind = 24) : PureF gT 62 [voP o] (.sl 11 (insP (pairL o))) := by
  refine Spec.enter gTok P62 100 Tryd.func62 rfl (by kernel_rfl) ?_
  repeat' ((conv => whnf); first | (refine (And.intro (fun _ => ?_) (fun _ => ?_) : (_ → _) ∧ (_ → _)) <;> (first | (exfalso; first | contradiction | omega) | skip)) | refine Or.inl (And.intro (by first | exact inR_i64 (by omega) | exact inR_u32 (by omega) | exact inR_u64 (by omega) | exact inR_u8 (by omega)) ?_) | (refine And.intro (show (_ : Int) ≠ 0 by omega) (Or.inl (And.intro (show (0 : Int) ≤ _ by omega) (And.intro (show (0 : Int) < _ by omega) ?_)))) | (refine And.intro (show (_ : Int) ≠ 0 by omega) (Or.inl (And.intro (show (0 : Int) ≤ _ by omega) (And.intro (by first | exact (show (_ : Int) ≤ 9223372036854775807 by omega) | exact (show (_ : Int) ≤ 4294967295 by omega)) (And.intro (show (0 : Int) < _ by omega) ?_))))) | (refine Exists.intro [] (And.intro no_rl ((rthree_pure _ _ _ _).use (by repeat' first | exact trivial | exact rfl | exact Iff.rfl | exact Or.inl rfl | refine And.intro ?_ ?_) rfl rfl ?_))) | (refine Exists.intro [] (And.intro no_rl (Spec.enter gTok P60 100 Tryd.func60 rfl (by kernel_rfl) ?_))) | (refine retE ?_; (show _ = _); simp only [pairL, hk, reduceIte, Int.reduceEq]; rfl) | (refine Exists.intro _ (And.intro (PLe.refl _) ?_)) | (intro _))
set_option maxHeartbeats 4000000 in
set_option maxRecDepth 100000 in
theorem rpair_25 (o : VO) (hk : o.kind = 25) : PureF gT 62 [voP o] (.sl 11 (insP (pairL o))) := by
  refine Spec.enter gTok P62 100 Tryd.func62 rfl (by kernel_rfl) ?_
  repeat' ((conv => whnf); first | (refine (And.intro (fun _ => ?_) (fun _ => ?_) : (_ → _) ∧ (_ → _)) <;> (first | (exfalso; first | contradiction | omega) | skip)) | refine Or.inl (And.intro (by first | exact inR_i64 (by omega) | exact inR_u32 (by omega) | exact inR_u64 (by omega) | exact inR_u8 (by omega)) ?_) | (refine And.intro (show (_ : Int) ≠ 0 by omega) (Or.inl (And.intro (show (0 : Int) ≤ _ by omega) (And.intro (show (0 : Int) < _ by omega) ?_)))) | (refine And.intro (show (_ : Int) ≠ 0 by omega) (Or.inl (And.intro (show (0 : Int) ≤ _ by omega) (And.intro (by first | exact (show (_ : Int) ≤ 9223372036854775807 by omega) | exact (show (_ : Int) ≤ 4294967295 by omega)) (And.intro (show (0 : Int) < _ by omega) ?_))))) | (refine Exists.intro [] (And.intro no_rl ((rthree_pure _ _ _ _).use (by repeat' first | exact trivial | exact rfl | exact Iff.rfl | exact Or.inl rfl | refine And.intro ?_ ?_) rfl rfl ?_))) | (refine Exists.intro [] (And.intro no_rl (Spec.enter gTok P60 100 Tryd.func60 rfl (by kernel_rfl) ?_))) | (refine retE ?_; (show _ = _); simp only [pairL, hk, reduceIte, Int.reduceEq]; rfl) | (refine Exists.intro _ (And.intro (PLe.refl _) ?_)) | (intro _))

end Go.Proofs.YthpkejlmelednaaDoor.Pw

/- Chapter 18, plain: an operation's instructions are right, no branches, and as many as the document says (by gen_tb.py). -/
namespace Go.Proofs.YthpkejlmelednaaDoor.Pw
open Go Go.RowKit

def branchV (f : Int) : Prop := f = 46 ∨ f = 47 ∨ f = 99 ∨ f = 100 ∨ f = 31
def wordP (n : Int) : Prop := 0 ≤ Rm.ofM n ∨ 0 ≤ Rm.ofM (4294967295 - n)
noncomputable def lenV (o : VO) : Int := open Classical in if o.kind = 1 then (if 65536 ≤ o.n ∧ ¬ wordP o.n then 2 else 1) else if o.kind = 21 then 3 else if o.kind = 22 ∨ o.kind = 25 then 4 else if o.kind = 23 ∨ o.kind = 24 ∨ o.kind = 27 then 2 else 1
/-- a word's number has a word -/
theorem of_word_ok (x : Int) (hx : 0 ≤ x ∧ x ≤ 4294967295) (h : Rm.ofE x = 0) : Rm.wordE (Rm.ofN x) = 0 ∧ 0 ≤ Rm.ofN x ∧ Rm.ofN x ≤ 4095 := by
  unfold Rm.ofE at h
  unfold Rm.ofN
  cases hd : Rm.dec x.toNat with
  | none => rw [hd] at h; simp at h
  | some n =>
    obtain ⟨h1, h2⟩ := Rm.dec_ok x.toNat n (by omega) hd
    simp only [Option.getD_some]
    refine ⟨?_, by omega, by omega⟩
    unfold Rm.wordE
    rw [if_neg (by omega), Int.toNat_natCast, h1]; rfl
open Classical in
theorem ia_1 (o : VO) (hk : o.kind = 1) (hv : vright o) (hp : (vpair o.t0 o.f0 ∧ vpair o.t0 o.f1 ∧ vpair o.t0 o.f2 ∧ vpair o.t0 o.f3) ∧ (vpair o.t1 o.f0 ∧ vpair o.t1 o.f1 ∧ vpair o.t1 o.f2 ∧ vpair o.t1 o.f3)) (hn : 0 ≤ o.n ∧ o.n ≤ 4294967295) : (∀ i ∈ insL o, rightV i ∧ ¬ branchV i.form) ∧ ((insL o).length : Int) = lenV o := by
  obtain ⟨_, ⟨p0, p1⟩, ⟨q0, q1, q2, q3⟩, hd, hnm⟩ := hv
  have b0 := hp.1.1.1
  have b1 := hp.2.1.1
  have c0 := hp.1.1.2.1
  have c1 := hp.1.2.1.2.1
  have c2 := hp.1.2.2.1.2.1
  have c3 := hp.1.2.2.2.2.1
  clear hp
  rw [hk] at p0 p1 q0 q1 q2 q3 hd hnm
  rw [show vto 1 = 1 by decide] at p0 p1 hd
  rw [show vfrom 1 = 0 by decide] at q0 q1 q2 q3
  unfold plc at p0 p1 q0 q1 q2 q3
  unfold vnum at hnm
  have eL : insL o = numL o.t0 o.n := by unfold insL memL pairL singL testL threeF; rw [hk]; simp
  have eN : lenV o = if 65536 ≤ o.n ∧ ¬ wordP o.n then 2 else 1 := by unfold lenV; rw [hk]; rfl
  rw [eL, eN]
  have i1 := ofM_iff o.n
  have j1 := ofM_iff (4294967295 - o.n)
  unfold numL wordP
  by_cases h1 : o.n ≤ 255
  · rw [if_pos h1, if_neg (by omega)]
    refine ⟨fun i hi => ?_, rfl⟩
    simp only [List.mem_cons, List.not_mem_nil, or_false] at hi
    subst hi
    exact ⟨ri_8 _ _ (by omega) (by omega), (show ¬ branchV 8 by unfold branchV; decide)⟩
  rw [if_neg h1]
  by_cases h2 : Rm.ofE o.n = 0
  · have w := of_word_ok o.n hn h2
    rw [if_pos h2, if_neg (fun e => e.2 (.inl (i1.1.2 h2)))]
    refine ⟨fun i hi => ?_, rfl⟩
    simp only [List.mem_cons, List.not_mem_nil, or_false] at hi
    subst hi
    exact ⟨ri_60 _ _ (by omega) w.2 w.1, (show ¬ branchV 60 by unfold branchV; decide)⟩
  rw [if_neg h2]
  by_cases h3 : Rm.ofE (4294967295 - o.n) = 0
  · have w := of_word_ok (4294967295 - o.n) (by omega) h3
    rw [if_pos h3, if_neg (fun e => e.2 (.inr (j1.1.2 h3)))]
    refine ⟨fun i hi => ?_, rfl⟩
    simp only [List.mem_cons, List.not_mem_nil, or_false] at hi
    subst hi
    exact ⟨ri_61 _ _ (by omega) w.2 w.1, (show ¬ branchV 61 by unfold branchV; decide)⟩
  rw [if_neg h3]
  by_cases h4 : o.n / 65536 ≠ 0
  · rw [if_pos h4, if_pos ⟨by omega, fun e => e.elim (fun e => h2 (i1.1.1 e)) (fun e => h3 (j1.1.1 e))⟩]
    refine ⟨fun i hi => ?_, rfl⟩
    simp only [List.mem_cons, List.not_mem_nil, or_false] at hi
    rcases hi with rfl | rfl
    · exact ⟨ri_48 _ _ (by omega) (by omega), (show ¬ branchV 48 by unfold branchV; decide)⟩
    · exact ⟨ri_49 _ _ (by omega) (by omega), (show ¬ branchV 49 by unfold branchV; decide)⟩
  · rw [if_neg h4, if_neg (by omega)]
    refine ⟨fun i hi => ?_, rfl⟩
    simp only [List.mem_cons, List.not_mem_nil, or_false] at hi
    subst hi
    exact ⟨ri_48 _ _ (by omega) (by omega), (show ¬ branchV 48 by unfold branchV; decide)⟩

theorem ia_2 (o : VO) (hk : o.kind = 2) (hv : vright o) (hp : (vpair o.t0 o.f0 ∧ vpair o.t0 o.f1 ∧ vpair o.t0 o.f2 ∧ vpair o.t0 o.f3) ∧ (vpair o.t1 o.f0 ∧ vpair o.t1 o.f1 ∧ vpair o.t1 o.f2 ∧ vpair o.t1 o.f3)) (hn : 0 ≤ o.n ∧ o.n ≤ 4294967295) : (∀ i ∈ insL o, rightV i ∧ ¬ branchV i.form) ∧ ((insL o).length : Int) = lenV o := by
  obtain ⟨_, ⟨p0, p1⟩, ⟨q0, q1, q2, q3⟩, hd, hnm⟩ := hv
  have b0 := hp.1.1.1
  have b1 := hp.2.1.1
  have c0 := hp.1.1.2.1
  have c1 := hp.1.2.1.2.1
  have c2 := hp.1.2.2.1.2.1
  have c3 := hp.1.2.2.2.2.1
  clear hp
  rw [hk] at p0 p1 q0 q1 q2 q3 hd hnm
  rw [show vto 2 = 1 by decide] at p0 p1 hd
  rw [show vfrom 2 = 0 by decide] at q0 q1 q2 q3
  unfold plc at p0 p1 q0 q1 q2 q3
  unfold vnum at hnm
  have eL : insL o = [iM 38 o.t0 o.n] := by unfold insL memL pairL singL testL threeF; rw [hk]; rfl
  have eN : lenV o = 1 := by unfold lenV; rw [hk]; rfl
  rw [eL, eN]
  refine ⟨fun i hi => ?_, rfl⟩
  simp only [List.mem_cons, List.not_mem_nil, or_false] at hi
  subst hi
  exact ⟨ri_38 _ _ (by omega) (by omega), (show ¬ branchV 38 by unfold branchV; decide)⟩

theorem ia_3 (o : VO) (hk : o.kind = 3) (hv : vright o) (hp : (vpair o.t0 o.f0 ∧ vpair o.t0 o.f1 ∧ vpair o.t0 o.f2 ∧ vpair o.t0 o.f3) ∧ (vpair o.t1 o.f0 ∧ vpair o.t1 o.f1 ∧ vpair o.t1 o.f2 ∧ vpair o.t1 o.f3)) (hn : 0 ≤ o.n ∧ o.n ≤ 4294967295) : (∀ i ∈ insL o, rightV i ∧ ¬ branchV i.form) ∧ ((insL o).length : Int) = lenV o := by
  obtain ⟨_, ⟨p0, p1⟩, ⟨q0, q1, q2, q3⟩, hd, hnm⟩ := hv
  have b0 := hp.1.1.1
  have b1 := hp.2.1.1
  have c0 := hp.1.1.2.1
  have c1 := hp.1.2.1.2.1
  have c2 := hp.1.2.2.1.2.1
  have c3 := hp.1.2.2.2.2.1
  clear hp
  rw [hk] at p0 p1 q0 q1 q2 q3 hd hnm
  rw [show vto 3 = 0 by decide] at p0 p1 hd
  rw [show vfrom 3 = 1 by decide] at q0 q1 q2 q3
  unfold plc at p0 p1 q0 q1 q2 q3
  unfold vnum at hnm
  have eL : insL o = [iM 37 o.f0 o.n] := by unfold insL memL pairL singL testL threeF; rw [hk]; rfl
  have eN : lenV o = 1 := by unfold lenV; rw [hk]; rfl
  rw [eL, eN]
  refine ⟨fun i hi => ?_, rfl⟩
  simp only [List.mem_cons, List.not_mem_nil, or_false] at hi
  subst hi
  exact ⟨ri_37 _ _ (by omega) (by omega), (show ¬ branchV 37 by unfold branchV; decide)⟩

theorem ia_4 (o : VO) (hk : o.kind = 4) (hv : vright o) (hp : (vpair o.t0 o.f0 ∧ vpair o.t0 o.f1 ∧ vpair o.t0 o.f2 ∧ vpair o.t0 o.f3) ∧ (vpair o.t1 o.f0 ∧ vpair o.t1 o.f1 ∧ vpair o.t1 o.f2 ∧ vpair o.t1 o.f3)) (hn : 0 ≤ o.n ∧ o.n ≤ 4294967295) : (∀ i ∈ insL o, rightV i ∧ ¬ branchV i.form) ∧ ((insL o).length : Int) = lenV o := by
  obtain ⟨_, ⟨p0, p1⟩, ⟨q0, q1, q2, q3⟩, hd, hnm⟩ := hv
  have b0 := hp.1.1.1
  have b1 := hp.2.1.1
  have c0 := hp.1.1.2.1
  have c1 := hp.1.2.1.2.1
  have c2 := hp.1.2.2.1.2.1
  have c3 := hp.1.2.2.2.2.1
  clear hp
  rw [hk] at p0 p1 q0 q1 q2 q3 hd hnm
  rw [show vto 4 = 1 by decide] at p0 p1 hd
  rw [show vfrom 4 = 0 by decide] at q0 q1 q2 q3
  unfold plc at p0 p1 q0 q1 q2 q3
  unfold vnum at hnm
  have eL : insL o = [iM 39 o.t0 o.n] := by unfold insL memL pairL singL testL threeF; rw [hk]; rfl
  have eN : lenV o = 1 := by unfold lenV; rw [hk]; rfl
  rw [eL, eN]
  refine ⟨fun i hi => ?_, rfl⟩
  simp only [List.mem_cons, List.not_mem_nil, or_false] at hi
  subst hi
  exact ⟨ri_39 _ _ (by omega) (by omega), (show ¬ branchV 39 by unfold branchV; decide)⟩

theorem ia_5 (o : VO) (hk : o.kind = 5) (hv : vright o) (hp : (vpair o.t0 o.f0 ∧ vpair o.t0 o.f1 ∧ vpair o.t0 o.f2 ∧ vpair o.t0 o.f3) ∧ (vpair o.t1 o.f0 ∧ vpair o.t1 o.f1 ∧ vpair o.t1 o.f2 ∧ vpair o.t1 o.f3)) (hn : 0 ≤ o.n ∧ o.n ≤ 4294967295) : (∀ i ∈ insL o, rightV i ∧ ¬ branchV i.form) ∧ ((insL o).length : Int) = lenV o := by
  obtain ⟨_, ⟨p0, p1⟩, ⟨q0, q1, q2, q3⟩, hd, hnm⟩ := hv
  have b0 := hp.1.1.1
  have b1 := hp.2.1.1
  have c0 := hp.1.1.2.1
  have c1 := hp.1.2.1.2.1
  have c2 := hp.1.2.2.1.2.1
  have c3 := hp.1.2.2.2.2.1
  clear hp
  rw [hk] at p0 p1 q0 q1 q2 q3 hd hnm
  rw [show vto 5 = 1 by decide] at p0 p1 hd
  rw [show vfrom 5 = 2 by decide] at q0 q1 q2 q3
  unfold plc at p0 p1 q0 q1 q2 q3
  unfold vnum at hnm
  have eL : insL o = [{ iF 87 o.t0 o.f0 o.f1 with by_ := 2 }] := by unfold insL memL pairL singL testL threeF; rw [hk]; rfl
  have eN : lenV o = 1 := by unfold lenV; rw [hk]; rfl
  rw [eL, eN]
  refine ⟨fun i hi => ?_, rfl⟩
  simp only [List.mem_cons, List.not_mem_nil, or_false] at hi
  subst hi
  exact ⟨ri_87 o.t0 o.f0 o.f1 (by omega) (by omega) (by omega), (show ¬ branchV 87 by unfold branchV; decide)⟩

theorem ia_6 (o : VO) (hk : o.kind = 6) (hv : vright o) (hp : (vpair o.t0 o.f0 ∧ vpair o.t0 o.f1 ∧ vpair o.t0 o.f2 ∧ vpair o.t0 o.f3) ∧ (vpair o.t1 o.f0 ∧ vpair o.t1 o.f1 ∧ vpair o.t1 o.f2 ∧ vpair o.t1 o.f3)) (hn : 0 ≤ o.n ∧ o.n ≤ 4294967295) : (∀ i ∈ insL o, rightV i ∧ ¬ branchV i.form) ∧ ((insL o).length : Int) = lenV o := by
  obtain ⟨_, ⟨p0, p1⟩, ⟨q0, q1, q2, q3⟩, hd, hnm⟩ := hv
  have b0 := hp.1.1.1
  have b1 := hp.2.1.1
  have c0 := hp.1.1.2.1
  have c1 := hp.1.2.1.2.1
  have c2 := hp.1.2.2.1.2.1
  have c3 := hp.1.2.2.2.2.1
  clear hp
  rw [hk] at p0 p1 q0 q1 q2 q3 hd hnm
  rw [show vto 6 = 0 by decide] at p0 p1 hd
  rw [show vfrom 6 = 3 by decide] at q0 q1 q2 q3
  unfold plc at p0 p1 q0 q1 q2 q3
  unfold vnum at hnm
  have eL : insL o = [{ iF 86 o.f2 o.f0 o.f1 with by_ := 2 }] := by unfold insL memL pairL singL testL threeF; rw [hk]; rfl
  have eN : lenV o = 1 := by unfold lenV; rw [hk]; rfl
  rw [eL, eN]
  refine ⟨fun i hi => ?_, rfl⟩
  simp only [List.mem_cons, List.not_mem_nil, or_false] at hi
  subst hi
  exact ⟨ri_86 o.f2 o.f0 o.f1 (by omega) (by omega) (by omega), (show ¬ branchV 86 by unfold branchV; decide)⟩

theorem ia_7 (o : VO) (hk : o.kind = 7) (hv : vright o) (hp : (vpair o.t0 o.f0 ∧ vpair o.t0 o.f1 ∧ vpair o.t0 o.f2 ∧ vpair o.t0 o.f3) ∧ (vpair o.t1 o.f0 ∧ vpair o.t1 o.f1 ∧ vpair o.t1 o.f2 ∧ vpair o.t1 o.f3)) (hn : 0 ≤ o.n ∧ o.n ≤ 4294967295) : (∀ i ∈ insL o, rightV i ∧ ¬ branchV i.form) ∧ ((insL o).length : Int) = lenV o := by
  obtain ⟨_, ⟨p0, p1⟩, ⟨q0, q1, q2, q3⟩, hd, hnm⟩ := hv
  have b0 := hp.1.1.1
  have b1 := hp.2.1.1
  have c0 := hp.1.1.2.1
  have c1 := hp.1.2.1.2.1
  have c2 := hp.1.2.2.1.2.1
  have c3 := hp.1.2.2.2.2.1
  clear hp
  rw [hk] at p0 p1 q0 q1 q2 q3 hd hnm
  rw [show vto 7 = 1 by decide] at p0 p1 hd
  rw [show vfrom 7 = 2 by decide] at q0 q1 q2 q3
  unfold plc at p0 p1 q0 q1 q2 q3
  unfold vnum at hnm
  have eL : insL o = [iF 66 o.t0 o.f0 o.f1] := by unfold insL memL pairL singL testL threeF; rw [hk]; rfl
  have eN : lenV o = 1 := by unfold lenV; rw [hk]; rfl
  rw [eL, eN]
  refine ⟨fun i hi => ?_, rfl⟩
  simp only [List.mem_cons, List.not_mem_nil, or_false] at hi
  subst hi
  exact ⟨ri_66 _ _ _ (by omega) (by omega) (by omega), (show ¬ branchV 66 by unfold branchV; decide)⟩

theorem ia_8 (o : VO) (hk : o.kind = 8) (hv : vright o) (hp : (vpair o.t0 o.f0 ∧ vpair o.t0 o.f1 ∧ vpair o.t0 o.f2 ∧ vpair o.t0 o.f3) ∧ (vpair o.t1 o.f0 ∧ vpair o.t1 o.f1 ∧ vpair o.t1 o.f2 ∧ vpair o.t1 o.f3)) (hn : 0 ≤ o.n ∧ o.n ≤ 4294967295) : (∀ i ∈ insL o, rightV i ∧ ¬ branchV i.form) ∧ ((insL o).length : Int) = lenV o := by
  obtain ⟨_, ⟨p0, p1⟩, ⟨q0, q1, q2, q3⟩, hd, hnm⟩ := hv
  have b0 := hp.1.1.1
  have b1 := hp.2.1.1
  have c0 := hp.1.1.2.1
  have c1 := hp.1.2.1.2.1
  have c2 := hp.1.2.2.1.2.1
  have c3 := hp.1.2.2.2.2.1
  clear hp
  rw [hk] at p0 p1 q0 q1 q2 q3 hd hnm
  rw [show vto 8 = 1 by decide] at p0 p1 hd
  rw [show vfrom 8 = 2 by decide] at q0 q1 q2 q3
  unfold plc at p0 p1 q0 q1 q2 q3
  unfold vnum at hnm
  have eL : insL o = [iF 68 o.t0 o.f0 o.f1] := by unfold insL memL pairL singL testL threeF; rw [hk]; rfl
  have eN : lenV o = 1 := by unfold lenV; rw [hk]; rfl
  rw [eL, eN]
  refine ⟨fun i hi => ?_, rfl⟩
  simp only [List.mem_cons, List.not_mem_nil, or_false] at hi
  subst hi
  exact ⟨ri_68 _ _ _ (by omega) (by omega) (by omega), (show ¬ branchV 68 by unfold branchV; decide)⟩

theorem ia_9 (o : VO) (hk : o.kind = 9) (hv : vright o) (hp : (vpair o.t0 o.f0 ∧ vpair o.t0 o.f1 ∧ vpair o.t0 o.f2 ∧ vpair o.t0 o.f3) ∧ (vpair o.t1 o.f0 ∧ vpair o.t1 o.f1 ∧ vpair o.t1 o.f2 ∧ vpair o.t1 o.f3)) (hn : 0 ≤ o.n ∧ o.n ≤ 4294967295) : (∀ i ∈ insL o, rightV i ∧ ¬ branchV i.form) ∧ ((insL o).length : Int) = lenV o := by
  obtain ⟨_, ⟨p0, p1⟩, ⟨q0, q1, q2, q3⟩, hd, hnm⟩ := hv
  have b0 := hp.1.1.1
  have b1 := hp.2.1.1
  have c0 := hp.1.1.2.1
  have c1 := hp.1.2.1.2.1
  have c2 := hp.1.2.2.1.2.1
  have c3 := hp.1.2.2.2.2.1
  clear hp
  rw [hk] at p0 p1 q0 q1 q2 q3 hd hnm
  rw [show vto 9 = 1 by decide] at p0 p1 hd
  rw [show vfrom 9 = 2 by decide] at q0 q1 q2 q3
  unfold plc at p0 p1 q0 q1 q2 q3
  unfold vnum at hnm
  have eL : insL o = [iF 70 o.t0 o.f0 o.f1] := by unfold insL memL pairL singL testL threeF; rw [hk]; rfl
  have eN : lenV o = 1 := by unfold lenV; rw [hk]; rfl
  rw [eL, eN]
  refine ⟨fun i hi => ?_, rfl⟩
  simp only [List.mem_cons, List.not_mem_nil, or_false] at hi
  subst hi
  exact ⟨ri_70 _ _ _ (by omega) (by omega) (by omega), (show ¬ branchV 70 by unfold branchV; decide)⟩

theorem ia_10 (o : VO) (hk : o.kind = 10) (hv : vright o) (hp : (vpair o.t0 o.f0 ∧ vpair o.t0 o.f1 ∧ vpair o.t0 o.f2 ∧ vpair o.t0 o.f3) ∧ (vpair o.t1 o.f0 ∧ vpair o.t1 o.f1 ∧ vpair o.t1 o.f2 ∧ vpair o.t1 o.f3)) (hn : 0 ≤ o.n ∧ o.n ≤ 4294967295) : (∀ i ∈ insL o, rightV i ∧ ¬ branchV i.form) ∧ ((insL o).length : Int) = lenV o := by
  obtain ⟨_, ⟨p0, p1⟩, ⟨q0, q1, q2, q3⟩, hd, hnm⟩ := hv
  have b0 := hp.1.1.1
  have b1 := hp.2.1.1
  have c0 := hp.1.1.2.1
  have c1 := hp.1.2.1.2.1
  have c2 := hp.1.2.2.1.2.1
  have c3 := hp.1.2.2.2.2.1
  clear hp
  rw [hk] at p0 p1 q0 q1 q2 q3 hd hnm
  rw [show vto 10 = 1 by decide] at p0 p1 hd
  rw [show vfrom 10 = 2 by decide] at q0 q1 q2 q3
  unfold plc at p0 p1 q0 q1 q2 q3
  unfold vnum at hnm
  have eL : insL o = [iF 4 o.t0 o.f0 o.f1] := by unfold insL memL pairL singL testL threeF; rw [hk]; rfl
  have eN : lenV o = 1 := by unfold lenV; rw [hk]; rfl
  rw [eL, eN]
  refine ⟨fun i hi => ?_, rfl⟩
  simp only [List.mem_cons, List.not_mem_nil, or_false] at hi
  subst hi
  exact ⟨ri_4 _ _ _ (by omega) (by omega) (by omega), (show ¬ branchV 4 by unfold branchV; decide)⟩

theorem ia_11 (o : VO) (hk : o.kind = 11) (hv : vright o) (hp : (vpair o.t0 o.f0 ∧ vpair o.t0 o.f1 ∧ vpair o.t0 o.f2 ∧ vpair o.t0 o.f3) ∧ (vpair o.t1 o.f0 ∧ vpair o.t1 o.f1 ∧ vpair o.t1 o.f2 ∧ vpair o.t1 o.f3)) (hn : 0 ≤ o.n ∧ o.n ≤ 4294967295) : (∀ i ∈ insL o, rightV i ∧ ¬ branchV i.form) ∧ ((insL o).length : Int) = lenV o := by
  obtain ⟨_, ⟨p0, p1⟩, ⟨q0, q1, q2, q3⟩, hd, hnm⟩ := hv
  have b0 := hp.1.1.1
  have b1 := hp.2.1.1
  have c0 := hp.1.1.2.1
  have c1 := hp.1.2.1.2.1
  have c2 := hp.1.2.2.1.2.1
  have c3 := hp.1.2.2.2.2.1
  clear hp
  rw [hk] at p0 p1 q0 q1 q2 q3 hd hnm
  rw [show vto 11 = 1 by decide] at p0 p1 hd
  rw [show vfrom 11 = 2 by decide] at q0 q1 q2 q3
  unfold plc at p0 p1 q0 q1 q2 q3
  unfold vnum at hnm
  have eL : insL o = [iF 5 o.t0 o.f0 o.f1] := by unfold insL memL pairL singL testL threeF; rw [hk]; rfl
  have eN : lenV o = 1 := by unfold lenV; rw [hk]; rfl
  rw [eL, eN]
  refine ⟨fun i hi => ?_, rfl⟩
  simp only [List.mem_cons, List.not_mem_nil, or_false] at hi
  subst hi
  exact ⟨ri_5 _ _ _ (by omega) (by omega) (by omega), (show ¬ branchV 5 by unfold branchV; decide)⟩

theorem ia_12 (o : VO) (hk : o.kind = 12) (hv : vright o) (hp : (vpair o.t0 o.f0 ∧ vpair o.t0 o.f1 ∧ vpair o.t0 o.f2 ∧ vpair o.t0 o.f3) ∧ (vpair o.t1 o.f0 ∧ vpair o.t1 o.f1 ∧ vpair o.t1 o.f2 ∧ vpair o.t1 o.f3)) (hn : 0 ≤ o.n ∧ o.n ≤ 4294967295) : (∀ i ∈ insL o, rightV i ∧ ¬ branchV i.form) ∧ ((insL o).length : Int) = lenV o := by
  obtain ⟨_, ⟨p0, p1⟩, ⟨q0, q1, q2, q3⟩, hd, hnm⟩ := hv
  have b0 := hp.1.1.1
  have b1 := hp.2.1.1
  have c0 := hp.1.1.2.1
  have c1 := hp.1.2.1.2.1
  have c2 := hp.1.2.2.1.2.1
  have c3 := hp.1.2.2.2.2.1
  clear hp
  rw [hk] at p0 p1 q0 q1 q2 q3 hd hnm
  rw [show vto 12 = 1 by decide] at p0 p1 hd
  rw [show vfrom 12 = 2 by decide] at q0 q1 q2 q3
  unfold plc at p0 p1 q0 q1 q2 q3
  unfold vnum at hnm
  have eL : insL o = [iF 92 o.t0 o.f0 o.f1] := by unfold insL memL pairL singL testL threeF; rw [hk]; rfl
  have eN : lenV o = 1 := by unfold lenV; rw [hk]; rfl
  rw [eL, eN]
  refine ⟨fun i hi => ?_, rfl⟩
  simp only [List.mem_cons, List.not_mem_nil, or_false] at hi
  subst hi
  exact ⟨ri_92 _ _ _ (by omega) (by omega) (by omega), (show ¬ branchV 92 by unfold branchV; decide)⟩

theorem ia_13 (o : VO) (hk : o.kind = 13) (hv : vright o) (hp : (vpair o.t0 o.f0 ∧ vpair o.t0 o.f1 ∧ vpair o.t0 o.f2 ∧ vpair o.t0 o.f3) ∧ (vpair o.t1 o.f0 ∧ vpair o.t1 o.f1 ∧ vpair o.t1 o.f2 ∧ vpair o.t1 o.f3)) (hn : 0 ≤ o.n ∧ o.n ≤ 4294967295) : (∀ i ∈ insL o, rightV i ∧ ¬ branchV i.form) ∧ ((insL o).length : Int) = lenV o := by
  obtain ⟨_, ⟨p0, p1⟩, ⟨q0, q1, q2, q3⟩, hd, hnm⟩ := hv
  have b0 := hp.1.1.1
  have b1 := hp.2.1.1
  have c0 := hp.1.1.2.1
  have c1 := hp.1.2.1.2.1
  have c2 := hp.1.2.2.1.2.1
  have c3 := hp.1.2.2.2.2.1
  clear hp
  rw [hk] at p0 p1 q0 q1 q2 q3 hd hnm
  rw [show vto 13 = 1 by decide] at p0 p1 hd
  rw [show vfrom 13 = 2 by decide] at q0 q1 q2 q3
  unfold plc at p0 p1 q0 q1 q2 q3
  unfold vnum at hnm
  have eL : insL o = [iF 88 o.t0 o.f0 o.f1] := by unfold insL memL pairL singL testL threeF; rw [hk]; rfl
  have eN : lenV o = 1 := by unfold lenV; rw [hk]; rfl
  rw [eL, eN]
  refine ⟨fun i hi => ?_, rfl⟩
  simp only [List.mem_cons, List.not_mem_nil, or_false] at hi
  subst hi
  exact ⟨ri_88 _ _ _ (by omega) (by omega) (by omega), (show ¬ branchV 88 by unfold branchV; decide)⟩

theorem ia_14 (o : VO) (hk : o.kind = 14) (hv : vright o) (hp : (vpair o.t0 o.f0 ∧ vpair o.t0 o.f1 ∧ vpair o.t0 o.f2 ∧ vpair o.t0 o.f3) ∧ (vpair o.t1 o.f0 ∧ vpair o.t1 o.f1 ∧ vpair o.t1 o.f2 ∧ vpair o.t1 o.f3)) (hn : 0 ≤ o.n ∧ o.n ≤ 4294967295) : (∀ i ∈ insL o, rightV i ∧ ¬ branchV i.form) ∧ ((insL o).length : Int) = lenV o := by
  obtain ⟨_, ⟨p0, p1⟩, ⟨q0, q1, q2, q3⟩, hd, hnm⟩ := hv
  have b0 := hp.1.1.1
  have b1 := hp.2.1.1
  have c0 := hp.1.1.2.1
  have c1 := hp.1.2.1.2.1
  have c2 := hp.1.2.2.1.2.1
  have c3 := hp.1.2.2.2.2.1
  clear hp
  rw [hk] at p0 p1 q0 q1 q2 q3 hd hnm
  rw [show vto 14 = 1 by decide] at p0 p1 hd
  rw [show vfrom 14 = 2 by decide] at q0 q1 q2 q3
  unfold plc at p0 p1 q0 q1 q2 q3
  unfold vnum at hnm
  have eL : insL o = [iF 89 o.t0 o.f0 o.f1] := by unfold insL memL pairL singL testL threeF; rw [hk]; rfl
  have eN : lenV o = 1 := by unfold lenV; rw [hk]; rfl
  rw [eL, eN]
  refine ⟨fun i hi => ?_, rfl⟩
  simp only [List.mem_cons, List.not_mem_nil, or_false] at hi
  subst hi
  exact ⟨ri_89 _ _ _ (by omega) (by omega) (by omega), (show ¬ branchV 89 by unfold branchV; decide)⟩

theorem ia_15 (o : VO) (hk : o.kind = 15) (hv : vright o) (hp : (vpair o.t0 o.f0 ∧ vpair o.t0 o.f1 ∧ vpair o.t0 o.f2 ∧ vpair o.t0 o.f3) ∧ (vpair o.t1 o.f0 ∧ vpair o.t1 o.f1 ∧ vpair o.t1 o.f2 ∧ vpair o.t1 o.f3)) (hn : 0 ≤ o.n ∧ o.n ≤ 4294967295) : (∀ i ∈ insL o, rightV i ∧ ¬ branchV i.form) ∧ ((insL o).length : Int) = lenV o := by
  obtain ⟨_, ⟨p0, p1⟩, ⟨q0, q1, q2, q3⟩, hd, hnm⟩ := hv
  have b0 := hp.1.1.1
  have b1 := hp.2.1.1
  have c0 := hp.1.1.2.1
  have c1 := hp.1.2.1.2.1
  have c2 := hp.1.2.2.1.2.1
  have c3 := hp.1.2.2.2.2.1
  clear hp
  rw [hk] at p0 p1 q0 q1 q2 q3 hd hnm
  rw [show vto 15 = 1 by decide] at p0 p1 hd
  rw [show vfrom 15 = 2 by decide] at q0 q1 q2 q3
  unfold plc at p0 p1 q0 q1 q2 q3
  unfold vnum at hnm
  have eL : insL o = [iF 91 o.t0 o.f0 o.f1] := by unfold insL memL pairL singL testL threeF; rw [hk]; rfl
  have eN : lenV o = 1 := by unfold lenV; rw [hk]; rfl
  rw [eL, eN]
  refine ⟨fun i hi => ?_, rfl⟩
  simp only [List.mem_cons, List.not_mem_nil, or_false] at hi
  subst hi
  exact ⟨ri_91 _ _ _ (by omega) (by omega) (by omega), (show ¬ branchV 91 by unfold branchV; decide)⟩

theorem ia_16 (o : VO) (hk : o.kind = 16) (hv : vright o) (hp : (vpair o.t0 o.f0 ∧ vpair o.t0 o.f1 ∧ vpair o.t0 o.f2 ∧ vpair o.t0 o.f3) ∧ (vpair o.t1 o.f0 ∧ vpair o.t1 o.f1 ∧ vpair o.t1 o.f2 ∧ vpair o.t1 o.f3)) (hn : 0 ≤ o.n ∧ o.n ≤ 4294967295) : (∀ i ∈ insL o, rightV i ∧ ¬ branchV i.form) ∧ ((insL o).length : Int) = lenV o := by
  obtain ⟨_, ⟨p0, p1⟩, ⟨q0, q1, q2, q3⟩, hd, hnm⟩ := hv
  have b0 := hp.1.1.1
  have b1 := hp.2.1.1
  have c0 := hp.1.1.2.1
  have c1 := hp.1.2.1.2.1
  have c2 := hp.1.2.2.1.2.1
  have c3 := hp.1.2.2.2.2.1
  clear hp
  rw [hk] at p0 p1 q0 q1 q2 q3 hd hnm
  rw [show vto 16 = 1 by decide] at p0 p1 hd
  rw [show vfrom 16 = 1 by decide] at q0 q1 q2 q3
  unfold plc at p0 p1 q0 q1 q2 q3
  unfold vnum at hnm
  have eL : insL o = [{ iZ with form := 77, rd := o.t0, rm := o.f0 }] := by unfold insL memL pairL singL testL threeF; rw [hk]; rfl
  have eN : lenV o = 1 := by unfold lenV; rw [hk]; rfl
  rw [eL, eN]
  refine ⟨fun i hi => ?_, rfl⟩
  simp only [List.mem_cons, List.not_mem_nil, or_false] at hi
  subst hi
  exact ⟨ri_77 _ _ (by omega) (by omega), (show ¬ branchV 77 by unfold branchV; decide)⟩

theorem ia_17 (o : VO) (hk : o.kind = 17) (hv : vright o) (hp : (vpair o.t0 o.f0 ∧ vpair o.t0 o.f1 ∧ vpair o.t0 o.f2 ∧ vpair o.t0 o.f3) ∧ (vpair o.t1 o.f0 ∧ vpair o.t1 o.f1 ∧ vpair o.t1 o.f2 ∧ vpair o.t1 o.f3)) (hn : 0 ≤ o.n ∧ o.n ≤ 4294967295) : (∀ i ∈ insL o, rightV i ∧ ¬ branchV i.form) ∧ ((insL o).length : Int) = lenV o := by
  obtain ⟨_, ⟨p0, p1⟩, ⟨q0, q1, q2, q3⟩, hd, hnm⟩ := hv
  have b0 := hp.1.1.1
  have b1 := hp.2.1.1
  have c0 := hp.1.1.2.1
  have c1 := hp.1.2.1.2.1
  have c2 := hp.1.2.2.1.2.1
  have c3 := hp.1.2.2.2.2.1
  clear hp
  rw [hk] at p0 p1 q0 q1 q2 q3 hd hnm
  rw [show vto 17 = 1 by decide] at p0 p1 hd
  rw [show vfrom 17 = 1 by decide] at q0 q1 q2 q3
  unfold plc at p0 p1 q0 q1 q2 q3
  unfold vnum at hnm
  have eL : insL o = [{ iZ with form := 59, rd := o.t0, rn := o.f0 }] := by unfold insL memL pairL singL testL threeF; rw [hk]; rfl
  have eN : lenV o = 1 := by unfold lenV; rw [hk]; rfl
  have w0 : Rm.wordE 0 = 0 := by decide +kernel
  rw [eL, eN]
  refine ⟨fun i hi => ?_, rfl⟩
  simp only [List.mem_cons, List.not_mem_nil, or_false] at hi
  subst hi
  exact ⟨ri_59 _ _ _ (by omega) (by omega) (by decide) w0, (show ¬ branchV 59 by unfold branchV; decide)⟩

theorem ia_18 (o : VO) (hk : o.kind = 18) (hv : vright o) (hp : (vpair o.t0 o.f0 ∧ vpair o.t0 o.f1 ∧ vpair o.t0 o.f2 ∧ vpair o.t0 o.f3) ∧ (vpair o.t1 o.f0 ∧ vpair o.t1 o.f1 ∧ vpair o.t1 o.f2 ∧ vpair o.t1 o.f3)) (hn : 0 ≤ o.n ∧ o.n ≤ 4294967295) : (∀ i ∈ insL o, rightV i ∧ ¬ branchV i.form) ∧ ((insL o).length : Int) = lenV o := by
  obtain ⟨_, ⟨p0, p1⟩, ⟨q0, q1, q2, q3⟩, hd, hnm⟩ := hv
  have b0 := hp.1.1.1
  have b1 := hp.2.1.1
  have c0 := hp.1.1.2.1
  have c1 := hp.1.2.1.2.1
  have c2 := hp.1.2.2.1.2.1
  have c3 := hp.1.2.2.2.2.1
  clear hp
  rw [hk] at p0 p1 q0 q1 q2 q3 hd hnm
  rw [show vto 18 = 1 by decide] at p0 p1 hd
  rw [show vfrom 18 = 1 by decide] at q0 q1 q2 q3
  unfold plc at p0 p1 q0 q1 q2 q3
  unfold vnum at hnm
  have eL : insL o = [{ iZ with form := 1, rd := o.t0, rm := o.f0, imm := o.n }] := by unfold insL memL pairL singL testL threeF; rw [hk]; rfl
  have eN : lenV o = 1 := by unfold lenV; rw [hk]; rfl
  rw [eL, eN]
  refine ⟨fun i hi => ?_, rfl⟩
  simp only [List.mem_cons, List.not_mem_nil, or_false] at hi
  subst hi
  exact ⟨ri_1 _ _ _ (by omega) (by omega) (by omega), (show ¬ branchV 1 by unfold branchV; decide)⟩

theorem ia_19 (o : VO) (hk : o.kind = 19) (hv : vright o) (hp : (vpair o.t0 o.f0 ∧ vpair o.t0 o.f1 ∧ vpair o.t0 o.f2 ∧ vpair o.t0 o.f3) ∧ (vpair o.t1 o.f0 ∧ vpair o.t1 o.f1 ∧ vpair o.t1 o.f2 ∧ vpair o.t1 o.f3)) (hn : 0 ≤ o.n ∧ o.n ≤ 4294967295) : (∀ i ∈ insL o, rightV i ∧ ¬ branchV i.form) ∧ ((insL o).length : Int) = lenV o := by
  obtain ⟨_, ⟨p0, p1⟩, ⟨q0, q1, q2, q3⟩, hd, hnm⟩ := hv
  have b0 := hp.1.1.1
  have b1 := hp.2.1.1
  have c0 := hp.1.1.2.1
  have c1 := hp.1.2.1.2.1
  have c2 := hp.1.2.2.1.2.1
  have c3 := hp.1.2.2.2.2.1
  clear hp
  rw [hk] at p0 p1 q0 q1 q2 q3 hd hnm
  rw [show vto 19 = 1 by decide] at p0 p1 hd
  rw [show vfrom 19 = 1 by decide] at q0 q1 q2 q3
  unfold plc at p0 p1 q0 q1 q2 q3
  unfold vnum at hnm
  have eL : insL o = [{ iZ with form := 2, rd := o.t0, rm := o.f0, imm := o.n }] := by unfold insL memL pairL singL testL threeF; rw [hk]; rfl
  have eN : lenV o = 1 := by unfold lenV; rw [hk]; rfl
  rw [eL, eN]
  refine ⟨fun i hi => ?_, rfl⟩
  simp only [List.mem_cons, List.not_mem_nil, or_false] at hi
  subst hi
  exact ⟨ri_2 _ _ _ (by omega) (by omega) (by omega), (show ¬ branchV 2 by unfold branchV; decide)⟩

theorem ia_20 (o : VO) (hk : o.kind = 20) (hv : vright o) (hp : (vpair o.t0 o.f0 ∧ vpair o.t0 o.f1 ∧ vpair o.t0 o.f2 ∧ vpair o.t0 o.f3) ∧ (vpair o.t1 o.f0 ∧ vpair o.t1 o.f1 ∧ vpair o.t1 o.f2 ∧ vpair o.t1 o.f3)) (hn : 0 ≤ o.n ∧ o.n ≤ 4294967295) : (∀ i ∈ insL o, rightV i ∧ ¬ branchV i.form) ∧ ((insL o).length : Int) = lenV o := by
  obtain ⟨_, ⟨p0, p1⟩, ⟨q0, q1, q2, q3⟩, hd, hnm⟩ := hv
  have b0 := hp.1.1.1
  have b1 := hp.2.1.1
  have c0 := hp.1.1.2.1
  have c1 := hp.1.2.1.2.1
  have c2 := hp.1.2.2.1.2.1
  have c3 := hp.1.2.2.2.2.1
  clear hp
  rw [hk] at p0 p1 q0 q1 q2 q3 hd hnm
  rw [show vto 20 = 1 by decide] at p0 p1 hd
  rw [show vfrom 20 = 1 by decide] at q0 q1 q2 q3
  unfold plc at p0 p1 q0 q1 q2 q3
  unfold vnum at hnm
  have eL : insL o = [{ iZ with form := 76, rd := o.t0, rm := o.f0, kind := 3, by_ := o.n }] := by unfold insL memL pairL singL testL threeF; rw [hk]; rfl
  have eN : lenV o = 1 := by unfold lenV; rw [hk]; rfl
  rw [eL, eN]
  refine ⟨fun i hi => ?_, rfl⟩
  simp only [List.mem_cons, List.not_mem_nil, or_false] at hi
  subst hi
  exact ⟨ri_76 _ _ _ (by omega) (by omega) (by omega), (show ¬ branchV 76 by unfold branchV; decide)⟩

theorem ia_21 (o : VO) (hk : o.kind = 21) (hv : vright o) (hp : (vpair o.t0 o.f0 ∧ vpair o.t0 o.f1 ∧ vpair o.t0 o.f2 ∧ vpair o.t0 o.f3) ∧ (vpair o.t1 o.f0 ∧ vpair o.t1 o.f1 ∧ vpair o.t1 o.f2 ∧ vpair o.t1 o.f3)) (hn : 0 ≤ o.n ∧ o.n ≤ 4294967295) : (∀ i ∈ insL o, rightV i ∧ ¬ branchV i.form) ∧ ((insL o).length : Int) = lenV o := by
  obtain ⟨_, ⟨p0, p1⟩, ⟨q0, q1, q2, q3⟩, hd, hnm⟩ := hv
  have b0 := hp.1.1.1
  have b1 := hp.2.1.1
  have c0 := hp.1.1.2.1
  have c1 := hp.1.2.1.2.1
  have c2 := hp.1.2.2.1.2.1
  have c3 := hp.1.2.2.2.2.1
  clear hp
  rw [hk] at p0 p1 q0 q1 q2 q3 hd hnm
  rw [show vto 21 = 1 by decide] at p0 p1 hd
  rw [show vfrom 21 = 2 by decide] at q0 q1 q2 q3
  unfold plc at p0 p1 q0 q1 q2 q3
  unfold vnum at hnm
  have eL : insL o = [iF 5 o.t0 o.f0 o.f1, borrowI o.t0, upperI o.t0] := by unfold insL memL pairL singL testL threeF; rw [hk]; rfl
  have eN : lenV o = 3 := by unfold lenV; rw [hk]; rfl
  rw [eL, eN]
  refine ⟨fun i hi => ?_, rfl⟩
  simp only [List.mem_cons, List.not_mem_nil, or_false] at hi
  rcases hi with rfl | rfl | rfl
  · exact ⟨ri_5 _ _ _ (by omega) (by omega) (by omega), (show ¬ branchV 5 by unfold branchV; decide)⟩
  · exact ⟨ri_73 _ _ _ (by omega) (by omega) (by omega), (show ¬ branchV 73 by unfold branchV; decide)⟩
  · exact ⟨ri_2 _ _ _ (by omega) (by omega) (by omega), (show ¬ branchV 2 by unfold branchV; decide)⟩

theorem ia_22 (o : VO) (hk : o.kind = 22) (hv : vright o) (hp : (vpair o.t0 o.f0 ∧ vpair o.t0 o.f1 ∧ vpair o.t0 o.f2 ∧ vpair o.t0 o.f3) ∧ (vpair o.t1 o.f0 ∧ vpair o.t1 o.f1 ∧ vpair o.t1 o.f2 ∧ vpair o.t1 o.f3)) (hn : 0 ≤ o.n ∧ o.n ≤ 4294967295) : (∀ i ∈ insL o, rightV i ∧ ¬ branchV i.form) ∧ ((insL o).length : Int) = lenV o := by
  obtain ⟨_, ⟨p0, p1⟩, ⟨q0, q1, q2, q3⟩, hd, hnm⟩ := hv
  have b0 := hp.1.1.1
  have b1 := hp.2.1.1
  have c0 := hp.1.1.2.1
  have c1 := hp.1.2.1.2.1
  have c2 := hp.1.2.2.1.2.1
  have c3 := hp.1.2.2.2.2.1
  clear hp
  rw [hk] at p0 p1 q0 q1 q2 q3 hd hnm
  rw [show vto 22 = 1 by decide] at p0 p1 hd
  rw [show vfrom 22 = 2 by decide] at q0 q1 q2 q3
  unfold plc at p0 p1 q0 q1 q2 q3
  unfold vnum at hnm
  have eL : insL o = [iF 70 o.t0 o.f0 o.f1, iM 11 o.t0 1, borrowI o.t0, upperI o.t0] := by unfold insL memL pairL singL testL threeF; rw [hk]; rfl
  have eN : lenV o = 4 := by unfold lenV; rw [hk]; rfl
  rw [eL, eN]
  refine ⟨fun i hi => ?_, rfl⟩
  simp only [List.mem_cons, List.not_mem_nil, or_false] at hi
  rcases hi with rfl | rfl | rfl | rfl
  · exact ⟨ri_70 _ _ _ (by omega) (by omega) (by omega), (show ¬ branchV 70 by unfold branchV; decide)⟩
  · exact ⟨ri_11 _ _ (by omega) (by omega), (show ¬ branchV 11 by unfold branchV; decide)⟩
  · exact ⟨ri_73 _ _ _ (by omega) (by omega) (by omega), (show ¬ branchV 73 by unfold branchV; decide)⟩
  · exact ⟨ri_2 _ _ _ (by omega) (by omega) (by omega), (show ¬ branchV 2 by unfold branchV; decide)⟩

theorem ia_23 (o : VO) (hk : o.kind = 23) (hv : vright o) (hp : (vpair o.t0 o.f0 ∧ vpair o.t0 o.f1 ∧ vpair o.t0 o.f2 ∧ vpair o.t0 o.f3) ∧ (vpair o.t1 o.f0 ∧ vpair o.t1 o.f1 ∧ vpair o.t1 o.f2 ∧ vpair o.t1 o.f3)) (hn : 0 ≤ o.n ∧ o.n ≤ 4294967295) : (∀ i ∈ insL o, rightV i ∧ ¬ branchV i.form) ∧ ((insL o).length : Int) = lenV o := by
  obtain ⟨_, ⟨p0, p1⟩, ⟨q0, q1, q2, q3⟩, hd, hnm⟩ := hv
  have b0 := hp.1.1.1
  have b1 := hp.2.1.1
  have c0 := hp.1.1.2.1
  have c1 := hp.1.2.1.2.1
  have c2 := hp.1.2.2.1.2.1
  have c3 := hp.1.2.2.2.2.1
  clear hp
  rw [hk] at p0 p1 q0 q1 q2 q3 hd hnm
  rw [show vto 23 = 2 by decide] at p0 p1 hd
  rw [show vfrom 23 = 4 by decide] at q0 q1 q2 q3
  unfold plc at p0 p1 q0 q1 q2 q3
  unfold vnum at hnm
  have eL : insL o = [iF 4 o.t0 o.f0 o.f2, iF 72 o.t1 o.f1 o.f3] := by unfold insL memL pairL singL testL threeF; rw [hk]; rfl
  have eN : lenV o = 2 := by unfold lenV; rw [hk]; rfl
  rw [eL, eN]
  refine ⟨fun i hi => ?_, rfl⟩
  simp only [List.mem_cons, List.not_mem_nil, or_false] at hi
  rcases hi with rfl | rfl
  · exact ⟨ri_4 _ _ _ (by omega) (by omega) (by omega), (show ¬ branchV 4 by unfold branchV; decide)⟩
  · exact ⟨ri_72 _ _ _ (by omega) (by omega) (by omega), (show ¬ branchV 72 by unfold branchV; decide)⟩

theorem ia_24 (o : VO) (hk : o.kind = 24) (hv : vright o) (hp : (vpair o.t0 o.f0 ∧ vpair o.t0 o.f1 ∧ vpair o.t0 o.f2 ∧ vpair o.t0 o.f3) ∧ (vpair o.t1 o.f0 ∧ vpair o.t1 o.f1 ∧ vpair o.t1 o.f2 ∧ vpair o.t1 o.f3)) (hn : 0 ≤ o.n ∧ o.n ≤ 4294967295) : (∀ i ∈ insL o, rightV i ∧ ¬ branchV i.form) ∧ ((insL o).length : Int) = lenV o := by
  obtain ⟨_, ⟨p0, p1⟩, ⟨q0, q1, q2, q3⟩, hd, hnm⟩ := hv
  have b0 := hp.1.1.1
  have b1 := hp.2.1.1
  have c0 := hp.1.1.2.1
  have c1 := hp.1.2.1.2.1
  have c2 := hp.1.2.2.1.2.1
  have c3 := hp.1.2.2.2.2.1
  clear hp
  rw [hk] at p0 p1 q0 q1 q2 q3 hd hnm
  rw [show vto 24 = 2 by decide] at p0 p1 hd
  rw [show vfrom 24 = 4 by decide] at q0 q1 q2 q3
  unfold plc at p0 p1 q0 q1 q2 q3
  unfold vnum at hnm
  have eL : insL o = [iF 5 o.t0 o.f0 o.f2, iF 73 o.t1 o.f1 o.f3] := by unfold insL memL pairL singL testL threeF; rw [hk]; rfl
  have eN : lenV o = 2 := by unfold lenV; rw [hk]; rfl
  rw [eL, eN]
  refine ⟨fun i hi => ?_, rfl⟩
  simp only [List.mem_cons, List.not_mem_nil, or_false] at hi
  rcases hi with rfl | rfl
  · exact ⟨ri_5 _ _ _ (by omega) (by omega) (by omega), (show ¬ branchV 5 by unfold branchV; decide)⟩
  · exact ⟨ri_73 _ _ _ (by omega) (by omega) (by omega), (show ¬ branchV 73 by unfold branchV; decide)⟩

theorem ia_25 (o : VO) (hk : o.kind = 25) (hv : vright o) (hp : (vpair o.t0 o.f0 ∧ vpair o.t0 o.f1 ∧ vpair o.t0 o.f2 ∧ vpair o.t0 o.f3) ∧ (vpair o.t1 o.f0 ∧ vpair o.t1 o.f1 ∧ vpair o.t1 o.f2 ∧ vpair o.t1 o.f3)) (hn : 0 ≤ o.n ∧ o.n ≤ 4294967295) : (∀ i ∈ insL o, rightV i ∧ ¬ branchV i.form) ∧ ((insL o).length : Int) = lenV o := by
  obtain ⟨_, ⟨p0, p1⟩, ⟨q0, q1, q2, q3⟩, hd, hnm⟩ := hv
  have b0 := hp.1.1.1
  have b1 := hp.2.1.1
  have c0 := hp.1.1.2.1
  have c1 := hp.1.2.1.2.1
  have c2 := hp.1.2.2.1.2.1
  have c3 := hp.1.2.2.2.2.1
  clear hp
  rw [hk] at p0 p1 q0 q1 q2 q3 hd hnm
  rw [show vto 25 = 1 by decide] at p0 p1 hd
  rw [show vfrom 25 = 4 by decide] at q0 q1 q2 q3
  unfold plc at p0 p1 q0 q1 q2 q3
  unfold vnum at hnm
  have eL : insL o = [iF 5 o.t0 o.f0 o.f2, { iF 73 o.t0 o.f1 o.f3 with set := 1 }, borrowI o.t0, upperI o.t0] := by unfold insL memL pairL singL testL threeF; rw [hk]; rfl
  have eN : lenV o = 4 := by unfold lenV; rw [hk]; rfl
  rw [eL, eN]
  refine ⟨fun i hi => ?_, rfl⟩
  simp only [List.mem_cons, List.not_mem_nil, or_false] at hi
  rcases hi with rfl | rfl | rfl | rfl
  · exact ⟨ri_5 _ _ _ (by omega) (by omega) (by omega), (show ¬ branchV 5 by unfold branchV; decide)⟩
  · exact ⟨ri_73s o.t0 o.f1 o.f3 (by omega) (by omega) (by omega), (show ¬ branchV 73 by unfold branchV; decide)⟩
  · exact ⟨ri_73 _ _ _ (by omega) (by omega) (by omega), (show ¬ branchV 73 by unfold branchV; decide)⟩
  · exact ⟨ri_2 _ _ _ (by omega) (by omega) (by omega), (show ¬ branchV 2 by unfold branchV; decide)⟩

theorem ia_26 (o : VO) (hk : o.kind = 26) (hv : vright o) (hp : (vpair o.t0 o.f0 ∧ vpair o.t0 o.f1 ∧ vpair o.t0 o.f2 ∧ vpair o.t0 o.f3) ∧ (vpair o.t1 o.f0 ∧ vpair o.t1 o.f1 ∧ vpair o.t1 o.f2 ∧ vpair o.t1 o.f3)) (hn : 0 ≤ o.n ∧ o.n ≤ 4294967295) : (∀ i ∈ insL o, rightV i ∧ ¬ branchV i.form) ∧ ((insL o).length : Int) = lenV o := by
  obtain ⟨_, ⟨p0, p1⟩, ⟨q0, q1, q2, q3⟩, hd, hnm⟩ := hv
  have b0 := hp.1.1.1
  have b1 := hp.2.1.1
  have c0 := hp.1.1.2.1
  have c1 := hp.1.2.1.2.1
  have c2 := hp.1.2.2.1.2.1
  have c3 := hp.1.2.2.2.2.1
  clear hp
  rw [hk] at p0 p1 q0 q1 q2 q3 hd hnm
  rw [show vto 26 = 2 by decide] at p0 p1 hd
  rw [show vfrom 26 = 2 by decide] at q0 q1 q2 q3
  unfold plc at p0 p1 q0 q1 q2 q3
  unfold vnum at hnm
  have eL : insL o = [{ iF 95 o.t0 o.f0 o.f1 with ra := o.t1 }] := by unfold insL memL pairL singL testL threeF; rw [hk]; rfl
  have eN : lenV o = 1 := by unfold lenV; rw [hk]; rfl
  rw [eL, eN]
  refine ⟨fun i hi => ?_, rfl⟩
  simp only [List.mem_cons, List.not_mem_nil, or_false] at hi
  subst hi
  exact ⟨ri_95 o.t0 o.f0 o.f1 o.t1 (by omega) (by omega) (by omega) (by omega) (by omega), (show ¬ branchV 95 by unfold branchV; decide)⟩

theorem ia_27 (o : VO) (hk : o.kind = 27) (hv : vright o) (hp : (vpair o.t0 o.f0 ∧ vpair o.t0 o.f1 ∧ vpair o.t0 o.f2 ∧ vpair o.t0 o.f3) ∧ (vpair o.t1 o.f0 ∧ vpair o.t1 o.f1 ∧ vpair o.t1 o.f2 ∧ vpair o.t1 o.f3)) (hn : 0 ≤ o.n ∧ o.n ≤ 4294967295) : (∀ i ∈ insL o, rightV i ∧ ¬ branchV i.form) ∧ ((insL o).length : Int) = lenV o := by
  obtain ⟨_, ⟨p0, p1⟩, ⟨q0, q1, q2, q3⟩, hd, hnm⟩ := hv
  have b0 := hp.1.1.1
  have b1 := hp.2.1.1
  have c0 := hp.1.1.2.1
  have c1 := hp.1.2.1.2.1
  have c2 := hp.1.2.2.1.2.1
  have c3 := hp.1.2.2.2.2.1
  clear hp
  rw [hk] at p0 p1 q0 q1 q2 q3 hd hnm
  rw [show vto 27 = 1 by decide] at p0 p1 hd
  rw [show vfrom 27 = 1 by decide] at q0 q1 q2 q3
  unfold plc at p0 p1 q0 q1 q2 q3
  unfold vnum at hnm
  have eL : insL o = [{ iZ with form := 50, rd := o.t0, rn := o.f0, imm := 1 }, { iZ with form := 59, rd := o.t0, rn := o.t0 }] := by unfold insL memL pairL singL testL threeF; rw [hk]; rfl
  have eN : lenV o = 2 := by unfold lenV; rw [hk]; rfl
  have w0 : Rm.wordE 0 = 0 := by decide +kernel
  have w1 : Rm.wordE 1 = 0 := by decide +kernel
  rw [eL, eN]
  refine ⟨fun i hi => ?_, rfl⟩
  simp only [List.mem_cons, List.not_mem_nil, or_false] at hi
  rcases hi with rfl | rfl
  · exact ⟨ri_50 _ _ _ (by omega) (by omega) (by omega) w1, (show ¬ branchV 50 by unfold branchV; decide)⟩
  · exact ⟨ri_59 _ _ _ (by omega) (by omega) (by decide) w0, (show ¬ branchV 59 by unfold branchV; decide)⟩

theorem ia_28 (o : VO) (hk : o.kind = 28) (hv : vright o) (hp : (vpair o.t0 o.f0 ∧ vpair o.t0 o.f1 ∧ vpair o.t0 o.f2 ∧ vpair o.t0 o.f3) ∧ (vpair o.t1 o.f0 ∧ vpair o.t1 o.f1 ∧ vpair o.t1 o.f2 ∧ vpair o.t1 o.f3)) (hn : 0 ≤ o.n ∧ o.n ≤ 4294967295) : (∀ i ∈ insL o, rightV i ∧ ¬ branchV i.form) ∧ ((insL o).length : Int) = lenV o := by
  obtain ⟨_, ⟨p0, p1⟩, ⟨q0, q1, q2, q3⟩, hd, hnm⟩ := hv
  have b0 := hp.1.1.1
  have b1 := hp.2.1.1
  have c0 := hp.1.1.2.1
  have c1 := hp.1.2.1.2.1
  have c2 := hp.1.2.2.1.2.1
  have c3 := hp.1.2.2.2.2.1
  clear hp
  rw [hk] at p0 p1 q0 q1 q2 q3 hd hnm
  rw [show vto 28 = 1 by decide] at p0 p1 hd
  rw [show vfrom 28 = 2 by decide] at q0 q1 q2 q3
  unfold plc at p0 p1 q0 q1 q2 q3
  unfold vnum at hnm
  have eL : insL o = [iF 97 o.t0 o.f0 o.f1] := by unfold insL memL pairL singL testL threeF; rw [hk]; rfl
  have eN : lenV o = 1 := by unfold lenV; rw [hk]; rfl
  rw [eL, eN]
  refine ⟨fun i hi => ?_, rfl⟩
  simp only [List.mem_cons, List.not_mem_nil, or_false] at hi
  subst hi
  exact ⟨ri_97 _ _ _ (by omega) (by omega) (by omega), (show ¬ branchV 97 by unfold branchV; decide)⟩

theorem ia_29 (o : VO) (hk : o.kind = 29) (hv : vright o) (hp : (vpair o.t0 o.f0 ∧ vpair o.t0 o.f1 ∧ vpair o.t0 o.f2 ∧ vpair o.t0 o.f3) ∧ (vpair o.t1 o.f0 ∧ vpair o.t1 o.f1 ∧ vpair o.t1 o.f2 ∧ vpair o.t1 o.f3)) (hn : 0 ≤ o.n ∧ o.n ≤ 4294967295) : (∀ i ∈ insL o, rightV i ∧ ¬ branchV i.form) ∧ ((insL o).length : Int) = lenV o := by
  obtain ⟨_, ⟨p0, p1⟩, ⟨q0, q1, q2, q3⟩, hd, hnm⟩ := hv
  have b0 := hp.1.1.1
  have b1 := hp.2.1.1
  have c0 := hp.1.1.2.1
  have c1 := hp.1.2.1.2.1
  have c2 := hp.1.2.2.1.2.1
  have c3 := hp.1.2.2.2.2.1
  clear hp
  rw [hk] at p0 p1 q0 q1 q2 q3 hd hnm
  rw [show vto 29 = 1 by decide] at p0 p1 hd
  rw [show vfrom 29 = 3 by decide] at q0 q1 q2 q3
  unfold plc at p0 p1 q0 q1 q2 q3
  unfold vnum at hnm
  have eL : insL o = [{ iF 94 o.t0 o.f1 o.f2 with ra := o.f0 }] := by unfold insL memL pairL singL testL threeF; rw [hk]; rfl
  have eN : lenV o = 1 := by unfold lenV; rw [hk]; rfl
  rw [eL, eN]
  refine ⟨fun i hi => ?_, rfl⟩
  simp only [List.mem_cons, List.not_mem_nil, or_false] at hi
  subst hi
  exact ⟨ri_94 o.t0 o.f1 o.f2 o.f0 (by omega) (by omega) (by omega) (by omega), (show ¬ branchV 94 by unfold branchV; decide)⟩

theorem ia_30 (o : VO) (hk : o.kind = 30) (hv : vright o) (hp : (vpair o.t0 o.f0 ∧ vpair o.t0 o.f1 ∧ vpair o.t0 o.f2 ∧ vpair o.t0 o.f3) ∧ (vpair o.t1 o.f0 ∧ vpair o.t1 o.f1 ∧ vpair o.t1 o.f2 ∧ vpair o.t1 o.f3)) (hn : 0 ≤ o.n ∧ o.n ≤ 4294967295) : (∀ i ∈ insL o, rightV i ∧ ¬ branchV i.form) ∧ ((insL o).length : Int) = lenV o := by
  obtain ⟨_, ⟨p0, p1⟩, ⟨q0, q1, q2, q3⟩, hd, hnm⟩ := hv
  have b0 := hp.1.1.1
  have b1 := hp.2.1.1
  have c0 := hp.1.1.2.1
  have c1 := hp.1.2.1.2.1
  have c2 := hp.1.2.2.1.2.1
  have c3 := hp.1.2.2.2.2.1
  clear hp
  rw [hk] at p0 p1 q0 q1 q2 q3 hd hnm
  rw [show vto 30 = 0 by decide] at p0 p1 hd
  rw [show vfrom 30 = 1 by decide] at q0 q1 q2 q3
  unfold plc at p0 p1 q0 q1 q2 q3
  unfold vnum at hnm
  have eL : insL o = if o.n ≤ 255 then [iM 9 o.f0 o.n] else [{ iZ with form := 65, rn := o.f0, imm := Rm.ofN o.n }] := by unfold insL memL pairL singL testL threeF; rw [hk]; simp
  have eN : lenV o = 1 := by unfold lenV; rw [hk]; rfl
  rw [eL, eN]
  by_cases h1 : o.n ≤ 255
  · rw [if_pos h1]
    refine ⟨fun i hi => ?_, rfl⟩
    simp only [List.mem_cons, List.not_mem_nil, or_false] at hi
    subst hi
    exact ⟨ri_9 _ _ (by omega) (by first | omega | decide), (show ¬ branchV 9 by unfold branchV; decide)⟩
  · rw [if_neg h1]
    have e := of_fours o.n (by omega) (by omega) (by omega)
    have i1 := ofM_iff o.n
    have w := of_word_ok o.n hn (i1.1.1 (by rw [e]; exact Int.natCast_nonneg _))
    refine ⟨fun i hi => ?_, rfl⟩
    simp only [List.mem_cons, List.not_mem_nil, or_false] at hi
    subst hi
    exact ⟨ri_65 _ _ (by omega) w.2 w.1, (show ¬ branchV 65 by unfold branchV; decide)⟩

theorem ia_31 (o : VO) (hk : o.kind = 31) (hv : vright o) (hp : (vpair o.t0 o.f0 ∧ vpair o.t0 o.f1 ∧ vpair o.t0 o.f2 ∧ vpair o.t0 o.f3) ∧ (vpair o.t1 o.f0 ∧ vpair o.t1 o.f1 ∧ vpair o.t1 o.f2 ∧ vpair o.t1 o.f3)) (hn : 0 ≤ o.n ∧ o.n ≤ 4294967295) : (∀ i ∈ insL o, rightV i ∧ ¬ branchV i.form) ∧ ((insL o).length : Int) = lenV o := by
  obtain ⟨_, ⟨p0, p1⟩, ⟨q0, q1, q2, q3⟩, hd, hnm⟩ := hv
  have b0 := hp.1.1.1
  have b1 := hp.2.1.1
  have c0 := hp.1.1.2.1
  have c1 := hp.1.2.1.2.1
  have c2 := hp.1.2.2.1.2.1
  have c3 := hp.1.2.2.2.2.1
  clear hp
  rw [hk] at p0 p1 q0 q1 q2 q3 hd hnm
  rw [show vto 31 = 0 by decide] at p0 p1 hd
  rw [show vfrom 31 = 1 by decide] at q0 q1 q2 q3
  unfold plc at p0 p1 q0 q1 q2 q3
  unfold vnum at hnm
  have eL : insL o = [{ iZ with form := 9, rd := o.f0 }] := by unfold insL memL pairL singL testL threeF; rw [hk]; rfl
  have eN : lenV o = 1 := by unfold lenV; rw [hk]; rfl
  rw [eL, eN]
  refine ⟨fun i hi => ?_, rfl⟩
  simp only [List.mem_cons, List.not_mem_nil, or_false] at hi
  subst hi
  exact ⟨ri_9 _ _ (by omega) (by first | omega | decide), (show ¬ branchV 9 by unfold branchV; decide)⟩

def ruB2 (r : RU) : Bool := decide (-16777216 ≤ r.i0 ∧ r.i1 ≤ 16777214)
theorem ru_tab2 : ∀ k : Fin 35, ruB2 (ruW ((k.1 : Nat) : Int)) = true := by decide
theorem ru_imm (s : Int) : -16777216 ≤ (ruW s).i0 ∧ (ruW s).i1 ≤ 16777214 := by
  by_cases h : s < 1 ∨ 34 < s
  · have e : ruW s = r0U := by
      unfold ruW
      repeat rw [if_neg (by omega)]
      unfold ruN
      repeat rw [if_neg (by omega)]
    rw [e]; decide
  · have h1 := ru_tab2 ⟨s.toNat, by omega⟩
    rw [show (((⟨s.toNat, by omega⟩ : Fin 35).1 : Nat) : Int) = s by simp only []; omega] at h1
    exact of_decide_eq_true h1
theorem right_imm {i : IN} (h : rightV i) : I64 i.imm := by
  obtain ⟨hf, h1, h2, h3, h4, h5, h6, h7, h8, h9, h10⟩ := h
  have b : -16777216 ≤ (ruW (shapeV i.form)).i0 ∧ (ruW (shapeV i.form)).i1 ≤ 16777214 := ru_imm _
  unfold I64
  rcases h7 with h7 | h7 <;> omega
theorem ins_all (o : VO) (h : vright o ∧ vsmall o) (hn : 0 ≤ o.n ∧ o.n ≤ 4294967295) : (∀ i ∈ insL o, rightV i ∧ ¬ branchV i.form) ∧ ((insL o).length : Int) = lenV o := by
  have hp := (vsmall_iff o h.1).1 h
  have hv := h.1
  rcases kinds hv.1 with hk | hk | hk | hk | hk | hk | hk | hk | hk | hk | hk | hk | hk | hk | hk | hk | hk | hk | hk | hk | hk | hk | hk | hk | hk | hk | hk | hk | hk | hk | hk
  · exact ia_1 o hk hv hp hn
  · exact ia_2 o hk hv hp hn
  · exact ia_3 o hk hv hp hn
  · exact ia_4 o hk hv hp hn
  · exact ia_5 o hk hv hp hn
  · exact ia_6 o hk hv hp hn
  · exact ia_7 o hk hv hp hn
  · exact ia_8 o hk hv hp hn
  · exact ia_9 o hk hv hp hn
  · exact ia_10 o hk hv hp hn
  · exact ia_11 o hk hv hp hn
  · exact ia_12 o hk hv hp hn
  · exact ia_13 o hk hv hp hn
  · exact ia_14 o hk hv hp hn
  · exact ia_15 o hk hv hp hn
  · exact ia_16 o hk hv hp hn
  · exact ia_17 o hk hv hp hn
  · exact ia_18 o hk hv hp hn
  · exact ia_19 o hk hv hp hn
  · exact ia_20 o hk hv hp hn
  · exact ia_21 o hk hv hp hn
  · exact ia_22 o hk hv hp hn
  · exact ia_23 o hk hv hp hn
  · exact ia_24 o hk hv hp hn
  · exact ia_25 o hk hv hp hn
  · exact ia_26 o hk hv hp hn
  · exact ia_27 o hk hv hp hn
  · exact ia_28 o hk hv hp hn
  · exact ia_29 o hk hv hp hn
  · exact ia_30 o hk hv hp hn
  · exact ia_31 o hk hv hp hn
  
end Go.Proofs.YthpkejlmelednaaDoor.Pw

/- Chapter 18 over values: SelForms. -/
namespace Go.Proofs.YthpkejlmelednaaDoor.Pw
open Go Go.RowKit

theorem branch_pure (i : IN) : PureF gT 36 [inP i] (.bool (branchV i.form)) := by
  refine Spec.enter gTok P36 100 Tryd.func36 rfl (by kernel_rfl) ?_
  unfold branchV
  repeat' ((conv => whnf); first | (refine (And.intro (fun _ => ?_) (fun _ => ?_) : (_ → _) ∧ (_ → _)) <;> (first | (exfalso; first | contradiction | omega) | skip)) | refine Or.inl (And.intro (by first | exact inR_i64 (by omega) | exact inR_u32 (by omega) | exact inR_u64 (by omega) | exact inR_u8 (by omega)) ?_) | (refine And.intro (show (_ : Int) ≠ 0 by omega) (Or.inl (And.intro (show (0 : Int) ≤ _ by omega) (And.intro (show (0 : Int) < _ by omega) ?_)))) | (refine And.intro (show (_ : Int) ≠ 0 by omega) (Or.inl (And.intro (show (0 : Int) ≤ _ by omega) (And.intro (by first | exact (show (_ : Int) ≤ 9223372036854775807 by omega) | exact (show (_ : Int) ≤ 4294967295 by omega)) (And.intro (show (0 : Int) < _ by omega) ?_))))) | (refine retE ?_; (show (_ = 46 ∨ _ = 47 ∨ _ = 99 ∨ _ = 100 ∨ _ = 31)); omega) | (refine retE ?_; show ¬ _; omega) | (intro _))
theorem lword_pure (n : Int) (hn : 0 ≤ n ∧ n ≤ 4294967295) : PureF gT 77 [.int .u32 n] (.bool (wordP n)) := by
  have e : bits .xor .u32 IntKind.u32.max n = 4294967295 - n := Rm.not32 n hn.1 hn.2
  refine Spec.enter gTok P77 100 Tryd.func77 rfl (by kernel_rfl) ?_
  refine ⟨[], no_rl, (refof_pure n hn).use (by repeat' first | exact trivial | exact rfl | exact Iff.rfl | exact Or.inl rfl | refine And.intro ?_ ?_) rfl rfl ?_⟩
  refine And.intro (fun h => ?_) (fun h => ?_)
  · refine retE ?_
    exact (show wordP n from .inl h)
  · refine ⟨[], no_rl, (refof_pure (4294967295 - n) (by omega)).use (And.intro e trivial) rfl rfl ?_⟩
    refine retE ?_
    exact (show 0 ≤ Rm.ofM (4294967295 - n) ↔ wordP n from ⟨fun k => .inr k, fun k => k.resolve_left h⟩)
set_option maxHeartbeats 4000000 in
set_option maxRecDepth 100000 in
theorem lengths_pure (o : VO) (hn : 0 ≤ o.n ∧ o.n ≤ 4294967295) : PureF gT 34 [voP o] (.int .i64 (lenV o)) := by
  refine Spec.enter gTok P34 100 Tryd.func34 rfl (by kernel_rfl) ?_
  refine And.intro (fun h1 => ?_) (fun h1 => ?_)
  · have h1' : o.kind = 1 := h1
    refine And.intro (fun h2 => ?_) (fun h2 => ?_)
    · have h2' : 65536 ≤ o.n := h2
      refine ⟨[], no_rl, (lword_pure o.n hn).use (by repeat' first | exact trivial | exact rfl | exact Iff.rfl | exact Or.inl rfl | refine And.intro ?_ ?_) rfl rfl ?_⟩
      refine And.intro (fun h3 => ?_) (fun h3 => ?_)
      · exact retE (show (2 : Int) = lenV o by unfold lenV; rw [if_pos h1', if_pos ⟨h2', h3⟩])
      · exact retE (show (1 : Int) = lenV o by unfold lenV; rw [if_pos h1', if_neg (fun e => h3 e.2)])
    · have h2' : ¬ 65536 ≤ o.n := h2
      exact retE (show (1 : Int) = lenV o by unfold lenV; rw [if_pos h1', if_neg (fun e => h2' e.1)])
  have h1' : ¬ o.kind = 1 := h1
  have e : lenV o = if o.kind = 21 then 3 else if o.kind = 22 ∨ o.kind = 25 then 4 else if o.kind = 23 ∨ o.kind = 24 ∨ o.kind = 27 then 2 else 1 := by unfold lenV; rw [if_neg h1']
  rw [e]
  repeat' ((conv => whnf); first | (refine (And.intro (fun _ => ?_) (fun _ => ?_) : (_ → _) ∧ (_ → _)) <;> (first | (exfalso; first | contradiction | omega) | skip)) | refine Or.inl (And.intro (by first | exact inR_i64 (by omega) | exact inR_u32 (by omega) | exact inR_u64 (by omega) | exact inR_u8 (by omega)) ?_) | (refine And.intro (show (_ : Int) ≠ 0 by omega) (Or.inl (And.intro (show (0 : Int) ≤ _ by omega) (And.intro (show (0 : Int) < _ by omega) ?_)))) | (refine And.intro (show (_ : Int) ≠ 0 by omega) (Or.inl (And.intro (show (0 : Int) ≤ _ by omega) (And.intro (by first | exact (show (_ : Int) ≤ 9223372036854775807 by omega) | exact (show (_ : Int) ≤ 4294967295 by omega)) (And.intro (show (0 : Int) < _ by omega) ?_))))) | (refine retE ?_; (show _ = if o.kind = 21 then (3 : Int) else if o.kind = 22 ∨ o.kind = 25 then 4 else if o.kind = 23 ∨ o.kind = 24 ∨ o.kind = 27 then 2 else 1); (repeat' split) <;> omega) | (intro _))
set_option maxHeartbeats 8000000 in
set_option maxRecDepth 100000 in
theorem SelForms_pure (o : VO) (ho : o.Ok) : PureF gT 11 [voP o] .tt := by
  have hn := ho.n
  refine Spec.enter gTok P11 100 Tryd.func11 rfl (by kernel_rfl) ?_
  refine ⟨[], no_rl, anchor18_pure.use trivial rfl rfl ?_⟩
  by_cases hf : vright o ∧ vsmall o
  · obtain ⟨hr, hl⟩ := ins_all o hf hn
    have hi := insts_yes o ho hf
    have hle := insL_len2 o
    generalize insL o = L at *
    have el : (insP L).length = L.length := List.length_map ..
    refine ⟨[], no_rl, hi.use (by repeat' first | exact trivial | exact rfl | exact Iff.rfl | exact Or.inl rfl | refine And.intro ?_ ?_) rfl rfl ?_⟩
    refine ⟨[], no_rl, (fits_pure o hn).use (by repeat' first | exact trivial | exact rfl | exact Iff.rfl | exact Or.inl rfl | refine And.intro ?_ ?_) rfl rfl ?_⟩
    refine And.intro (fun h => absurd hf h) (fun _ => ?_)
    refine And.intro (fun h => absurd rfl h) (fun _ => ?_)
    intro _
    refine ⟨[], no_rl, (lengths_pure o hn).use (by repeat' first | exact trivial | exact rfl | exact Iff.rfl | exact Or.inl rfl | refine And.intro ?_ ?_) rfl rfl ?_⟩
    refine And.intro (fun h => absurd (show (((insP L).length : Nat) : Int) = lenV o by rw [el, hl]) h) (fun _ => ?_)
    intro _
    refine SW.loopS gTok P11 (by kernel_rfl) (fun j : Nat => [(37, .int .i64 j)]) (fun j => L.length - j) 0 60 ?_ fun j => ?_
    · repeat' first | exact Iff.rfl | exact trivial | exact rfl | refine And.intro ?_ ?_
    refine And.intro (fun h => ?_) (fun h => ?_)
    · have h' : (j : Int) < ((insP L).length : Nat) := h
      refine ⟨IN, L, inP, rfl, show (0 : Int) ≤ (j : Int) by omega, show (j : Int) < (L.length : Int) by omega, fun x hx => ?_⟩
      have hx' : L[j]? = some x := hx
      obtain ⟨hxr, hxb⟩ := hr x (List.mem_of_getElem? hx')
      refine ⟨[], no_rl, (right_pure x (right_imm hxr)).use (by repeat' first | exact trivial | exact rfl | exact Iff.rfl | exact Or.inl rfl | refine And.intro ?_ ?_) rfl rfl ?_⟩
      refine And.intro (fun h => absurd hxr h) (fun _ => ?_)
      refine ⟨[], no_rl, (branch_pure x).use (by repeat' first | exact trivial | exact rfl | exact Iff.rfl | exact Or.inl rfl | refine And.intro ?_ ?_) rfl rfl ?_⟩
      refine And.intro (fun h => absurd h hxb) (fun _ => ?_)
      refine .inl ⟨inR_i64 (show _ ≤ (j : Int) + 1 ∧ (j : Int) + 1 ≤ _ by omega), ⟨j + 1, show L.length - (j + 1) < L.length - j by omega, ?_⟩⟩
      repeat' first | exact Iff.rfl | exact trivial | exact rfl | refine And.intro ?_ ?_
    · refine ⟨[], no_rl, (trap_pure o).use (by repeat' first | exact trivial | exact rfl | exact Iff.rfl | exact Or.inl rfl | refine And.intro ?_ ?_) rfl rfl ?_⟩
      refine And.intro (fun h30 => ?_) (fun h30 => ?_)
      · have h30' : o.kind = 30 := h30
        rw [show trapC o.kind = 2 by rw [h30']; rfl, show trapN o.kind = 1 by rw [h30']; rfl]
        refine And.intro (fun _ => ?_) (fun h => absurd rfl h)
        (refine retE ?_; repeat' first | exact trivial | exact rfl | exact Iff.rfl | exact Or.inl rfl | refine And.intro ?_ ?_)
      · refine And.intro (fun h31 => ?_) (fun h31 => ?_)
        · have h31' : o.kind = 31 := h31
          rw [show trapC o.kind = 0 by rw [h31']; rfl, show trapN o.kind = 2 by rw [h31']; rfl]
          refine And.intro (fun _ => ?_) (fun h => absurd rfl h)
          (refine retE ?_; repeat' first | exact trivial | exact rfl | exact Iff.rfl | exact Or.inl rfl | refine And.intro ?_ ?_)
        · have h30' : ¬ o.kind = 30 := h30
          have h31' : ¬ o.kind = 31 := h31
          rw [show trapC o.kind = -1 by unfold trapC; rw [if_neg h30', if_neg h31'], show trapN o.kind = 0 by unfold trapN; rw [if_neg h30', if_neg h31']]
          refine And.intro (fun _ => ?_) (fun h => absurd rfl h)
          (refine retE ?_; repeat' first | exact trivial | exact rfl | exact Iff.rfl | exact Or.inl rfl | refine And.intro ?_ ?_)
  · refine ⟨[], no_rl, (insts_no o ho hf).use (by repeat' first | exact trivial | exact rfl | exact Iff.rfl | exact Or.inl rfl | refine And.intro ?_ ?_) rfl rfl ?_⟩
    refine ⟨[], no_rl, (fits_pure o hn).use (by repeat' first | exact trivial | exact rfl | exact Iff.rfl | exact Or.inl rfl | refine And.intro ?_ ?_) rfl rfl ?_⟩
    refine And.intro (fun _ => ?_) (fun h => absurd hf h)
    refine And.intro (fun _ => ?_) (fun h => absurd rfl h)
    intro _
    (refine retE ?_; repeat' first | exact trivial | exact rfl | exact Iff.rfl | exact Or.inl rfl | refine And.intro ?_ ?_)
theorem SelForms_pure' (x : PV) (s : SVO x) : PureF gT 11 [x] .tt := by
  obtain ⟨o, ho, rfl⟩ := s
  exact SelForms_pure o ho

end Go.Proofs.YthpkejlmelednaaDoor.Pw

/- Chapter 18 over values: the document's instructions of an operation, kind by kind. -/
namespace Go.Proofs.YthpkejlmelednaaDoor.Pw
open Go Go.RowKit

set_option maxHeartbeats 4000000 in
set_option maxRecDepth 100000 in
theorem rsing_16 (o : VO) (hk : o.kind = 16) (hn : 0 ≤ o.n ∧ o.n ≤ 4294967295) : PureF gT 63 [voP o] (.sl 11 (insP (singL o))) := by
  refine Spec.enter gTok P63 100 Tryd.func63 rfl (by kernel_rfl) ?_
  repeat' ((conv => whnf); first | (refine (And.intro (fun _ => ?_) (fun _ => ?_) : (_ → _) ∧ (_ → _)) <;> (first | (exfalso; first | contradiction | omega) | skip)) | refine Or.inl (And.intro (by first | exact inR_i64 (by omega) | exact inR_u32 (by omega) | exact inR_u64 (by omega) | exact inR_u8 (by omega)) ?_) | (refine And.intro (show (_ : Int) ≠ 0 by omega) (Or.inl (And.intro (show (0 : Int) ≤ _ by omega) (And.intro (show (0 : Int) < _ by omega) ?_)))) | (refine And.intro (show (_ : Int) ≠ 0 by omega) (Or.inl (And.intro (show (0 : Int) ≤ _ by omega) (And.intro (by first | exact (show (_ : Int) ≤ 9223372036854775807 by omega) | exact (show (_ : Int) ≤ 4294967295 by omega)) (And.intro (show (0 : Int) < _ by omega) ?_))))) | (refine Exists.intro [] (And.intro no_rl ((rimm_pure _ _ _).use (by repeat' first | exact trivial | exact rfl | exact Iff.rfl | exact Or.inl rfl | refine And.intro ?_ ?_) rfl rfl ?_))) | (refine Or.inl (And.intro (inR_i64 (show _ ≤ o.kind - 17 ∧ o.kind - 17 ≤ _ by omega)) ?_)) | (refine retE ?_; (show [inP { iZ with form := o.kind - 17, rd := o.t0, rm := o.f0, imm := o.n }] = _); simp only [singL, hk, reduceIte, Int.reduceEq]; rfl) | (refine retE ?_; (show _ = _); simp only [singL, hk, reduceIte, Int.reduceEq]; rfl) | (intro _))
set_option maxHeartbeats 4000000 in
set_option maxRecDepth 100000 in
theorem rsing_17 (o : VO) (hk : o.kind = 17) (hn : 0 ≤ o.n ∧ o.n ≤ 4294967295) : PureF gT 63 [voP o] (.sl 11 (insP (singL o))) := by
  refine Spec.enter gTok P63 100 Tryd.func63 rfl (by kernel_rfl) ?_
  repeat' ((conv => whnf); first | (refine (And.intro (fun _ => ?_) (fun _ => ?_) : (_ → _) ∧ (_ → _)) <;> (first | (exfalso; first | contradiction | omega) | skip)) | refine Or.inl (And.intro (by first | exact inR_i64 (by omega) | exact inR_u32 (by omega) | exact inR_u64 (by omega) | exact inR_u8 (by omega)) ?_) | (refine And.intro (show (_ : Int) ≠ 0 by omega) (Or.inl (And.intro (show (0 : Int) ≤ _ by omega) (And.intro (show (0 : Int) < _ by omega) ?_)))) | (refine And.intro (show (_ : Int) ≠ 0 by omega) (Or.inl (And.intro (show (0 : Int) ≤ _ by omega) (And.intro (by first | exact (show (_ : Int) ≤ 9223372036854775807 by omega) | exact (show (_ : Int) ≤ 4294967295 by omega)) (And.intro (show (0 : Int) < _ by omega) ?_))))) | (refine Exists.intro [] (And.intro no_rl ((rimm_pure _ _ _).use (by repeat' first | exact trivial | exact rfl | exact Iff.rfl | exact Or.inl rfl | refine And.intro ?_ ?_) rfl rfl ?_))) | (refine Or.inl (And.intro (inR_i64 (show _ ≤ o.kind - 17 ∧ o.kind - 17 ≤ _ by omega)) ?_)) | (refine retE ?_; (show [inP { iZ with form := o.kind - 17, rd := o.t0, rm := o.f0, imm := o.n }] = _); simp only [singL, hk, reduceIte, Int.reduceEq]; rfl) | (refine retE ?_; (show _ = _); simp only [singL, hk, reduceIte, Int.reduceEq]; rfl) | (intro _))
set_option maxHeartbeats 4000000 in
set_option maxRecDepth 100000 in
theorem rsing_18 (o : VO) (hk : o.kind = 18) (hn : 0 ≤ o.n ∧ o.n ≤ 4294967295) : PureF gT 63 [voP o] (.sl 11 (insP (singL o))) := by
  refine Spec.enter gTok P63 100 Tryd.func63 rfl (by kernel_rfl) ?_
  repeat' ((conv => whnf); first | (refine (And.intro (fun _ => ?_) (fun _ => ?_) : (_ → _) ∧ (_ → _)) <;> (first | (exfalso; first | contradiction | omega) | skip)) | refine Or.inl (And.intro (by first | exact inR_i64 (by omega) | exact inR_u32 (by omega) | exact inR_u64 (by omega) | exact inR_u8 (by omega)) ?_) | (refine And.intro (show (_ : Int) ≠ 0 by omega) (Or.inl (And.intro (show (0 : Int) ≤ _ by omega) (And.intro (show (0 : Int) < _ by omega) ?_)))) | (refine And.intro (show (_ : Int) ≠ 0 by omega) (Or.inl (And.intro (show (0 : Int) ≤ _ by omega) (And.intro (by first | exact (show (_ : Int) ≤ 9223372036854775807 by omega) | exact (show (_ : Int) ≤ 4294967295 by omega)) (And.intro (show (0 : Int) < _ by omega) ?_))))) | (refine Exists.intro [] (And.intro no_rl ((rimm_pure _ _ _).use (by repeat' first | exact trivial | exact rfl | exact Iff.rfl | exact Or.inl rfl | refine And.intro ?_ ?_) rfl rfl ?_))) | (refine Or.inl (And.intro (inR_i64 (show _ ≤ o.kind - 17 ∧ o.kind - 17 ≤ _ by omega)) ?_)) | (refine retE ?_; (show [inP { iZ with form := o.kind - 17, rd := o.t0, rm := o.f0, imm := o.n }] = _); simp only [singL, hk, reduceIte, Int.reduceEq]; rfl) | (refine retE ?_; (show _ = _); simp only [singL, hk, reduceIte, Int.reduceEq]; rfl) | (intro _))
set_option maxHeartbeats 4000000 in
set_option maxRecDepth 100000 in
theorem rsing_19 (o : VO) (hk : o.kind = 19) (hn : 0 ≤ o.n ∧ o.n ≤ 4294967295) : PureF gT 63 [voP o] (.sl 11 (insP (singL o))) := by
  refine Spec.enter gTok P63 100 Tryd.func63 rfl (by kernel_rfl) ?_
  repeat' ((conv => whnf); first | (refine (And.intro (fun _ => ?_) (fun _ => ?_) : (_ → _) ∧ (_ → _)) <;> (first | (exfalso; first | contradiction | omega) | skip)) | refine Or.inl (And.intro (by first | exact inR_i64 (by omega) | exact inR_u32 (by omega) | exact inR_u64 (by omega) | exact inR_u8 (by omega)) ?_) | (refine And.intro (show (_ : Int) ≠ 0 by omega) (Or.inl (And.intro (show (0 : Int) ≤ _ by omega) (And.intro (show (0 : Int) < _ by omega) ?_)))) | (refine And.intro (show (_ : Int) ≠ 0 by omega) (Or.inl (And.intro (show (0 : Int) ≤ _ by omega) (And.intro (by first | exact (show (_ : Int) ≤ 9223372036854775807 by omega) | exact (show (_ : Int) ≤ 4294967295 by omega)) (And.intro (show (0 : Int) < _ by omega) ?_))))) | (refine Exists.intro [] (And.intro no_rl ((rimm_pure _ _ _).use (by repeat' first | exact trivial | exact rfl | exact Iff.rfl | exact Or.inl rfl | refine And.intro ?_ ?_) rfl rfl ?_))) | (refine Or.inl (And.intro (inR_i64 (show _ ≤ o.kind - 17 ∧ o.kind - 17 ≤ _ by omega)) ?_)) | (refine retE ?_; (show [inP { iZ with form := o.kind - 17, rd := o.t0, rm := o.f0, imm := o.n }] = _); simp only [singL, hk, reduceIte, Int.reduceEq]; rfl) | (refine retE ?_; (show _ = _); simp only [singL, hk, reduceIte, Int.reduceEq]; rfl) | (intro _))
set_option maxHeartbeats 4000000 in
set_option maxRecDepth 100000 in
theorem rsing_20 (o : VO) (hk : o.kind = 20) (hn : 0 ≤ o.n ∧ o.n ≤ 4294967295) : PureF gT 63 [voP o] (.sl 11 (insP (singL o))) := by
  refine Spec.enter gTok P63 100 Tryd.func63 rfl (by kernel_rfl) ?_
  repeat' ((conv => whnf); first | (refine (And.intro (fun _ => ?_) (fun _ => ?_) : (_ → _) ∧ (_ → _)) <;> (first | (exfalso; first | contradiction | omega) | skip)) | refine Or.inl (And.intro (by first | exact inR_i64 (by omega) | exact inR_u32 (by omega) | exact inR_u64 (by omega) | exact inR_u8 (by omega)) ?_) | (refine And.intro (show (_ : Int) ≠ 0 by omega) (Or.inl (And.intro (show (0 : Int) ≤ _ by omega) (And.intro (show (0 : Int) < _ by omega) ?_)))) | (refine And.intro (show (_ : Int) ≠ 0 by omega) (Or.inl (And.intro (show (0 : Int) ≤ _ by omega) (And.intro (by first | exact (show (_ : Int) ≤ 9223372036854775807 by omega) | exact (show (_ : Int) ≤ 4294967295 by omega)) (And.intro (show (0 : Int) < _ by omega) ?_))))) | (refine Exists.intro [] (And.intro no_rl ((rimm_pure _ _ _).use (by repeat' first | exact trivial | exact rfl | exact Iff.rfl | exact Or.inl rfl | refine And.intro ?_ ?_) rfl rfl ?_))) | (refine Or.inl (And.intro (inR_i64 (show _ ≤ o.kind - 17 ∧ o.kind - 17 ≤ _ by omega)) ?_)) | (refine retE ?_; (show [inP { iZ with form := o.kind - 17, rd := o.t0, rm := o.f0, imm := o.n }] = _); simp only [singL, hk, reduceIte, Int.reduceEq]; rfl) | (refine retE ?_; (show _ = _); simp only [singL, hk, reduceIte, Int.reduceEq]; rfl) | (intro _))
set_option maxHeartbeats 4000000 in
set_option maxRecDepth 100000 in
theorem rsing_27 (o : VO) (hk : o.kind = 27) (hn : 0 ≤ o.n ∧ o.n ≤ 4294967295) : PureF gT 63 [voP o] (.sl 11 (insP (singL o))) := by
  refine Spec.enter gTok P63 100 Tryd.func63 rfl (by kernel_rfl) ?_
  repeat' ((conv => whnf); first | (refine (And.intro (fun _ => ?_) (fun _ => ?_) : (_ → _) ∧ (_ → _)) <;> (first | (exfalso; first | contradiction | omega) | skip)) | refine Or.inl (And.intro (by first | exact inR_i64 (by omega) | exact inR_u32 (by omega) | exact inR_u64 (by omega) | exact inR_u8 (by omega)) ?_) | (refine And.intro (show (_ : Int) ≠ 0 by omega) (Or.inl (And.intro (show (0 : Int) ≤ _ by omega) (And.intro (show (0 : Int) < _ by omega) ?_)))) | (refine And.intro (show (_ : Int) ≠ 0 by omega) (Or.inl (And.intro (show (0 : Int) ≤ _ by omega) (And.intro (by first | exact (show (_ : Int) ≤ 9223372036854775807 by omega) | exact (show (_ : Int) ≤ 4294967295 by omega)) (And.intro (show (0 : Int) < _ by omega) ?_))))) | (refine Exists.intro [] (And.intro no_rl ((rimm_pure _ _ _).use (by repeat' first | exact trivial | exact rfl | exact Iff.rfl | exact Or.inl rfl | refine And.intro ?_ ?_) rfl rfl ?_))) | (refine retE ?_; (show _ = _); simp only [singL, hk, reduceIte, Int.reduceEq]; rfl) | (intro _))
set_option maxHeartbeats 4000000 in
set_option maxRecDepth 100000 in
theorem rsing_30 (o : VO) (hk : o.kind = 30) (hn : 0 ≤ o.n ∧ o.n ≤ 4294967295) (hv : vnum o.kind o.n) : PureF gT 63 [voP o] (.sl 11 (insP (testL o))) := by
  refine Spec.enter gTok P63 100 Tryd.func63 rfl (by kernel_rfl) ?_
  by_cases h : o.n ≤ 255
  · repeat' ((conv => whnf); first | (refine (And.intro (fun _ => ?_) (fun _ => ?_) : (_ → _) ∧ (_ → _)) <;> (first | (exfalso; first | contradiction | omega) | skip)) | refine Or.inl (And.intro (by first | exact inR_i64 (by omega) | exact inR_u32 (by omega) | exact inR_u64 (by omega) | exact inR_u8 (by omega)) ?_) | (refine And.intro (show (_ : Int) ≠ 0 by omega) (Or.inl (And.intro (show (0 : Int) ≤ _ by omega) (And.intro (show (0 : Int) < _ by omega) ?_)))) | (refine And.intro (show (_ : Int) ≠ 0 by omega) (Or.inl (And.intro (show (0 : Int) ≤ _ by omega) (And.intro (by first | exact (show (_ : Int) ≤ 9223372036854775807 by omega) | exact (show (_ : Int) ≤ 4294967295 by omega)) (And.intro (show (0 : Int) < _ by omega) ?_))))) | (refine Exists.intro [] (And.intro no_rl ((rimm_pure _ _ _).use (by repeat' first | exact trivial | exact rfl | exact Iff.rfl | exact Or.inl rfl | refine And.intro ?_ ?_) rfl rfl ?_))) | (refine retE ?_; (show _ = _); simp only [testL, hk, h, if_true, if_false, reduceIte, Int.reduceEq]; rfl) | (intro _))
  · have hm : Rm.ofM o.n = Rm.ofN o.n := of_fours o.n (by unfold vnum at hv; omega) (by omega) (by unfold vnum at hv; omega)
    repeat' ((conv => whnf); first | (refine (And.intro (fun _ => ?_) (fun _ => ?_) : (_ → _) ∧ (_ → _)) <;> (first | (exfalso; first | contradiction | omega) | skip)) | refine Or.inl (And.intro (by first | exact inR_i64 (by omega) | exact inR_u32 (by omega) | exact inR_u64 (by omega) | exact inR_u8 (by omega)) ?_) | (refine And.intro (show (_ : Int) ≠ 0 by omega) (Or.inl (And.intro (show (0 : Int) ≤ _ by omega) (And.intro (show (0 : Int) < _ by omega) ?_)))) | (refine And.intro (show (_ : Int) ≠ 0 by omega) (Or.inl (And.intro (show (0 : Int) ≤ _ by omega) (And.intro (by first | exact (show (_ : Int) ≤ 9223372036854775807 by omega) | exact (show (_ : Int) ≤ 4294967295 by omega)) (And.intro (show (0 : Int) < _ by omega) ?_))))) | (refine Exists.intro [] (And.intro no_rl ((refof_pure _ hn).use (by repeat' first | exact trivial | exact rfl | exact Iff.rfl | exact Or.inl rfl | refine And.intro ?_ ?_) rfl rfl ?_))) | (refine retE ?_; (show [inP { iZ with form := 65, rn := o.f0, imm := Rm.ofM o.n }] = _); simp only [testL, hk, h, hm, if_true, if_false, reduceIte, Int.reduceEq]; rfl) | (intro _))
set_option maxHeartbeats 4000000 in
set_option maxRecDepth 100000 in
theorem rsing_31 (o : VO) (hk : o.kind = 31) (hn : o.n = 0) : PureF gT 63 [voP o] (.sl 11 (insP (testL o))) := by
  refine Spec.enter gTok P63 100 Tryd.func63 rfl (by kernel_rfl) ?_
  repeat' ((conv => whnf); first | (refine (And.intro (fun _ => ?_) (fun _ => ?_) : (_ → _) ∧ (_ → _)) <;> (first | (exfalso; first | contradiction | omega) | skip)) | refine Or.inl (And.intro (by first | exact inR_i64 (by omega) | exact inR_u32 (by omega) | exact inR_u64 (by omega) | exact inR_u8 (by omega)) ?_) | (refine And.intro (show (_ : Int) ≠ 0 by omega) (Or.inl (And.intro (show (0 : Int) ≤ _ by omega) (And.intro (show (0 : Int) < _ by omega) ?_)))) | (refine And.intro (show (_ : Int) ≠ 0 by omega) (Or.inl (And.intro (show (0 : Int) ≤ _ by omega) (And.intro (by first | exact (show (_ : Int) ≤ 9223372036854775807 by omega) | exact (show (_ : Int) ≤ 4294967295 by omega)) (And.intro (show (0 : Int) < _ by omega) ?_))))) | (refine Exists.intro [] (And.intro no_rl ((rimm_pure _ _ _).use (by repeat' first | exact trivial | exact rfl | exact Iff.rfl | exact Or.inl rfl | refine And.intro ?_ ?_) rfl rfl ?_))) | (refine retE ?_; (show _ = _); simp only [testL, hk, hn, reduceIte, Int.reduceEq]; rfl) | (intro _))

end Go.Proofs.YthpkejlmelednaaDoor.Pw

/- Chapter 18 over values: the document's instructions of an operation are the program's. -/
namespace Go.Proofs.YthpkejlmelednaaDoor.Pw
open Go Go.RowKit

set_option maxHeartbeats 4000000 in
set_option maxRecDepth 100000 in
theorem rins_1 (o : VO) (hk : o.kind = 1) (hn : 0 ≤ o.n ∧ o.n ≤ 4294967295) (hv : vnum o.kind o.n) : PureF gT 23 [voP o] (.sl 11 (insP (insL o))) := by
  refine Spec.enter gTok P23 100 Tryd.func23 rfl (by kernel_rfl) ?_
  repeat' ((conv => whnf); first | (refine (And.intro (fun _ => ?_) (fun _ => ?_) : (_ → _) ∧ (_ → _)) <;> (first | (exfalso; first | contradiction | omega) | skip)) | refine Or.inl (And.intro (by first | exact inR_i64 (by omega) | exact inR_u32 (by omega) | exact inR_u64 (by omega) | exact inR_u8 (by omega)) ?_) | (refine And.intro (show (_ : Int) ≠ 0 by omega) (Or.inl (And.intro (show (0 : Int) ≤ _ by omega) (And.intro (show (0 : Int) < _ by omega) ?_)))) | (refine And.intro (show (_ : Int) ≠ 0 by omega) (Or.inl (And.intro (show (0 : Int) ≤ _ by omega) (And.intro (by first | exact (show (_ : Int) ≤ 9223372036854775807 by omega) | exact (show (_ : Int) ≤ 4294967295 by omega)) (And.intro (show (0 : Int) < _ by omega) ?_))))) | (refine Exists.intro [] (And.intro no_rl ((rthree_pure _ _ _ _).use (by repeat' first | exact trivial | exact rfl | exact Iff.rfl | exact Or.inl rfl | refine And.intro ?_ ?_) rfl rfl ?_))) | (refine Exists.intro [] (And.intro no_rl ((rimm_pure _ _ _).use (by repeat' first | exact trivial | exact rfl | exact Iff.rfl | exact Or.inl rfl | refine And.intro ?_ ?_) rfl rfl ?_))) | (refine Exists.intro [] (And.intro no_rl ((rnumber_pure _ _ hn).use (by repeat' first | exact trivial | exact rfl | exact Iff.rfl | exact Or.inl rfl | refine And.intro ?_ ?_) rfl rfl ?_))) | (refine And.intro (show (0 : Int) ≤ _ by omega) (And.intro (show _ < (_ : Int) by omega) ?_)) | (refine Or.inl (Exists.intro 1 (And.intro hk ?_))) | (refine retE ?_; (show _ = _); simp only [insL, threeF, memL, pairL, singL, testL, hk, ne_eq, reduceIte, Int.reduceEq, not_false_eq_true, not_true_eq_false, List.nil_append, List.append_nil]; try rfl) | (intro _))
set_option maxHeartbeats 4000000 in
set_option maxRecDepth 100000 in
theorem rins_2 (o : VO) (hk : o.kind = 2) (hn : 0 ≤ o.n ∧ o.n ≤ 4294967295) (hv : vnum o.kind o.n) : PureF gT 23 [voP o] (.sl 11 (insP (insL o))) := by
  refine Spec.enter gTok P23 100 Tryd.func23 rfl (by kernel_rfl) ?_
  repeat' ((conv => whnf); first | (refine (And.intro (fun _ => ?_) (fun _ => ?_) : (_ → _) ∧ (_ → _)) <;> (first | (exfalso; first | contradiction | omega) | skip)) | refine Or.inl (And.intro (by first | exact inR_i64 (by omega) | exact inR_u32 (by omega) | exact inR_u64 (by omega) | exact inR_u8 (by omega)) ?_) | (refine And.intro (show (_ : Int) ≠ 0 by omega) (Or.inl (And.intro (show (0 : Int) ≤ _ by omega) (And.intro (show (0 : Int) < _ by omega) ?_)))) | (refine And.intro (show (_ : Int) ≠ 0 by omega) (Or.inl (And.intro (show (0 : Int) ≤ _ by omega) (And.intro (by first | exact (show (_ : Int) ≤ 9223372036854775807 by omega) | exact (show (_ : Int) ≤ 4294967295 by omega)) (And.intro (show (0 : Int) < _ by omega) ?_))))) | (refine Exists.intro [] (And.intro no_rl ((rthree_pure _ _ _ _).use (by repeat' first | exact trivial | exact rfl | exact Iff.rfl | exact Or.inl rfl | refine And.intro ?_ ?_) rfl rfl ?_))) | (refine Exists.intro [] (And.intro no_rl ((rimm_pure _ _ _).use (by repeat' first | exact trivial | exact rfl | exact Iff.rfl | exact Or.inl rfl | refine And.intro ?_ ?_) rfl rfl ?_))) | (refine Exists.intro [] (And.intro no_rl ((rmem_2 o hk hn).use (by repeat' first | exact trivial | exact rfl | exact Iff.rfl | exact Or.inl rfl | refine And.intro ?_ ?_) rfl rfl ?_))) | (refine And.intro (show (0 : Int) ≤ _ by omega) (And.intro (show _ < (_ : Int) by omega) ?_)) | (refine Or.inl (Exists.intro 2 (And.intro hk ?_))) | (refine retE ?_; (show _ = _); simp only [insL, threeF, memL, pairL, singL, testL, hk, ne_eq, reduceIte, Int.reduceEq, not_false_eq_true, not_true_eq_false, List.nil_append, List.append_nil]; try rfl) | (intro _))
set_option maxHeartbeats 4000000 in
set_option maxRecDepth 100000 in
theorem rins_3 (o : VO) (hk : o.kind = 3) (hn : 0 ≤ o.n ∧ o.n ≤ 4294967295) (hv : vnum o.kind o.n) : PureF gT 23 [voP o] (.sl 11 (insP (insL o))) := by
  refine Spec.enter gTok P23 100 Tryd.func23 rfl (by kernel_rfl) ?_
  repeat' ((conv => whnf); first | (refine (And.intro (fun _ => ?_) (fun _ => ?_) : (_ → _) ∧ (_ → _)) <;> (first | (exfalso; first | contradiction | omega) | skip)) | refine Or.inl (And.intro (by first | exact inR_i64 (by omega) | exact inR_u32 (by omega) | exact inR_u64 (by omega) | exact inR_u8 (by omega)) ?_) | (refine And.intro (show (_ : Int) ≠ 0 by omega) (Or.inl (And.intro (show (0 : Int) ≤ _ by omega) (And.intro (show (0 : Int) < _ by omega) ?_)))) | (refine And.intro (show (_ : Int) ≠ 0 by omega) (Or.inl (And.intro (show (0 : Int) ≤ _ by omega) (And.intro (by first | exact (show (_ : Int) ≤ 9223372036854775807 by omega) | exact (show (_ : Int) ≤ 4294967295 by omega)) (And.intro (show (0 : Int) < _ by omega) ?_))))) | (refine Exists.intro [] (And.intro no_rl ((rthree_pure _ _ _ _).use (by repeat' first | exact trivial | exact rfl | exact Iff.rfl | exact Or.inl rfl | refine And.intro ?_ ?_) rfl rfl ?_))) | (refine Exists.intro [] (And.intro no_rl ((rimm_pure _ _ _).use (by repeat' first | exact trivial | exact rfl | exact Iff.rfl | exact Or.inl rfl | refine And.intro ?_ ?_) rfl rfl ?_))) | (refine Exists.intro [] (And.intro no_rl ((rmem_3 o hk hn).use (by repeat' first | exact trivial | exact rfl | exact Iff.rfl | exact Or.inl rfl | refine And.intro ?_ ?_) rfl rfl ?_))) | (refine And.intro (show (0 : Int) ≤ _ by omega) (And.intro (show _ < (_ : Int) by omega) ?_)) | (refine Or.inl (Exists.intro 3 (And.intro hk ?_))) | (refine retE ?_; (show _ = _); simp only [insL, threeF, memL, pairL, singL, testL, hk, ne_eq, reduceIte, Int.reduceEq, not_false_eq_true, not_true_eq_false, List.nil_append, List.append_nil]; try rfl) | (intro _))
set_option maxHeartbeats 4000000 in
set_option maxRecDepth 100000 in
theorem rins_4 (o : VO) (hk : o.kind = 4) (hn : 0 ≤ o.n ∧ o.n ≤ 4294967295) (hv : vnum o.kind o.n) : PureF gT 23 [voP o] (.sl 11 (insP (insL o))) := by
  refine Spec.enter gTok P23 100 Tryd.func23 rfl (by kernel_rfl) ?_
  repeat' ((conv => whnf); first | (refine (And.intro (fun _ => ?_) (fun _ => ?_) : (_ → _) ∧ (_ → _)) <;> (first | (exfalso; first | contradiction | omega) | skip)) | refine Or.inl (And.intro (by first | exact inR_i64 (by omega) | exact inR_u32 (by omega) | exact inR_u64 (by omega) | exact inR_u8 (by omega)) ?_) | (refine And.intro (show (_ : Int) ≠ 0 by omega) (Or.inl (And.intro (show (0 : Int) ≤ _ by omega) (And.intro (show (0 : Int) < _ by omega) ?_)))) | (refine And.intro (show (_ : Int) ≠ 0 by omega) (Or.inl (And.intro (show (0 : Int) ≤ _ by omega) (And.intro (by first | exact (show (_ : Int) ≤ 9223372036854775807 by omega) | exact (show (_ : Int) ≤ 4294967295 by omega)) (And.intro (show (0 : Int) < _ by omega) ?_))))) | (refine Exists.intro [] (And.intro no_rl ((rthree_pure _ _ _ _).use (by repeat' first | exact trivial | exact rfl | exact Iff.rfl | exact Or.inl rfl | refine And.intro ?_ ?_) rfl rfl ?_))) | (refine Exists.intro [] (And.intro no_rl ((rimm_pure _ _ _).use (by repeat' first | exact trivial | exact rfl | exact Iff.rfl | exact Or.inl rfl | refine And.intro ?_ ?_) rfl rfl ?_))) | (refine Exists.intro [] (And.intro no_rl ((rmem_4 o hk hn).use (by repeat' first | exact trivial | exact rfl | exact Iff.rfl | exact Or.inl rfl | refine And.intro ?_ ?_) rfl rfl ?_))) | (refine And.intro (show (0 : Int) ≤ _ by omega) (And.intro (show _ < (_ : Int) by omega) ?_)) | (refine Or.inl (Exists.intro 4 (And.intro hk ?_))) | (refine retE ?_; (show _ = _); simp only [insL, threeF, memL, pairL, singL, testL, hk, ne_eq, reduceIte, Int.reduceEq, not_false_eq_true, not_true_eq_false, List.nil_append, List.append_nil]; try rfl) | (intro _))
set_option maxHeartbeats 4000000 in
set_option maxRecDepth 100000 in
theorem rins_5 (o : VO) (hk : o.kind = 5) (hn : 0 ≤ o.n ∧ o.n ≤ 4294967295) (hv : vnum o.kind o.n) : PureF gT 23 [voP o] (.sl 11 (insP (insL o))) := by
  refine Spec.enter gTok P23 100 Tryd.func23 rfl (by kernel_rfl) ?_
  repeat' ((conv => whnf); first | (refine (And.intro (fun _ => ?_) (fun _ => ?_) : (_ → _) ∧ (_ → _)) <;> (first | (exfalso; first | contradiction | omega) | skip)) | refine Or.inl (And.intro (by first | exact inR_i64 (by omega) | exact inR_u32 (by omega) | exact inR_u64 (by omega) | exact inR_u8 (by omega)) ?_) | (refine And.intro (show (_ : Int) ≠ 0 by omega) (Or.inl (And.intro (show (0 : Int) ≤ _ by omega) (And.intro (show (0 : Int) < _ by omega) ?_)))) | (refine And.intro (show (_ : Int) ≠ 0 by omega) (Or.inl (And.intro (show (0 : Int) ≤ _ by omega) (And.intro (by first | exact (show (_ : Int) ≤ 9223372036854775807 by omega) | exact (show (_ : Int) ≤ 4294967295 by omega)) (And.intro (show (0 : Int) < _ by omega) ?_))))) | (refine Exists.intro [] (And.intro no_rl ((rthree_pure _ _ _ _).use (by repeat' first | exact trivial | exact rfl | exact Iff.rfl | exact Or.inl rfl | refine And.intro ?_ ?_) rfl rfl ?_))) | (refine Exists.intro [] (And.intro no_rl ((rimm_pure _ _ _).use (by repeat' first | exact trivial | exact rfl | exact Iff.rfl | exact Or.inl rfl | refine And.intro ?_ ?_) rfl rfl ?_))) | (refine Exists.intro [] (And.intro no_rl ((rmem_5 o hk hn).use (by repeat' first | exact trivial | exact rfl | exact Iff.rfl | exact Or.inl rfl | refine And.intro ?_ ?_) rfl rfl ?_))) | (refine And.intro (show (0 : Int) ≤ _ by omega) (And.intro (show _ < (_ : Int) by omega) ?_)) | (refine Or.inl (Exists.intro 5 (And.intro hk ?_))) | (refine retE ?_; (show _ = _); simp only [insL, threeF, memL, pairL, singL, testL, hk, ne_eq, reduceIte, Int.reduceEq, not_false_eq_true, not_true_eq_false, List.nil_append, List.append_nil]; try rfl) | (intro _))
set_option maxHeartbeats 4000000 in
set_option maxRecDepth 100000 in
theorem rins_6 (o : VO) (hk : o.kind = 6) (hn : 0 ≤ o.n ∧ o.n ≤ 4294967295) (hv : vnum o.kind o.n) : PureF gT 23 [voP o] (.sl 11 (insP (insL o))) := by
  refine Spec.enter gTok P23 100 Tryd.func23 rfl (by kernel_rfl) ?_
  repeat' ((conv => whnf); first | (refine (And.intro (fun _ => ?_) (fun _ => ?_) : (_ → _) ∧ (_ → _)) <;> (first | (exfalso; first | contradiction | omega) | skip)) | refine Or.inl (And.intro (by first | exact inR_i64 (by omega) | exact inR_u32 (by omega) | exact inR_u64 (by omega) | exact inR_u8 (by omega)) ?_) | (refine And.intro (show (_ : Int) ≠ 0 by omega) (Or.inl (And.intro (show (0 : Int) ≤ _ by omega) (And.intro (show (0 : Int) < _ by omega) ?_)))) | (refine And.intro (show (_ : Int) ≠ 0 by omega) (Or.inl (And.intro (show (0 : Int) ≤ _ by omega) (And.intro (by first | exact (show (_ : Int) ≤ 9223372036854775807 by omega) | exact (show (_ : Int) ≤ 4294967295 by omega)) (And.intro (show (0 : Int) < _ by omega) ?_))))) | (refine Exists.intro [] (And.intro no_rl ((rthree_pure _ _ _ _).use (by repeat' first | exact trivial | exact rfl | exact Iff.rfl | exact Or.inl rfl | refine And.intro ?_ ?_) rfl rfl ?_))) | (refine Exists.intro [] (And.intro no_rl ((rimm_pure _ _ _).use (by repeat' first | exact trivial | exact rfl | exact Iff.rfl | exact Or.inl rfl | refine And.intro ?_ ?_) rfl rfl ?_))) | (refine Exists.intro [] (And.intro no_rl ((rmem_6 o hk hn).use (by repeat' first | exact trivial | exact rfl | exact Iff.rfl | exact Or.inl rfl | refine And.intro ?_ ?_) rfl rfl ?_))) | (refine And.intro (show (0 : Int) ≤ _ by omega) (And.intro (show _ < (_ : Int) by omega) ?_)) | (refine Or.inl (Exists.intro 6 (And.intro hk ?_))) | (refine retE ?_; (show _ = _); simp only [insL, threeF, memL, pairL, singL, testL, hk, ne_eq, reduceIte, Int.reduceEq, not_false_eq_true, not_true_eq_false, List.nil_append, List.append_nil]; try rfl) | (intro _))
set_option maxHeartbeats 4000000 in
set_option maxRecDepth 100000 in
theorem rins_7 (o : VO) (hk : o.kind = 7) (hn : 0 ≤ o.n ∧ o.n ≤ 4294967295) (hv : vnum o.kind o.n) : PureF gT 23 [voP o] (.sl 11 (insP (insL o))) := by
  refine Spec.enter gTok P23 100 Tryd.func23 rfl (by kernel_rfl) ?_
  repeat' ((conv => whnf); first | (refine (And.intro (fun _ => ?_) (fun _ => ?_) : (_ → _) ∧ (_ → _)) <;> (first | (exfalso; first | contradiction | omega) | skip)) | refine Or.inl (And.intro (by first | exact inR_i64 (by omega) | exact inR_u32 (by omega) | exact inR_u64 (by omega) | exact inR_u8 (by omega)) ?_) | (refine And.intro (show (_ : Int) ≠ 0 by omega) (Or.inl (And.intro (show (0 : Int) ≤ _ by omega) (And.intro (show (0 : Int) < _ by omega) ?_)))) | (refine And.intro (show (_ : Int) ≠ 0 by omega) (Or.inl (And.intro (show (0 : Int) ≤ _ by omega) (And.intro (by first | exact (show (_ : Int) ≤ 9223372036854775807 by omega) | exact (show (_ : Int) ≤ 4294967295 by omega)) (And.intro (show (0 : Int) < _ by omega) ?_))))) | (refine Exists.intro [] (And.intro no_rl ((rthree_pure _ _ _ _).use (by repeat' first | exact trivial | exact rfl | exact Iff.rfl | exact Or.inl rfl | refine And.intro ?_ ?_) rfl rfl ?_))) | (refine Exists.intro [] (And.intro no_rl ((rimm_pure _ _ _).use (by repeat' first | exact trivial | exact rfl | exact Iff.rfl | exact Or.inl rfl | refine And.intro ?_ ?_) rfl rfl ?_))) | (refine And.intro (show (0 : Int) ≤ _ by omega) (And.intro (show _ < (_ : Int) by omega) ?_)) | (refine Or.inl (Exists.intro 7 (And.intro hk ?_))) | (refine retE ?_; (show _ = _); simp only [insL, threeF, memL, pairL, singL, testL, hk, ne_eq, reduceIte, Int.reduceEq, not_false_eq_true, not_true_eq_false, List.nil_append, List.append_nil]; try rfl) | (intro _))
set_option maxHeartbeats 4000000 in
set_option maxRecDepth 100000 in
theorem rins_8 (o : VO) (hk : o.kind = 8) (hn : 0 ≤ o.n ∧ o.n ≤ 4294967295) (hv : vnum o.kind o.n) : PureF gT 23 [voP o] (.sl 11 (insP (insL o))) := by
  refine Spec.enter gTok P23 100 Tryd.func23 rfl (by kernel_rfl) ?_
  repeat' ((conv => whnf); first | (refine (And.intro (fun _ => ?_) (fun _ => ?_) : (_ → _) ∧ (_ → _)) <;> (first | (exfalso; first | contradiction | omega) | skip)) | refine Or.inl (And.intro (by first | exact inR_i64 (by omega) | exact inR_u32 (by omega) | exact inR_u64 (by omega) | exact inR_u8 (by omega)) ?_) | (refine And.intro (show (_ : Int) ≠ 0 by omega) (Or.inl (And.intro (show (0 : Int) ≤ _ by omega) (And.intro (show (0 : Int) < _ by omega) ?_)))) | (refine And.intro (show (_ : Int) ≠ 0 by omega) (Or.inl (And.intro (show (0 : Int) ≤ _ by omega) (And.intro (by first | exact (show (_ : Int) ≤ 9223372036854775807 by omega) | exact (show (_ : Int) ≤ 4294967295 by omega)) (And.intro (show (0 : Int) < _ by omega) ?_))))) | (refine Exists.intro [] (And.intro no_rl ((rthree_pure _ _ _ _).use (by repeat' first | exact trivial | exact rfl | exact Iff.rfl | exact Or.inl rfl | refine And.intro ?_ ?_) rfl rfl ?_))) | (refine Exists.intro [] (And.intro no_rl ((rimm_pure _ _ _).use (by repeat' first | exact trivial | exact rfl | exact Iff.rfl | exact Or.inl rfl | refine And.intro ?_ ?_) rfl rfl ?_))) | (refine And.intro (show (0 : Int) ≤ _ by omega) (And.intro (show _ < (_ : Int) by omega) ?_)) | (refine Or.inl (Exists.intro 8 (And.intro hk ?_))) | (refine retE ?_; (show _ = _); simp only [insL, threeF, memL, pairL, singL, testL, hk, ne_eq, reduceIte, Int.reduceEq, not_false_eq_true, not_true_eq_false, List.nil_append, List.append_nil]; try rfl) | (intro _))
set_option maxHeartbeats 4000000 in
set_option maxRecDepth 100000 in
theorem rins_9 (o : VO) (hk : o.kind = 9) (hn : 0 ≤ o.n ∧ o.n ≤ 4294967295) (hv : vnum o.kind o.n) : PureF gT 23 [voP o] (.sl 11 (insP (insL o))) := by
  refine Spec.enter gTok P23 100 Tryd.func23 rfl (by kernel_rfl) ?_
  repeat' ((conv => whnf); first | (refine (And.intro (fun _ => ?_) (fun _ => ?_) : (_ → _) ∧ (_ → _)) <;> (first | (exfalso; first | contradiction | omega) | skip)) | refine Or.inl (And.intro (by first | exact inR_i64 (by omega) | exact inR_u32 (by omega) | exact inR_u64 (by omega) | exact inR_u8 (by omega)) ?_) | (refine And.intro (show (_ : Int) ≠ 0 by omega) (Or.inl (And.intro (show (0 : Int) ≤ _ by omega) (And.intro (show (0 : Int) < _ by omega) ?_)))) | (refine And.intro (show (_ : Int) ≠ 0 by omega) (Or.inl (And.intro (show (0 : Int) ≤ _ by omega) (And.intro (by first | exact (show (_ : Int) ≤ 9223372036854775807 by omega) | exact (show (_ : Int) ≤ 4294967295 by omega)) (And.intro (show (0 : Int) < _ by omega) ?_))))) | (refine Exists.intro [] (And.intro no_rl ((rthree_pure _ _ _ _).use (by repeat' first | exact trivial | exact rfl | exact Iff.rfl | exact Or.inl rfl | refine And.intro ?_ ?_) rfl rfl ?_))) | (refine Exists.intro [] (And.intro no_rl ((rimm_pure _ _ _).use (by repeat' first | exact trivial | exact rfl | exact Iff.rfl | exact Or.inl rfl | refine And.intro ?_ ?_) rfl rfl ?_))) | (refine And.intro (show (0 : Int) ≤ _ by omega) (And.intro (show _ < (_ : Int) by omega) ?_)) | (refine Or.inl (Exists.intro 9 (And.intro hk ?_))) | (refine retE ?_; (show _ = _); simp only [insL, threeF, memL, pairL, singL, testL, hk, ne_eq, reduceIte, Int.reduceEq, not_false_eq_true, not_true_eq_false, List.nil_append, List.append_nil]; try rfl) | (intro _))
set_option maxHeartbeats 4000000 in
set_option maxRecDepth 100000 in
theorem rins_10 (o : VO) (hk : o.kind = 10) (hn : 0 ≤ o.n ∧ o.n ≤ 4294967295) (hv : vnum o.kind o.n) : PureF gT 23 [voP o] (.sl 11 (insP (insL o))) := by
  refine Spec.enter gTok P23 100 Tryd.func23 rfl (by kernel_rfl) ?_
  repeat' ((conv => whnf); first | (refine (And.intro (fun _ => ?_) (fun _ => ?_) : (_ → _) ∧ (_ → _)) <;> (first | (exfalso; first | contradiction | omega) | skip)) | refine Or.inl (And.intro (by first | exact inR_i64 (by omega) | exact inR_u32 (by omega) | exact inR_u64 (by omega) | exact inR_u8 (by omega)) ?_) | (refine And.intro (show (_ : Int) ≠ 0 by omega) (Or.inl (And.intro (show (0 : Int) ≤ _ by omega) (And.intro (show (0 : Int) < _ by omega) ?_)))) | (refine And.intro (show (_ : Int) ≠ 0 by omega) (Or.inl (And.intro (show (0 : Int) ≤ _ by omega) (And.intro (by first | exact (show (_ : Int) ≤ 9223372036854775807 by omega) | exact (show (_ : Int) ≤ 4294967295 by omega)) (And.intro (show (0 : Int) < _ by omega) ?_))))) | (refine Exists.intro [] (And.intro no_rl ((rthree_pure _ _ _ _).use (by repeat' first | exact trivial | exact rfl | exact Iff.rfl | exact Or.inl rfl | refine And.intro ?_ ?_) rfl rfl ?_))) | (refine Exists.intro [] (And.intro no_rl ((rimm_pure _ _ _).use (by repeat' first | exact trivial | exact rfl | exact Iff.rfl | exact Or.inl rfl | refine And.intro ?_ ?_) rfl rfl ?_))) | (refine And.intro (show (0 : Int) ≤ _ by omega) (And.intro (show _ < (_ : Int) by omega) ?_)) | (refine Or.inl (Exists.intro 10 (And.intro hk ?_))) | (refine retE ?_; (show _ = _); simp only [insL, threeF, memL, pairL, singL, testL, hk, ne_eq, reduceIte, Int.reduceEq, not_false_eq_true, not_true_eq_false, List.nil_append, List.append_nil]; try rfl) | (intro _))
set_option maxHeartbeats 4000000 in
set_option maxRecDepth 100000 in
theorem rins_11 (o : VO) (hk : o.kind = 11) (hn : 0 ≤ o.n ∧ o.n ≤ 4294967295) (hv : vnum o.kind o.n) : PureF gT 23 [voP o] (.sl 11 (insP (insL o))) := by
  refine Spec.enter gTok P23 100 Tryd.func23 rfl (by kernel_rfl) ?_
  repeat' ((conv => whnf); first | (refine (And.intro (fun _ => ?_) (fun _ => ?_) : (_ → _) ∧ (_ → _)) <;> (first | (exfalso; first | contradiction | omega) | skip)) | refine Or.inl (And.intro (by first | exact inR_i64 (by omega) | exact inR_u32 (by omega) | exact inR_u64 (by omega) | exact inR_u8 (by omega)) ?_) | (refine And.intro (show (_ : Int) ≠ 0 by omega) (Or.inl (And.intro (show (0 : Int) ≤ _ by omega) (And.intro (show (0 : Int) < _ by omega) ?_)))) | (refine And.intro (show (_ : Int) ≠ 0 by omega) (Or.inl (And.intro (show (0 : Int) ≤ _ by omega) (And.intro (by first | exact (show (_ : Int) ≤ 9223372036854775807 by omega) | exact (show (_ : Int) ≤ 4294967295 by omega)) (And.intro (show (0 : Int) < _ by omega) ?_))))) | (refine Exists.intro [] (And.intro no_rl ((rthree_pure _ _ _ _).use (by repeat' first | exact trivial | exact rfl | exact Iff.rfl | exact Or.inl rfl | refine And.intro ?_ ?_) rfl rfl ?_))) | (refine Exists.intro [] (And.intro no_rl ((rimm_pure _ _ _).use (by repeat' first | exact trivial | exact rfl | exact Iff.rfl | exact Or.inl rfl | refine And.intro ?_ ?_) rfl rfl ?_))) | (refine And.intro (show (0 : Int) ≤ _ by omega) (And.intro (show _ < (_ : Int) by omega) ?_)) | (refine Or.inl (Exists.intro 11 (And.intro hk ?_))) | (refine retE ?_; (show _ = _); simp only [insL, threeF, memL, pairL, singL, testL, hk, ne_eq, reduceIte, Int.reduceEq, not_false_eq_true, not_true_eq_false, List.nil_append, List.append_nil]; try rfl) | (intro _))
set_option maxHeartbeats 4000000 in
set_option maxRecDepth 100000 in
theorem rins_12 (o : VO) (hk : o.kind = 12) (hn : 0 ≤ o.n ∧ o.n ≤ 4294967295) (hv : vnum o.kind o.n) : PureF gT 23 [voP o] (.sl 11 (insP (insL o))) := by
  refine Spec.enter gTok P23 100 Tryd.func23 rfl (by kernel_rfl) ?_
  repeat' ((conv => whnf); first | (refine (And.intro (fun _ => ?_) (fun _ => ?_) : (_ → _) ∧ (_ → _)) <;> (first | (exfalso; first | contradiction | omega) | skip)) | refine Or.inl (And.intro (by first | exact inR_i64 (by omega) | exact inR_u32 (by omega) | exact inR_u64 (by omega) | exact inR_u8 (by omega)) ?_) | (refine And.intro (show (_ : Int) ≠ 0 by omega) (Or.inl (And.intro (show (0 : Int) ≤ _ by omega) (And.intro (show (0 : Int) < _ by omega) ?_)))) | (refine And.intro (show (_ : Int) ≠ 0 by omega) (Or.inl (And.intro (show (0 : Int) ≤ _ by omega) (And.intro (by first | exact (show (_ : Int) ≤ 9223372036854775807 by omega) | exact (show (_ : Int) ≤ 4294967295 by omega)) (And.intro (show (0 : Int) < _ by omega) ?_))))) | (refine Exists.intro [] (And.intro no_rl ((rthree_pure _ _ _ _).use (by repeat' first | exact trivial | exact rfl | exact Iff.rfl | exact Or.inl rfl | refine And.intro ?_ ?_) rfl rfl ?_))) | (refine Exists.intro [] (And.intro no_rl ((rimm_pure _ _ _).use (by repeat' first | exact trivial | exact rfl | exact Iff.rfl | exact Or.inl rfl | refine And.intro ?_ ?_) rfl rfl ?_))) | (refine And.intro (show (0 : Int) ≤ _ by omega) (And.intro (show _ < (_ : Int) by omega) ?_)) | (refine Or.inl (Exists.intro 12 (And.intro hk ?_))) | (refine retE ?_; (show _ = _); simp only [insL, threeF, memL, pairL, singL, testL, hk, ne_eq, reduceIte, Int.reduceEq, not_false_eq_true, not_true_eq_false, List.nil_append, List.append_nil]; try rfl) | (intro _))
set_option maxHeartbeats 4000000 in
set_option maxRecDepth 100000 in
theorem rins_13 (o : VO) (hk : o.kind = 13) (hn : 0 ≤ o.n ∧ o.n ≤ 4294967295) (hv : vnum o.kind o.n) : PureF gT 23 [voP o] (.sl 11 (insP (insL o))) := by
  refine Spec.enter gTok P23 100 Tryd.func23 rfl (by kernel_rfl) ?_
  repeat' ((conv => whnf); first | (refine (And.intro (fun _ => ?_) (fun _ => ?_) : (_ → _) ∧ (_ → _)) <;> (first | (exfalso; first | contradiction | omega) | skip)) | refine Or.inl (And.intro (by first | exact inR_i64 (by omega) | exact inR_u32 (by omega) | exact inR_u64 (by omega) | exact inR_u8 (by omega)) ?_) | (refine And.intro (show (_ : Int) ≠ 0 by omega) (Or.inl (And.intro (show (0 : Int) ≤ _ by omega) (And.intro (show (0 : Int) < _ by omega) ?_)))) | (refine And.intro (show (_ : Int) ≠ 0 by omega) (Or.inl (And.intro (show (0 : Int) ≤ _ by omega) (And.intro (by first | exact (show (_ : Int) ≤ 9223372036854775807 by omega) | exact (show (_ : Int) ≤ 4294967295 by omega)) (And.intro (show (0 : Int) < _ by omega) ?_))))) | (refine Exists.intro [] (And.intro no_rl ((rthree_pure _ _ _ _).use (by repeat' first | exact trivial | exact rfl | exact Iff.rfl | exact Or.inl rfl | refine And.intro ?_ ?_) rfl rfl ?_))) | (refine Exists.intro [] (And.intro no_rl ((rimm_pure _ _ _).use (by repeat' first | exact trivial | exact rfl | exact Iff.rfl | exact Or.inl rfl | refine And.intro ?_ ?_) rfl rfl ?_))) | (refine And.intro (show (0 : Int) ≤ _ by omega) (And.intro (show _ < (_ : Int) by omega) ?_)) | (refine Or.inl (Exists.intro 13 (And.intro hk ?_))) | (refine retE ?_; (show _ = _); simp only [insL, threeF, memL, pairL, singL, testL, hk, ne_eq, reduceIte, Int.reduceEq, not_false_eq_true, not_true_eq_false, List.nil_append, List.append_nil]; try rfl) | (intro _))
set_option maxHeartbeats 4000000 in
set_option maxRecDepth 100000 in
theorem rins_14 (o : VO) (hk : o.kind = 14) (hn : 0 ≤ o.n ∧ o.n ≤ 4294967295) (hv : vnum o.kind o.n) : PureF gT 23 [voP o] (.sl 11 (insP (insL o))) := by
  refine Spec.enter gTok P23 100 Tryd.func23 rfl (by kernel_rfl) ?_
  repeat' ((conv => whnf); first | (refine (And.intro (fun _ => ?_) (fun _ => ?_) : (_ → _) ∧ (_ → _)) <;> (first | (exfalso; first | contradiction | omega) | skip)) | refine Or.inl (And.intro (by first | exact inR_i64 (by omega) | exact inR_u32 (by omega) | exact inR_u64 (by omega) | exact inR_u8 (by omega)) ?_) | (refine And.intro (show (_ : Int) ≠ 0 by omega) (Or.inl (And.intro (show (0 : Int) ≤ _ by omega) (And.intro (show (0 : Int) < _ by omega) ?_)))) | (refine And.intro (show (_ : Int) ≠ 0 by omega) (Or.inl (And.intro (show (0 : Int) ≤ _ by omega) (And.intro (by first | exact (show (_ : Int) ≤ 9223372036854775807 by omega) | exact (show (_ : Int) ≤ 4294967295 by omega)) (And.intro (show (0 : Int) < _ by omega) ?_))))) | (refine Exists.intro [] (And.intro no_rl ((rthree_pure _ _ _ _).use (by repeat' first | exact trivial | exact rfl | exact Iff.rfl | exact Or.inl rfl | refine And.intro ?_ ?_) rfl rfl ?_))) | (refine Exists.intro [] (And.intro no_rl ((rimm_pure _ _ _).use (by repeat' first | exact trivial | exact rfl | exact Iff.rfl | exact Or.inl rfl | refine And.intro ?_ ?_) rfl rfl ?_))) | (refine And.intro (show (0 : Int) ≤ _ by omega) (And.intro (show _ < (_ : Int) by omega) ?_)) | (refine Or.inl (Exists.intro 14 (And.intro hk ?_))) | (refine retE ?_; (show _ = _); simp only [insL, threeF, memL, pairL, singL, testL, hk, ne_eq, reduceIte, Int.reduceEq, not_false_eq_true, not_true_eq_false, List.nil_append, List.append_nil]; try rfl) | (intro _))
set_option maxHeartbeats 4000000 in
set_option maxRecDepth 100000 in
theorem rins_15 (o : VO) (hk : o.kind = 15) (hn : 0 ≤ o.n ∧ o.n ≤ 4294967295) (hv : vnum o.kind o.n) : PureF gT 23 [voP o] (.sl 11 (insP (insL o))) := by
  refine Spec.enter gTok P23 100 Tryd.func23 rfl (by kernel_rfl) ?_
  repeat' ((conv => whnf); first | (refine (And.intro (fun _ => ?_) (fun _ => ?_) : (_ → _) ∧ (_ → _)) <;> (first | (exfalso; first | contradiction | omega) | skip)) | refine Or.inl (And.intro (by first | exact inR_i64 (by omega) | exact inR_u32 (by omega) | exact inR_u64 (by omega) | exact inR_u8 (by omega)) ?_) | (refine And.intro (show (_ : Int) ≠ 0 by omega) (Or.inl (And.intro (show (0 : Int) ≤ _ by omega) (And.intro (show (0 : Int) < _ by omega) ?_)))) | (refine And.intro (show (_ : Int) ≠ 0 by omega) (Or.inl (And.intro (show (0 : Int) ≤ _ by omega) (And.intro (by first | exact (show (_ : Int) ≤ 9223372036854775807 by omega) | exact (show (_ : Int) ≤ 4294967295 by omega)) (And.intro (show (0 : Int) < _ by omega) ?_))))) | (refine Exists.intro [] (And.intro no_rl ((rthree_pure _ _ _ _).use (by repeat' first | exact trivial | exact rfl | exact Iff.rfl | exact Or.inl rfl | refine And.intro ?_ ?_) rfl rfl ?_))) | (refine Exists.intro [] (And.intro no_rl ((rimm_pure _ _ _).use (by repeat' first | exact trivial | exact rfl | exact Iff.rfl | exact Or.inl rfl | refine And.intro ?_ ?_) rfl rfl ?_))) | (refine And.intro (show (0 : Int) ≤ _ by omega) (And.intro (show _ < (_ : Int) by omega) ?_)) | (refine Or.inl (Exists.intro 15 (And.intro hk ?_))) | (refine retE ?_; (show _ = _); simp only [insL, threeF, memL, pairL, singL, testL, hk, ne_eq, reduceIte, Int.reduceEq, not_false_eq_true, not_true_eq_false, List.nil_append, List.append_nil]; try rfl) | (intro _))
set_option maxHeartbeats 4000000 in
set_option maxRecDepth 100000 in
theorem rins_16 (o : VO) (hk : o.kind = 16) (hn : 0 ≤ o.n ∧ o.n ≤ 4294967295) (hv : vnum o.kind o.n) : PureF gT 23 [voP o] (.sl 11 (insP (insL o))) := by
  refine Spec.enter gTok P23 100 Tryd.func23 rfl (by kernel_rfl) ?_
  repeat' ((conv => whnf); first | (refine (And.intro (fun _ => ?_) (fun _ => ?_) : (_ → _) ∧ (_ → _)) <;> (first | (exfalso; first | contradiction | omega) | skip)) | refine Or.inl (And.intro (by first | exact inR_i64 (by omega) | exact inR_u32 (by omega) | exact inR_u64 (by omega) | exact inR_u8 (by omega)) ?_) | (refine And.intro (show (_ : Int) ≠ 0 by omega) (Or.inl (And.intro (show (0 : Int) ≤ _ by omega) (And.intro (show (0 : Int) < _ by omega) ?_)))) | (refine And.intro (show (_ : Int) ≠ 0 by omega) (Or.inl (And.intro (show (0 : Int) ≤ _ by omega) (And.intro (by first | exact (show (_ : Int) ≤ 9223372036854775807 by omega) | exact (show (_ : Int) ≤ 4294967295 by omega)) (And.intro (show (0 : Int) < _ by omega) ?_))))) | (refine Exists.intro [] (And.intro no_rl ((rthree_pure _ _ _ _).use (by repeat' first | exact trivial | exact rfl | exact Iff.rfl | exact Or.inl rfl | refine And.intro ?_ ?_) rfl rfl ?_))) | (refine Exists.intro [] (And.intro no_rl ((rimm_pure _ _ _).use (by repeat' first | exact trivial | exact rfl | exact Iff.rfl | exact Or.inl rfl | refine And.intro ?_ ?_) rfl rfl ?_))) | (refine Exists.intro [] (And.intro no_rl ((rsing_16 o hk hn).use (by repeat' first | exact trivial | exact rfl | exact Iff.rfl | exact Or.inl rfl | refine And.intro ?_ ?_) rfl rfl ?_))) | (refine And.intro (show (0 : Int) ≤ _ by omega) (And.intro (show _ < (_ : Int) by omega) ?_)) | (refine Or.inl (Exists.intro 16 (And.intro hk ?_))) | (refine retE ?_; (show _ = _); simp only [insL, threeF, memL, pairL, singL, testL, hk, ne_eq, reduceIte, Int.reduceEq, not_false_eq_true, not_true_eq_false, List.nil_append, List.append_nil]; try rfl) | (intro _))
set_option maxHeartbeats 4000000 in
set_option maxRecDepth 100000 in
theorem rins_17 (o : VO) (hk : o.kind = 17) (hn : 0 ≤ o.n ∧ o.n ≤ 4294967295) (hv : vnum o.kind o.n) : PureF gT 23 [voP o] (.sl 11 (insP (insL o))) := by
  refine Spec.enter gTok P23 100 Tryd.func23 rfl (by kernel_rfl) ?_
  repeat' ((conv => whnf); first | (refine (And.intro (fun _ => ?_) (fun _ => ?_) : (_ → _) ∧ (_ → _)) <;> (first | (exfalso; first | contradiction | omega) | skip)) | refine Or.inl (And.intro (by first | exact inR_i64 (by omega) | exact inR_u32 (by omega) | exact inR_u64 (by omega) | exact inR_u8 (by omega)) ?_) | (refine And.intro (show (_ : Int) ≠ 0 by omega) (Or.inl (And.intro (show (0 : Int) ≤ _ by omega) (And.intro (show (0 : Int) < _ by omega) ?_)))) | (refine And.intro (show (_ : Int) ≠ 0 by omega) (Or.inl (And.intro (show (0 : Int) ≤ _ by omega) (And.intro (by first | exact (show (_ : Int) ≤ 9223372036854775807 by omega) | exact (show (_ : Int) ≤ 4294967295 by omega)) (And.intro (show (0 : Int) < _ by omega) ?_))))) | (refine Exists.intro [] (And.intro no_rl ((rthree_pure _ _ _ _).use (by repeat' first | exact trivial | exact rfl | exact Iff.rfl | exact Or.inl rfl | refine And.intro ?_ ?_) rfl rfl ?_))) | (refine Exists.intro [] (And.intro no_rl ((rimm_pure _ _ _).use (by repeat' first | exact trivial | exact rfl | exact Iff.rfl | exact Or.inl rfl | refine And.intro ?_ ?_) rfl rfl ?_))) | (refine Exists.intro [] (And.intro no_rl ((rsing_17 o hk hn).use (by repeat' first | exact trivial | exact rfl | exact Iff.rfl | exact Or.inl rfl | refine And.intro ?_ ?_) rfl rfl ?_))) | (refine And.intro (show (0 : Int) ≤ _ by omega) (And.intro (show _ < (_ : Int) by omega) ?_)) | (refine Or.inl (Exists.intro 17 (And.intro hk ?_))) | (refine retE ?_; (show _ = _); simp only [insL, threeF, memL, pairL, singL, testL, hk, ne_eq, reduceIte, Int.reduceEq, not_false_eq_true, not_true_eq_false, List.nil_append, List.append_nil]; try rfl) | (intro _))
set_option maxHeartbeats 4000000 in
set_option maxRecDepth 100000 in
theorem rins_18 (o : VO) (hk : o.kind = 18) (hn : 0 ≤ o.n ∧ o.n ≤ 4294967295) (hv : vnum o.kind o.n) : PureF gT 23 [voP o] (.sl 11 (insP (insL o))) := by
  refine Spec.enter gTok P23 100 Tryd.func23 rfl (by kernel_rfl) ?_
  repeat' ((conv => whnf); first | (refine (And.intro (fun _ => ?_) (fun _ => ?_) : (_ → _) ∧ (_ → _)) <;> (first | (exfalso; first | contradiction | omega) | skip)) | refine Or.inl (And.intro (by first | exact inR_i64 (by omega) | exact inR_u32 (by omega) | exact inR_u64 (by omega) | exact inR_u8 (by omega)) ?_) | (refine And.intro (show (_ : Int) ≠ 0 by omega) (Or.inl (And.intro (show (0 : Int) ≤ _ by omega) (And.intro (show (0 : Int) < _ by omega) ?_)))) | (refine And.intro (show (_ : Int) ≠ 0 by omega) (Or.inl (And.intro (show (0 : Int) ≤ _ by omega) (And.intro (by first | exact (show (_ : Int) ≤ 9223372036854775807 by omega) | exact (show (_ : Int) ≤ 4294967295 by omega)) (And.intro (show (0 : Int) < _ by omega) ?_))))) | (refine Exists.intro [] (And.intro no_rl ((rthree_pure _ _ _ _).use (by repeat' first | exact trivial | exact rfl | exact Iff.rfl | exact Or.inl rfl | refine And.intro ?_ ?_) rfl rfl ?_))) | (refine Exists.intro [] (And.intro no_rl ((rimm_pure _ _ _).use (by repeat' first | exact trivial | exact rfl | exact Iff.rfl | exact Or.inl rfl | refine And.intro ?_ ?_) rfl rfl ?_))) | (refine Exists.intro [] (And.intro no_rl ((rsing_18 o hk hn).use (by repeat' first | exact trivial | exact rfl | exact Iff.rfl | exact Or.inl rfl | refine And.intro ?_ ?_) rfl rfl ?_))) | (refine And.intro (show (0 : Int) ≤ _ by omega) (And.intro (show _ < (_ : Int) by omega) ?_)) | (refine Or.inl (Exists.intro 18 (And.intro hk ?_))) | (refine retE ?_; (show _ = _); simp only [insL, threeF, memL, pairL, singL, testL, hk, ne_eq, reduceIte, Int.reduceEq, not_false_eq_true, not_true_eq_false, List.nil_append, List.append_nil]; try rfl) | (intro _))
set_option maxHeartbeats 4000000 in
set_option maxRecDepth 100000 in
theorem rins_19 (o : VO) (hk : o.kind = 19) (hn : 0 ≤ o.n ∧ o.n ≤ 4294967295) (hv : vnum o.kind o.n) : PureF gT 23 [voP o] (.sl 11 (insP (insL o))) := by
  refine Spec.enter gTok P23 100 Tryd.func23 rfl (by kernel_rfl) ?_
  repeat' ((conv => whnf); first | (refine (And.intro (fun _ => ?_) (fun _ => ?_) : (_ → _) ∧ (_ → _)) <;> (first | (exfalso; first | contradiction | omega) | skip)) | refine Or.inl (And.intro (by first | exact inR_i64 (by omega) | exact inR_u32 (by omega) | exact inR_u64 (by omega) | exact inR_u8 (by omega)) ?_) | (refine And.intro (show (_ : Int) ≠ 0 by omega) (Or.inl (And.intro (show (0 : Int) ≤ _ by omega) (And.intro (show (0 : Int) < _ by omega) ?_)))) | (refine And.intro (show (_ : Int) ≠ 0 by omega) (Or.inl (And.intro (show (0 : Int) ≤ _ by omega) (And.intro (by first | exact (show (_ : Int) ≤ 9223372036854775807 by omega) | exact (show (_ : Int) ≤ 4294967295 by omega)) (And.intro (show (0 : Int) < _ by omega) ?_))))) | (refine Exists.intro [] (And.intro no_rl ((rthree_pure _ _ _ _).use (by repeat' first | exact trivial | exact rfl | exact Iff.rfl | exact Or.inl rfl | refine And.intro ?_ ?_) rfl rfl ?_))) | (refine Exists.intro [] (And.intro no_rl ((rimm_pure _ _ _).use (by repeat' first | exact trivial | exact rfl | exact Iff.rfl | exact Or.inl rfl | refine And.intro ?_ ?_) rfl rfl ?_))) | (refine Exists.intro [] (And.intro no_rl ((rsing_19 o hk hn).use (by repeat' first | exact trivial | exact rfl | exact Iff.rfl | exact Or.inl rfl | refine And.intro ?_ ?_) rfl rfl ?_))) | (refine And.intro (show (0 : Int) ≤ _ by omega) (And.intro (show _ < (_ : Int) by omega) ?_)) | (refine Or.inl (Exists.intro 19 (And.intro hk ?_))) | (refine retE ?_; (show _ = _); simp only [insL, threeF, memL, pairL, singL, testL, hk, ne_eq, reduceIte, Int.reduceEq, not_false_eq_true, not_true_eq_false, List.nil_append, List.append_nil]; try rfl) | (intro _))
set_option maxHeartbeats 4000000 in
set_option maxRecDepth 100000 in
theorem rins_20 (o : VO) (hk : o.kind = 20) (hn : 0 ≤ o.n ∧ o.n ≤ 4294967295) (hv : vnum o.kind o.n) : PureF gT 23 [voP o] (.sl 11 (insP (insL o))) := by
  refine Spec.enter gTok P23 100 Tryd.func23 rfl (by kernel_rfl) ?_
  repeat' ((conv => whnf); first | (refine (And.intro (fun _ => ?_) (fun _ => ?_) : (_ → _) ∧ (_ → _)) <;> (first | (exfalso; first | contradiction | omega) | skip)) | refine Or.inl (And.intro (by first | exact inR_i64 (by omega) | exact inR_u32 (by omega) | exact inR_u64 (by omega) | exact inR_u8 (by omega)) ?_) | (refine And.intro (show (_ : Int) ≠ 0 by omega) (Or.inl (And.intro (show (0 : Int) ≤ _ by omega) (And.intro (show (0 : Int) < _ by omega) ?_)))) | (refine And.intro (show (_ : Int) ≠ 0 by omega) (Or.inl (And.intro (show (0 : Int) ≤ _ by omega) (And.intro (by first | exact (show (_ : Int) ≤ 9223372036854775807 by omega) | exact (show (_ : Int) ≤ 4294967295 by omega)) (And.intro (show (0 : Int) < _ by omega) ?_))))) | (refine Exists.intro [] (And.intro no_rl ((rthree_pure _ _ _ _).use (by repeat' first | exact trivial | exact rfl | exact Iff.rfl | exact Or.inl rfl | refine And.intro ?_ ?_) rfl rfl ?_))) | (refine Exists.intro [] (And.intro no_rl ((rimm_pure _ _ _).use (by repeat' first | exact trivial | exact rfl | exact Iff.rfl | exact Or.inl rfl | refine And.intro ?_ ?_) rfl rfl ?_))) | (refine Exists.intro [] (And.intro no_rl ((rsing_20 o hk hn).use (by repeat' first | exact trivial | exact rfl | exact Iff.rfl | exact Or.inl rfl | refine And.intro ?_ ?_) rfl rfl ?_))) | (refine And.intro (show (0 : Int) ≤ _ by omega) (And.intro (show _ < (_ : Int) by omega) ?_)) | (refine Or.inl (Exists.intro 20 (And.intro hk ?_))) | (refine retE ?_; (show _ = _); simp only [insL, threeF, memL, pairL, singL, testL, hk, ne_eq, reduceIte, Int.reduceEq, not_false_eq_true, not_true_eq_false, List.nil_append, List.append_nil]; try rfl) | (intro _))
set_option maxHeartbeats 4000000 in
set_option maxRecDepth 100000 in
theorem rins_21 (o : VO) (hk : o.kind = 21) (hn : 0 ≤ o.n ∧ o.n ≤ 4294967295) (hv : vnum o.kind o.n) : PureF gT 23 [voP o] (.sl 11 (insP (insL o))) := by
  refine Spec.enter gTok P23 100 Tryd.func23 rfl (by kernel_rfl) ?_
  repeat' ((conv => whnf); first | (refine (And.intro (fun _ => ?_) (fun _ => ?_) : (_ → _) ∧ (_ → _)) <;> (first | (exfalso; first | contradiction | omega) | skip)) | refine Or.inl (And.intro (by first | exact inR_i64 (by omega) | exact inR_u32 (by omega) | exact inR_u64 (by omega) | exact inR_u8 (by omega)) ?_) | (refine And.intro (show (_ : Int) ≠ 0 by omega) (Or.inl (And.intro (show (0 : Int) ≤ _ by omega) (And.intro (show (0 : Int) < _ by omega) ?_)))) | (refine And.intro (show (_ : Int) ≠ 0 by omega) (Or.inl (And.intro (show (0 : Int) ≤ _ by omega) (And.intro (by first | exact (show (_ : Int) ≤ 9223372036854775807 by omega) | exact (show (_ : Int) ≤ 4294967295 by omega)) (And.intro (show (0 : Int) < _ by omega) ?_))))) | (refine Exists.intro [] (And.intro no_rl ((rthree_pure _ _ _ _).use (by repeat' first | exact trivial | exact rfl | exact Iff.rfl | exact Or.inl rfl | refine And.intro ?_ ?_) rfl rfl ?_))) | (refine Exists.intro [] (And.intro no_rl ((rimm_pure _ _ _).use (by repeat' first | exact trivial | exact rfl | exact Iff.rfl | exact Or.inl rfl | refine And.intro ?_ ?_) rfl rfl ?_))) | (refine And.intro (show (0 : Int) ≤ _ by omega) (And.intro (show _ < (_ : Int) by omega) ?_)) | (refine Or.inl (Exists.intro 21 (And.intro hk ?_))) | (refine Exists.intro [] (And.intro no_rl (Spec.enter gTok P60 100 Tryd.func60 rfl (by kernel_rfl) ?_))) | (refine retE ?_; (show _ = _); simp only [insL, threeF, memL, pairL, singL, testL, hk, ne_eq, reduceIte, Int.reduceEq, not_false_eq_true, not_true_eq_false, List.nil_append, List.append_nil]; try rfl) | (refine Exists.intro _ (And.intro (PLe.refl _) ?_)) | (intro _))
set_option maxHeartbeats 4000000 in
set_option maxRecDepth 100000 in
theorem rins_22 (o : VO) (hk : o.kind = 22) (hn : 0 ≤ o.n ∧ o.n ≤ 4294967295) (hv : vnum o.kind o.n) : PureF gT 23 [voP o] (.sl 11 (insP (insL o))) := by
  refine Spec.enter gTok P23 100 Tryd.func23 rfl (by kernel_rfl) ?_
  repeat' ((conv => whnf); first | (refine (And.intro (fun _ => ?_) (fun _ => ?_) : (_ → _) ∧ (_ → _)) <;> (first | (exfalso; first | contradiction | omega) | skip)) | refine Or.inl (And.intro (by first | exact inR_i64 (by omega) | exact inR_u32 (by omega) | exact inR_u64 (by omega) | exact inR_u8 (by omega)) ?_) | (refine And.intro (show (_ : Int) ≠ 0 by omega) (Or.inl (And.intro (show (0 : Int) ≤ _ by omega) (And.intro (show (0 : Int) < _ by omega) ?_)))) | (refine And.intro (show (_ : Int) ≠ 0 by omega) (Or.inl (And.intro (show (0 : Int) ≤ _ by omega) (And.intro (by first | exact (show (_ : Int) ≤ 9223372036854775807 by omega) | exact (show (_ : Int) ≤ 4294967295 by omega)) (And.intro (show (0 : Int) < _ by omega) ?_))))) | (refine Exists.intro [] (And.intro no_rl ((rthree_pure _ _ _ _).use (by repeat' first | exact trivial | exact rfl | exact Iff.rfl | exact Or.inl rfl | refine And.intro ?_ ?_) rfl rfl ?_))) | (refine Exists.intro [] (And.intro no_rl ((rimm_pure _ _ _).use (by repeat' first | exact trivial | exact rfl | exact Iff.rfl | exact Or.inl rfl | refine And.intro ?_ ?_) rfl rfl ?_))) | (refine And.intro (show (0 : Int) ≤ _ by omega) (And.intro (show _ < (_ : Int) by omega) ?_)) | (refine Or.inl (Exists.intro 22 (And.intro hk ?_))) | (refine Exists.intro [] (And.intro no_rl (Spec.enter gTok P60 100 Tryd.func60 rfl (by kernel_rfl) ?_))) | (refine retE ?_; (show _ = _); simp only [insL, threeF, memL, pairL, singL, testL, hk, ne_eq, reduceIte, Int.reduceEq, not_false_eq_true, not_true_eq_false, List.nil_append, List.append_nil]; try rfl) | (refine Exists.intro _ (And.intro (PLe.refl _) ?_)) | (intro _))
set_option maxHeartbeats 4000000 in
set_option maxRecDepth 100000 in
theorem rins_23 (o : VO) (hk : o.kind = 23) (hn : 0 ≤ o.n ∧ o.n ≤ 4294967295) (hv : vnum o.kind o.n) : PureF gT 23 [voP o] (.sl 11 (insP (insL o))) := by
  refine Spec.enter gTok P23 100 Tryd.func23 rfl (by kernel_rfl) ?_
  repeat' ((conv => whnf); first | (refine (And.intro (fun _ => ?_) (fun _ => ?_) : (_ → _) ∧ (_ → _)) <;> (first | (exfalso; first | contradiction | omega) | skip)) | refine Or.inl (And.intro (by first | exact inR_i64 (by omega) | exact inR_u32 (by omega) | exact inR_u64 (by omega) | exact inR_u8 (by omega)) ?_) | (refine And.intro (show (_ : Int) ≠ 0 by omega) (Or.inl (And.intro (show (0 : Int) ≤ _ by omega) (And.intro (show (0 : Int) < _ by omega) ?_)))) | (refine And.intro (show (_ : Int) ≠ 0 by omega) (Or.inl (And.intro (show (0 : Int) ≤ _ by omega) (And.intro (by first | exact (show (_ : Int) ≤ 9223372036854775807 by omega) | exact (show (_ : Int) ≤ 4294967295 by omega)) (And.intro (show (0 : Int) < _ by omega) ?_))))) | (refine Exists.intro [] (And.intro no_rl ((rthree_pure _ _ _ _).use (by repeat' first | exact trivial | exact rfl | exact Iff.rfl | exact Or.inl rfl | refine And.intro ?_ ?_) rfl rfl ?_))) | (refine Exists.intro [] (And.intro no_rl ((rimm_pure _ _ _).use (by repeat' first | exact trivial | exact rfl | exact Iff.rfl | exact Or.inl rfl | refine And.intro ?_ ?_) rfl rfl ?_))) | (refine Exists.intro [] (And.intro no_rl ((rpair_23 o hk).use (by repeat' first | exact trivial | exact rfl | exact Iff.rfl | exact Or.inl rfl | refine And.intro ?_ ?_) rfl rfl ?_))) | (refine And.intro (show (0 : Int) ≤ _ by omega) (And.intro (show _ < (_ : Int) by omega) ?_)) | (refine Or.inl (Exists.intro 23 (And.intro hk ?_))) | (refine retE ?_; (show _ = _); simp only [insL, threeF, memL, pairL, singL, testL, hk, ne_eq, reduceIte, Int.reduceEq, not_false_eq_true, not_true_eq_false, List.nil_append, List.append_nil]; try rfl) | (intro _))
set_option maxHeartbeats 4000000 in
set_option maxRecDepth 100000 in
theorem rins_24 (o : VO) (hk : o.kind = 24) (hn : 0 ≤ o.n ∧ o.n ≤ 4294967295) (hv : vnum o.kind o.n) : PureF gT 23 [voP o] (.sl 11 (insP (insL o))) := by
  refine Spec.enter gTok P23 100 Tryd.func23 rfl (by kernel_rfl) ?_
  repeat' ((conv => whnf); first | (refine (And.intro (fun _ => ?_) (fun _ => ?_) : (_ → _) ∧ (_ → _)) <;> (first | (exfalso; first | contradiction | omega) | skip)) | refine Or.inl (And.intro (by first | exact inR_i64 (by omega) | exact inR_u32 (by omega) | exact inR_u64 (by omega) | exact inR_u8 (by omega)) ?_) | (refine And.intro (show (_ : Int) ≠ 0 by omega) (Or.inl (And.intro (show (0 : Int) ≤ _ by omega) (And.intro (show (0 : Int) < _ by omega) ?_)))) | (refine And.intro (show (_ : Int) ≠ 0 by omega) (Or.inl (And.intro (show (0 : Int) ≤ _ by omega) (And.intro (by first | exact (show (_ : Int) ≤ 9223372036854775807 by omega) | exact (show (_ : Int) ≤ 4294967295 by omega)) (And.intro (show (0 : Int) < _ by omega) ?_))))) | (refine Exists.intro [] (And.intro no_rl ((rthree_pure _ _ _ _).use (by repeat' first | exact trivial | exact rfl | exact Iff.rfl | exact Or.inl rfl | refine And.intro ?_ ?_) rfl rfl ?_))) | (refine Exists.intro [] (And.intro no_rl ((rimm_pure _ _ _).use (by repeat' first | exact trivial | exact rfl | exact Iff.rfl | exact Or.inl rfl | refine And.intro ?_ ?_) rfl rfl ?_))) | (refine Exists.intro [] (And.intro no_rl ((rpair_24 o hk).use (by repeat' first | exact trivial | exact rfl | exact Iff.rfl | exact Or.inl rfl | refine And.intro ?_ ?_) rfl rfl ?_))) | (refine And.intro (show (0 : Int) ≤ _ by omega) (And.intro (show _ < (_ : Int) by omega) ?_)) | (refine Or.inl (Exists.intro 24 (And.intro hk ?_))) | (refine retE ?_; (show _ = _); simp only [insL, threeF, memL, pairL, singL, testL, hk, ne_eq, reduceIte, Int.reduceEq, not_false_eq_true, not_true_eq_false, List.nil_append, List.append_nil]; try rfl) | (intro _))
set_option maxHeartbeats 4000000 in
set_option maxRecDepth 100000 in
theorem rins_25 (o : VO) (hk : o.kind = 25) (hn : 0 ≤ o.n ∧ o.n ≤ 4294967295) (hv : vnum o.kind o.n) : PureF gT 23 [voP o] (.sl 11 (insP (insL o))) := by
  refine Spec.enter gTok P23 100 Tryd.func23 rfl (by kernel_rfl) ?_
  repeat' ((conv => whnf); first | (refine (And.intro (fun _ => ?_) (fun _ => ?_) : (_ → _) ∧ (_ → _)) <;> (first | (exfalso; first | contradiction | omega) | skip)) | refine Or.inl (And.intro (by first | exact inR_i64 (by omega) | exact inR_u32 (by omega) | exact inR_u64 (by omega) | exact inR_u8 (by omega)) ?_) | (refine And.intro (show (_ : Int) ≠ 0 by omega) (Or.inl (And.intro (show (0 : Int) ≤ _ by omega) (And.intro (show (0 : Int) < _ by omega) ?_)))) | (refine And.intro (show (_ : Int) ≠ 0 by omega) (Or.inl (And.intro (show (0 : Int) ≤ _ by omega) (And.intro (by first | exact (show (_ : Int) ≤ 9223372036854775807 by omega) | exact (show (_ : Int) ≤ 4294967295 by omega)) (And.intro (show (0 : Int) < _ by omega) ?_))))) | (refine Exists.intro [] (And.intro no_rl ((rthree_pure _ _ _ _).use (by repeat' first | exact trivial | exact rfl | exact Iff.rfl | exact Or.inl rfl | refine And.intro ?_ ?_) rfl rfl ?_))) | (refine Exists.intro [] (And.intro no_rl ((rimm_pure _ _ _).use (by repeat' first | exact trivial | exact rfl | exact Iff.rfl | exact Or.inl rfl | refine And.intro ?_ ?_) rfl rfl ?_))) | (refine Exists.intro [] (And.intro no_rl ((rpair_25 o hk).use (by repeat' first | exact trivial | exact rfl | exact Iff.rfl | exact Or.inl rfl | refine And.intro ?_ ?_) rfl rfl ?_))) | (refine And.intro (show (0 : Int) ≤ _ by omega) (And.intro (show _ < (_ : Int) by omega) ?_)) | (refine Or.inl (Exists.intro 25 (And.intro hk ?_))) | (refine retE ?_; (show _ = _); simp only [insL, threeF, memL, pairL, singL, testL, hk, ne_eq, reduceIte, Int.reduceEq, not_false_eq_true, not_true_eq_false, List.nil_append, List.append_nil]; try rfl) | (intro _))
set_option maxHeartbeats 4000000 in
set_option maxRecDepth 100000 in
theorem rins_26 (o : VO) (hk : o.kind = 26) (hn : 0 ≤ o.n ∧ o.n ≤ 4294967295) (hv : vnum o.kind o.n) : PureF gT 23 [voP o] (.sl 11 (insP (insL o))) := by
  refine Spec.enter gTok P23 100 Tryd.func23 rfl (by kernel_rfl) ?_
  repeat' ((conv => whnf); first | (refine (And.intro (fun _ => ?_) (fun _ => ?_) : (_ → _) ∧ (_ → _)) <;> (first | (exfalso; first | contradiction | omega) | skip)) | refine Or.inl (And.intro (by first | exact inR_i64 (by omega) | exact inR_u32 (by omega) | exact inR_u64 (by omega) | exact inR_u8 (by omega)) ?_) | (refine And.intro (show (_ : Int) ≠ 0 by omega) (Or.inl (And.intro (show (0 : Int) ≤ _ by omega) (And.intro (show (0 : Int) < _ by omega) ?_)))) | (refine And.intro (show (_ : Int) ≠ 0 by omega) (Or.inl (And.intro (show (0 : Int) ≤ _ by omega) (And.intro (by first | exact (show (_ : Int) ≤ 9223372036854775807 by omega) | exact (show (_ : Int) ≤ 4294967295 by omega)) (And.intro (show (0 : Int) < _ by omega) ?_))))) | (refine Exists.intro [] (And.intro no_rl ((rthree_pure _ _ _ _).use (by repeat' first | exact trivial | exact rfl | exact Iff.rfl | exact Or.inl rfl | refine And.intro ?_ ?_) rfl rfl ?_))) | (refine Exists.intro [] (And.intro no_rl ((rimm_pure _ _ _).use (by repeat' first | exact trivial | exact rfl | exact Iff.rfl | exact Or.inl rfl | refine And.intro ?_ ?_) rfl rfl ?_))) | (refine And.intro (show (0 : Int) ≤ _ by omega) (And.intro (show _ < (_ : Int) by omega) ?_)) | (refine Or.inl (Exists.intro 26 (And.intro hk ?_))) | (refine retE ?_; (show _ = _); simp only [insL, threeF, memL, pairL, singL, testL, hk, ne_eq, reduceIte, Int.reduceEq, not_false_eq_true, not_true_eq_false, List.nil_append, List.append_nil]; try rfl) | (intro _))
set_option maxHeartbeats 4000000 in
set_option maxRecDepth 100000 in
theorem rins_27 (o : VO) (hk : o.kind = 27) (hn : 0 ≤ o.n ∧ o.n ≤ 4294967295) (hv : vnum o.kind o.n) : PureF gT 23 [voP o] (.sl 11 (insP (insL o))) := by
  refine Spec.enter gTok P23 100 Tryd.func23 rfl (by kernel_rfl) ?_
  repeat' ((conv => whnf); first | (refine (And.intro (fun _ => ?_) (fun _ => ?_) : (_ → _) ∧ (_ → _)) <;> (first | (exfalso; first | contradiction | omega) | skip)) | refine Or.inl (And.intro (by first | exact inR_i64 (by omega) | exact inR_u32 (by omega) | exact inR_u64 (by omega) | exact inR_u8 (by omega)) ?_) | (refine And.intro (show (_ : Int) ≠ 0 by omega) (Or.inl (And.intro (show (0 : Int) ≤ _ by omega) (And.intro (show (0 : Int) < _ by omega) ?_)))) | (refine And.intro (show (_ : Int) ≠ 0 by omega) (Or.inl (And.intro (show (0 : Int) ≤ _ by omega) (And.intro (by first | exact (show (_ : Int) ≤ 9223372036854775807 by omega) | exact (show (_ : Int) ≤ 4294967295 by omega)) (And.intro (show (0 : Int) < _ by omega) ?_))))) | (refine Exists.intro [] (And.intro no_rl ((rthree_pure _ _ _ _).use (by repeat' first | exact trivial | exact rfl | exact Iff.rfl | exact Or.inl rfl | refine And.intro ?_ ?_) rfl rfl ?_))) | (refine Exists.intro [] (And.intro no_rl ((rimm_pure _ _ _).use (by repeat' first | exact trivial | exact rfl | exact Iff.rfl | exact Or.inl rfl | refine And.intro ?_ ?_) rfl rfl ?_))) | (refine Exists.intro [] (And.intro no_rl ((rsing_27 o hk hn).use (by repeat' first | exact trivial | exact rfl | exact Iff.rfl | exact Or.inl rfl | refine And.intro ?_ ?_) rfl rfl ?_))) | (refine And.intro (show (0 : Int) ≤ _ by omega) (And.intro (show _ < (_ : Int) by omega) ?_)) | (refine Or.inl (Exists.intro 27 (And.intro hk ?_))) | (refine retE ?_; (show _ = _); simp only [insL, threeF, memL, pairL, singL, testL, hk, ne_eq, reduceIte, Int.reduceEq, not_false_eq_true, not_true_eq_false, List.nil_append, List.append_nil]; try rfl) | (intro _))
set_option maxHeartbeats 4000000 in
set_option maxRecDepth 100000 in
theorem rins_28 (o : VO) (hk : o.kind = 28) (hn : 0 ≤ o.n ∧ o.n ≤ 4294967295) (hv : vnum o.kind o.n) : PureF gT 23 [voP o] (.sl 11 (insP (insL o))) := by
  refine Spec.enter gTok P23 100 Tryd.func23 rfl (by kernel_rfl) ?_
  repeat' ((conv => whnf); first | (refine (And.intro (fun _ => ?_) (fun _ => ?_) : (_ → _) ∧ (_ → _)) <;> (first | (exfalso; first | contradiction | omega) | skip)) | refine Or.inl (And.intro (by first | exact inR_i64 (by omega) | exact inR_u32 (by omega) | exact inR_u64 (by omega) | exact inR_u8 (by omega)) ?_) | (refine And.intro (show (_ : Int) ≠ 0 by omega) (Or.inl (And.intro (show (0 : Int) ≤ _ by omega) (And.intro (show (0 : Int) < _ by omega) ?_)))) | (refine And.intro (show (_ : Int) ≠ 0 by omega) (Or.inl (And.intro (show (0 : Int) ≤ _ by omega) (And.intro (by first | exact (show (_ : Int) ≤ 9223372036854775807 by omega) | exact (show (_ : Int) ≤ 4294967295 by omega)) (And.intro (show (0 : Int) < _ by omega) ?_))))) | (refine Exists.intro [] (And.intro no_rl ((rthree_pure _ _ _ _).use (by repeat' first | exact trivial | exact rfl | exact Iff.rfl | exact Or.inl rfl | refine And.intro ?_ ?_) rfl rfl ?_))) | (refine Exists.intro [] (And.intro no_rl ((rimm_pure _ _ _).use (by repeat' first | exact trivial | exact rfl | exact Iff.rfl | exact Or.inl rfl | refine And.intro ?_ ?_) rfl rfl ?_))) | (refine And.intro (show (0 : Int) ≤ _ by omega) (And.intro (show _ < (_ : Int) by omega) ?_)) | (refine Or.inl (Exists.intro 28 (And.intro hk ?_))) | (refine retE ?_; (show _ = _); simp only [insL, threeF, memL, pairL, singL, testL, hk, ne_eq, reduceIte, Int.reduceEq, not_false_eq_true, not_true_eq_false, List.nil_append, List.append_nil]; try rfl) | (intro _))
set_option maxHeartbeats 4000000 in
set_option maxRecDepth 100000 in
theorem rins_29 (o : VO) (hk : o.kind = 29) (hn : 0 ≤ o.n ∧ o.n ≤ 4294967295) (hv : vnum o.kind o.n) : PureF gT 23 [voP o] (.sl 11 (insP (insL o))) := by
  refine Spec.enter gTok P23 100 Tryd.func23 rfl (by kernel_rfl) ?_
  repeat' ((conv => whnf); first | (refine (And.intro (fun _ => ?_) (fun _ => ?_) : (_ → _) ∧ (_ → _)) <;> (first | (exfalso; first | contradiction | omega) | skip)) | refine Or.inl (And.intro (by first | exact inR_i64 (by omega) | exact inR_u32 (by omega) | exact inR_u64 (by omega) | exact inR_u8 (by omega)) ?_) | (refine And.intro (show (_ : Int) ≠ 0 by omega) (Or.inl (And.intro (show (0 : Int) ≤ _ by omega) (And.intro (show (0 : Int) < _ by omega) ?_)))) | (refine And.intro (show (_ : Int) ≠ 0 by omega) (Or.inl (And.intro (show (0 : Int) ≤ _ by omega) (And.intro (by first | exact (show (_ : Int) ≤ 9223372036854775807 by omega) | exact (show (_ : Int) ≤ 4294967295 by omega)) (And.intro (show (0 : Int) < _ by omega) ?_))))) | (refine Exists.intro [] (And.intro no_rl ((rthree_pure _ _ _ _).use (by repeat' first | exact trivial | exact rfl | exact Iff.rfl | exact Or.inl rfl | refine And.intro ?_ ?_) rfl rfl ?_))) | (refine Exists.intro [] (And.intro no_rl ((rimm_pure _ _ _).use (by repeat' first | exact trivial | exact rfl | exact Iff.rfl | exact Or.inl rfl | refine And.intro ?_ ?_) rfl rfl ?_))) | (refine And.intro (show (0 : Int) ≤ _ by omega) (And.intro (show _ < (_ : Int) by omega) ?_)) | (refine Or.inl (Exists.intro 29 (And.intro hk ?_))) | (refine retE ?_; (show _ = _); simp only [insL, threeF, memL, pairL, singL, testL, hk, ne_eq, reduceIte, Int.reduceEq, not_false_eq_true, not_true_eq_false, List.nil_append, List.append_nil]; try rfl) | (intro _))
set_option maxHeartbeats 4000000 in
set_option maxRecDepth 100000 in
theorem rins_30 (o : VO) (hk : o.kind = 30) (hn : 0 ≤ o.n ∧ o.n ≤ 4294967295) (hv : vnum o.kind o.n) : PureF gT 23 [voP o] (.sl 11 (insP (insL o))) := by
  refine Spec.enter gTok P23 100 Tryd.func23 rfl (by kernel_rfl) ?_
  repeat' ((conv => whnf); first | (refine (And.intro (fun _ => ?_) (fun _ => ?_) : (_ → _) ∧ (_ → _)) <;> (first | (exfalso; first | contradiction | omega) | skip)) | refine Or.inl (And.intro (by first | exact inR_i64 (by omega) | exact inR_u32 (by omega) | exact inR_u64 (by omega) | exact inR_u8 (by omega)) ?_) | (refine And.intro (show (_ : Int) ≠ 0 by omega) (Or.inl (And.intro (show (0 : Int) ≤ _ by omega) (And.intro (show (0 : Int) < _ by omega) ?_)))) | (refine And.intro (show (_ : Int) ≠ 0 by omega) (Or.inl (And.intro (show (0 : Int) ≤ _ by omega) (And.intro (by first | exact (show (_ : Int) ≤ 9223372036854775807 by omega) | exact (show (_ : Int) ≤ 4294967295 by omega)) (And.intro (show (0 : Int) < _ by omega) ?_))))) | (refine Exists.intro [] (And.intro no_rl ((rthree_pure _ _ _ _).use (by repeat' first | exact trivial | exact rfl | exact Iff.rfl | exact Or.inl rfl | refine And.intro ?_ ?_) rfl rfl ?_))) | (refine Exists.intro [] (And.intro no_rl ((rimm_pure _ _ _).use (by repeat' first | exact trivial | exact rfl | exact Iff.rfl | exact Or.inl rfl | refine And.intro ?_ ?_) rfl rfl ?_))) | (refine Exists.intro [] (And.intro no_rl ((rsing_30 o hk hn hv).use (by repeat' first | exact trivial | exact rfl | exact Iff.rfl | exact Or.inl rfl | refine And.intro ?_ ?_) rfl rfl ?_))) | (refine And.intro (show (0 : Int) ≤ _ by omega) (And.intro (show _ < (_ : Int) by omega) ?_)) | (refine Or.inl (Exists.intro 30 (And.intro hk ?_))) | (refine retE ?_; (show _ = _); simp only [insL, threeF, memL, pairL, singL, testL, hk, ne_eq, reduceIte, Int.reduceEq, not_false_eq_true, not_true_eq_false, List.nil_append, List.append_nil]; try rfl) | (intro _))
set_option maxHeartbeats 4000000 in
set_option maxRecDepth 100000 in
theorem rins_31 (o : VO) (hk : o.kind = 31) (hn : 0 ≤ o.n ∧ o.n ≤ 4294967295) (hv : vnum o.kind o.n) : PureF gT 23 [voP o] (.sl 11 (insP (insL o))) := by
  have hz : o.n = 0 := by unfold vnum at hv; omega
  refine Spec.enter gTok P23 100 Tryd.func23 rfl (by kernel_rfl) ?_
  repeat' ((conv => whnf); first | (refine (And.intro (fun _ => ?_) (fun _ => ?_) : (_ → _) ∧ (_ → _)) <;> (first | (exfalso; first | contradiction | omega) | skip)) | refine Or.inl (And.intro (by first | exact inR_i64 (by omega) | exact inR_u32 (by omega) | exact inR_u64 (by omega) | exact inR_u8 (by omega)) ?_) | (refine And.intro (show (_ : Int) ≠ 0 by omega) (Or.inl (And.intro (show (0 : Int) ≤ _ by omega) (And.intro (show (0 : Int) < _ by omega) ?_)))) | (refine And.intro (show (_ : Int) ≠ 0 by omega) (Or.inl (And.intro (show (0 : Int) ≤ _ by omega) (And.intro (by first | exact (show (_ : Int) ≤ 9223372036854775807 by omega) | exact (show (_ : Int) ≤ 4294967295 by omega)) (And.intro (show (0 : Int) < _ by omega) ?_))))) | (refine Exists.intro [] (And.intro no_rl ((rthree_pure _ _ _ _).use (by repeat' first | exact trivial | exact rfl | exact Iff.rfl | exact Or.inl rfl | refine And.intro ?_ ?_) rfl rfl ?_))) | (refine Exists.intro [] (And.intro no_rl ((rimm_pure _ _ _).use (by repeat' first | exact trivial | exact rfl | exact Iff.rfl | exact Or.inl rfl | refine And.intro ?_ ?_) rfl rfl ?_))) | (refine Exists.intro [] (And.intro no_rl ((rsing_31 o hk hz).use (by repeat' first | exact trivial | exact rfl | exact Iff.rfl | exact Or.inl rfl | refine And.intro ?_ ?_) rfl rfl ?_))) | (refine And.intro (show (0 : Int) ≤ _ by omega) (And.intro (show _ < (_ : Int) by omega) ?_)) | (refine Or.inl (Exists.intro 31 (And.intro hk ?_))) | (refine retE ?_; (show _ = _); simp only [insL, threeF, memL, pairL, singL, testL, hk, ne_eq, reduceIte, Int.reduceEq, not_false_eq_true, not_true_eq_false, List.nil_append, List.append_nil]; try rfl) | (intro _))
theorem rins_pure (o : VO) (hk : 1 ≤ o.kind ∧ o.kind ≤ 31) (hn : 0 ≤ o.n ∧ o.n ≤ 4294967295) (hv : vnum o.kind o.n) : PureF gT 23 [voP o] (.sl 11 (insP (insL o))) := by
  rcases kinds hk with h | h | h | h | h | h | h | h | h | h | h | h | h | h | h | h | h | h | h | h | h | h | h | h | h | h | h | h | h | h | h
  · exact rins_1 o h hn hv
  · exact rins_2 o h hn hv
  · exact rins_3 o h hn hv
  · exact rins_4 o h hn hv
  · exact rins_5 o h hn hv
  · exact rins_6 o h hn hv
  · exact rins_7 o h hn hv
  · exact rins_8 o h hn hv
  · exact rins_9 o h hn hv
  · exact rins_10 o h hn hv
  · exact rins_11 o h hn hv
  · exact rins_12 o h hn hv
  · exact rins_13 o h hn hv
  · exact rins_14 o h hn hv
  · exact rins_15 o h hn hv
  · exact rins_16 o h hn hv
  · exact rins_17 o h hn hv
  · exact rins_18 o h hn hv
  · exact rins_19 o h hn hv
  · exact rins_20 o h hn hv
  · exact rins_21 o h hn hv
  · exact rins_22 o h hn hv
  · exact rins_23 o h hn hv
  · exact rins_24 o h hn hv
  · exact rins_25 o h hn hv
  · exact rins_26 o h hn hv
  · exact rins_27 o h hn hv
  · exact rins_28 o h hn hv
  · exact rins_29 o h hn hv
  · exact rins_30 o h hn hv
  · exact rins_31 o h hn hv
  

end Go.Proofs.YthpkejlmelednaaDoor.Pw

/- Chapter 18 over values: SelExact. -/
namespace Go.Proofs.YthpkejlmelednaaDoor.Pw
open Go Go.RowKit

theorem insL_len (o : VO) : (insL o).length ≤ 100 := by
  unfold insL
  split
  · simp
  · have := insLen o
    simp only [List.length_append]; omega
set_option maxHeartbeats 8000000 in
set_option maxRecDepth 100000 in
theorem SelExact_pure (o : VO) (hn : 0 ≤ o.n ∧ o.n ≤ 4294967295) : PureF gT 5 [voP o] .tt := by
  have hl := insL_len o
  have el : (insP (insL o)).length = (insL o).length := List.length_map ..
  have hi0 : vright o ∧ vsmall o → PureF gT 22 [voP o] (.tup [.sl 11 (insP (insL o)), .int .i64 0]) := fun hf => by have := insts_pure o hn; rwa [insR, if_pos hf] at this
  have hr0 : vright o ∧ vsmall o → PureF gT 23 [voP o] (.sl 11 (insP (insL o))) := fun hf => rins_pure o hf.1.1 hn hf.1.2.2.2.2
  generalize insL o = L at hl el hi0 hr0
  refine Spec.enter gTok P5 100 Tryd.func5 rfl (by kernel_rfl) ?_
  refine ⟨[], no_rl, anchor18_pure.use trivial rfl rfl ?_⟩
  refine ⟨[], no_rl, (fits_pure o hn).use (by repeat' first | exact trivial | exact rfl | exact Iff.rfl | exact Or.inl rfl | refine And.intro ?_ ?_) rfl rfl ?_⟩
  refine And.intro (fun h => ?_) (fun h => ?_)
  · exact retE trivial
  have hf : vright o ∧ vsmall o := Classical.not_not.1 h
  refine ⟨[], no_rl, (hi0 hf).use (by repeat' first | exact trivial | exact rfl | exact Iff.rfl | exact Or.inl rfl | refine And.intro ?_ ?_) rfl rfl ?_⟩
  refine ⟨[], no_rl, (hr0 hf).use (by repeat' first | exact trivial | exact rfl | exact Iff.rfl | exact Or.inl rfl | refine And.intro ?_ ?_) rfl rfl ?_⟩
  refine And.intro (fun h => absurd rfl h) (fun _ => ?_)
  refine fun _ => fun _ => And.intro (fun h => absurd rfl h) (fun _ => ?_)
  intro _
  refine SW.loopS gTok P5 (by kernel_rfl) (fun i : Nat => [(32, .int .i64 i)]) (fun i => L.length - i) 0 60 ?_ fun i => ?_
  · repeat' first | exact Iff.rfl | exact trivial | exact rfl | refine And.intro ?_ ?_
  refine And.intro (fun h => ?_) (fun h => ?_)
  · have h' : (i : Int) < ((insP L).length : Nat) := h
    refine ⟨IN, L, inP, rfl, show (0 : Int) ≤ (i : Int) by omega, show (i : Int) < (L.length : Int) by omega, fun x hx => ?_⟩
    have hx' : L[i]? = some x := hx
    refine ⟨IN, L, inP, rfl, show (0 : Int) ≤ (i : Int) by omega, show (i : Int) < (L.length : Int) by omega, fun y hy => ?_⟩
    have hy' : L[i]? = some y := hy
    obtain rfl : x = y := Option.some.inj (hx'.symm.trans hy')
    refine And.intro (fun h => absurd ⟨rfl, rfl, rfl, rfl, rfl, rfl, rfl, rfl, rfl, rfl, rfl, trivial⟩ h) (fun _ => ?_)
    refine .inl ⟨inR_i64 (show _ ≤ (i : Int) + 1 ∧ (i : Int) + 1 ≤ _ by omega), ⟨i + 1, show L.length - (i + 1) < L.length - i by omega, ?_⟩⟩
    repeat' first | exact Iff.rfl | exact trivial | exact rfl | refine And.intro ?_ ?_
  · exact retE trivial

end Go.Proofs.YthpkejlmelednaaDoor.Pw

/- A struct that comes in by value, opened. -/
namespace Go.Proofs.YthpkejlmelednaaDoor.Pw
open Go Go.RowKit

theorem Op.argS {P : Program} {t : TypeId} {S : PV → Prop} (h : Op P t S) (hS : ∀ y, S y → ∃ xs, y = .agg xs) {H : Type} {ec : TypeId × Value → H} {w : World} {base : Nat} {held : Bool} {vs : Array Value} {d : DataW H} {p : List MemPlace} (ht : DataW.Trod ec P w base (fun _ => true) held t (.agg vs) d p) (hwt : ∀ n ∈ d.weights P t, n ≤ reachBytes) :
    ∃ y, S y ∧ y.Is w (In w) no (.agg vs) := by
  obtain ⟨fuel, ht⟩ := ht
  obtain ⟨y, hy, _, hi, _⟩ := h ec w base held fuel _ _ ht hwt
  refine ⟨y, hy, ?_⟩
  obtain ⟨xs, rfl⟩ := hS y hy
  simp only [PV.Is]
  exact ⟨vs, rfl, hi⟩

end Go.Proofs.YthpkejlmelednaaDoor.Pw

/- SelExact as its frame wants it. -/
namespace Go.Proofs.YthpkejlmelednaaDoor.Pw
open Go Go.RowKit

theorem opVO_agg (y : PV) (h : SVO y) : ∃ xs, y = .agg xs := by
  obtain ⟨o, _, rfl⟩ := h
  exact ⟨_, rfl⟩
theorem SelExact_pure' (x : PV) (s : SVO x) : PureF gT 5 [x] .tt := by
  obtain ⟨o, h, rfl⟩ := s
  exact SelExact_pure o h.n

end Go.Proofs.YthpkejlmelednaaDoor.Pw

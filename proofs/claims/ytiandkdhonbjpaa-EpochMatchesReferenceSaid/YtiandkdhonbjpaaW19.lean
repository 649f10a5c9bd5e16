/-
  Rows.EpochMatchesReferenceSaid: for any logs, takes and sections all functions return what the reference implementation returns; no condition.
-/
import Derived.Test.YtiandkdhonbjpaaW18
import Derived.Test.YtiandkdhonbjpaaAb20
import Derived.Test.YtiandkdhonbjpaaRows
import Derived.ProofKit
set_option linter.unusedSimpArgs false
set_option linter.unusedVariables false
namespace Go.Proofs.Ytiandkdhonbjpaa
open Go.Ab

def tkD (t : Tk) : Dat := .strct [.int .i64 t.s, .int .i64 t.c, .int .i64 t.n, .int .i64 t.d]
theorem tkD_cells (t : Tk) : (tkD t).cells = tkL t := rfl

theorem fits_int {D : Dat} (h : Fits Γ 3 D) : ∃ n, D = .int .i64 n := by
  cases D <;> simp [Fits, Γ_3] at h
  rename_i k n
  exact ⟨n, by rw [← h.1]⟩
theorem fits_take {D : Dat} (h : Fits Γ 24 D) : ∃ t, D = tkD t := by
  cases D <;> simp [Fits, Γ_24] at h
  rename_i fs
  match fs, h with
  | [a, b, c, d], h =>
    simp only [FitsL] at h
    obtain ⟨h1, h2, h3, h4, _⟩ := h
    obtain ⟨s, rfl⟩ := fits_int h1
    obtain ⟨c, rfl⟩ := fits_int h2
    obtain ⟨n, rfl⟩ := fits_int h3
    obtain ⟨d, rfl⟩ := fits_int h4
    exact ⟨⟨s, c, n, d⟩, rfl⟩
  | [], h => simp [FitsL] at h
  | [_], h => simp [FitsL] at h
  | [_, _], h => simp [FitsL] at h
  | [_, _, _], h => simp [FitsL] at h
  | _ :: _ :: _ :: _ :: _ :: _, h => simp [FitsL] at h
theorem fits_takes_aux : ∀ {Ds : List Dat}, FitsA Γ 24 Ds → ∃ l : List Tk, Ds = l.map tkD
  | [], _ => ⟨[], rfl⟩
  | D :: Ds, h => by
    simp only [FitsA] at h
    obtain ⟨t, rfl⟩ := fits_take h.1
    obtain ⟨l, rfl⟩ := fits_takes_aux h.2
    exact ⟨t :: l, rfl⟩
theorem fits_takes {D : Dat} (h : Fits Γ 22 D) : ∃ l : List Tk, l.length ≤ 9223372036854775807 ∧ D = .slice 4 (l.map tkD) := by
  cases D <;> simp [Fits, Γ_22, Γ_24] at h
  rename_i z Ds
  obtain ⟨rfl, hl, h⟩ := h
  obtain ⟨l, rfl⟩ := fits_takes_aux h
  exact ⟨l, by simpa [maxLen] using hl, rfl⟩

theorem takes_val {l : List Tk} {w : World} {x : Value} (h : Rv [] w (Dat.val false (.slice 4 (l.map tkD))) x) : Rv [] w (tks l) x := by
  simp only [Dat.val, Dat.cells, nth, Bool.false_eq_true, if_false] at h
  rw [List.length_map] at h
  refine Rv_view_ext (fun i j hi hj => ?_) h
  rw [cellsLL_get _ _ (by simpa using hi), List.getElem_map, tkD_cells]
  simp [tkE, gt, hi]

theorem matches_look : ∀ Ds, FitsArgs Γ Try.f3.params.toList Ds → ∃ us, (∀ w vs, RvL [] w (valsOf Γ Try.f3.params.toList Ds) vs → RvL [] w us vs) ∧ Look Try.prog 3 us (.imm (.bool true)) := by
  intro Ds hF
  have e : Try.f3.params.toList = [22, 22, 24, 3] := by kernel_rfl
  rw [e] at hF ⊢
  match Ds, hF with
  | [D1, D2, D3, D4], hF =>
    simp only [FitsArgs] at hF
    obtain ⟨h1, h2, h3, h4, _⟩ := hF
    obtain ⟨a, ha, rfl⟩ := fits_takes h1
    obtain ⟨b, hb, rfl⟩ := fits_takes h2
    obtain ⟨t, rfl⟩ := fits_take h3
    obtain ⟨n, rfl⟩ := fits_int h4
    refine ⟨_, fun w vs h => ?_, law_matches a b t n ha hb⟩
    match vs, h with
    | [v1, v2, v3, v4], h =>
      simp only [valsOf, isAggT, Γ_22, Γ_24, Γ_3, TD.isAgg, RvL] at h ⊢
      exact ⟨takes_val h.1, takes_val h.2.1, h.2.2.1, h.2.2.2.1, trivial⟩
    | [], h => simp [valsOf, RvL] at h
    | [_], h => simp [valsOf, RvL] at h
    | [_, _], h => simp [valsOf, RvL] at h
    | [_, _, _], h => simp [valsOf, RvL] at h
    | _ :: _ :: _ :: _ :: _ :: _, h => simp [valsOf, RvL] at h
  | [], hF => simp [FitsArgs] at hF
  | [_], hF => simp [FitsArgs] at hF
  | [_, _], hF => simp [FitsArgs] at hF
  | [_, _, _], hF => simp [FitsArgs] at hF
  | _ :: _ :: _ :: _ :: _ :: _, hF => simp [FitsArgs] at hF

theorem own : ownKnob Try.prog.godebug = none := by kernel_rfl
theorem laid : laidOutB Try.prog = true := by kernel_rfl

set_option maxRecDepth 100000 in
theorem matches_lifted (os : Os) (started : os.Started) (H : Type) (enc : TypeId × Value → H) :
    ReturnsInHanded {} Try.checked os 3 .any (Rows.epochMatchesReferenceSpec.pre6 enc Try.prog Try.f3 Rows.epochMatchesReferenceRow.domain false) (Rows.epochMatchesReferenceSpec.post enc Try.prog Try.f3 false true false false) := by
  refine returnsInHanded_of_change (C := Try.checked) own started (by kernel_rfl) Try.func3
    (ChangeSpec.witness6 (enc := enc) (C := Try.checked) false ⟨#[], #[.slice none 0 0, .slice none 0 0, .agg #[.int .i64 0, .int .i64 0, .int .i64 0, .int .i64 0], .int .i64 0], []⟩ 8 (by kernel_rfl) (by kernel_rfl) (by kernel_rfl) (by kernel_rfl)) ?_
  exact law_contract Γ_ok (by kernel_rfl) laid (by kernel_rfl) Try.underlying4 (by kernel_rfl) rfl (fun ds hl => by
    match ds, hl with
    | [_, _, _, _], _ => rfl) (by kernel_rfl) matches_look

theorem matches_over : Rows.epochMatchesReferenceRow.holds Try.pinned (OpenSpec.ofChange Rows.epochMatchesReferenceSpec) :=
  OpenClaim.holds_of_wide 3 Try.f3 rfl rfl rfl rfl rfl rfl rfl ⟨rfl, rfl, rfl, rfl, rfl⟩ rfl rfl rfl rfl rfl (by kernel_rfl) Try.func3 (by kernel_rfl)
    (of_decide_eq_true (by kernel_rfl)) (by unfold Func.isWrapper; first | (rw [if_pos (by decide +kernel)]; kernel_rfl) | (rw [if_neg (by decide +kernel)]; exact ⟨rfl, rfl⟩))
    (fun os started H enc _ => matches_lifted os started H enc)

theorem matches_holds : Rows.EpochMatchesReferenceSaid := matches_over
end Go.Proofs.Ytiandkdhonbjpaa

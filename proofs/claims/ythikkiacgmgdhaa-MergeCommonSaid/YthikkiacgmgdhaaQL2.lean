/-
  Rows.MergeCommonSaid: for any two valid entries some desk voted for both, and Common has exactly the desks that are voters of both; no condition.
-/
import Derived.Test.YthikkiacgmgdhaaQM26
import Derived.Test.YthikkiacgmgdhaaQM28
set_option linter.unusedSimpArgs false
set_option linter.unusedVariables false
namespace Go.Proofs.Ythikkiacgmgdhaa
open Go.Ab

theorem mergeCommon_look : ∀ Ds, FitsArgs Γ Try.f7.params.toList Ds → ∃ us, (∀ w vs, RvL [] w (valsOf Γ Try.f7.params.toList Ds) vs → RvL [] w us vs) ∧ Look Try.prog 7 us (.imm (.bool true)) := by
  intro Ds hF
  have e : Try.f7.params.toList = [3, 27, 27, 3] := by kernel_rfl
  rw [e] at hF ⊢
  match Ds, hF with
  | [D0, D1, D2, D3], hF =>
    simp only [FitsArgs] at hF
    obtain ⟨q0, q1, q2, q3, _⟩ := hF
    obtain ⟨n, rfl⟩ := fits_int q0
    obtain ⟨a, ha, rfl⟩ := fits_entry q1
    obtain ⟨b, hb, rfl⟩ := fits_entry q2
    obtain ⟨d, rfl⟩ := fits_int q3
    refine ⟨_, fun w vs h => ?_, common_law n a b d ha hb⟩
    match vs, h with
    | [v0, v1, v2, v3], h =>
      simp only [valsOf, isAggT, Γ_27, Γ_3, TD.isAgg, RvL] at h ⊢
      exact ⟨h.1, en_val h.2.1, en_val h.2.2.1, h.2.2.2.1, trivial⟩
    | [], h => simp [valsOf, RvL] at h
    | [_], h => simp [valsOf, RvL] at h
    | [_, _], h => simp [valsOf, RvL] at h
    | [_, _, _], h => simp [valsOf, RvL] at h
    | _ :: _ :: _ :: _ :: _ :: _, h => simp [valsOf, RvL] at h
  | [], hF => simp [FitsArgs] at hF
  | [_], hF => simp [FitsArgs] at hF
  | [_, _], hF => simp [FitsArgs] at hF
  | [_, _, _], hF => simp [FitsArgs] at hF
  | _ :: _ :: _ :: _ :: _ :: _, hF => simp [FitsArgs] at hF

set_option maxRecDepth 100000 in
theorem mergeCommon_lifted (os : Os) (started : os.Started) (H : Type) (enc : TypeId × Value → H) :
    ReturnsInHanded {} Try.checked os 7 .any (Rows.mergeCommonSpec.pre6 enc Try.prog Try.f7 Rows.mergeCommonRow.domain false) (Rows.mergeCommonSpec.post enc Try.prog Try.f7 false true false false) := by
  refine returnsInHanded_of_change (C := Try.checked) own started (by kernel_rfl) Try.func7
    (ChangeSpec.witness6 (enc := enc) (C := Try.checked) false ⟨#[], #[.int .i64 0, .agg #[.int .i64 0, .int .i64 0, .int .i64 0, .int .i64 0, .int .i64 0, .slice none 0 0], .agg #[.int .i64 0, .int .i64 0, .int .i64 0, .int .i64 0, .int .i64 0, .slice none 0 0], .int .i64 0], []⟩ 8 (by kernel_rfl) (by kernel_rfl) (by kernel_rfl) (by kernel_rfl)) ?_
  exact law_contract rfl Γ_ok (by kernel_rfl) laid (by kernel_rfl) Try.underlying4 (by kernel_rfl) rfl (fun ds hl => by
    match ds, hl with
    | [_, _, _, _], _ => rfl) (by kernel_rfl) mergeCommon_look

theorem mergeCommon_over : Rows.mergeCommonRow.holds Try.pinned (OpenSpec.ofChange Rows.mergeCommonSpec) :=
  OpenClaim.holds_of_wide 7 Try.f7 rfl rfl rfl rfl rfl rfl rfl ⟨rfl, rfl, rfl, rfl, rfl⟩ rfl rfl rfl rfl rfl (by kernel_rfl) Try.func7 (by kernel_rfl)
    (of_decide_eq_true (by kernel_rfl)) (by unfold Func.isWrapper; first | (rw [if_pos (by decide +kernel)]; kernel_rfl) | (rw [if_neg (by decide +kernel)]; exact ⟨rfl, rfl⟩))
    (fun os started H enc _ => mergeCommon_lifted os started H enc)

theorem mergeCommon_holds : Rows.MergeCommonSaid := mergeCommon_over

end Go.Proofs.Ythikkiacgmgdhaa

/-
  Rows.MergeClashesSaid: for any valid journals: they can be merged exactly if they have no clash, and a clash names two journals, in order, whose entries of the section differ; no condition.
-/
import Derived.Test.YthikkiacgmgdhaaQM26
import Derived.Test.YthikkiacgmgdhaaQM29
set_option linter.unusedSimpArgs false
set_option linter.unusedVariables false
namespace Go.Proofs.Ythikkiacgmgdhaa
open Go.Ab

theorem mergeClashes_look : ∀ Ds, FitsArgs Γ Try.f6.params.toList Ds → ∃ us, (∀ w vs, RvL [] w (valsOf Γ Try.f6.params.toList Ds) vs → RvL [] w us vs) ∧ Look Try.prog 6 us (.imm (.bool true)) := by
  intro Ds hF
  have e : Try.f6.params.toList = [3, 22] := by kernel_rfl
  rw [e] at hF ⊢
  match Ds, hF with
  | [D0, D1], hF =>
    simp only [FitsArgs] at hF
    obtain ⟨q0, q1, _⟩ := hF
    obtain ⟨n, rfl⟩ := fits_int q0
    obtain ⟨js, hjs, rfl⟩ := fits_journals q1
    refine ⟨_, fun w vs h => ?_, clashes_law n js hjs⟩
    match vs, h with
    | [v0, v1], h =>
      simp only [valsOf, isAggT, Γ_22, Γ_3, TD.isAgg, RvL] at h ⊢
      exact ⟨h.1, jns_val h.2.1, trivial⟩
    | [], h => simp [valsOf, RvL] at h
    | [_], h => simp [valsOf, RvL] at h
    | _ :: _ :: _ :: _, h => simp [valsOf, RvL] at h
  | [], hF => simp [FitsArgs] at hF
  | [_], hF => simp [FitsArgs] at hF
  | _ :: _ :: _ :: _, hF => simp [FitsArgs] at hF

set_option maxRecDepth 100000 in
theorem mergeClashes_lifted (os : Os) (started : os.Started) (H : Type) (enc : TypeId × Value → H) :
    ReturnsInHanded {} Try.checked os 6 .any (Rows.mergeClashesSpec.pre6 enc Try.prog Try.f6 Rows.mergeClashesRow.domain false) (Rows.mergeClashesSpec.post enc Try.prog Try.f6 false true false false) := by
  refine returnsInHanded_of_change (C := Try.checked) own started (by kernel_rfl) Try.func6
    (ChangeSpec.witness6 (enc := enc) (C := Try.checked) false ⟨#[], #[.int .i64 0, .slice none 0 0], []⟩ 8 (by kernel_rfl) (by kernel_rfl) (by kernel_rfl) (by kernel_rfl)) ?_
  exact law_contract rfl Γ_ok (by kernel_rfl) laid (by kernel_rfl) Try.underlying4 (by kernel_rfl) rfl (fun ds hl => by
    match ds, hl with
    | [_, _], _ => rfl) (by kernel_rfl) mergeClashes_look

theorem mergeClashes_over : Rows.mergeClashesRow.holds Try.pinned (OpenSpec.ofChange Rows.mergeClashesSpec) :=
  OpenClaim.holds_of_wide 6 Try.f6 rfl rfl rfl rfl rfl rfl rfl ⟨rfl, rfl, rfl, rfl, rfl⟩ rfl rfl rfl rfl rfl (by kernel_rfl) Try.func6 (by kernel_rfl)
    (of_decide_eq_true (by kernel_rfl)) (by unfold Func.isWrapper; first | (rw [if_pos (by decide +kernel)]; kernel_rfl) | (rw [if_neg (by decide +kernel)]; exact ⟨rfl, rfl⟩))
    (fun os started H enc _ => mergeClashes_lifted os started H enc)

theorem mergeClashes_holds : Rows.MergeClashesSaid := mergeClashes_over

end Go.Proofs.Ythikkiacgmgdhaa

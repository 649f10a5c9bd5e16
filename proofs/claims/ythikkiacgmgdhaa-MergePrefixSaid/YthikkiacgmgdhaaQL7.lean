/-
  Rows.MergePrefixSaid: without the entries from a section on, journals that can be merged are merged to the takes of the sections before it; no condition.
-/
import Derived.Test.YthikkiacgmgdhaaQM26
import Derived.Test.YthikkiacgmgdhaaQM35
set_option linter.unusedSimpArgs false
set_option linter.unusedVariables false
namespace Go.Proofs.Ythikkiacgmgdhaa
open Go.Ab

theorem mergePrefix_look : ∀ Ds, FitsArgs Γ Try.f9.params.toList Ds → ∃ us, (∀ w vs, RvL [] w (valsOf Γ Try.f9.params.toList Ds) vs → RvL [] w us vs) ∧ Look Try.prog 9 us (.imm (.bool true)) := by
  intro Ds hF
  have e : Try.f9.params.toList = [3, 22, 3] := by kernel_rfl
  rw [e] at hF ⊢
  match Ds, hF with
  | [D0, D1, D2], hF =>
    simp only [FitsArgs] at hF
    obtain ⟨q0, q1, q2, _⟩ := hF
    obtain ⟨n, rfl⟩ := fits_int q0
    obtain ⟨js, hjs, rfl⟩ := fits_journals q1
    obtain ⟨s, rfl⟩ := fits_int q2
    refine ⟨_, fun w vs h => ?_, prefix_law n js s hjs⟩
    match vs, h with
    | [v0, v1, v2], h =>
      simp only [valsOf, isAggT, Γ_22, Γ_3, TD.isAgg, RvL] at h ⊢
      exact ⟨h.1, jns_val h.2.1, h.2.2.1, trivial⟩
    | [], h => simp [valsOf, RvL] at h
    | [_], h => simp [valsOf, RvL] at h
    | [_, _], h => simp [valsOf, RvL] at h
    | _ :: _ :: _ :: _ :: _, h => simp [valsOf, RvL] at h
  | [], hF => simp [FitsArgs] at hF
  | [_], hF => simp [FitsArgs] at hF
  | [_, _], hF => simp [FitsArgs] at hF
  | _ :: _ :: _ :: _ :: _, hF => simp [FitsArgs] at hF

set_option maxRecDepth 100000 in
theorem mergePrefix_lifted (os : Os) (started : os.Started) (H : Type) (enc : TypeId × Value → H) :
    ReturnsInHanded {} Try.checked os 9 .any (Rows.mergePrefixSpec.pre6 enc Try.prog Try.f9 Rows.mergePrefixRow.domain false) (Rows.mergePrefixSpec.post enc Try.prog Try.f9 false true false false) := by
  refine returnsInHanded_of_change (C := Try.checked) own started (by kernel_rfl) Try.func9
    (ChangeSpec.witness6 (enc := enc) (C := Try.checked) false ⟨#[], #[.int .i64 0, .slice none 0 0, .int .i64 0], []⟩ 8 (by kernel_rfl) (by kernel_rfl) (by kernel_rfl) (by kernel_rfl)) ?_
  exact law_contract rfl Γ_ok (by kernel_rfl) laid (by kernel_rfl) Try.underlying4 (by kernel_rfl) rfl (fun ds hl => by
    match ds, hl with
    | [_, _, _], _ => rfl) (by kernel_rfl) mergePrefix_look

theorem mergePrefix_over : Rows.mergePrefixRow.holds Try.pinned (OpenSpec.ofChange Rows.mergePrefixSpec) :=
  OpenClaim.holds_of_wide 9 Try.f9 rfl rfl rfl rfl rfl rfl rfl ⟨rfl, rfl, rfl, rfl, rfl⟩ rfl rfl rfl rfl rfl (by kernel_rfl) Try.func9 (by kernel_rfl)
    (of_decide_eq_true (by kernel_rfl)) (by unfold Func.isWrapper; first | (rw [if_pos (by decide +kernel)]; kernel_rfl) | (rw [if_neg (by decide +kernel)]; exact ⟨rfl, rfl⟩))
    (fun os started H enc _ => mergePrefix_lifted os started H enc)

theorem mergePrefix_holds : Rows.MergePrefixSaid := mergePrefix_over

end Go.Proofs.Ythikkiacgmgdhaa

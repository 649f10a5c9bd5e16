/-
  Rows.QuorumProposedSaid: for every number of desks and script, each started ballot has the value of some MoveStart of the script, of this ballot or a lesser one; no condition.
-/
import Derived.Test.YteebphpfgboenaaV20
import Derived.Test.YteebphpfgboenaaV16
set_option linter.unusedSimpArgs false
set_option linter.unusedVariables false
namespace Go.Proofs.Yteebphpfgboenaa
open Go.Ab

theorem quorumProposed_look : ∀ Ds, FitsArgs Γ Try.f6.params.toList Ds → ∃ us, (∀ w vs, RvL [] w (valsOf Γ Try.f6.params.toList Ds) vs → RvL [] w us vs) ∧ Look Try.prog 6 us (.imm (.bool true)) := by
  intro Ds hF
  have e : Try.f6.params.toList = [3, 22] := by kernel_rfl
  rw [e] at hF ⊢
  match Ds, hF with
  | [D0, D1], hF =>
    simp only [FitsArgs] at hF
    obtain ⟨q0, q1, _⟩ := hF
    obtain ⟨n, rfl⟩ := fits_int q0
    obtain ⟨ms, hms, rfl⟩ := fits_moves q1
    refine ⟨_, fun w vs h => ?_, proposed_tc n ms hms⟩
    match vs, h with
    | [v0, v1], h =>
      simp only [valsOf, isAggT, Γ_22, Γ_3, TD.isAgg, RvL] at h ⊢
      exact ⟨h.1, moves_val h.2.1, trivial⟩
    | [], h => simp [valsOf, RvL] at h
    | [_], h => simp [valsOf, RvL] at h
    | _ :: _ :: _ :: _, h => simp [valsOf, RvL] at h
  | [], hF => simp [FitsArgs] at hF
  | [_], hF => simp [FitsArgs] at hF
  | _ :: _ :: _ :: _, hF => simp [FitsArgs] at hF

set_option maxRecDepth 100000 in
theorem quorumProposed_lifted (os : Os) (started : os.Started) (H : Type) (enc : TypeId × Value → H) :
    ReturnsInHanded {} Try.checked os 6 .any (Rows.quorumProposedSpec.pre6 enc Try.prog Try.f6 Rows.quorumProposedRow.domain false) (Rows.quorumProposedSpec.post enc Try.prog Try.f6 false true false false) := by
  refine returnsInHanded_of_change (C := Try.checked) own started (by kernel_rfl) Try.func6
    (ChangeSpec.witness6 (enc := enc) (C := Try.checked) false ⟨#[], #[.int .i64 0, .slice none 0 0], []⟩ 8 (by kernel_rfl) (by kernel_rfl) (by kernel_rfl) (by kernel_rfl)) ?_
  exact law_contract Γ_ok (by kernel_rfl) laid (by kernel_rfl) Try.underlying4 (by kernel_rfl) rfl (fun ds hl => by
    match ds, hl with
    | [_, _], _ => rfl) (by kernel_rfl) quorumProposed_look

theorem quorumProposed_over : Rows.quorumProposedRow.holds Try.pinned (OpenSpec.ofChange Rows.quorumProposedSpec) :=
  OpenClaim.holds_of_wide 6 Try.f6 rfl rfl rfl rfl rfl rfl rfl ⟨rfl, rfl, rfl, rfl, rfl⟩ rfl rfl rfl rfl rfl (by kernel_rfl) Try.func6 (by kernel_rfl)
    (of_decide_eq_true (by kernel_rfl)) (by unfold Func.isWrapper; first | (rw [if_pos (by decide +kernel)]; kernel_rfl) | (rw [if_neg (by decide +kernel)]; exact ⟨rfl, rfl⟩))
    (fun os started H enc _ => quorumProposed_lifted os started H enc)

theorem quorumProposed_holds : Rows.QuorumProposedSaid := quorumProposed_over

end Go.Proofs.Yteebphpfgboenaa

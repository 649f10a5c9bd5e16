/-
  Rows.QuorumForwardSaid: for every number of desks and script, and a beginning of it, what holds behind the beginning is a beginning of what holds behind the script; no condition.
-/
import Derived.Test.YteebphpfgboenaaV20
import Derived.Test.YteebphpfgboenaaV29
set_option linter.unusedSimpArgs false
set_option linter.unusedVariables false
namespace Go.Proofs.Yteebphpfgboenaa
open Go.Ab

theorem quorumForward_look : ∀ Ds, FitsArgs Γ Try.f5.params.toList Ds → ∃ us, (∀ w vs, RvL [] w (valsOf Γ Try.f5.params.toList Ds) vs → RvL [] w us vs) ∧ Look Try.prog 5 us (.imm (.bool true)) := by
  intro Ds hF
  have e : Try.f5.params.toList = [3, 22, 5] := by kernel_rfl
  rw [e] at hF ⊢
  match Ds, hF with
  | [D0, D1, D2], hF =>
    simp only [FitsArgs] at hF
    obtain ⟨q0, q1, q2, _⟩ := hF
    obtain ⟨n, rfl⟩ := fits_int q0
    obtain ⟨ms, hms, rfl⟩ := fits_moves q1
    obtain ⟨k, hk, rfl⟩ := fits_u8 q2
    refine ⟨_, fun w vs h => ?_, forward_tc n ms k hk hms⟩
    match vs, h with
    | [v0, v1, v2], h =>
      simp only [valsOf, isAggT, Γ_22, Γ_3, Γ_5, TD.isAgg, RvL] at h ⊢
      exact ⟨h.1, moves_val h.2.1, h.2.2.1, trivial⟩
    | [], h => simp [valsOf, RvL] at h
    | [_], h => simp [valsOf, RvL] at h
    | [_, _], h => simp [valsOf, RvL] at h
    | _ :: _ :: _ :: _ :: _, h => simp [valsOf, RvL] at h
  | [], hF => simp [FitsArgs] at hF
  | [_], hF => simp [FitsArgs] at hF
  | [_, _], hF => simp [FitsArgs] at hF
  | _ :: _ :: _ :: _ :: _, hF => simp [FitsArgs] at hF

set_option maxRecDepth 100000 in
theorem quorumForward_lifted (os : Os) (started : os.Started) (H : Type) (enc : TypeId × Value → H) :
    ReturnsInHanded {} Try.checked os 5 .any (Rows.quorumForwardSpec.pre6 enc Try.prog Try.f5 Rows.quorumForwardRow.domain false) (Rows.quorumForwardSpec.post enc Try.prog Try.f5 false true false false) := by
  refine returnsInHanded_of_change (C := Try.checked) own started (by kernel_rfl) Try.func5
    (ChangeSpec.witness6 (enc := enc) (C := Try.checked) false ⟨#[], #[.int .i64 0, .slice none 0 0, .int .u8 0], []⟩ 8 (by kernel_rfl) (by kernel_rfl) (by kernel_rfl) (by kernel_rfl)) ?_
  exact law_contract Γ_ok (by kernel_rfl) laid (by kernel_rfl) Try.underlying4 (by kernel_rfl) rfl (fun ds hl => by
    match ds, hl with
    | [_, _, _], _ => rfl) (by kernel_rfl) quorumForward_look

theorem quorumForward_over : Rows.quorumForwardRow.holds Try.pinned (OpenSpec.ofChange Rows.quorumForwardSpec) :=
  OpenClaim.holds_of_wide 5 Try.f5 rfl rfl rfl rfl rfl rfl rfl ⟨rfl, rfl, rfl, rfl, rfl⟩ rfl rfl rfl rfl rfl (by kernel_rfl) Try.func5 (by kernel_rfl)
    (of_decide_eq_true (by kernel_rfl)) (by unfold Func.isWrapper; first | (rw [if_pos (by decide +kernel)]; kernel_rfl) | (rw [if_neg (by decide +kernel)]; exact ⟨rfl, rfl⟩))
    (fun os started H enc _ => quorumForward_lifted os started H enc)

theorem quorumForward_holds : Rows.QuorumForwardSaid := quorumForward_over

end Go.Proofs.Yteebphpfgboenaa

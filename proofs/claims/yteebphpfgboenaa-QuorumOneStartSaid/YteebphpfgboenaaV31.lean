/-
  Rows.QuorumOneStartSaid: for every number of desks and script, no ballot is started twice, each vote is for a started ballot with its value, each acceptor has the last vote of its desk, and each promise names a vote of its desk below its ballot, or none; no condition.
-/
import Derived.Test.YteebphpfgboenaaV20
import Derived.Test.YteebphpfgboenaaV27
set_option linter.unusedSimpArgs false
set_option linter.unusedVariables false
namespace Go.Proofs.Yteebphpfgboenaa
open Go.Ab

theorem quorumOneStart_look : ∀ Ds, FitsArgs Γ Try.f7.params.toList Ds → ∃ us, (∀ w vs, RvL [] w (valsOf Γ Try.f7.params.toList Ds) vs → RvL [] w us vs) ∧ Look Try.prog 7 us (.imm (.bool true)) := by
  intro Ds hF
  have e : Try.f7.params.toList = [3, 22] := by kernel_rfl
  rw [e] at hF ⊢
  match Ds, hF with
  | [D0, D1], hF =>
    simp only [FitsArgs] at hF
    obtain ⟨q0, q1, _⟩ := hF
    obtain ⟨n, rfl⟩ := fits_int q0
    obtain ⟨ms, hms, rfl⟩ := fits_moves q1
    refine ⟨_, fun w vs h => ?_, oneStart_tc n ms hms⟩
    match vs, h with
    | [v0, v1], h =>
      simp only [valsOf, isAggT, Γ_22, Γ_3, TD.isAgg, RvL] at h ⊢
      exact ⟨h.1, moves_val h.2.1, trivial⟩
    | [], h => simp [valsOf, RvL] at h
    | [_], h => simp [valsOf, RvL] at h
    | _ :: _ :: _ :: _, h => simp [valsOf, RvL] at h
  | [], hF => simp [FitsArgs] at hF
  | [_], hF => simp [FitsArgs] at hF
  | _ :: _ :: _ :: _, hF => simp [FitsArgs] at hF

set_option maxRecDepth 100000 in
theorem quorumOneStart_lifted (os : Os) (started : os.Started) (H : Type) (enc : TypeId × Value → H) :
    ReturnsInHanded {} Try.checked os 7 .any (Rows.quorumOneStartSpec.pre6 enc Try.prog Try.f7 Rows.quorumOneStartRow.domain false) (Rows.quorumOneStartSpec.post enc Try.prog Try.f7 false true false false) := by
  refine returnsInHanded_of_change (C := Try.checked) own started (by kernel_rfl) Try.func7
    (ChangeSpec.witness6 (enc := enc) (C := Try.checked) false ⟨#[], #[.int .i64 0, .slice none 0 0], []⟩ 8 (by kernel_rfl) (by kernel_rfl) (by kernel_rfl) (by kernel_rfl)) ?_
  exact law_contract Γ_ok (by kernel_rfl) laid (by kernel_rfl) Try.underlying4 (by kernel_rfl) rfl (fun ds hl => by
    match ds, hl with
    | [_, _], _ => rfl) (by kernel_rfl) quorumOneStart_look

theorem quorumOneStart_over : Rows.quorumOneStartRow.holds Try.pinned (OpenSpec.ofChange Rows.quorumOneStartSpec) :=
  OpenClaim.holds_of_wide 7 Try.f7 rfl rfl rfl rfl rfl rfl rfl ⟨rfl, rfl, rfl, rfl, rfl⟩ rfl rfl rfl rfl rfl (by kernel_rfl) Try.func7 (by kernel_rfl)
    (of_decide_eq_true (by kernel_rfl)) (by unfold Func.isWrapper; first | (rw [if_pos (by decide +kernel)]; kernel_rfl) | (rw [if_neg (by decide +kernel)]; exact ⟨rfl, rfl⟩))
    (fun os started H enc _ => quorumOneStart_lifted os started H enc)

theorem quorumOneStart_holds : Rows.QuorumOneStartSaid := quorumOneStart_over

end Go.Proofs.Yteebphpfgboenaa

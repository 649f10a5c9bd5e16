/-
  Rows.QuorumOneValueSaid, Rows.QuorumLaterSaid: for every number of desks and script, all chosen ballots have the same value; each started ballot above a chosen one has its value, and each chosen ballot was started with its value; no condition.
-/
import Derived.Test.YteebphpfgboenaaV20
import Derived.Test.YteebphpfgboenaaV15
set_option linter.unusedSimpArgs false
set_option linter.unusedVariables false
namespace Go.Proofs.Yteebphpfgboenaa
open Go.Ab

theorem quorumOneValue_look : ∀ Ds, FitsArgs Γ Try.f3.params.toList Ds → ∃ us, (∀ w vs, RvL [] w (valsOf Γ Try.f3.params.toList Ds) vs → RvL [] w us vs) ∧ Look Try.prog 3 us (.imm (.bool true)) := by
  intro Ds hF
  have e : Try.f3.params.toList = [3, 22] := by kernel_rfl
  rw [e] at hF ⊢
  match Ds, hF with
  | [D0, D1], hF =>
    simp only [FitsArgs] at hF
    obtain ⟨q0, q1, _⟩ := hF
    obtain ⟨n, rfl⟩ := fits_int q0
    obtain ⟨ms, hms, rfl⟩ := fits_moves q1
    refine ⟨_, fun w vs h => ?_, oneValue_tc n ms hms⟩
    match vs, h with
    | [v0, v1], h =>
      simp only [valsOf, isAggT, Γ_22, Γ_3, TD.isAgg, RvL] at h ⊢
      exact ⟨h.1, moves_val h.2.1, trivial⟩
    | [], h => simp [valsOf, RvL] at h
    | [_], h => simp [valsOf, RvL] at h
    | _ :: _ :: _ :: _, h => simp [valsOf, RvL] at h
  | [], hF => simp [FitsArgs] at hF
  | [_], hF => simp [FitsArgs] at hF
  | _ :: _ :: _ :: _, hF => simp [FitsArgs] at hF

set_option maxRecDepth 100000 in
theorem quorumOneValue_lifted (os : Os) (started : os.Started) (H : Type) (enc : TypeId × Value → H) :
    ReturnsInHanded {} Try.checked os 3 .any (Rows.quorumOneValueSpec.pre6 enc Try.prog Try.f3 Rows.quorumOneValueRow.domain false) (Rows.quorumOneValueSpec.post enc Try.prog Try.f3 false true false false) := by
  refine returnsInHanded_of_change (C := Try.checked) own started (by kernel_rfl) Try.func3
    (ChangeSpec.witness6 (enc := enc) (C := Try.checked) false ⟨#[], #[.int .i64 0, .slice none 0 0], []⟩ 8 (by kernel_rfl) (by kernel_rfl) (by kernel_rfl) (by kernel_rfl)) ?_
  exact law_contract Γ_ok (by kernel_rfl) laid (by kernel_rfl) Try.underlying4 (by kernel_rfl) rfl (fun ds hl => by
    match ds, hl with
    | [_, _], _ => rfl) (by kernel_rfl) quorumOneValue_look

theorem quorumOneValue_over : Rows.quorumOneValueRow.holds Try.pinned (OpenSpec.ofChange Rows.quorumOneValueSpec) :=
  OpenClaim.holds_of_wide 3 Try.f3 rfl rfl rfl rfl rfl rfl rfl ⟨rfl, rfl, rfl, rfl, rfl⟩ rfl rfl rfl rfl rfl (by kernel_rfl) Try.func3 (by kernel_rfl)
    (of_decide_eq_true (by kernel_rfl)) (by unfold Func.isWrapper; first | (rw [if_pos (by decide +kernel)]; kernel_rfl) | (rw [if_neg (by decide +kernel)]; exact ⟨rfl, rfl⟩))
    (fun os started H enc _ => quorumOneValue_lifted os started H enc)

theorem quorumOneValue_holds : Rows.QuorumOneValueSaid := quorumOneValue_over

theorem quorumLater_look : ∀ Ds, FitsArgs Γ Try.f4.params.toList Ds → ∃ us, (∀ w vs, RvL [] w (valsOf Γ Try.f4.params.toList Ds) vs → RvL [] w us vs) ∧ Look Try.prog 4 us (.imm (.bool true)) := by
  intro Ds hF
  have e : Try.f4.params.toList = [3, 22] := by kernel_rfl
  rw [e] at hF ⊢
  match Ds, hF with
  | [D0, D1], hF =>
    simp only [FitsArgs] at hF
    obtain ⟨q0, q1, _⟩ := hF
    obtain ⟨n, rfl⟩ := fits_int q0
    obtain ⟨ms, hms, rfl⟩ := fits_moves q1
    refine ⟨_, fun w vs h => ?_, later_tc n ms hms⟩
    match vs, h with
    | [v0, v1], h =>
      simp only [valsOf, isAggT, Γ_22, Γ_3, TD.isAgg, RvL] at h ⊢
      exact ⟨h.1, moves_val h.2.1, trivial⟩
    | [], h => simp [valsOf, RvL] at h
    | [_], h => simp [valsOf, RvL] at h
    | _ :: _ :: _ :: _, h => simp [valsOf, RvL] at h
  | [], hF => simp [FitsArgs] at hF
  | [_], hF => simp [FitsArgs] at hF
  | _ :: _ :: _ :: _, hF => simp [FitsArgs] at hF

set_option maxRecDepth 100000 in
theorem quorumLater_lifted (os : Os) (started : os.Started) (H : Type) (enc : TypeId × Value → H) :
    ReturnsInHanded {} Try.checked os 4 .any (Rows.quorumLaterSpec.pre6 enc Try.prog Try.f4 Rows.quorumLaterRow.domain false) (Rows.quorumLaterSpec.post enc Try.prog Try.f4 false true false false) := by
  refine returnsInHanded_of_change (C := Try.checked) own started (by kernel_rfl) Try.func4
    (ChangeSpec.witness6 (enc := enc) (C := Try.checked) false ⟨#[], #[.int .i64 0, .slice none 0 0], []⟩ 8 (by kernel_rfl) (by kernel_rfl) (by kernel_rfl) (by kernel_rfl)) ?_
  exact law_contract Γ_ok (by kernel_rfl) laid (by kernel_rfl) Try.underlying4 (by kernel_rfl) rfl (fun ds hl => by
    match ds, hl with
    | [_, _], _ => rfl) (by kernel_rfl) quorumLater_look

theorem quorumLater_over : Rows.quorumLaterRow.holds Try.pinned (OpenSpec.ofChange Rows.quorumLaterSpec) :=
  OpenClaim.holds_of_wide 4 Try.f4 rfl rfl rfl rfl rfl rfl rfl ⟨rfl, rfl, rfl, rfl, rfl⟩ rfl rfl rfl rfl rfl (by kernel_rfl) Try.func4 (by kernel_rfl)
    (of_decide_eq_true (by kernel_rfl)) (by unfold Func.isWrapper; first | (rw [if_pos (by decide +kernel)]; kernel_rfl) | (rw [if_neg (by decide +kernel)]; exact ⟨rfl, rfl⟩))
    (fun os started H enc _ => quorumLater_lifted os started H enc)

theorem quorumLater_holds : Rows.QuorumLaterSaid := quorumLater_over

end Go.Proofs.Yteebphpfgboenaa

/-
  Rows.EpochMissingSaid: for every input: what Missing returns are the sections that are not known; no condition.
-/
import Derived.Test.YtiandkdhonbjpaaW26
import Derived.Test.YtiandkdhonbjpaaW25
set_option linter.unusedSimpArgs false
set_option linter.unusedVariables false
namespace Go.Proofs.Ytiandkdhonbjpaa
open Go.Ab

theorem epochMissing_look : ∀ Ds, FitsArgs Γ Try.f9.params.toList Ds → ∃ us, (∀ w vs, RvL [] w (valsOf Γ Try.f9.params.toList Ds) vs → RvL [] w us vs) ∧ Look Try.prog 9 us (.imm (.bool true)) := by
  intro Ds hF
  have e : Try.f9.params.toList = [22, 3] := by kernel_rfl
  rw [e] at hF ⊢
  match Ds, hF with
  | [D0, D1], hF =>
    simp only [FitsArgs] at hF
    obtain ⟨q0, q1, _⟩ := hF
    obtain ⟨log, hlog, rfl⟩ := fits_takes q0
    obtain ⟨n, rfl⟩ := fits_int q1
    refine ⟨_, fun w vs h => ?_, law_missing log n hlog⟩
    match vs, h with
    | [v0, v1], h =>
      simp only [valsOf, isAggT, Γ_22, Γ_3, TD.isAgg, RvL] at h ⊢
      exact ⟨takes_val h.1, h.2.1, trivial⟩
    | [], h => simp [valsOf, RvL] at h
    | [_], h => simp [valsOf, RvL] at h
    | _ :: _ :: _ :: _, h => simp [valsOf, RvL] at h
  | [], hF => simp [FitsArgs] at hF
  | [_], hF => simp [FitsArgs] at hF
  | _ :: _ :: _ :: _, hF => simp [FitsArgs] at hF

set_option maxRecDepth 100000 in
theorem epochMissing_lifted (os : Os) (started : os.Started) (H : Type) (enc : TypeId × Value → H) :
    ReturnsInHanded {} Try.checked os 9 .any (Rows.epochMissingSpec.pre6 enc Try.prog Try.f9 Rows.epochMissingRow.domain false) (Rows.epochMissingSpec.post enc Try.prog Try.f9 false true false false) := by
  refine returnsInHanded_of_change (C := Try.checked) own started (by kernel_rfl) Try.func9
    (ChangeSpec.witness6 (enc := enc) (C := Try.checked) false ⟨#[], #[.slice none 0 0, .int .i64 0], []⟩ 8 (by kernel_rfl) (by kernel_rfl) (by kernel_rfl) (by kernel_rfl)) ?_
  exact law_contract Γ_ok (by kernel_rfl) laid (by kernel_rfl) Try.underlying4 (by kernel_rfl) rfl (fun ds hl => by
    match ds, hl with
    | [_, _], _ => rfl) (by kernel_rfl) epochMissing_look

theorem epochMissing_over : Rows.epochMissingRow.holds Try.pinned (OpenSpec.ofChange Rows.epochMissingSpec) :=
  OpenClaim.holds_of_wide 9 Try.f9 rfl rfl rfl rfl rfl rfl rfl ⟨rfl, rfl, rfl, rfl, rfl⟩ rfl rfl rfl rfl rfl (by kernel_rfl) Try.func9 (by kernel_rfl)
    (of_decide_eq_true (by kernel_rfl)) (by unfold Func.isWrapper; first | (rw [if_pos (by decide +kernel)]; kernel_rfl) | (rw [if_neg (by decide +kernel)]; exact ⟨rfl, rfl⟩))
    (fun os started H enc _ => epochMissing_lifted os started H enc)

theorem epochMissing_holds : Rows.EpochMissingSaid := epochMissing_over

end Go.Proofs.Ytiandkdhonbjpaa

/-
  Rows.EpochOneByOneSaid: for every input: merging is learning the takes one by one; no condition.
-/
import Derived.Test.YtiandkdhonbjpaaW26
import Derived.Test.YtiandkdhonbjpaaW24
set_option linter.unusedSimpArgs false
set_option linter.unusedVariables false
namespace Go.Proofs.Ytiandkdhonbjpaa
open Go.Ab

theorem epochOneByOne_look : ∀ Ds, FitsArgs Γ Try.f8.params.toList Ds → ∃ us, (∀ w vs, RvL [] w (valsOf Γ Try.f8.params.toList Ds) vs → RvL [] w us vs) ∧ Look Try.prog 8 us (.imm (.bool true)) := by
  intro Ds hF
  have e : Try.f8.params.toList = [22, 22] := by kernel_rfl
  rw [e] at hF ⊢
  match Ds, hF with
  | [D0, D1], hF =>
    simp only [FitsArgs] at hF
    obtain ⟨q0, q1, _⟩ := hF
    obtain ⟨a, ha, rfl⟩ := fits_takes q0
    obtain ⟨b, hb, rfl⟩ := fits_takes q1
    refine ⟨_, fun w vs h => ?_, law_onebyone a b ha hb⟩
    match vs, h with
    | [v0, v1], h =>
      simp only [valsOf, isAggT, Γ_22, TD.isAgg, RvL] at h ⊢
      exact ⟨takes_val h.1, takes_val h.2.1, trivial⟩
    | [], h => simp [valsOf, RvL] at h
    | [_], h => simp [valsOf, RvL] at h
    | _ :: _ :: _ :: _, h => simp [valsOf, RvL] at h
  | [], hF => simp [FitsArgs] at hF
  | [_], hF => simp [FitsArgs] at hF
  | _ :: _ :: _ :: _, hF => simp [FitsArgs] at hF

set_option maxRecDepth 100000 in
theorem epochOneByOne_lifted (os : Os) (started : os.Started) (H : Type) (enc : TypeId × Value → H) :
    ReturnsInHanded {} Try.checked os 8 .any (Rows.epochOneByOneSpec.pre6 enc Try.prog Try.f8 Rows.epochOneByOneRow.domain false) (Rows.epochOneByOneSpec.post enc Try.prog Try.f8 false true false false) := by
  refine returnsInHanded_of_change (C := Try.checked) own started (by kernel_rfl) Try.func8
    (ChangeSpec.witness6 (enc := enc) (C := Try.checked) false ⟨#[], #[.slice none 0 0, .slice none 0 0], []⟩ 8 (by kernel_rfl) (by kernel_rfl) (by kernel_rfl) (by kernel_rfl)) ?_
  exact law_contract Γ_ok (by kernel_rfl) laid (by kernel_rfl) Try.underlying4 (by kernel_rfl) rfl (fun ds hl => by
    match ds, hl with
    | [_, _], _ => rfl) (by kernel_rfl) epochOneByOne_look

theorem epochOneByOne_over : Rows.epochOneByOneRow.holds Try.pinned (OpenSpec.ofChange Rows.epochOneByOneSpec) :=
  OpenClaim.holds_of_wide 8 Try.f8 rfl rfl rfl rfl rfl rfl rfl ⟨rfl, rfl, rfl, rfl, rfl⟩ rfl rfl rfl rfl rfl (by kernel_rfl) Try.func8 (by kernel_rfl)
    (of_decide_eq_true (by kernel_rfl)) (by unfold Func.isWrapper; first | (rw [if_pos (by decide +kernel)]; kernel_rfl) | (rw [if_neg (by decide +kernel)]; exact ⟨rfl, rfl⟩))
    (fun os started H enc _ => epochOneByOne_lifted os started H enc)

theorem epochOneByOne_holds : Rows.EpochOneByOneSaid := epochOneByOne_over

end Go.Proofs.Ytiandkdhonbjpaa

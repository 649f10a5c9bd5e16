/-
  Rows.MergeLiarsSaid: for any valid journals: of two entries that contradict each other, all desks that voted for both are liars, and there is one; without a clash there is no liar; no condition.
-/
import Derived.Test.YthikkiacgmgdhaaQM26
import Derived.Test.YthikkiacgmgdhaaQM30
set_option linter.unusedSimpArgs false
set_option linter.unusedVariables false
namespace Go.Proofs.Ythikkiacgmgdhaa
open Go.Ab

theorem mergeLiars_look : ∀ Ds, FitsArgs Γ Try.f8.params.toList Ds → ∃ us, (∀ w vs, RvL [] w (valsOf Γ Try.f8.params.toList Ds) vs → RvL [] w us vs) ∧ Look Try.prog 8 us (.imm (.bool true)) := by
  intro Ds hF
  have e : Try.f8.params.toList = [3, 22] := by kernel_rfl
  rw [e] at hF ⊢
  match Ds, hF with
  | [D0, D1], hF =>
    simp only [FitsArgs] at hF
    obtain ⟨q0, q1, _⟩ := hF
    obtain ⟨n, rfl⟩ := fits_int q0
    obtain ⟨js, hjs, rfl⟩ := fits_journals q1
    refine ⟨_, fun w vs h => ?_, liars_law n js hjs⟩
    match vs, h with
    | [v0, v1], h =>
      simp only [valsOf, isAggT, Γ_22, Γ_3, TD.isAgg, RvL] at h ⊢
      exact ⟨h.1, jns_val h.2.1, trivial⟩
    | [], h => simp [valsOf, RvL] at h
    | [_], h => simp [valsOf, RvL] at h
    | _ :: _ :: _ :: _, h => simp [valsOf, RvL] at h
  | [], hF => simp [FitsArgs] at hF
  | [_], hF => simp [FitsArgs] at hF
  | _ :: _ :: _ :: _, hF => simp [FitsArgs] at hF

set_option maxRecDepth 100000 in
theorem mergeLiars_lifted (os : Os) (started : os.Started) (H : Type) (enc : TypeId × Value → H) :
    ReturnsInHanded {} Try.checked os 8 .any (Rows.mergeLiarsSpec.pre6 enc Try.prog Try.f8 Rows.mergeLiarsRow.domain false) (Rows.mergeLiarsSpec.post enc Try.prog Try.f8 false true false false) := by
  refine returnsInHanded_of_change (C := Try.checked) own started (by kernel_rfl) Try.func8
    (ChangeSpec.witness6 (enc := enc) (C := Try.checked) false ⟨#[], #[.int .i64 0, .slice none 0 0], []⟩ 8 (by kernel_rfl) (by kernel_rfl) (by kernel_rfl) (by kernel_rfl)) ?_
  exact law_contract rfl Γ_ok (by kernel_rfl) laid (by kernel_rfl) Try.underlying4 (by kernel_rfl) rfl (fun ds hl => by
    match ds, hl with
    | [_, _], _ => rfl) (by kernel_rfl) mergeLiars_look

theorem mergeLiars_over : Rows.mergeLiarsRow.holds Try.pinned (OpenSpec.ofChange Rows.mergeLiarsSpec) :=
  OpenClaim.holds_of_wide 8 Try.f8 rfl rfl rfl rfl rfl rfl rfl ⟨rfl, rfl, rfl, rfl, rfl⟩ rfl rfl rfl rfl rfl (by kernel_rfl) Try.func8 (by kernel_rfl)
    (of_decide_eq_true (by kernel_rfl)) (by unfold Func.isWrapper; first | (rw [if_pos (by decide +kernel)]; kernel_rfl) | (rw [if_neg (by decide +kernel)]; exact ⟨rfl, rfl⟩))
    (fun os started H enc _ => mergeLiars_lifted os started H enc)

theorem mergeLiars_holds : Rows.MergeLiarsSaid := mergeLiars_over

end Go.Proofs.Ythikkiacgmgdhaa

/-
  Rows.MergeOrderSaid: begun with another journal, or with one of them twice, journals are merged to the same takes, if there are not too many, and have the same liars; no condition.
-/
import Derived.Test.YthikkiacgmgdhaaQM26
import Derived.Test.YthikkiacgmgdhaaQM33
set_option linter.unusedSimpArgs false
set_option linter.unusedVariables false
namespace Go.Proofs.Ythikkiacgmgdhaa
open Go.Ab

theorem mergeOrder_look : ∀ Ds, FitsArgs Γ Try.f5.params.toList Ds → ∃ us, (∀ w vs, RvL [] w (valsOf Γ Try.f5.params.toList Ds) vs → RvL [] w us vs) ∧ Look Try.prog 5 us (.imm (.bool true)) := by
  intro Ds hF
  have e : Try.f5.params.toList = [3, 22, 5] := by kernel_rfl
  rw [e] at hF ⊢
  match Ds, hF with
  | [D0, D1, D2], hF =>
    simp only [FitsArgs] at hF
    obtain ⟨q0, q1, q2, _⟩ := hF
    obtain ⟨n, rfl⟩ := fits_int q0
    obtain ⟨js, hjs, rfl⟩ := fits_journals q1
    obtain ⟨a, ha, rfl⟩ := fits_u8 q2
    refine ⟨_, fun w vs h => ?_, order_law n js a hjs ha⟩
    match vs, h with
    | [v0, v1, v2], h =>
      simp only [valsOf, isAggT, Γ_22, Γ_3, Γ_5, TD.isAgg, RvL] at h ⊢
      exact ⟨h.1, jns_val h.2.1, h.2.2.1, trivial⟩
    | [], h => simp [valsOf, RvL] at h
    | [_], h => simp [valsOf, RvL] at h
    | [_, _], h => simp [valsOf, RvL] at h
    | _ :: _ :: _ :: _ :: _, h => simp [valsOf, RvL] at h
  | [], hF => simp [FitsArgs] at hF
  | [_], hF => simp [FitsArgs] at hF
  | [_, _], hF => simp [FitsArgs] at hF
  | _ :: _ :: _ :: _ :: _, hF => simp [FitsArgs] at hF

set_option maxRecDepth 100000 in
theorem mergeOrder_lifted (os : Os) (started : os.Started) (H : Type) (enc : TypeId × Value → H) :
    ReturnsInHanded {} Try.checked os 5 .any (Rows.mergeOrderSpec.pre6 enc Try.prog Try.f5 Rows.mergeOrderRow.domain false) (Rows.mergeOrderSpec.post enc Try.prog Try.f5 false true false false) := by
  refine returnsInHanded_of_change (C := Try.checked) own started (by kernel_rfl) Try.func5
    (ChangeSpec.witness6 (enc := enc) (C := Try.checked) false ⟨#[], #[.int .i64 0, .slice none 0 0, .int .u8 0], []⟩ 8 (by kernel_rfl) (by kernel_rfl) (by kernel_rfl) (by kernel_rfl)) ?_
  exact law_contract rfl Γ_ok (by kernel_rfl) laid (by kernel_rfl) Try.underlying4 (by kernel_rfl) rfl (fun ds hl => by
    match ds, hl with
    | [_, _, _], _ => rfl) (by kernel_rfl) mergeOrder_look

theorem mergeOrder_over : Rows.mergeOrderRow.holds Try.pinned (OpenSpec.ofChange Rows.mergeOrderSpec) :=
  OpenClaim.holds_of_wide 5 Try.f5 rfl rfl rfl rfl rfl rfl rfl ⟨rfl, rfl, rfl, rfl, rfl⟩ rfl rfl rfl rfl rfl (by kernel_rfl) Try.func5 (by kernel_rfl)
    (of_decide_eq_true (by kernel_rfl)) (by unfold Func.isWrapper; first | (rw [if_pos (by decide +kernel)]; kernel_rfl) | (rw [if_neg (by decide +kernel)]; exact ⟨rfl, rfl⟩))
    (fun os started H enc _ => mergeOrder_lifted os started H enc)

theorem mergeOrder_holds : Rows.MergeOrderSaid := mergeOrder_over

end Go.Proofs.Ythikkiacgmgdhaa

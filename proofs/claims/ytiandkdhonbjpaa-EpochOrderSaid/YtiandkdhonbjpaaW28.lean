/-
  Rows.EpochOrderSaid: for every input: two takes can be learnt in either order, with the same result; no condition.
-/
import Derived.Test.YtiandkdhonbjpaaW26
import Derived.Test.YtiandkdhonbjpaaW21
set_option linter.unusedSimpArgs false
set_option linter.unusedVariables false
namespace Go.Proofs.Ytiandkdhonbjpaa
open Go.Ab

theorem epochOrder_look : ∀ Ds, FitsArgs Γ Try.f5.params.toList Ds → ∃ us, (∀ w vs, RvL [] w (valsOf Γ Try.f5.params.toList Ds) vs → RvL [] w us vs) ∧ Look Try.prog 5 us (.imm (.bool true)) := by
  intro Ds hF
  have e : Try.f5.params.toList = [22, 24, 24] := by kernel_rfl
  rw [e] at hF ⊢
  match Ds, hF with
  | [D0, D1, D2], hF =>
    simp only [FitsArgs] at hF
    obtain ⟨q0, q1, q2, _⟩ := hF
    obtain ⟨log, hlog, rfl⟩ := fits_takes q0
    obtain ⟨t, rfl⟩ := fits_take q1
    obtain ⟨u, rfl⟩ := fits_take q2
    refine ⟨_, fun w vs h => ?_, law_order log t u hlog⟩
    match vs, h with
    | [v0, v1, v2], h =>
      simp only [valsOf, isAggT, Γ_22, Γ_24, TD.isAgg, RvL] at h ⊢
      exact ⟨takes_val h.1, h.2.1, h.2.2.1, trivial⟩
    | [], h => simp [valsOf, RvL] at h
    | [_], h => simp [valsOf, RvL] at h
    | [_, _], h => simp [valsOf, RvL] at h
    | _ :: _ :: _ :: _ :: _, h => simp [valsOf, RvL] at h
  | [], hF => simp [FitsArgs] at hF
  | [_], hF => simp [FitsArgs] at hF
  | [_, _], hF => simp [FitsArgs] at hF
  | _ :: _ :: _ :: _ :: _, hF => simp [FitsArgs] at hF

set_option maxRecDepth 100000 in
theorem epochOrder_lifted (os : Os) (started : os.Started) (H : Type) (enc : TypeId × Value → H) :
    ReturnsInHanded {} Try.checked os 5 .any (Rows.epochOrderSpec.pre6 enc Try.prog Try.f5 Rows.epochOrderRow.domain false) (Rows.epochOrderSpec.post enc Try.prog Try.f5 false true false false) := by
  refine returnsInHanded_of_change (C := Try.checked) own started (by kernel_rfl) Try.func5
    (ChangeSpec.witness6 (enc := enc) (C := Try.checked) false ⟨#[], #[.slice none 0 0, .agg #[.int .i64 0, .int .i64 0, .int .i64 0, .int .i64 0], .agg #[.int .i64 0, .int .i64 0, .int .i64 0, .int .i64 0]], []⟩ 8 (by kernel_rfl) (by kernel_rfl) (by kernel_rfl) (by kernel_rfl)) ?_
  exact law_contract Γ_ok (by kernel_rfl) laid (by kernel_rfl) Try.underlying4 (by kernel_rfl) rfl (fun ds hl => by
    match ds, hl with
    | [_, _, _], _ => rfl) (by kernel_rfl) epochOrder_look

theorem epochOrder_over : Rows.epochOrderRow.holds Try.pinned (OpenSpec.ofChange Rows.epochOrderSpec) :=
  OpenClaim.holds_of_wide 5 Try.f5 rfl rfl rfl rfl rfl rfl rfl ⟨rfl, rfl, rfl, rfl, rfl⟩ rfl rfl rfl rfl rfl (by kernel_rfl) Try.func5 (by kernel_rfl)
    (of_decide_eq_true (by kernel_rfl)) (by unfold Func.isWrapper; first | (rw [if_pos (by decide +kernel)]; kernel_rfl) | (rw [if_neg (by decide +kernel)]; exact ⟨rfl, rfl⟩))
    (fun os started H enc _ => epochOrder_lifted os started H enc)

theorem epochOrder_holds : Rows.EpochOrderSaid := epochOrder_over

end Go.Proofs.Ytiandkdhonbjpaa

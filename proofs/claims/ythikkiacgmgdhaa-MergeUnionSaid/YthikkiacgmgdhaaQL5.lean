/-
  Rows.MergeUnionSaid: what is merged of any journals that can be merged rises by sections, has the take of each entry, and each of its takes is that of some entry; no condition.
-/
import Derived.Test.YthikkiacgmgdhaaQM26
import Derived.Test.YthikkiacgmgdhaaQM31
set_option linter.unusedSimpArgs false
set_option linter.unusedVariables false
namespace Go.Proofs.Ythikkiacgmgdhaa
open Go.Ab

theorem mergeUnion_look : ∀ Ds, FitsArgs Γ Try.f4.params.toList Ds → ∃ us, (∀ w vs, RvL [] w (valsOf Γ Try.f4.params.toList Ds) vs → RvL [] w us vs) ∧ Look Try.prog 4 us (.imm (.bool true)) := by
  intro Ds hF
  have e : Try.f4.params.toList = [3, 22] := by kernel_rfl
  rw [e] at hF ⊢
  match Ds, hF with
  | [D0, D1], hF =>
    simp only [FitsArgs] at hF
    obtain ⟨q0, q1, _⟩ := hF
    obtain ⟨n, rfl⟩ := fits_int q0
    obtain ⟨js, hjs, rfl⟩ := fits_journals q1
    refine ⟨_, fun w vs h => ?_, union_law n js hjs⟩
    match vs, h with
    | [v0, v1], h =>
      simp only [valsOf, isAggT, Γ_22, Γ_3, TD.isAgg, RvL] at h ⊢
      exact ⟨h.1, jns_val h.2.1, trivial⟩
    | [], h => simp [valsOf, RvL] at h
    | [_], h => simp [valsOf, RvL] at h
    | _ :: _ :: _ :: _, h => simp [valsOf, RvL] at h
  | [], hF => simp [FitsArgs] at hF
  | [_], hF => simp [FitsArgs] at hF
  | _ :: _ :: _ :: _, hF => simp [FitsArgs] at hF

set_option maxRecDepth 100000 in
theorem mergeUnion_lifted (os : Os) (started : os.Started) (H : Type) (enc : TypeId × Value → H) :
    ReturnsInHanded {} Try.checked os 4 .any (Rows.mergeUnionSpec.pre6 enc Try.prog Try.f4 Rows.mergeUnionRow.domain false) (Rows.mergeUnionSpec.post enc Try.prog Try.f4 false true false false) := by
  refine returnsInHanded_of_change (C := Try.checked) own started (by kernel_rfl) Try.func4
    (ChangeSpec.witness6 (enc := enc) (C := Try.checked) false ⟨#[], #[.int .i64 0, .slice none 0 0], []⟩ 8 (by kernel_rfl) (by kernel_rfl) (by kernel_rfl) (by kernel_rfl)) ?_
  exact law_contract rfl Γ_ok (by kernel_rfl) laid (by kernel_rfl) Try.underlying4 (by kernel_rfl) rfl (fun ds hl => by
    match ds, hl with
    | [_, _], _ => rfl) (by kernel_rfl) mergeUnion_look

theorem mergeUnion_over : Rows.mergeUnionRow.holds Try.pinned (OpenSpec.ofChange Rows.mergeUnionSpec) :=
  OpenClaim.holds_of_wide 4 Try.f4 rfl rfl rfl rfl rfl rfl rfl ⟨rfl, rfl, rfl, rfl, rfl⟩ rfl rfl rfl rfl rfl (by kernel_rfl) Try.func4 (by kernel_rfl)
    (of_decide_eq_true (by kernel_rfl)) (by unfold Func.isWrapper; first | (rw [if_pos (by decide +kernel)]; kernel_rfl) | (rw [if_neg (by decide +kernel)]; exact ⟨rfl, rfl⟩))
    (fun os started H enc _ => mergeUnion_lifted os started H enc)

theorem mergeUnion_holds : Rows.MergeUnionSaid := mergeUnion_over

end Go.Proofs.Ythikkiacgmgdhaa

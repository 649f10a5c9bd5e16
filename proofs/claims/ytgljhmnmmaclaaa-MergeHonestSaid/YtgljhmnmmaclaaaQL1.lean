/-
  Rows.MergeHonestSaid: honest journals are valid,never clash,have no liars,and are merged to the one value that was chosen;no condition.
-/
import Derived.Test.YtgljhmnmmaclaaaQH3
set_option linter.unusedSimpArgs false
set_option linter.unusedVariables false
namespace Go.Proofs.Ytgljhmnmmaclaaa
open Go.Ab Q
theorem mergeHonest_look : ∀ Ds,FitsArgs Γ Try.f3.params.toList Ds → ∃ us,(∀ w vs,RvL [] w (valsOf Γ Try.f3.params.toList Ds) vs → RvL [] w us vs) ∧ Look Try.prog 3 us (.imm (.bool true)) := by
  intro Ds hF
  have e : Try.f3.params.toList = [3, 22, 23] := by kernel_rfl
  rw [e] at hF ⊢
  match Ds, hF with
  | [D0, D1, D2], hF =>
    simp only [FitsArgs] at hF
    obtain ⟨q0, q1, q2, _⟩ := hF
    obtain ⟨n, rfl⟩ := fits_int q0
    obtain ⟨ms, hms, rfl⟩ := fits_moves q1
    obtain ⟨bs, hbs, rfl⟩ := fits_bytes q2
    refine ⟨_, fun w vs h => ?_, honest_law n ms hms bs hbs.1 hbs.2⟩
    match vs, h with
    | [v0, v1, v2], h =>
      simp only [valsOf, isAggT, Γ_22, Γ_23, Γ_3, TD.isAgg, RvL] at h ⊢
      exact ⟨h.1, moves_val h.2.1, bytes_val h.2.2.1, trivial⟩
    | [], h => simp [valsOf, RvL] at h
    | [_], h => simp [valsOf, RvL] at h
    | [_, _], h => simp [valsOf, RvL] at h
    | _ :: _ :: _ :: _ :: _, h => simp [valsOf, RvL] at h
  | [], hF => simp [FitsArgs] at hF
  | [_], hF => simp [FitsArgs] at hF
  | [_, _], hF => simp [FitsArgs] at hF
  | _ :: _ :: _ :: _ :: _, hF => simp [FitsArgs] at hF
set_option maxRecDepth 100000 in
theorem mergeHonest_lifted (os : Os) (started : os.Started) (H : Type) (enc : TypeId × Value → H) :
    ReturnsInHanded {} Try.checked os 3 .any (Rows.mergeHonestSpec.pre6 enc Try.prog Try.f3 Rows.mergeHonestRow.domain false) (Rows.mergeHonestSpec.post enc Try.prog Try.f3 false true false false) := by
  refine returnsInHanded_of_change (C := Try.checked) own started (by kernel_rfl) Try.func3
    (ChangeSpec.witness6 (enc := enc) (C := Try.checked) false ⟨#[],#[.int .i64 0,.slice none 0 0,.slice none 0 0],[]⟩ 8 (by kernel_rfl) (by kernel_rfl) (by kernel_rfl) (by kernel_rfl)) ?_
  exact law_contract rfl Γ_ok (by kernel_rfl) laid (by kernel_rfl) Try.underlying4 (by kernel_rfl) rfl (fun ds hl => by
    match ds, hl with
    | [_, _, _], _ => rfl) (by kernel_rfl) mergeHonest_look
theorem mergeHonest_over : Rows.mergeHonestRow.holds Try.pinned (OpenSpec.ofChange Rows.mergeHonestSpec) :=
  OpenClaim.holds_of_wide 3 Try.f3 rfl rfl rfl rfl rfl rfl rfl ⟨rfl,rfl,rfl,rfl,rfl⟩ rfl rfl rfl rfl rfl (by kernel_rfl) Try.func3 (by kernel_rfl)
    (of_decide_eq_true (by kernel_rfl)) (by unfold Func.isWrapper;first | (rw [if_pos (by decide +kernel)];kernel_rfl) | (rw [if_neg (by decide +kernel)];exact ⟨rfl,rfl⟩))
    (fun os started H enc _ => mergeHonest_lifted os started H enc)
theorem mergeHonest_holds : Rows.MergeHonestSaid := mergeHonest_over
end Go.Proofs.Ytgljhmnmmaclaaa

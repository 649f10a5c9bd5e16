/-
  Rows.ChainThroughSaid: the chain through a note begins at it, and there is one through the notes beside it; no condition.
-/
import Derived.Test.YtmglcamgpgkblaaQC4
import Derived.Test.YtmglcamgpgkblaaQD3
set_option linter.unusedSimpArgs false
set_option linter.unusedVariables false
namespace Go.Proofs.Ytmglcamgpgkblaa
open Go.Ab
theorem chainThrough_look : ∀ Ds, FitsArgsX Γ Try.f8.params.toList Ds → ∃ us, (∀ w vs, RvL [] w (valsOfX Γ Try.f8.params.toList Ds) vs → RvL [] w us vs) ∧ Look Try.prog 8 us (.imm (.bool true)) := by
  intro Ds hF
  have e : Try.f8.params.toList = [26, 3, 3] := by kernel_rfl
  rw [e] at hF ⊢
  match Ds, hF with
  | [D0, D1, D2], hF =>
    simp only [FitsArgsX] at hF
    obtain ⟨q0, q1, q2, _⟩ := hF
    obtain ⟨s, hs, rfl⟩ := fits_score q0
    obtain ⟨n, rfl⟩ := fits_int q1
    obtain ⟨m, rfl⟩ := fits_int q2
    refine ⟨_, fun w vs h => ?_, through_law s hs n m⟩
    match vs, h with
    | [v0, v1, v2], h =>
      simp only [valsOfX, isAggT, Γ_26, Γ_3, TD.isAgg, RvL] at h ⊢
      exact ⟨score_val h.1, h.2.1, h.2.2.1, trivial⟩
    | [], h => simp [valsOfX, RvL] at h
    | [_], h => simp [valsOfX, RvL] at h
    | [_, _], h => simp [valsOfX, RvL] at h
    | _ :: _ :: _ :: _ :: _, h => simp [valsOfX, RvL] at h
  | [], hF => simp [FitsArgsX] at hF
  | [_], hF => simp [FitsArgsX] at hF
  | [_, _], hF => simp [FitsArgsX] at hF
  | _ :: _ :: _ :: _ :: _, hF => simp [FitsArgsX] at hF
set_option maxRecDepth 100000 in
theorem chainThrough_lifted (os : Os) (started : os.Started) (H : Type) (enc : TypeId × Value → H) :
    ReturnsInHanded {} Try.checked os 8 .any (Rows.chainThroughSpec.pre6 enc Try.prog Try.f8 Rows.chainThroughRow.domain false) (Rows.chainThroughSpec.post enc Try.prog Try.f8 false true false false) := by
  refine returnsInHanded_of_change (C := Try.checked) own started (by kernel_rfl) Try.func8
    (ChangeSpec.witness6 (enc := enc) (C := Try.checked) false ⟨#[], #[.agg #[.int .i64 0, .slice none 0 0, .slice none 0 0, .slice none 0 0], .int .i64 0, .int .i64 0], []⟩ 8 (by kernel_rfl) (by kernel_rfl) (by kernel_rfl) (by kernel_rfl)) ?_
  exact law_contractX rfl Γ_ok (by kernel_rfl) laid (by kernel_rfl) Try.underlying4 (by kernel_rfl) rfl (fun ds hl => by
    match ds, hl with
    | [_, _, _], _ => rfl) (by kernel_rfl) chainThrough_look
theorem chainThrough_over : Rows.chainThroughRow.holds Try.pinned (OpenSpec.ofChange Rows.chainThroughSpec) :=
  OpenClaim.holds_of_wide 8 Try.f8 rfl rfl rfl rfl rfl rfl rfl ⟨rfl, rfl, rfl, rfl, rfl⟩ rfl rfl rfl rfl rfl (by kernel_rfl) Try.func8 (by kernel_rfl)
    (of_decide_eq_true (by kernel_rfl)) (by unfold Func.isWrapper; first | (rw [if_pos (by decide +kernel)]; kernel_rfl) | (rw [if_neg (by decide +kernel)]; exact ⟨rfl, rfl⟩))
    (fun os started H enc _ => chainThrough_lifted os started H enc)
theorem chainThrough_holds : Rows.ChainThroughSaid := chainThrough_over
end Go.Proofs.Ytmglcamgpgkblaa

/-
  Rows.ChainShortestSaid: Shortest finds a closed chain with its product that is not longer than any, nor behind in order; no condition.
-/
import Derived.Test.YtmglcamgpgkblaaQC4
import Derived.Test.YtmglcamgpgkblaaQD1
set_option linter.unusedSimpArgs false
set_option linter.unusedVariables false
namespace Go.Proofs.Ytmglcamgpgkblaa
open Go.Ab
theorem chainShortest_look : ∀ Ds, FitsArgsX Γ Try.f5.params.toList Ds → ∃ us, (∀ w vs, RvL [] w (valsOfX Γ Try.f5.params.toList Ds) vs → RvL [] w us vs) ∧ Look Try.prog 5 us (.imm (.bool true)) := by
  intro Ds hF
  have e : Try.f5.params.toList = [26, 27] := by kernel_rfl
  rw [e] at hF ⊢
  match Ds, hF with
  | [D0, D1], hF =>
    simp only [FitsArgsX] at hF
    obtain ⟨q0, q1, _⟩ := hF
    obtain ⟨s, hs, rfl⟩ := fits_score q0
    obtain ⟨l, hl, rfl⟩ := fits_steps q1
    refine ⟨_, fun w vs h => ?_, shortest_law s hs l hl⟩
    match vs, h with
    | [v0, v1], h =>
      simp only [valsOfX, isAggT, Γ_27, Γ_26, TD.isAgg, RvL] at h ⊢
      exact ⟨score_val h.1, steps_val h.2.1, trivial⟩
    | [], h => simp [valsOfX, RvL] at h
    | [_], h => simp [valsOfX, RvL] at h
    | _ :: _ :: _ :: _, h => simp [valsOfX, RvL] at h
  | [], hF => simp [FitsArgsX] at hF
  | [_], hF => simp [FitsArgsX] at hF
  | _ :: _ :: _ :: _, hF => simp [FitsArgsX] at hF
set_option maxRecDepth 100000 in
theorem chainShortest_lifted (os : Os) (started : os.Started) (H : Type) (enc : TypeId × Value → H) :
    ReturnsInHanded {} Try.checked os 5 .any (Rows.chainShortestSpec.pre6 enc Try.prog Try.f5 Rows.chainShortestRow.domain false) (Rows.chainShortestSpec.post enc Try.prog Try.f5 false true false false) := by
  refine returnsInHanded_of_change (C := Try.checked) own started (by kernel_rfl) Try.func5
    (ChangeSpec.witness6 (enc := enc) (C := Try.checked) false ⟨#[], #[.agg #[.int .i64 0, .slice none 0 0, .slice none 0 0, .slice none 0 0], .slice none 0 0], []⟩ 8 (by kernel_rfl) (by kernel_rfl) (by kernel_rfl) (by kernel_rfl)) ?_
  exact law_contractX rfl Γ_ok (by kernel_rfl) laid (by kernel_rfl) Try.underlying4 (by kernel_rfl) rfl (fun ds hl => by
    match ds, hl with
    | [_, _], _ => rfl) (by kernel_rfl) chainShortest_look
theorem chainShortest_over : Rows.chainShortestRow.holds Try.pinned (OpenSpec.ofChange Rows.chainShortestSpec) :=
  OpenClaim.holds_of_wide 5 Try.f5 rfl rfl rfl rfl rfl rfl rfl ⟨rfl, rfl, rfl, rfl, rfl⟩ rfl rfl rfl rfl rfl (by kernel_rfl) Try.func5 (by kernel_rfl)
    (of_decide_eq_true (by kernel_rfl)) (by unfold Func.isWrapper; first | (rw [if_pos (by decide +kernel)]; kernel_rfl) | (rw [if_neg (by decide +kernel)]; exact ⟨rfl, rfl⟩))
    (fun os started H enc _ => chainShortest_lifted os started H enc)
theorem chainShortest_holds : Rows.ChainShortestSaid := chainShortest_over
end Go.Proofs.Ytmglcamgpgkblaa

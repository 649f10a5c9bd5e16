/-
  Rows.ChainConsistentSaid: pure pairs that want the differences of their notes' places make no closed chain but with the unison;no condition.
-/
import Derived.Test.YtmglcamgpgkblaaXC4
import Derived.Test.YtmglcamgpgkblaaXD6
set_option linter.unusedSimpArgs false
set_option linter.unusedVariables false
namespace Go.Proofs.Ytmglcamgpgkblaa
open Go.Ab
theorem chainConsistent_look : ∀ Ds,FitsArgsX Γ Try.f7.params.toList Ds → ∃ us,(∀ w vs,RvL [] w (valsOfX Γ Try.f7.params.toList Ds) vs → RvL [] w us vs) ∧ Look Try.prog 7 us (.imm (.bool true)) := by
  intro Ds hF
  have e : Try.f7.params.toList = [26] := by kernel_rfl
  rw [e] at hF ⊢
  match Ds, hF with
  | [D0], hF =>
    simp only [FitsArgsX] at hF
    obtain ⟨q0, _⟩ := hF
    obtain ⟨s, hs, rfl⟩ := fits_score q0
    refine ⟨_, fun w vs h => ?_, consistent_law s hs⟩
    match vs, h with
    | [v0], h =>
      simp only [valsOfX, isAggT, Γ_26, TD.isAgg, RvL] at h ⊢
      exact ⟨score_val h.1, trivial⟩
    | [], h => simp [valsOfX, RvL] at h
    | _ :: _ :: _, h => simp [valsOfX, RvL] at h
  | [], hF => simp [FitsArgsX] at hF
  | _ :: _ :: _, hF => simp [FitsArgsX] at hF
set_option maxRecDepth 100000 in
theorem chainConsistent_lifted (os : Os) (started : os.Started) (H : Type) (enc : TypeId × Value → H) :
    ReturnsInHanded {} Try.checked os 7 .any (Rows.chainConsistentSpec.pre6 enc Try.prog Try.f7 Rows.chainConsistentRow.domain false) (Rows.chainConsistentSpec.post enc Try.prog Try.f7 false true false false) := by
  refine returnsInHanded_of_change (C := Try.checked) own started (by kernel_rfl) Try.func7
    (ChangeSpec.witness6 (enc := enc) (C := Try.checked) false ⟨#[],#[.agg #[.int .i64 0,.slice none 0 0,.slice none 0 0,.slice none 0 0]],[]⟩ 8 (by kernel_rfl) (by kernel_rfl) (by kernel_rfl) (by kernel_rfl)) ?_
  exact law_contractX rfl Γ_ok (by kernel_rfl) laid (by kernel_rfl) Try.underlying4 (by kernel_rfl) rfl (fun ds hl => by
    match ds, hl with
    | [_], _ => rfl) (by kernel_rfl) chainConsistent_look
theorem chainConsistent_over : Rows.chainConsistentRow.holds Try.pinned (OpenSpec.ofChange Rows.chainConsistentSpec) :=
  OpenClaim.holds_of_wide 7 Try.f7 rfl rfl rfl rfl rfl rfl rfl ⟨rfl,rfl,rfl,rfl,rfl⟩ rfl rfl rfl rfl rfl (by kernel_rfl) Try.func7 (by kernel_rfl)
    (of_decide_eq_true (by kernel_rfl)) (by unfold Func.isWrapper;first | (rw [if_pos (by decide +kernel)];kernel_rfl) | (rw [if_neg (by decide +kernel)];exact ⟨rfl,rfl⟩))
    (fun os started H enc _ => chainConsistent_lifted os started H enc)
theorem chainConsistent_holds : Rows.ChainConsistentSaid := chainConsistent_over
end Go.Proofs.Ytmglcamgpgkblaa

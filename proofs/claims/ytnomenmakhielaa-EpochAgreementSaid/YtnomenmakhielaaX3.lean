/-
  Rows.EpochAgreementSaid: for every run of ballots and every beginning of its script, the chosen values make logs that merge to the former one; no condition.
-/
import Derived.Test.YtnomenmakhielaaX2
import Derived.Test.YtnomenmakhielaaAb20
import Derived.Test.YtnomenmakhielaaRows
import Derived.ProofKit
set_option linter.unusedSimpArgs false
set_option linter.unusedVariables false
namespace Go.Proofs.Ytnomenmakhielaa
open Go.Ab

def qtkD (t : Q.Tk) : Dat := .strct [.int .i64 t.s, .int .i64 t.c, .int .i64 t.n, .int .i64 t.d]
theorem qtkD_cells (t : Q.Tk) : (qtkD t).cells = Q.tkL t := rfl
def movD (m : Q.Mov) : Dat := .strct [.int .i64 m.k, .int .i64 m.b, .int .i64 m.t, qtkD m.x]
theorem movD_cells (m : Q.Mov) : (movD m).cells = Q.movL m := rfl

theorem fits_int {D : Dat} (h : Fits Γ 3 D) : ∃ n, D = .int .i64 n := by
  cases D <;> simp [Fits, Γ_3] at h
  rename_i k n
  exact ⟨n, by rw [← h.1]⟩
theorem fits_take {D : Dat} (h : Fits Γ 41 D) : ∃ t, D = qtkD t := by
  cases D <;> simp [Fits, Γ_41] at h
  rename_i fs
  match fs, h with
  | [a, b, c, d], h =>
    simp only [FitsL] at h
    obtain ⟨h1, h2, h3, h4, _⟩ := h
    obtain ⟨s, rfl⟩ := fits_int h1
    obtain ⟨c, rfl⟩ := fits_int h2
    obtain ⟨n, rfl⟩ := fits_int h3
    obtain ⟨d, rfl⟩ := fits_int h4
    exact ⟨⟨s, c, n, d⟩, rfl⟩
  | [], h => simp [FitsL] at h
  | [_], h => simp [FitsL] at h
  | [_, _], h => simp [FitsL] at h
  | [_, _, _], h => simp [FitsL] at h
  | _ :: _ :: _ :: _ :: _ :: _, h => simp [FitsL] at h
theorem fits_move {D : Dat} (h : Fits Γ 60 D) : ∃ m, D = movD m := by
  cases D <;> simp [Fits, Γ_60] at h
  rename_i fs
  match fs, h with
  | [a, b, c, d], h =>
    simp only [FitsL] at h
    obtain ⟨h1, h2, h3, h4, _⟩ := h
    obtain ⟨k, rfl⟩ := fits_int h1
    obtain ⟨b, rfl⟩ := fits_int h2
    obtain ⟨t, rfl⟩ := fits_int h3
    obtain ⟨x, rfl⟩ := fits_take h4
    exact ⟨⟨k, b, t, x⟩, rfl⟩
  | [], h => simp [FitsL] at h
  | [_], h => simp [FitsL] at h
  | [_, _], h => simp [FitsL] at h
  | [_, _, _], h => simp [FitsL] at h
  | _ :: _ :: _ :: _ :: _ :: _, h => simp [FitsL] at h
theorem fits_moves_aux : ∀ {Ds : List Dat}, FitsA Γ 60 Ds → ∃ l : List Q.Mov, Ds = l.map movD
  | [], _ => ⟨[], rfl⟩
  | D :: Ds, h => by
    simp only [FitsA] at h
    obtain ⟨t, rfl⟩ := fits_move h.1
    obtain ⟨l, rfl⟩ := fits_moves_aux h.2
    exact ⟨t :: l, rfl⟩
theorem fits_moves {D : Dat} (h : Fits Γ 22 D) : ∃ l : List Q.Mov, l.length ≤ 9223372036854775807 ∧ D = .slice 7 (l.map movD) := by
  cases D <;> simp [Fits, Γ_22, Γ_60] at h
  rename_i z Ds
  obtain ⟨rfl, hl, h⟩ := h
  obtain ⟨l, rfl⟩ := fits_moves_aux h
  exact ⟨l, by simpa [maxLen] using hl, rfl⟩

theorem moves_val {l : List Q.Mov} {w : World} {x : Value} (h : Rv [] w (Dat.val false (.slice 7 (l.map movD))) x) : Rv [] w (Q.movs l) x := by
  simp only [Dat.val, Dat.cells, nth, Bool.false_eq_true, if_false] at h
  rw [List.length_map] at h
  refine Rv_view_ext (fun i j hi hj => ?_) h
  rw [cellsLL_get _ _ (by simpa using hi), List.getElem_map, movD_cells]
  simp [Q.movE, Q.gM, hi]

theorem own : ownKnob Try.prog.godebug = none := by kernel_rfl
theorem laid : laidOutB Try.prog = true := by kernel_rfl

theorem epochAgreement_look : ∀ Ds, FitsArgs Γ Try.f3.params.toList Ds → ∃ us, (∀ w vs, RvL [] w (valsOf Γ Try.f3.params.toList Ds) vs → RvL [] w us vs) ∧ Look Try.prog 3 us (.imm (.bool true)) := by
  intro Ds hF
  have e : Try.f3.params.toList = [3, 22, 3] := by kernel_rfl
  rw [e] at hF ⊢
  match Ds, hF with
  | [D0, D1, D2], hF =>
    simp only [FitsArgs] at hF
    obtain ⟨q0, q1, q2, _⟩ := hF
    obtain ⟨n, rfl⟩ := fits_int q0
    obtain ⟨ms, hms, rfl⟩ := fits_moves q1
    obtain ⟨cut, rfl⟩ := fits_int q2
    refine ⟨_, fun w vs h => ?_, agreement_tc n ms cut hms⟩
    match vs, h with
    | [v0, v1, v2], h =>
      simp only [valsOf, isAggT, Γ_22, Γ_3, TD.isAgg, RvL] at h ⊢
      exact ⟨h.1, moves_val h.2.1, h.2.2.1, trivial⟩
    | [], h => simp [valsOf, RvL] at h
    | [_], h => simp [valsOf, RvL] at h
    | [_, _], h => simp [valsOf, RvL] at h
    | _ :: _ :: _ :: _ :: _, h => simp [valsOf, RvL] at h
  | [], hF => simp [FitsArgs] at hF
  | [_], hF => simp [FitsArgs] at hF
  | [_, _], hF => simp [FitsArgs] at hF
  | _ :: _ :: _ :: _ :: _, hF => simp [FitsArgs] at hF

set_option maxRecDepth 100000 in
theorem epochAgreement_lifted (os : Os) (started : os.Started) (H : Type) (enc : TypeId × Value → H) :
    ReturnsInHanded {} Try.checked os 3 .any (Rows.epochAgreementSpec.pre6 enc Try.prog Try.f3 Rows.epochAgreementRow.domain false) (Rows.epochAgreementSpec.post enc Try.prog Try.f3 false true false false) := by
  refine returnsInHanded_of_change (C := Try.checked) own started (by kernel_rfl) Try.func3
    (ChangeSpec.witness6 (enc := enc) (C := Try.checked) false ⟨#[], #[.int .i64 0, .slice none 0 0, .int .i64 0], []⟩ 8 (by kernel_rfl) (by kernel_rfl) (by kernel_rfl) (by kernel_rfl)) ?_
  exact law_contract rfl Γ_ok (by kernel_rfl) laid (by kernel_rfl) Try.underlying4 (by kernel_rfl) rfl (fun ds hl => by
    match ds, hl with
    | [_, _, _], _ => rfl) (by kernel_rfl) epochAgreement_look

theorem epochAgreement_over : Rows.epochAgreementRow.holds Try.pinned (OpenSpec.ofChange Rows.epochAgreementSpec) :=
  OpenClaim.holds_of_wide 3 Try.f3 rfl rfl rfl rfl rfl rfl rfl ⟨rfl, rfl, rfl, rfl, rfl⟩ rfl rfl rfl rfl rfl (by kernel_rfl) Try.func3 (by kernel_rfl)
    (of_decide_eq_true (by kernel_rfl)) (by unfold Func.isWrapper; first | (rw [if_pos (by decide +kernel)]; kernel_rfl) | (rw [if_neg (by decide +kernel)]; exact ⟨rfl, rfl⟩))
    (fun os started H enc _ => epochAgreement_lifted os started H enc)

theorem epochAgreement_holds : Rows.EpochAgreementSaid := epochAgreement_over

end Go.Proofs.Ytnomenmakhielaa

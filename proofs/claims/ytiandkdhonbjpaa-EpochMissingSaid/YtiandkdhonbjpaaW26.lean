/-
  Takes, lists of takes and integers as arguments.
-/
import Derived.Test.YtiandkdhonbjpaaW17
import Derived.Test.YtiandkdhonbjpaaAb20
import Derived.Test.YtiandkdhonbjpaaRows
import Derived.ProofKit
set_option linter.unusedSimpArgs false
set_option linter.unusedVariables false
namespace Go.Proofs.Ytiandkdhonbjpaa
open Go.Ab

def tkD (t : Tk) : Dat := .strct [.int .i64 t.s, .int .i64 t.c, .int .i64 t.n, .int .i64 t.d]
theorem tkD_cells (t : Tk) : (tkD t).cells = tkL t := rfl

theorem fits_int {D : Dat} (h : Fits Γ 3 D) : ∃ n, D = .int .i64 n := by
  cases D <;> simp [Fits, Γ_3] at h
  rename_i k n
  exact ⟨n, by rw [← h.1]⟩
theorem fits_take {D : Dat} (h : Fits Γ 24 D) : ∃ t, D = tkD t := by
  cases D <;> simp [Fits, Γ_24] at h
  rename_i fs
  match fs, h with
  | [a, b, c, d], h =>
    simp only [FitsL] at h
    obtain ⟨h1, h2, h3, h4, _⟩ := h
    obtain ⟨s, rfl⟩ := fits_int h1
    obtain ⟨c, rfl⟩ := fits_int h2
    obtain ⟨n, rfl⟩ := fits_int h3
    obtain ⟨d, rfl⟩ := fits_int h4
    exact ⟨⟨s, c, n, d⟩, rfl⟩
  | [], h => simp [FitsL] at h
  | [_], h => simp [FitsL] at h
  | [_, _], h => simp [FitsL] at h
  | [_, _, _], h => simp [FitsL] at h
  | _ :: _ :: _ :: _ :: _ :: _, h => simp [FitsL] at h
theorem fits_takes_aux : ∀ {Ds : List Dat}, FitsA Γ 24 Ds → ∃ l : List Tk, Ds = l.map tkD
  | [], _ => ⟨[], rfl⟩
  | D :: Ds, h => by
    simp only [FitsA] at h
    obtain ⟨t, rfl⟩ := fits_take h.1
    obtain ⟨l, rfl⟩ := fits_takes_aux h.2
    exact ⟨t :: l, rfl⟩
theorem fits_takes {D : Dat} (h : Fits Γ 22 D) : ∃ l : List Tk, l.length ≤ 9223372036854775807 ∧ D = .slice 4 (l.map tkD) := by
  cases D <;> simp [Fits, Γ_22, Γ_24] at h
  rename_i z Ds
  obtain ⟨rfl, hl, h⟩ := h
  obtain ⟨l, rfl⟩ := fits_takes_aux h
  exact ⟨l, by simpa [maxLen] using hl, rfl⟩

theorem takes_val {l : List Tk} {w : World} {x : Value} (h : Rv [] w (Dat.val false (.slice 4 (l.map tkD))) x) : Rv [] w (tks l) x := by
  simp only [Dat.val, Dat.cells, nth, Bool.false_eq_true, if_false] at h
  rw [List.length_map] at h
  refine Rv_view_ext (fun i j hi hj => ?_) h
  rw [cellsLL_get _ _ (by simpa using hi), List.getElem_map, tkD_cells]
  simp [tkE, gt, hi]

theorem own : ownKnob Try.prog.godebug = none := by kernel_rfl
theorem laid : laidOutB Try.prog = true := by kernel_rfl

end Go.Proofs.Ytiandkdhonbjpaa

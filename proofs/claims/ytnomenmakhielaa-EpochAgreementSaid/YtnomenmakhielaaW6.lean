/-
  Contracts of the references' Take, Valid, Index and Find.
-/
import Derived.Test.YtnomenmakhielaaW5
set_option linter.unusedSimpArgs false
set_option linter.unusedVariables false
namespace Go.Proofs.Ytnomenmakhielaa
open Go.Ab

/-- The reference's index: where the section is, or -1. -/
def rix (l : List Tk) (k : Int) : Int := if h : ∃ i, i < l.length ∧ (gt l i).s = k then (l.findIdx fun t => decide (t.s = k) : Nat) else -1

theorem rix_first {l : List Tk} {k : Int} {i : Nat} (hi : i < l.length) (he : (gt l i).s = k) (hb : ∀ j, j < i → (gt l j).s ≠ k) : rix l k = i := by
  unfold rix
  rw [dif_pos ⟨i, hi, he⟩]
  congr 1
  rw [List.findIdx_eq hi]
  have hg : ∀ {j} (hj : j < l.length), l[j] = gt l j := fun hj => by simp [gt, hj]
  refine ⟨by rw [hg]; simpa using he, fun j hj => ?_⟩
  rw [hg]
  simpa using hb j hj

theorem rix_none {l : List Tk} {k : Int} (h : ∀ j, j < l.length → (gt l j).s ≠ k) : rix l k = -1 := by
  unfold rix
  rw [dif_neg fun ⟨i, hi, he⟩ => h i hi he]

theorem rix_lt (l : List Tk) (k : Int) : rix l k < l.length := by
  unfold rix
  split
  · rename_i h
    obtain ⟨i, hi, he⟩ := h
    have : (l.findIdx fun t => decide (t.s = k)) < l.length := List.findIdx_lt_length_of_exists ⟨gt l i, by simp [gt, hi], by simpa using he⟩
    omega
  · omega

theorem low_spec {l : List Tk} (k : Int) (hr : Ris l) : low l k ≤ l.length ∧ (∀ j, j < low l k → (gt l j).s < k) ∧ (∀ j, low l k ≤ j → j < l.length → k ≤ (gt l j).s) := by
  have key : ∃ i, i ≤ l.length ∧ (∀ j, j < i → (gt l j).s < k) ∧ (∀ j, i ≤ j → j < l.length → k ≤ (gt l j).s) := by
    by_cases h : ∃ i, i < l.length ∧ k ≤ (gt l i).s
    · obtain ⟨i, ⟨hi, hk⟩, hmin⟩ := exists_min (p := fun i => i < l.length ∧ k ≤ (gt l i).s) (m := h.choose) h.choose_spec
      refine ⟨i, by omega, fun j hj => ?_, fun j hj hjl => ?_⟩
      · have : ¬ (j < l.length ∧ k ≤ (gt l j).s) := fun q => by have := hmin j q; omega
        have hjl : j < l.length := by omega
        exact Int.not_le.1 fun q => this ⟨hjl, q⟩
      · by_cases e : i = j
        · rw [← e]; exact hk
        · exact Int.le_trans hk (Int.le_of_lt (hr.lt (by omega) hjl))
    · exact ⟨l.length, Nat.le_refl _, fun j hj => Int.not_le.1 fun q => h ⟨j, hj, q⟩, fun j h1 h2 => by omega⟩
  obtain ⟨i, h1, h2, h3⟩ := key
  rw [low_eq h1 h2 h3]
  exact ⟨h1, h2, h3⟩

theorem rix_low {l : List Tk} (k : Int) (hr : Ris l) : rix l k = if low l k < l.length ∧ (gt l (low l k)).s = k then (low l k : Int) else -1 := by
  obtain ⟨h1, h2, h3⟩ := low_spec k hr
  split
  · rename_i h
    exact rix_first h.1 h.2 fun j hj => by have := h2 j hj; omega
  · rename_i h
    refine rix_none fun j hj e => ?_
    by_cases q : j < low l k
    · have := h2 j q; omega
    · have h4 := h3 (low l k) (Nat.le_refl _) (by omega)
      by_cases e2 : low l k = j
      · exact h ⟨by omega, by rw [e2]; exact e⟩
      · have := hr.lt (i := low l k) (j := j) (by omega) hj
        omega

end Go.Proofs.Ytnomenmakhielaa

/-
  Plain: the first number of which something is said; notes that are sung, and when the singer breathed last.
-/
import Derived.Test.YtonmienclploaaaGreatDoorQP1v
import Derived.Test.YtonmienclploaaaGreatDoorQP2
set_option linter.unusedSimpArgs false
set_option linter.unusedVariables false
namespace Go.Proofs.YtonmienclploaaaGreatDoor
def fstF (f : Nat → Bool) : Nat → Nat → Nat
  | i, 0 => i
  | i, d + 1 => if f i = true then i else fstF f (i + 1) d
theorem fstF_spec {f : Nat → Bool} : ∀ {d i : Nat},i ≤ fstF f i d ∧ fstF f i d ≤ i + d ∧ (∀ j,i ≤ j → j < fstF f i d → f j = false) ∧ (fstF f i d < i + d → f (fstF f i d) = true)
  | 0, i => by simp only [fstF]; exact ⟨by omega, by omega, fun j h1 h2 => by omega, fun h => by omega⟩
  | d + 1, i => by
    rw [fstF]
    by_cases h : f i = true
    · rw [if_pos h]; exact ⟨by omega, by omega, fun j h1 h2 => by omega, fun _ => h⟩
    · rw [if_neg h]
      obtain ⟨h1, h2, h3, h4⟩ := fstF_spec (f := f) (d := d) (i := i + 1)
      refine ⟨by omega, by omega, fun j g1 g2 => ?_, fun g => h4 (by omega)⟩
      by_cases e : j = i
      · rw [e]; simpa using h
      · exact h3 j (by omega) g2
theorem fstF_yes {f : Nat → Bool} {i d : Nat} (h : f i = true) (hd : 0 < d) : fstF f i d = i := by
  obtain ⟨d, rfl⟩ : ∃ q, d = q + 1 := ⟨d - 1, by omega⟩
  rw [fstF, if_pos h]
theorem fstF_no {f : Nat → Bool} {i d : Nat} (h : f i = false) : fstF f i (d + 1) = fstF f (i + 1) d := by
  rw [fstF, if_neg (by simp [h])]
structure Sg where
  f : Int
  u : Int
  p : P6
def sg0 : Sg := ⟨0, 0, ⟨0, 0, 0, 0, 0, 0⟩⟩
def gS (l : List Sg) (i : Nat) : Sg := l.getD i sg0
def enS (l : List Sg) : Nat → Int
  | 0 => 0
  | k + 1 => (gS l k).u
def sgB (l : List Sg) (i : Nat) : Bool := decide (enS l i ≤ (gS l i).f) && (decide ((gS l i).f < (gS l i).u) && (decide ((gS l i).u ≤ 100000) && vOk (gS l i).p))
def btS (l : List Sg) : Nat → Int
  | 0 => (gS l 0).f
  | k + 1 => if (gS l k).u < (gS l (k + 1)).f then (gS l (k + 1)).f else btS l k
end Go.Proofs.YtonmienclploaaaGreatDoor

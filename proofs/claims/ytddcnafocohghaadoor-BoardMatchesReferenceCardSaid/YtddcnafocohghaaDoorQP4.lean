/-
  Plain: what the laws ask of keys.
-/
import Derived.Test.YtddcnafocohghaaDoorQP3
set_option linter.unusedSimpArgs false
set_option linter.unusedVariables false
namespace Go.Proofs.YtddcnafocohghaaDoor
def idxK : List Ky → Int → Nat → Int
  | [], _, _ => -1
  | k :: r, id, n => if k.id = id then (n : Int) else idxK r id (n + 1)
def keyI (b : Bd) (id : Int) : Int := idxK b.ks id 0
theorem idxK_none : ∀ {l : List Ky} {id : Int} (n : Nat), keyOf l id = none → idxK l id n = -1
  | [], _, _, _ => rfl
  | k :: r, id, n, h => by
    unfold keyOf at h
    rw [List.find?_cons] at h
    unfold idxK
    split at h
    · cases h
    · rename_i h1
      rw [if_neg (by simpa using h1)]
      exact idxK_none (n + 1) h
theorem idxK_some : ∀ {l : List Ky} {id : Int} {k : Ky} (n : Nat), keyOf l id = some k → ∃ i : Nat, i < l.length ∧ idxK l id n = ((n + i : Nat) : Int) ∧ l[i]? = some k
  | [], _, _, _, h => by cases h
  | k :: r, id, k', n, h => by
    unfold keyOf at h
    rw [List.find?_cons] at h
    unfold idxK
    split at h
    · rename_i h1
      rw [if_pos (by simpa using h1)]
      exact ⟨0, by simp, by simp, by simpa using h⟩
    · rename_i h1
      rw [if_neg (by simpa using h1)]
      obtain ⟨i, h2, h3, h4⟩ := idxK_some (n + 1) h
      exact ⟨i + 1, by simpa using h2, by rw [h3]; congr 1; omega, by simpa using h4⟩
theorem keyI_none {b : Bd} {id : Int} (h : keyOf b.ks id = none) : keyI b id = -1 := idxK_none 0 h
theorem keyI_some {b : Bd} {id : Int} {k : Ky} (h : keyOf b.ks id = some k) : ∃ i : Nat, i < b.ks.length ∧ keyI b id = (i : Int) ∧ b.ks[i]? = some k := by
  obtain ⟨i, h1, h2, h3⟩ := idxK_some 0 h
  exact ⟨i, h1, by unfold keyI; rw [h2]; simp, h3⟩
def playsB (b : Bd) (id : Int) (v : P6) : Bool := match keyOf b.ks id with
  | none => false
  | some k => vOk v && near1 v.x12 k.p b.tol
def fitsP (b : Bd) (vs : List P6) (ids : List Int) : Prop := playP b ids ∧ ids.length = vs.length ∧ ∀ i, i < vs.length → playsB b (ids.getD i 0) (vs.getD i ⟨0, 0, 0, 0, 0, 0⟩) = true
instance (b : Bd) (vs : List P6) (ids : List Int) : Decidable (fitsP b vs ids) := by unfold fitsP; exact inferInstance
end Go.Proofs.YtddcnafocohghaaDoor

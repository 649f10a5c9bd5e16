/-
  Plain: what the laws ask of keys.
-/
import Derived.Test.YtddcnafocohghaaDoorQP3
set_option linter.unusedSimpArgs false
set_option linter.unusedVariables false
namespace Go.Proofs.YtddcnafocohghaaDoor
def idxK : List Ky → Int → Nat → Int
  | [], _, _ => -1
  | k :: r, id, n => if k.id = id then (n : Int) else idxK r id (n + 1)
def keyI (b : Bd) (id : Int) : Int := idxK b.ks id 0
theorem idxK_none : ∀ {l : List Ky} {id : Int} (n : Nat), keyOf l id = none → idxK l id n = -1
  | [], _, _, _ => rfl
  | k :: r, id, n, h => by
    unfold keyOf at h
    rw [List.find?_cons] at h
    unfold idxK
    split at h
    · cases h
    · rename_i h1
      rw [if_neg (by simpa using h1)]
      exact idxK_none (n + 1) h
theorem idxK_some : ∀ {l : List Ky} {id : Int} {k : Ky} (n : Nat), keyOf l id = some k → ∃ i : Nat, i < l.length ∧ idxK l id n = ((n + i : Nat) : Int) ∧ l[i]? = some k
  | [], _, _, _, h => by cases h
  | k :: r, id, k', n, h => by
    unfold keyOf at h
    rw [List.find?_cons] at h
    unfold idxK
    split at h
    · rename_i h1
      rw [if_pos (by simpa using h1)]
      exact ⟨0, by simp, by simp, by simpa using h⟩
    · rename_i h1
      rw [if_neg (by simpa using h1)]
      obtain ⟨i, h2, h3, h4⟩ := idxK_some (n + 1) h
      exact ⟨i + 1, by simpa using h2, by rw [h3]; congr 1; omega, by simpa using h4⟩
theorem keyI_none {b : Bd} {id : Int} (h : keyOf b.ks id = none) : keyI b id = -1 := idxK_none 0 h
theorem keyI_some {b : Bd} {id : Int} {k : Ky} (h : keyOf b.ks id = some k) : ∃ i : Nat, i < b.ks.length ∧ keyI b id = (i : Int) ∧ b.ks[i]? = some k := by
  obtain ⟨i, h1, h2, h3⟩ := idxK_some 0 h
  exact ⟨i, h1, by unfold keyI; rw [h2]; simp, h3⟩
def playsB (b : Bd) (id : Int) (v : P6) : Bool := match keyOf b.ks id with
  | none => false
  | some k => vOk v && near1 v.x12 k.p b.tol
def beforeB (b : Bd) (x y : Int) : Bool := match keyOf b.ks x, keyOf b.ks y with
  | some p, some q => decide (ltK p q)
  | _, _ => false
def lexB : List Int → List Int → Bool
  | x :: a, y :: b => if x ≠ y then decide (x < y) else lexB a b
  | _, _ => false
theorem handsR_ok {b : Bd} (hb : bdB b = true) {ids : List Int} : (handsR b ids).2.2 = 0 ↔ playP b ids := by
  unfold handsR playP
  by_cases hd : diffP b ids
  · rw [if_pos ⟨hb, hd⟩]
    by_cases h : divR b.span (ordK b ids) < 0
    · rw [if_pos h]
      simp only [hd, true_and]
      constructor
      · intro h0; cases h0
      · intro h0; omega
    · rw [if_neg h]
      simp only [hd, true_and]
      exact ⟨fun _ => by omega, fun _ => trivial⟩
  · rw [if_neg fun h => hd h.2]
    simp only [hd, false_and, iff_false]
    intro h0; cases h0
theorem findL_iff {b : Bd} (h : Good b) {v : P6} (hv : vOk v = true) {id : Int} : id ∈ findL b v ↔ playsB b id v = true := by
  unfold playsB
  constructor
  · intro hi
    unfold findL at hi
    obtain ⟨k, hk, rfl⟩ := List.mem_map.1 hi
    have h1 := List.mem_filter.1 hk
    rw [keyOf_mem h.rise h1.1]
    simp only [hv, Bool.true_and]
    exact h1.2
  · intro hi
    cases hk : keyOf b.ks id with
    | none => rw [hk] at hi; cases hi
    | some k =>
      rw [hk] at hi
      simp only [hv, Bool.true_and] at hi
      have h1 := keyOf_some hk
      exact List.mem_map.2 ⟨k, List.mem_filter.2 ⟨h1.1, hi⟩, h1.2⟩
def fitsP (b : Bd) (vs : List P6) (ids : List Int) : Prop := playP b ids ∧ ids.length = vs.length ∧ ∀ i, i < vs.length → playsB b (ids.getD i 0) (vs.getD i ⟨0, 0, 0, 0, 0, 0⟩) = true
instance (b : Bd) (vs : List P6) (ids : List Int) : Decidable (fitsP b vs ids) := by unfold fitsP; exact inferInstance
def handP (b : Bd) (l : List Int) : Prop := (∀ i, i < l.length → 1 ≤ i → beforeB b (l.getD (i - 1) 0) (l.getD i 0) = true) ∧ (l.length = 0 ∨ (l.length ≤ 5 ∧ ∃ a z, keyOf b.ks (l.getD 0 0) = some a ∧ keyOf b.ks (l.getD (l.length - 1) 0) = some z ∧ z.x - a.x ≤ b.span))
end Go.Proofs.YtddcnafocohghaaDoor

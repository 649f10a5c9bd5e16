/-
  A longer chain (plain).
-/
import Derived.Test.YtdglbjjenihdlaaDoorWN22
set_option linter.unusedSimpArgs false
set_option linter.unusedVariables false
namespace Go.Proofs.YtdglbjjenihdlaaDoor
theorem srtF_app (o : Option (List P6)) (a b : List P6) : srtF o (a ++ b) = srtF (srtF o a) b := by
  unfold srtF
  rw [List.foldl_append]
theorem put_at {q : List P6} {x : P6} {j : Nat} (hj : j ≤ q.length) (i : Nat) (hi : i < q.length + 1) : gP (q.take j ++ x :: q.drop j) i = if i < j then gP q i else if i = j then x else gP q (i - 1) := by
  unfold gP
  rw [List.getD_eq_getElem?_getD, List.getElem?_append, List.length_take, Nat.min_eq_left hj]
  by_cases h1 : i < j
  · rw [if_pos h1, if_pos h1, List.getElem?_take, if_pos h1, ← List.getD_eq_getElem?_getD]
  · rw [if_neg h1, if_neg h1]
    by_cases h2 : i = j
    · rw [if_pos h2, h2, Nat.sub_self]; rfl
    · rw [if_neg h2]
      obtain ⟨k, rfl⟩ : ∃ k, i = j + (k + 1) := ⟨i - j - 1, by omega⟩
      rw [show j + (k + 1) - j = k + 1 by omega,List.getElem?_cons_succ,List.getElem?_drop,List.getD_eq_getElem?_getD]
      rfl
end Go.Proofs.YtdglbjjenihdlaaDoor

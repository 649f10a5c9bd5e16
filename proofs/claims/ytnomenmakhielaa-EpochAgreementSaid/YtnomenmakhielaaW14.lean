/-
  Contracts of the references' Known and Missing.
-/
import Derived.Test.YtnomenmakhielaaW13
set_option linter.unusedSimpArgs false
set_option linter.unusedVariables false
namespace Go.Proofs.Ytnomenmakhielaa
open Go.Ab

theorem rix_knows {l : List Tk} {k : Int} (hr : Ris l) (h : knows l k) : rix l k = low l k := by rw [rix_low k hr]; exact if_pos h
theorem rix_not {l : List Tk} {k : Int} (hr : Ris l) (h : ¬ knows l k) : rix l k = -1 := by rw [rix_low k hr]; exact if_neg h
theorem knows_of_rix {l : List Tk} {k : Int} (hr : Ris l) (h : 0 ≤ rix l k) : knows l k := by
  by_cases hk : knows l k
  · exact hk
  · rw [rix_not hr hk] at h; omega

theorem tk_snoc (l : List Tk) (x : Tk) {i j : Nat} (h : i < l.length + 1) : catE l.length (tkE l) (fun i j => nth (tkL x) (i * 4 + j)) i j = tkE (l ++ [x]) i j := by
  unfold catE tkE gt
  split
  · rename_i h1
    simp [List.getElem?_append_left h1]
  · obtain rfl : i = l.length := by omega
    simp

theorem take_snoc {l : List Tk} {i : Nat} (h : i < l.length) : l.take (i + 1) = l.take i ++ [gt l i] := by
  rw [List.take_succ_eq_append_getElem h]
  simp [gt, h]

end Go.Proofs.Ytnomenmakhielaa

/-
  BoardPlace: the walk of the law.
-/
import Derived.Test.YtddcnafocohghaaDoorQGo
import Derived.Test.YtddcnafocohghaaDoorQC4
import Derived.Test.YtddcnafocohghaaDoorQP7
set_option linter.unusedSimpArgs false
set_option linter.unusedVariables false
namespace Go.Proofs.YtddcnafocohghaaDoor
open Go.Ab
def mvE (f : Ky → Ky) (l : List Ky) (i k j : Nat) : AV := nth (kyL (if k < i then f (gk l k) else gk l k)) j
theorem mvE_pl (f : Ky → Ky) (l : List Ky) (i k j : Nat) : Pl (mvE f l i k j) := by
  unfold mvE; rcases j with _ | _ | _ | _ | _ | _ | _ | _ | _ | j <;> trivial
@[simp] theorem mvE_free (f : Ky → Ky) (l : List Ky) (i k j : Nat) : Free (mvE f l i k j) := Pl.free _ (mvE_pl f l i k j)
theorem mvE_0 (f : Ky → Ky) (l : List Ky) (k j : Nat) : mvE f l 0 k j = kyE l k j := by unfold mvE; rw [if_neg (by omega)]; rfl
theorem mvE_end (f : Ky → Ky) (l : List Ky) {k j : Nat} (h : k < l.length) : mvE f l l.length k j = kyE (l.map f) k j := by
  unfold mvE kyE; rw [if_pos h]; congr 2; simp [gk, h]
theorem mvE_at (f : Ky → Ky) (l : List Ky) (i : Nat) (j : Nat) : mvE f l i i j = kyE l i j := by unfold mvE; rw [if_neg (by omega)]; rfl
end Go.Proofs.YtddcnafocohghaaDoor

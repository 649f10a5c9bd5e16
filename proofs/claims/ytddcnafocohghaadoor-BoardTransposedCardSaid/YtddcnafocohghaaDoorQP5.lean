/-
  Plain: when a chord has a result, and which.
-/
import Derived.Test.YtddcnafocohghaaDoorQP4
set_option linter.unusedSimpArgs false
set_option linter.unusedVariables false
namespace Go.Proofs.YtddcnafocohghaaDoor
def prodN (L : List (List Int)) : Nat := (L.map List.length).foldr (· * ·) 1
structure Opt (b : Bd) (vs : List P6) : Prop where
  ok : ∀ v ∈ vs, vOk v = true
  some : ∀ v ∈ vs, findL b v ≠ []
  few : vs.length ≤ 12
  lim : prodN (optL b vs) ≤ 10000
end Go.Proofs.YtddcnafocohghaaDoor

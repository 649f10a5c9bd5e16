/-
  Plain: what the laws ask of keys.
-/
import Derived.Test.YtddcnafocohghaaDoorQP3
set_option linter.unusedSimpArgs false
set_option linter.unusedVariables false
namespace Go.Proofs.YtddcnafocohghaaDoor
def playsB (b : Bd) (id : Int) (v : P6) : Bool := match keyOf b.ks id with
  | none => false
  | some k => vOk v && near1 v.x12 k.p b.tol
def fitsP (b : Bd) (vs : List P6) (ids : List Int) : Prop := playP b ids ∧ ids.length = vs.length ∧ ∀ i, i < vs.length → playsB b (ids.getD i 0) (vs.getD i ⟨0, 0, 0, 0, 0, 0⟩) = true
instance (b : Bd) (vs : List P6) (ids : List Int) : Decidable (fitsP b vs ids) := by unfold fitsP; exact inferInstance
end Go.Proofs.YtddcnafocohghaaDoor

/-
  hand as a contract.
-/
import Derived.Test.YtddcnafocohghaaDoorQC3
set_option linter.unusedSimpArgs false
set_option linter.unusedVariables false
namespace Go.Proofs.YtddcnafocohghaaDoor
open Go.Ab
noncomputable def handB (b : Bd) (l : List Int) : Bool := @decide (handP b l) (Classical.propDecidable _)
theorem handB_t {b : Bd} {l : List Int} (h : handP b l) : handB b l = true := by unfold handB; exact @decide_eq_true _ (Classical.propDecidable _) h
theorem handB_f {b : Bd} {l : List Int} (h : ¬ handP b l) : handB b l = false := by unfold handB; exact @decide_eq_false _ (Classical.propDecidable _) h
theorem hand_lk (b : Bd) (l : List Int) (hb' : bdB b = true) (hl : l.length ≤ 9223372036854775807) : Look Tryd.prog 24 [bdA b, ints l] (.imm (.bool (handB b l))) := by
  refine Look.mk trivial ((hand_tc b l hb' hl).mono fun v _ ⟨g, hv, hg⟩ => ?_)
  rw [hv]
  refine congrArg (fun b => AV.imm (.bool b)) ?_
  rw [Bool.eq_iff_iff, hg]
  unfold handB
  simp
end Go.Proofs.YtddcnafocohghaaDoor

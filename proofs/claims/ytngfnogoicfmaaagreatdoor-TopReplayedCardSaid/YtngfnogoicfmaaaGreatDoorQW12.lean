/-
  What was learnt stays valid (plain).
-/
import Derived.Test.YtngfnogoicfmaaaGreatDoorQU2
set_option linter.unusedSimpArgs false
set_option linter.unusedVariables false
namespace Go.Proofs.YtngfnogoicfmaaaGreatDoor
open Go.Ab
theorem lrn_val {l : List Tk} {x : Tk} (hv : Val l) (hx : OkT x) (hk : ¬ knows l x.s) : Val (lrn l x) := by
  obtain ⟨h1, h2, h3⟩ := low_spec x.s hv.ris
  have hlen := ins_length l (low l x.s) x h1
  have hg := gt_ins l (low l x.s) x h1
  refine ⟨fun i hi => ?_, fun i hi => ?_⟩
  · unfold lrn at hi ⊢
    rw [hlen] at hi
    rw [hg]
    split
    · exact hv.1 i (by omega)
    · split
      · exact hx
      · exact hv.1 (i - 1) (by omega)
  · unfold lrn at hi ⊢
    rw [hlen] at hi
    rw [hg, hg]
    by_cases q1 : i + 1 < low l x.s
    · rw [if_pos (by omega), if_pos q1]; exact hv.2 i (by omega)
    · by_cases q2 : i + 1 = low l x.s
      · rw [if_pos (by omega), if_neg q1, if_pos q2]; exact h2 i (by omega)
      · rw [if_neg (by omega), if_neg q1, if_neg q2]
        by_cases q3 : i = low l x.s
        · rw [if_pos q3]
          have h4 := h3 (i + 1 - 1) (by omega) (by omega)
          rcases Int.lt_or_eq_of_le h4 with h5 | h5
          · exact h5
          · exfalso
            have e : i + 1 - 1 = low l x.s := by omega
            rw [e] at h5
            exact hk ⟨by omega, h5.symm⟩
        · rw [if_neg q3]
          have := hv.2 (i - 1) (by omega)
          rw [show i - 1 + 1 = i + 1 - 1 by omega] at this
          exact this
end Go.Proofs.YtngfnogoicfmaaaGreatDoor

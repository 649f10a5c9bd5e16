/-
  Plain: how long the results are.
-/
import Derived.Test.YtddcnafocohghaaDoorQP6
set_option linter.unusedSimpArgs false
set_option linter.unusedVariables false
namespace Go.Proofs.YtddcnafocohghaaDoor
theorem optR_len (b : Bd) (vs : List P6) : (optR b vs).1.length ≤ 12 := by
  unfold optR
  split
  · simp
  · split
    · simp
    · split
      · simp
      · rename_i h; simp [optL]; omega
theorem chordR_len (b : Bd) (vs : List P6) : (chordR b vs).1.length ≤ 12 := by
  unfold chordR
  split
  · split
    · split
      · rename_i t ht
        have := (prodL_mem.1 (List.mem_of_find?_eq_some ht)).1
        have := optR_len b vs
        show t.length ≤ _
        omega
      · simp
    · simp
  · simp
theorem chordR_tr {w : P6} {b : Bd} (hb : bdB b = true) (hc : bdB (mvB (trK w) b) = true) {vs : List P6} (h1 : ∀ v ∈ vs, vOk v = true) (h2 : ∀ v ∈ vs, vOk (v.add w) = true) : chordR (mvB (trK w) b) (vs.map fun v => v.add w) = chordR b vs :=
  chordR_mv (trK_mv w) hb hc (fun v hv => by rw [h1 v hv, h2 v hv]) (fun v _ => findL_tr w b v)
end Go.Proofs.YtddcnafocohghaaDoor

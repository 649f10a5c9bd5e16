/-
  Plain: how long the results are.
-/
import Derived.Test.YtddcnafocohghaaDoorQP6
set_option linter.unusedSimpArgs false
set_option linter.unusedVariables false
namespace Go.Proofs.YtddcnafocohghaaDoor
theorem findR_len (b : Bd) (v : P6) : (findR b v).1.length ≤ 120 := by
  unfold findR
  split
  · rename_i h; exact findL_len (bdB_iff.1 h.1) v
  · simp
theorem ordK_le {b : Bd} (hg : Good b) (ids : List Int) : (ordK b ids).length ≤ 120 := by
  unfold ordK
  refine Nat.le_trans (List.length_filter_le _ _) ?_
  rw [srtK_len]; exact hg.len
theorem handsR_len (b : Bd) (ids : List Int) : (handsR b ids).1.length ≤ 120 ∧ (handsR b ids).2.1.length ≤ 120 := by
  unfold handsR
  split
  · rename_i h
    have := ordK_le (bdB_iff.1 h.1) ids
    split
    · simp
    · simp only [List.length_map, List.length_take, List.length_drop]; omega
  · simp
theorem optR_len (b : Bd) (vs : List P6) : (optR b vs).1.length ≤ 12 := by
  unfold optR
  split
  · simp
  · split
    · simp
    · split
      · simp
      · rename_i h; simp [optL]; omega
theorem chordR_len (b : Bd) (vs : List P6) : (chordR b vs).1.length ≤ 12 := by
  unfold chordR
  split
  · split
    · split
      · rename_i t ht
        have := (prodL_mem.1 (List.mem_of_find?_eq_some ht)).1
        have := optR_len b vs
        show t.length ≤ _
        omega
      · simp
    · simp
  · simp
theorem findR_sh {n : Int} {b : Bd} (hb : bdB b = true) (hc : bdB (mvB (shK n) b) = true) (v : P6) : findR (mvB (shK n) b) v = findR b v := by
  unfold findR
  by_cases h : vOk v = true
  · rw [if_pos (show bdB (mvB (shK n) b) = true ∧ vOk v = true from ⟨hc, h⟩), if_pos (show bdB b = true ∧ vOk v = true from ⟨hb, h⟩), findL_sh]
  · rw [if_neg (show ¬ (bdB (mvB (shK n) b) = true ∧ vOk v = true) from fun q => h q.2), if_neg (show ¬ (bdB b = true ∧ vOk v = true) from fun q => h q.2)]
theorem chordR_sh {n : Int} {b : Bd} (hb : bdB b = true) (hc : bdB (mvB (shK n) b) = true) (vs : List P6) : chordR (mvB (shK n) b) vs = chordR b vs := by
  have := chordR_mv (shK_mv n) (g := fun v => v) hb hc (vs := vs) (fun v _ => rfl) (fun v _ => findL_sh n b v)
  rwa [List.map_id'] at this
end Go.Proofs.YtddcnafocohghaaDoor

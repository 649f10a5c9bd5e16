/-
  Parts joined: P5 P6 P7.
-/
import Derived.Test.YtddcnafocohghaaDoorQP4
set_option linter.unusedSimpArgs false
set_option linter.unusedVariables false
namespace Go.Proofs.YtddcnafocohghaaDoor
def prodN (L : List (List Int)) : Nat := (L.map List.length).foldr (· * ·) 1
structure Opt (b : Bd) (vs : List P6) : Prop where
  ok : ∀ v ∈ vs, vOk v = true
  some : ∀ v ∈ vs, findL b v ≠ []
  few : vs.length ≤ 12
  lim : prodN (optL b vs) ≤ 10000
end Go.Proofs.YtddcnafocohghaaDoor
namespace Go.Proofs.YtddcnafocohghaaDoor
structure Mv (f : Ky → Ky) : Prop where
  id : ∀ k, (f k).id = k.id
  lt : ∀ a b, ltK (f a) (f b) ↔ ltK a b
  far : ∀ a b, (f b).x - (f a).x = b.x - a.x
end Go.Proofs.YtddcnafocohghaaDoor
namespace Go.Proofs.YtddcnafocohghaaDoor
theorem findR_len (b : Bd) (v : P6) : (findR b v).1.length ≤ 120 := by
  unfold findR
  split
  · rename_i h; exact findL_len (bdB_iff.1 h.1) v
  · simp
theorem ordK_le {b : Bd} (hg : Good b) (ids : List Int) : (ordK b ids).length ≤ 120 := by
  unfold ordK
  refine Nat.le_trans (List.length_filter_le _ _) ?_
  rw [srtK_len]; exact hg.len
theorem handsR_len (b : Bd) (ids : List Int) : (handsR b ids).1.length ≤ 120 ∧ (handsR b ids).2.1.length ≤ 120 := by
  unfold handsR
  split
  · rename_i h
    have := ordK_le (bdB_iff.1 h.1) ids
    split
    · simp
    · simp only [List.length_map, List.length_take, List.length_drop]; omega
  · simp
theorem optR_len (b : Bd) (vs : List P6) : (optR b vs).1.length ≤ 12 := by
  unfold optR
  split
  · simp
  · split
    · simp
    · split
      · simp
      · rename_i h; simp [optL]; omega
theorem chordR_len (b : Bd) (vs : List P6) : (chordR b vs).1.length ≤ 12 := by
  unfold chordR
  split
  · split
    · split
      · rename_i t ht
        have := (prodL_mem.1 (List.mem_of_find?_eq_some ht)).1
        have := optR_len b vs
        show t.length ≤ _
        omega
      · simp
    · simp
  · simp
end Go.Proofs.YtddcnafocohghaaDoor

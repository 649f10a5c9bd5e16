/-
  The reference's Compact.
-/
import Derived.Test.YtnomenmakhielaaDoorQGo
import Derived.Test.YtnomenmakhielaaDoorQS33
import Derived.Test.YtnomenmakhielaaDoorQS32
import Derived.Test.YtnomenmakhielaaDoorQS29
import Derived.Test.YtnomenmakhielaaDoorQP1
import Derived.Test.YtnomenmakhielaaDoorQS17
set_option linter.unusedSimpArgs false
set_option linter.unusedVariables false
namespace Go.Proofs.YtnomenmakhielaaDoor
open Go.Ab

set_option maxRecDepth 100000 in
set_option maxHeartbeats 1000000 in
theorem rcompact_tc (d : Dsk) (hb : ByOk d.b) (hl : d.b.length ≤ 9223372036854775807) : Makes Tryd.prog 30 [dsA d] (dskA (compactR d)) (dskO (compactR d)) := by
  refine DQ.makesD ?_
  have hre := rrecover_tc d hb hl
  have hfo := rfold_tc (recoverR d).1 (recoverR_len d hl)
  have hlr := recoverR_len d hl
  by_cases h1 : (recoverR d).2.2 = 0
  · by_cases h2 : (foldR (recoverR d).1).2 = 0
    · have hm := foldR_ok h2
      have e : compactR d = (⟨framesN (fewest (foldR (recoverR d).1).1), ((framesN (fewest (foldR (recoverR d).1).1)).length : Nat)⟩, 0) := by
        unfold compactR; rw [if_neg (by simp [h1]), if_neg (by simp [h2])]
      rw [e]
      generalize hq : recoverR d = q at *
      obtain ⟨l, d', er⟩ := q
      simp only [] at h1 h2 hm hfo hre hlr ⊢
      subst h1
      generalize hq2 : foldR l = q2 at *
      obtain ⟨m, er⟩ := q2
      simp only [] at h2 hm hfo ⊢
      subst h2
      have hA := hm.len
      have hL := hm.log.len
      have hfw := rfewest_tc m (by omega) (by omega)
      have hle := fewest_le hm
      have hfr := rframes_tc (fewest m) (fewest_ok hm) (by omega)
      generalize fewest m = R at *
      (refine TC_of_T Γ_ok Tryd.func30 rfl (by kernel_rfl) ?_; simp only [Tryd.ntmps30, Tryd.results30, List.length_cons, List.length_nil, Nat.reduceSub, Nat.reduceAdd, List.replicate, List.cons_append, List.nil_append])
      (have cm1 := hre; have cm2 := hfo; have cm3 := hfw; have cm4 := hfr; ((refine goR0 _ _ _ _ _ _ _ _ ?_ ?_ ?_ ?_ ?_ ?_ ?_ ?_) <;> (repeat intro hb) <;> first | exact True.intro | refine Lf.mk ?_))
      all_goals exact .inr ⟨9, rfl, rfl⟩
    · have e : compactR d = (⟨[], 0⟩, (foldR (recoverR d).1).2) := by
        unfold compactR; rw [if_neg (by simp [h1]), if_pos h2]
      rw [e]
      generalize hq : recoverR d = q at *
      obtain ⟨l, d', er⟩ := q
      simp only [] at h1 h2 hfo hre hlr ⊢
      subst h1
      have h2' : ((foldR l).2 != 0) = true := by simpa using h2
      (refine TC_of_T Γ_ok Tryd.func30 rfl (by kernel_rfl) ?_; simp only [Tryd.ntmps30, Tryd.results30, List.length_cons, List.length_nil, Nat.reduceSub, Nat.reduceAdd, List.replicate, List.cons_append, List.nil_append])
      (have cm1 := hre; have cm2 := hfo; have sx1 := h2'; ((refine goR1 _ _ _ _ _ _ _ _ ?_ ?_ ?_ ?_ ?_ ?_ ?_ ?_) <;> (repeat intro hb) <;> first | exact True.intro | refine Lf.mk ?_))
      all_goals exact .inl ⟨rfl, rfl⟩
  · have e : compactR d = (⟨[], 0⟩, (recoverR d).2.2) := by unfold compactR; rw [if_pos h1]
    rw [e]
    have h1' : ((recoverR d).2.2 != 0) = true := by simpa using h1
    (refine TC_of_T Γ_ok Tryd.func30 rfl (by kernel_rfl) ?_; simp only [Tryd.ntmps30, Tryd.results30, List.length_cons, List.length_nil, Nat.reduceSub, Nat.reduceAdd, List.replicate, List.cons_append, List.nil_append])
    (have cm1 := hre; have sx1 := h1'; ((refine goR1 _ _ _ _ _ _ _ _ ?_ ?_ ?_ ?_ ?_ ?_ ?_ ?_) <;> (repeat intro hb) <;> first | exact True.intro | refine Lf.mk ?_))
    all_goals exact .inl ⟨rfl, rfl⟩
end Go.Proofs.YtnomenmakhielaaDoor

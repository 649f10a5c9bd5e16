/-
  score: Valid, Before.
-/
import Derived.Test.YtmglcamgpgkblaaXGo3
import Derived.Test.YtmglcamgpgkblaaXB3
set_option linter.unusedSimpArgs false
set_option linter.unusedVariables false
namespace Go.Proofs.Ytmglcamgpgkblaa
open Go.Ab
def ScL (s : Sc) : Prop := s.notes.length ≤ 9223372036854775807 ∧ s.pairs.length ≤ 9223372036854775807 ∧ s.cads.length ≤ 9223372036854775807
set_option maxRecDepth 100000 in
set_option maxHeartbeats 4000000 in
theorem valid_tc (s : Sc) (hl : ScL s) : Look Try.prog 26 [scA s] (.imm (.bool (tf (ScOk s)))) := by
  refine Look.mk trivial ?_
  have c1 := sizes_tc s hl.1 hl.2.1 hl.2.2
  have c2 := notes_tc s hl.1
  have c4 := pairs_tc s hl.1 hl.2.1
  have c5 := cadences_tc s hl.2.2
  by_cases h1 : SzOk s
  · rw [tf_t h1] at c1
    by_cases h2 : NsOk s
    · rw [tf_t h2] at c2
      have c3 := voices_tc s hl.1 h2 h1.2.1
      (refine TC_of_T Γ_ok Try.func26 rfl (by kernel_rfl) ?_;simp only [Try.ntmps26,Try.results26,List.length_cons,List.length_nil,Nat.reduceSub,Nat.reduceAdd,List.replicate,List.cons_append,List.nil_append])
      (have sx1 : (0 : Nat) + 0 = 0 := rfl;((refine goU1 _ _ _ _ _ _ _ _ _ _ _ _ ?_ ?_ ?_ ?_ ?_ ?_ ?_ ?_ ?_ ?_ ?_ ?_) <;> (repeat intro hb) <;> first | exact True.intro | refine Lf.mk ?_))
      refine T_rounds 6 ?_
      (have cl1 := c1;have cl2 := c2;have cl3 := c3;have cl4 := c4;have cl5 := c5;have sx1 : (0 : Nat) + 0 = 0 := rfl;((refine goU1 _ _ _ _ _ _ _ _ _ _ _ _ ?_ ?_ ?_ ?_ ?_ ?_ ?_ ?_ ?_ ?_ ?_ ?_) <;> (repeat intro hb) <;> first|exact True.intro|refine Lf.mk ?_))
      · rw [tf_f fun h => by rw [tf_t h.vs] at hb; cases hb]
      · rw [tf_f fun h => by rw [tf_t h.ps] at hb; cases hb]
      · rw [tf_f fun h => by rw [tf_t h.cs] at hb; cases hb]
      · rw [tf_t ⟨h1, h2, tf_iff.1 (by assumption), tf_iff.1 (by assumption), tf_iff.1 (by assumption)⟩]
    · rw [tf_f h2] at c2
      (refine TC_of_T Γ_ok Try.func26 rfl (by kernel_rfl) ?_;simp only [Try.ntmps26,Try.results26,List.length_cons,List.length_nil,Nat.reduceSub,Nat.reduceAdd,List.replicate,List.cons_append,List.nil_append])
      (have sx1 : (0 : Nat) + 0 = 0 := rfl;((refine goU1 _ _ _ _ _ _ _ _ _ _ _ _ ?_ ?_ ?_ ?_ ?_ ?_ ?_ ?_ ?_ ?_ ?_ ?_) <;> (repeat intro hb) <;> first | exact True.intro | refine Lf.mk ?_))
      refine T_rounds 6 ?_
      (have cl1 := c1;have cl2 := c2;have sx1 : (0 : Nat) + 0 = 0 := rfl;((refine goU1 _ _ _ _ _ _ _ _ _ _ _ _ ?_ ?_ ?_ ?_ ?_ ?_ ?_ ?_ ?_ ?_ ?_ ?_) <;> (repeat intro hb) <;> first|exact True.intro|refine Lf.mk ?_))
      rw [tf_f fun h => h2 h.ns]
  · rw [tf_f h1] at c1
    (refine TC_of_T Γ_ok Try.func26 rfl (by kernel_rfl) ?_;simp only [Try.ntmps26,Try.results26,List.length_cons,List.length_nil,Nat.reduceSub,Nat.reduceAdd,List.replicate,List.cons_append,List.nil_append])
    (have sx1 : (0 : Nat) + 0 = 0 := rfl;((refine goU1 _ _ _ _ _ _ _ _ _ _ _ _ ?_ ?_ ?_ ?_ ?_ ?_ ?_ ?_ ?_ ?_ ?_ ?_) <;> (repeat intro hb) <;> first | exact True.intro | refine Lf.mk ?_))
    refine T_rounds 6 ?_
    (have cl1 := c1;have sx1 : (0 : Nat) + 0 = 0 := rfl;((refine goU1 _ _ _ _ _ _ _ _ _ _ _ _ ?_ ?_ ?_ ?_ ?_ ?_ ?_ ?_ ?_ ?_ ?_ ?_) <;> (repeat intro hb) <;> first|exact True.intro|refine Lf.mk ?_))
    rw [tf_f fun h => h1 h.sz]
end Go.Proofs.Ytmglcamgpgkblaa

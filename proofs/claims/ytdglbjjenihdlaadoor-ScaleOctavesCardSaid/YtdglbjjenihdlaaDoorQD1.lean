/-
  ScaleOctaves.
-/
import Derived.Test.YtdglbjjenihdlaaDoorQGo
import Derived.Test.YtdglbjjenihdlaaDoorQGo2
import Derived.Test.YtdglbjjenihdlaaDoorQP1
import Derived.Test.YtdglbjjenihdlaaDoorQC1
set_option linter.unusedSimpArgs false
set_option linter.unusedVariables false
namespace Go.Proofs.YtdglbjjenihdlaaDoor
open Go.Ab
set_option maxRecDepth 100000 in
set_option maxHeartbeats 8000000 in
theorem octaves_law (p : P6) (by' : Int) : Look Tryd.prog 4 [p6A p, .imm (.int .i64 by')] (.imm (.bool true)) := by
  refine Look.mk trivial ?_
  have c0 := head_tc
  have c1 := octave_tc p
  have c2 := valid_p p
  by_cases he : (octR p).2.2 = 0
  · obtain ⟨h1, h2, h3, h4, h5⟩ := oct_ok he
    obtain ⟨h6, h7, h8⟩ := inB_iff.1 h2
    have hby := fun b => oct_by (p := p) (q := (octR p).1) (o := (octR p).2.1) (by' := b) (by rw [← he])
    generalize octR p = r at *
    obtain ⟨q, o, e⟩ := r
    simp only [] at c1 he h2 h3 h4 h5 h6 h7 h8 hby
    subst he
    have c3 := pcmp_tc q z6
    have c4 := pcmp_tc q oct
    have e3 : cmpR q z6 = (cmpP q z6, 0) := if_pos ⟨h6, bd_z⟩
    have e4 : cmpR q oct = (cmpP q oct, 0) := if_pos ⟨h6, bd_oct⟩
    rw [e3] at c3
    rw [e4] at c4
    have g3 := cmpP_ge.2 h7
    have g4 := cmpP_lo.2 h8
    generalize cmpP q z6 = x at c3 g3
    generalize cmpP q oct = y at c4 g4
    simp only [z6] at c3
    simp only [oct] at c4
    have hq : p = up12 q o := by rw [h3, up_up, show -o + o = 0 by omega, up_0]
    have f1 : decide (o < -96) = false := decide_eq_false (by omega)
    have f2 : decide (o > 96) = false := decide_eq_false (by omega)
    have f3 : decide (0 ≤ x) = true := decide_eq_true g3
    have f4 : decide (y < 0) = true := decide_eq_true g4
    have hbp := (h1 : Bd6 576 p)
    clear h1 h2 h3 h7 h8 e3 e4
    subst hq
    unfold Bd6 at h6 hbp
    have hbn : ∀ x : Int, (x == x) = true := fun x => beq_self_eq_true x
    have u1 : (up12 q o).a = q.a + 12 * o := rfl
    have u2 : (up12 q o).b = q.b := rfl
    have u3 : (up12 q o).c = q.c := rfl
    have u4 : (up12 q o).d = q.d := rfl
    have u5 : (up12 q o).e = q.e := rfl
    have u6 : (up12 q o).f = q.f := rfl
    have U := And.intro hbn (And.intro u1 (And.intro u2 (And.intro u3 (And.intro u4 (And.intro u5 u6)))))
    have F := And.intro f1 (And.intro f2 (And.intro f3 f4))
    simp only [up12] at c1 c2 hbp
    by_cases hb9 : -20 ≤ by' ∧ by' ≤ 20
    · have f5 : decide (by' < -20) = false := decide_eq_false (by omega)
      have f6 : decide (by' > 20) = false := decide_eq_false (by omega)
      have F := And.intro F (And.intro f5 f6)
      have c5 := octave_tc (up12 (up12 q o) by')
      have c6 := valid_p (up12 (up12 q o) by')
      rw [hby] at c5
      by_cases hv : Bd6 576 (up12 (up12 q o) by')
      · rw [if_pos hv] at c5
        rw [decide_eq_true hv] at c6
        unfold Bd6 at hv
        simp only [up12] at c5 c6 hv
        (refine TC_of_T Γ_ok Tryd.func4 rfl (by kernel_rfl) ?_;simp only [Tryd.ntmps4,Tryd.results4,List.length_cons,List.length_nil,Nat.reduceSub,Nat.reduceAdd,List.replicate,List.cons_append,List.nil_append])
        (have cl1 := c0;have dl1 := c1;have dl2 := c5;have dl3 := c3;have dl4 := c4;have sx1 := F;have sx2 := U;((refine goB2 _ _ _ _ _ _ _ _ ?_ ?_ ?_ ?_ ?_ ?_ ?_ ?_) <;> (repeat intro hb) <;> first|exact True.intro|refine Lf.mk ?_))
      · rw [if_neg hv] at c5
        rw [decide_eq_false hv] at c6
        simp only [up12, z6] at c5 c6
        (refine TC_of_T Γ_ok Tryd.func4 rfl (by kernel_rfl) ?_;simp only [Tryd.ntmps4,Tryd.results4,List.length_cons,List.length_nil,Nat.reduceSub,Nat.reduceAdd,List.replicate,List.cons_append,List.nil_append])
        (have cl1 := c0;have dl1 := c1;have dl2 := c5;have dl3 := c3;have dl4 := c4;have dl5 := c6;have sx1 := F;have sx2 := U;((have sx3 : (0 : Nat) + 0 = 0 := rfl;have sx4 : (0 : Nat) + 0 = 0 := rfl;have sx5 : (0 : Nat) + 0 = 0 := rfl;have sx6 : (0 : Nat) + 0 = 0 := rfl;have sx7 : (0 : Nat) + 0 = 0 := rfl;have sx8 : (0 : Nat) + 0 = 0 := rfl;have sx9 : (0 : Nat) + 0 = 0 := rfl;refine goR9 _ _ _ _ _ _ _ _ ?_ ?_ ?_ ?_ ?_ ?_ ?_ ?_) <;> (repeat intro hb) <;> first|exact True.intro|refine Lf.mk ?_))
    · (refine TC_of_T Γ_ok Tryd.func4 rfl (by kernel_rfl) ?_;simp only [Tryd.ntmps4,Tryd.results4,List.length_cons,List.length_nil,Nat.reduceSub,Nat.reduceAdd,List.replicate,List.cons_append,List.nil_append])
      (have cl1 := c0;have dl1 := c1;have dl2 := c3;have dl3 := c4;have sx1 := F;have sx2 := U;((have sx3 : (0 : Nat) + 0 = 0 := rfl;have sx4 : (0 : Nat) + 0 = 0 := rfl;have sx5 : (0 : Nat) + 0 = 0 := rfl;have sx6 : (0 : Nat) + 0 = 0 := rfl;have sx7 : (0 : Nat) + 0 = 0 := rfl;have sx8 : (0 : Nat) + 0 = 0 := rfl;have sx9 : (0 : Nat) + 0 = 0 := rfl;refine goR9 _ _ _ _ _ _ _ _ ?_ ?_ ?_ ?_ ?_ ?_ ?_ ?_) <;> (repeat intro hb) <;> first|exact True.intro|refine Lf.mk ?_))
  · rcases oct_err he with ⟨e1, e2⟩ | ⟨e1, e2⟩
    · rw [e1] at c1
      rw [decide_eq_true e2] at c2
      simp only [z6] at c1
      (refine TC_of_T Γ_ok Tryd.func4 rfl (by kernel_rfl) ?_;simp only [Tryd.ntmps4,Tryd.results4,List.length_cons,List.length_nil,Nat.reduceSub,Nat.reduceAdd,List.replicate,List.cons_append,List.nil_append])
      (have cl1 := c0;have dl1 := c1;((have sx1 : (0 : Nat) + 0 = 0 := rfl;have sx2 : (0 : Nat) + 0 = 0 := rfl;refine goB2 _ _ _ _ _ _ _ _ ?_ ?_ ?_ ?_ ?_ ?_ ?_ ?_) <;> (repeat intro hb) <;> first|exact True.intro|refine Lf.mk ?_))
    · rw [e1] at c1
      rw [decide_eq_false e2] at c2
      simp only [z6] at c1
      (refine TC_of_T Γ_ok Tryd.func4 rfl (by kernel_rfl) ?_;simp only [Tryd.ntmps4,Tryd.results4,List.length_cons,List.length_nil,Nat.reduceSub,Nat.reduceAdd,List.replicate,List.cons_append,List.nil_append])
      (have cl1 := c0;have dl1 := c1;have dl2 := c2;((refine goR0 _ _ _ _ _ _ _ _ ?_ ?_ ?_ ?_ ?_ ?_ ?_ ?_) <;> (repeat intro hb) <;> first | exact True.intro | refine Lf.mk ?_))
end Go.Proofs.YtdglbjjenihdlaaDoor

/-
  pitch.Mul, Div.
-/
import Derived.Test.YtdglbjjenihdlaaDoorQGo3
import Derived.Test.YtdglbjjenihdlaaDoorQS3
set_option linter.unusedSimpArgs false
set_option linter.unusedVariables false
namespace Go.Proofs.YtdglbjjenihdlaaDoor
open Go.Ab
def mulR (p q : P6) : P6 × Int := if Bd6 576 p ∧ Bd6 576 q then (if Bd6 576 (p.add q) then (p.add q,0) else (z6,3)) else (z6,1)
def divR (p q : P6) : P6 × Int := if Bd6 576 p ∧ Bd6 576 q then (if Bd6 576 (p.sub q) then (p.sub q,0) else (z6,3)) else (z6,1)
theorem sub_is (p q : P6) : p.sub q = ⟨p.a + -q.a, p.b + -q.b, p.c + -q.c, p.d + -q.d, p.e + -q.e, p.f + -q.f⟩ := by
  apply P6.ext' <;> simp only [P6.sub] <;> omega
set_option maxRecDepth 100000 in
set_option maxHeartbeats 4000000 in
theorem comb1_tc (p q : P6) : Look Tryd.prog 56 [p6A p,p6A q,.imm (.int .i64 1)] (.tup [p6A (mulR p q).1,.imm (.int .i64 (mulR p q).2)]) := by
  refine Look.mk (by simp [Pl, PlL]) ?_
  have c1 := valid_p p
  have c2 := valid_p q
  generalize hR : mulR p q = R
  unfold mulR at hR
  have m1 : ∀ x : Int, 1 * x = x := Int.one_mul
  by_cases hpq : Bd6 576 p ∧ Bd6 576 q
  · have hp := hpq.1
    have hq := hpq.2
    rw [decide_eq_true hp] at c1
    rw [decide_eq_true hq] at c2
    rw [if_pos hpq] at hR
    have c3 := valid_p (p.add q)
    unfold Bd6 at hp hq
    by_cases hs : Bd6 576 (p.add q)
    · rw [if_pos hs] at hR
      subst hR
      rw [decide_eq_true hs] at c3
      simp only [P6.add] at c3 ⊢
      (refine TC_of_T Γ_ok Tryd.func56 rfl (by kernel_rfl) ?_;simp only [Tryd.ntmps56,Tryd.results56,List.length_cons,List.length_nil,Nat.reduceSub,Nat.reduceAdd,List.replicate,List.cons_append,List.nil_append])
      (have dl1 := c1;have dl2 := c2;have sx1 : (0 : Nat) + 0 = 0 := rfl;((refine goU1 _ _ _ _ _ _ _ _ _ _ _ _ ?_ ?_ ?_ ?_ ?_ ?_ ?_ ?_ ?_ ?_ ?_ ?_) <;> (repeat intro hb) <;> first|exact True.intro|refine Lf.mk ?_))
      refine T_rounds 7 ?_
      (have dl1 := c3;have sx1 := m1;((refine goU1 _ _ _ _ _ _ _ _ _ _ _ _ ?_ ?_ ?_ ?_ ?_ ?_ ?_ ?_ ?_ ?_ ?_ ?_) <;> (repeat intro hb) <;> first | exact True.intro | refine Lf.mk ?_))
    · rw [if_neg hs] at hR
      subst hR
      rw [decide_eq_false hs] at c3
      simp only [P6.add] at c3
      simp only [z6]
      (refine TC_of_T Γ_ok Tryd.func56 rfl (by kernel_rfl) ?_;simp only [Tryd.ntmps56,Tryd.results56,List.length_cons,List.length_nil,Nat.reduceSub,Nat.reduceAdd,List.replicate,List.cons_append,List.nil_append])
      (have dl1 := c1;have dl2 := c2;have sx1 : (0 : Nat) + 0 = 0 := rfl;((refine goU1 _ _ _ _ _ _ _ _ _ _ _ _ ?_ ?_ ?_ ?_ ?_ ?_ ?_ ?_ ?_ ?_ ?_ ?_) <;> (repeat intro hb) <;> first|exact True.intro|refine Lf.mk ?_))
      refine T_rounds 7 ?_
      (have dl1 := c3;have sx1 := m1;((refine goU1 _ _ _ _ _ _ _ _ _ _ _ _ ?_ ?_ ?_ ?_ ?_ ?_ ?_ ?_ ?_ ?_ ?_ ?_) <;> (repeat intro hb) <;> first | exact True.intro | refine Lf.mk ?_))
  · rw [if_neg hpq] at hR
    subst hR
    simp only [z6]
    (refine TC_of_T Γ_ok Tryd.func56 rfl (by kernel_rfl) ?_;simp only [Tryd.ntmps56,Tryd.results56,List.length_cons,List.length_nil,Nat.reduceSub,Nat.reduceAdd,List.replicate,List.cons_append,List.nil_append])
    (have dl1 := c1;have dl2 := c2;have sx1 : (0 : Nat) + 0 = 0 := rfl;((refine goU1 _ _ _ _ _ _ _ _ _ _ _ _ ?_ ?_ ?_ ?_ ?_ ?_ ?_ ?_ ?_ ?_ ?_ ?_) <;> (repeat intro hb) <;> first|exact True.intro|refine Lf.mk ?_))
    exact absurd hb hpq
set_option maxRecDepth 100000 in
set_option maxHeartbeats 4000000 in
theorem comb2_tc (p q : P6) : Look Tryd.prog 56 [p6A p,p6A q,.imm (.int .i64 (-1))] (.tup [p6A (divR p q).1,.imm (.int .i64 (divR p q).2)]) := by
  refine Look.mk (by simp [Pl, PlL]) ?_
  have c1 := valid_p p
  have c2 := valid_p q
  generalize hR : divR p q = R
  unfold divR at hR
  rw [sub_is] at hR
  have m1 : ∀ x : Int, -1 * x = -x := fun x => by omega
  by_cases hpq : Bd6 576 p ∧ Bd6 576 q
  · have hp := hpq.1
    have hq := hpq.2
    rw [decide_eq_true hp] at c1
    rw [decide_eq_true hq] at c2
    rw [if_pos hpq] at hR
    have c3 := valid_p ⟨p.a + -q.a, p.b + -q.b, p.c + -q.c, p.d + -q.d, p.e + -q.e, p.f + -q.f⟩
    unfold Bd6 at hp hq
    by_cases hs : Bd6 576 ⟨p.a + -q.a, p.b + -q.b, p.c + -q.c, p.d + -q.d, p.e + -q.e, p.f + -q.f⟩
    · rw [if_pos hs] at hR
      subst hR
      rw [decide_eq_true hs] at c3
      (refine TC_of_T Γ_ok Tryd.func56 rfl (by kernel_rfl) ?_;simp only [Tryd.ntmps56,Tryd.results56,List.length_cons,List.length_nil,Nat.reduceSub,Nat.reduceAdd,List.replicate,List.cons_append,List.nil_append])
      (have dl1 := c1;have dl2 := c2;have sx1 : (0 : Nat) + 0 = 0 := rfl;((refine goU1 _ _ _ _ _ _ _ _ _ _ _ _ ?_ ?_ ?_ ?_ ?_ ?_ ?_ ?_ ?_ ?_ ?_ ?_) <;> (repeat intro hb) <;> first|exact True.intro|refine Lf.mk ?_))
      refine T_rounds 7 ?_
      (have dl1 := c3;have sx1 := m1;((refine goU1 _ _ _ _ _ _ _ _ _ _ _ _ ?_ ?_ ?_ ?_ ?_ ?_ ?_ ?_ ?_ ?_ ?_ ?_) <;> (repeat intro hb) <;> first | exact True.intro | refine Lf.mk ?_))
    · rw [if_neg hs] at hR
      subst hR
      rw [decide_eq_false hs] at c3
      simp only [z6]
      (refine TC_of_T Γ_ok Tryd.func56 rfl (by kernel_rfl) ?_;simp only [Tryd.ntmps56,Tryd.results56,List.length_cons,List.length_nil,Nat.reduceSub,Nat.reduceAdd,List.replicate,List.cons_append,List.nil_append])
      (have dl1 := c1;have dl2 := c2;have sx1 : (0 : Nat) + 0 = 0 := rfl;((refine goU1 _ _ _ _ _ _ _ _ _ _ _ _ ?_ ?_ ?_ ?_ ?_ ?_ ?_ ?_ ?_ ?_ ?_ ?_) <;> (repeat intro hb) <;> first|exact True.intro|refine Lf.mk ?_))
      refine T_rounds 7 ?_
      (have dl1 := c3;have sx1 := m1;((refine goU1 _ _ _ _ _ _ _ _ _ _ _ _ ?_ ?_ ?_ ?_ ?_ ?_ ?_ ?_ ?_ ?_ ?_ ?_) <;> (repeat intro hb) <;> first | exact True.intro | refine Lf.mk ?_))
  · rw [if_neg hpq] at hR
    subst hR
    simp only [z6]
    (refine TC_of_T Γ_ok Tryd.func56 rfl (by kernel_rfl) ?_;simp only [Tryd.ntmps56,Tryd.results56,List.length_cons,List.length_nil,Nat.reduceSub,Nat.reduceAdd,List.replicate,List.cons_append,List.nil_append])
    (have dl1 := c1;have dl2 := c2;have sx1 : (0 : Nat) + 0 = 0 := rfl;((refine goU1 _ _ _ _ _ _ _ _ _ _ _ _ ?_ ?_ ?_ ?_ ?_ ?_ ?_ ?_ ?_ ?_ ?_ ?_) <;> (repeat intro hb) <;> first|exact True.intro|refine Lf.mk ?_))
    exact absurd hb hpq
set_option maxRecDepth 100000 in
set_option maxHeartbeats 4000000 in
theorem mul_tc (p q : P6) : Look Tryd.prog 29 [p6A p,p6A q] (.tup [p6A (mulR p q).1,.imm (.int .i64 (mulR p q).2)]) := by
  refine Look.mk (by simp [Pl, PlL]) ?_
  have c1 := comb1_tc p q
  generalize mulR p q = R at *
  (refine TC_of_T Γ_ok Tryd.func29 rfl (by kernel_rfl) ?_;simp only [Tryd.ntmps29,Tryd.results29,List.length_cons,List.length_nil,Nat.reduceSub,Nat.reduceAdd,List.replicate,List.cons_append,List.nil_append])
  (have dl1 := c1;have sx1 : (0 : Nat) + 0 = 0 := rfl;((refine goU1 _ _ _ _ _ _ _ _ _ _ _ _ ?_ ?_ ?_ ?_ ?_ ?_ ?_ ?_ ?_ ?_ ?_ ?_) <;> (repeat intro hb) <;> first|exact True.intro|refine Lf.mk ?_))
set_option maxRecDepth 100000 in
set_option maxHeartbeats 4000000 in
theorem div_tc (p q : P6) : Look Tryd.prog 57 [p6A p,p6A q] (.tup [p6A (divR p q).1,.imm (.int .i64 (divR p q).2)]) := by
  refine Look.mk (by simp [Pl, PlL]) ?_
  have c1 := comb2_tc p q
  generalize divR p q = R at *
  (refine TC_of_T Γ_ok Tryd.func57 rfl (by kernel_rfl) ?_;simp only [Tryd.ntmps57,Tryd.results57,List.length_cons,List.length_nil,Nat.reduceSub,Nat.reduceAdd,List.replicate,List.cons_append,List.nil_append])
  (have dl1 := c1;have sx1 : (0 : Nat) + 0 = 0 := rfl;((refine goU1 _ _ _ _ _ _ _ _ _ _ _ _ ?_ ?_ ?_ ?_ ?_ ?_ ?_ ?_ ?_ ?_ ?_ ?_) <;> (repeat intro hb) <;> first|exact True.intro|refine Lf.mk ?_))
end Go.Proofs.YtdglbjjenihdlaaDoor

/-
  The reference's Power, of whole powers.
-/
import Derived.Test.YtdglbjjenihdlaaDoorWGo3
import Derived.Test.YtdglbjjenihdlaaDoorWN17
import Derived.Test.YtdglbjjenihdlaaDoorWQ3
set_option linter.unusedSimpArgs false
set_option linter.unusedVariables false
namespace Go.Proofs.YtdglbjjenihdlaaDoor
open Go.Ab
set_option maxRecDepth 100000 in
set_option maxHeartbeats 4000000 in
theorem rpower_tc (p : P6) (h : Bd6 576 p) (k : Int) (hk : 0 ≤ k ∧ k ≤ 64) : Look Tryd.prog 42 [p6A p,.imm (.int .i64 k),.imm (.int .i64 1)] (.tup [p6A (powR p k).1,.imm (.int .i64 (powR p k).2)]) := by
  refine Look.mk (by simp [Pl, PlL]) ?_
  have c1 := rvalid_p p
  rw [decide_eq_true h] at c1
  have h2 := h
  unfold Bd6 at h2
  have b1 := mul_bd h2.1 hk
  have b2 := mul_bd h2.2.1 hk
  have b3 := mul_bd h2.2.2.1 hk
  have b4 := mul_bd h2.2.2.2.1 hk
  have b5 := mul_bd h2.2.2.2.2.1 hk
  have b6 := mul_bd h2.2.2.2.2.2 hk
  have m1 : ∀ x : Int, x.tmod 1 = 0 := fun x => by rw [Int.tmod_one]
  have m2 : ∀ x : Int, x.tdiv 1 = x := fun x => by rw [Int.tdiv_one]
  have m3 : ((0 : Int) != 0) = false := by decide
  have c2 := rvalid_p (pwP p k)
  generalize hR : powR p k = R
  unfold powR at hR
  by_cases hb : Bd6 576 (pwP p k)
  · rw [if_pos hb] at hR
    subst hR
    rw [decide_eq_true hb] at c2
    simp only [pwP] at c2 ⊢
    (refine TC_of_T Γ_ok Tryd.func42 rfl (by kernel_rfl) ?_;simp only [Tryd.ntmps42,Tryd.results42,List.length_cons,List.length_nil,Nat.reduceSub,Nat.reduceAdd,List.replicate,List.cons_append,List.nil_append])
    (have dl1 := c1;have sx1 : (0 : Nat) + 0 = 0 := rfl;((refine goU1 _ _ _ _ _ _ _ _ _ _ _ _ ?_ ?_ ?_ ?_ ?_ ?_ ?_ ?_ ?_ ?_ ?_ ?_) <;> (repeat intro hb) <;> first|exact True.intro|refine Lf.mk ?_))
    refine T_rounds 7 ?_
    (have dl1 := c2;have sx1 := (And.intro m1 (And.intro m2 m3));((refine goU1 _ _ _ _ _ _ _ _ _ _ _ _ ?_ ?_ ?_ ?_ ?_ ?_ ?_ ?_ ?_ ?_ ?_ ?_) <;> (repeat intro hb) <;> first|exact True.intro|refine Lf.mk ?_))
  · rw [if_neg hb] at hR
    subst hR
    rw [decide_eq_false hb] at c2
    simp only [pwP] at c2
    simp only [z6]
    (refine TC_of_T Γ_ok Tryd.func42 rfl (by kernel_rfl) ?_;simp only [Tryd.ntmps42,Tryd.results42,List.length_cons,List.length_nil,Nat.reduceSub,Nat.reduceAdd,List.replicate,List.cons_append,List.nil_append])
    (have dl1 := c1;have sx1 : (0 : Nat) + 0 = 0 := rfl;((refine goU1 _ _ _ _ _ _ _ _ _ _ _ _ ?_ ?_ ?_ ?_ ?_ ?_ ?_ ?_ ?_ ?_ ?_ ?_) <;> (repeat intro hb) <;> first|exact True.intro|refine Lf.mk ?_))
    refine T_rounds 7 ?_
    (have dl1 := c2;have sx1 := (And.intro m1 (And.intro m2 m3));((refine goU1 _ _ _ _ _ _ _ _ _ _ _ _ ?_ ?_ ?_ ?_ ?_ ?_ ?_ ?_ ?_ ?_ ?_ ?_) <;> (repeat intro hb) <;> first|exact True.intro|refine Lf.mk ?_))
end Go.Proofs.YtdglbjjenihdlaaDoor

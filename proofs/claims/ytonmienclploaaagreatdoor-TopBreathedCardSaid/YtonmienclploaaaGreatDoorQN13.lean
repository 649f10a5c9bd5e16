/-
  pitch.Cmp.
-/
import Derived.Test.YtonmienclploaaaGreatDoorQGo3
import Derived.Test.YtonmienclploaaaGreatDoorQN12
set_option linter.unusedSimpArgs false
set_option linter.unusedVariables false
namespace Go.Proofs.YtonmienclploaaaGreatDoor.Q
open Go.Ab
def cmpR (p q : P6) : Int × Int := if Bd6 576 p ∧ Bd6 576 q then (cmpP p q, 0) else (0, 1)
theorem cmpN_num (p q : P6) : cmpN (num (p.sub q)) (den (p.sub q)) = cmpP p q := by rw [cmp_num]; rfl
set_option maxRecDepth 100000 in
set_option maxHeartbeats 4000000 in
theorem pcmp_tc (p q : P6) : Look Tryz.prog 51 [p6A p,p6A q] (.tup [.imm (.int .i64 (cmpR p q).1),.imm (.int .i64 (cmpR p q).2)]) := by
  have c1 := valid_p p
  have c2 := valid_p q
  refine Look.mk (by simp [Pl, PlL]) ?_
  by_cases hpq : Bd6 576 p ∧ Bd6 576 q
  · have hp := hpq.1
    have hq := hpq.2
    rw [decide_eq_true hp] at c1
    rw [decide_eq_true hq] at c2
    have hb := hp.sub hq
    have c3 := fraction_mk (p.sub q) (hb.mono (by omega))
    have c4 := ncmp_tc (num (p.sub q)) (den (p.sub q)) (num_lim (hb.mono (by omega))) (num_lim (hb.neg.mono (by omega)))
    rw [cmpN_num] at c4
    have hr : cmpR p q = (cmpP p q, 0) := if_pos hpq
    rw [hr]
    unfold Bd6 at hp hq
    clear hb
    (refine TC_of_T Γ_ok Tryz.func51 rfl (by kernel_rfl) ?_;simp only [Tryz.ntmps51,Tryz.results51,List.length_cons,List.length_nil,Nat.reduceSub,Nat.reduceAdd,List.replicate,List.cons_append,List.nil_append])
    (have dl1 := c1;have dl2 := c2;have sx1 : (0 : Nat) + 0 = 0 := rfl;((refine goU1 _ _ _ _ _ _ _ _ _ _ _ _ ?_ ?_ ?_ ?_ ?_ ?_ ?_ ?_ ?_ ?_ ?_ ?_) <;> (repeat intro hb) <;> first|exact True.intro|refine Lf.mk ?_))
    refine T_rounds 7 ?_
    (have cm1 := c3;have cl1 := c4;have sx1 : (0 : Nat) + 0 = 0 := rfl;((refine goU1 _ _ _ _ _ _ _ _ _ _ _ _ ?_ ?_ ?_ ?_ ?_ ?_ ?_ ?_ ?_ ?_ ?_ ?_) <;> (repeat intro hb) <;> first|exact True.intro|refine Lf.mk ?_))
  · have hr : cmpR p q = (0, 1) := if_neg hpq
    rw [hr]
    (refine TC_of_T Γ_ok Tryz.func51 rfl (by kernel_rfl) ?_;simp only [Tryz.ntmps51,Tryz.results51,List.length_cons,List.length_nil,Nat.reduceSub,Nat.reduceAdd,List.replicate,List.cons_append,List.nil_append])
    (have dl1 := c1;have dl2 := c2;have sx1 : (0 : Nat) + 0 = 0 := rfl;((refine goU1 _ _ _ _ _ _ _ _ _ _ _ _ ?_ ?_ ?_ ?_ ?_ ?_ ?_ ?_ ?_ ?_ ?_ ?_) <;> (repeat intro hb) <;> first|exact True.intro|refine Lf.mk ?_))
    exact absurd hb hpq
end Go.Proofs.YtonmienclploaaaGreatDoor.Q

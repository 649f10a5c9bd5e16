/-
  The reference's Prime, Valid.
-/
import Derived.Test.YtdglbjjenihdlaaDoorWGo3
import Derived.Test.YtdglbjjenihdlaaDoorWQ2
import Derived.Test.YtdglbjjenihdlaaDoorWN12
set_option linter.unusedSimpArgs false
set_option linter.unusedVariables false
namespace Go.Proofs.YtdglbjjenihdlaaDoor
open Go.Ab
set_option maxRecDepth 100000 in
set_option maxHeartbeats 4000000 in
theorem prime_tc (k : Nat) (h : k < 6) : Look Tryd.prog 92 [.imm (.int .i64 k)] (.imm (.int .i64 (prm k))) := by
  refine Look.mk trivial ?_
  (refine TC_of_T Γ_ok Tryd.func92 rfl (by kernel_rfl) ?_;simp only [Tryd.ntmps92,Tryd.results92,List.length_cons,List.length_nil,Nat.reduceSub,Nat.reduceAdd,List.replicate,List.cons_append,List.nil_append])
  (have sx1 : (0 : Nat) + 0 = 0 := rfl;((refine goU1 _ _ _ _ _ _ _ _ _ _ _ _ ?_ ?_ ?_ ?_ ?_ ?_ ?_ ?_ ?_ ?_ ?_ ?_) <;> (repeat intro hb) <;> first | exact True.intro | refine Lf.mk ?_))
  all_goals (rcases k with _ | _ | _ | _ | _ | _ | k <;> first | rfl | omega)
set_option maxRecDepth 100000 in
set_option maxHeartbeats 4000000 in
theorem rvalid_p (p : P6) : Look Tryd.prog 36 [p6A p] (.imm (.bool (decide (Bd6 576 p)))) := by
  refine Look.mk trivial ?_
  (refine TC_of_T Γ_ok Tryd.func36 rfl (by kernel_rfl) ?_;simp only [Tryd.ntmps36,Tryd.results36,List.length_cons,List.length_nil,Nat.reduceSub,Nat.reduceAdd,List.replicate,List.cons_append,List.nil_append])
  (have sx1 : (0 : Nat) + 0 = 0 := rfl;((refine goU1 _ _ _ _ _ _ _ _ _ _ _ _ ?_ ?_ ?_ ?_ ?_ ?_ ?_ ?_ ?_ ?_ ?_ ?_) <;> (repeat intro hb) <;> first | exact True.intro | refine Lf.mk ?_))
  refine T_rounds 7 ?_
  (have sx1 : (0 : Nat) + 0 = 0 := rfl;((refine goU1 _ _ _ _ _ _ _ _ _ _ _ _ ?_ ?_ ?_ ?_ ?_ ?_ ?_ ?_ ?_ ?_ ?_ ?_) <;> (repeat intro hb) <;> first | exact True.intro | refine Lf.mk ?_))
  all_goals (refine congrArg (fun b => AV.imm (.bool b)) ?_; rw [Bool.eq_iff_iff, decide_eq_true_eq]; unfold Bd6; grind)
end Go.Proofs.YtdglbjjenihdlaaDoor

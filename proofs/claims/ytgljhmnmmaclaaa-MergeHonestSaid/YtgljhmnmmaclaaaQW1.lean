/-
  Contracts of quorum.isDesk and quorum.Take: what they answer, for every argument.
-/
import Derived.Test.YtgljhmnmmaclaaaQGo
import Derived.Test.YtgljhmnmmaclaaaQGm
import Derived.Test.YtgljhmnmmaclaaaQA5
set_option linter.unusedSimpArgs false
set_option linter.unusedVariables false
namespace Go.Proofs.Ytgljhmnmmaclaaa
open Go.Ab
set_option maxRecDepth 100000 in
set_option maxHeartbeats 4000000 in
theorem isDesk_tc (d n : Int) : Look Try.prog 20 [.imm (.int .i64 d),.imm (.int .i64 n)] (.imm (.bool (decide (0 ≤ d) && decide (d < n)))) := by
  refine Look.mk trivial ?_
  (refine TC_of_T Γ_ok Try.func20 rfl (by kernel_rfl) ?_;simp only [Try.ntmps20,Try.results20,List.length_cons,List.length_nil,Nat.reduceSub,Nat.reduceAdd,List.replicate,List.cons_append,List.nil_append])
  (((refine goR0 _ _ _ _ _ _ _ _ ?_ ?_ ?_ ?_ ?_ ?_ ?_ ?_) <;> (repeat intro hb) <;> first | exact True.intro | refine Lf.mk ?_))
def takeB (s c n d : Int) : Bool :=
  if s < 1 ∨ s ≥ 16 ∨ c < 0 ∨ c ≥ 6 ∨ d < 0 ∨ d ≥ 8 then false else if n = 0 then decide (c = 0) else decide (n = 1 ∨ n = -1)
set_option maxRecDepth 100000 in
set_option maxHeartbeats 4000000 in
theorem take_tc (s c n d : Int) : Look Try.prog 21 [.agg [.imm (.int .i64 s),.imm (.int .i64 c),.imm (.int .i64 n),.imm (.int .i64 d)]] (.imm (.bool (takeB s c n d))) := by
  refine Look.mk trivial ?_
  (refine TC_of_T Γ_ok Try.func21 rfl (by kernel_rfl) ?_;simp only [Try.ntmps21,Try.results21,List.length_cons,List.length_nil,Nat.reduceSub,Nat.reduceAdd,List.replicate,List.cons_append,List.nil_append])
  (have cl1 := fun u1 u2 => isDesk_tc u1 u2;((refine goR0 _ _ _ _ _ _ _ _ ?_ ?_ ?_ ?_ ?_ ?_ ?_ ?_) <;> (repeat intro hb) <;> first | exact True.intro | refine Lf.mk ?_))
  all_goals (first | grind [takeB] | trace_state)
end Go.Proofs.Ytgljhmnmmaclaaa

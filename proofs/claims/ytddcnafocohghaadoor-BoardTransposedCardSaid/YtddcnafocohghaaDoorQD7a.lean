/-
  BoardTransposed where the keyboard is not valid.
-/
import Derived.Test.YtddcnafocohghaaDoorQGo2
import Derived.Test.YtddcnafocohghaaDoorQC4
set_option linter.unusedSimpArgs false
set_option linter.unusedVariables false
namespace Go.Proofs.YtddcnafocohghaaDoor
open Go.Ab
set_option maxRecDepth 100000 in
set_option maxHeartbeats 4000000 in
theorem transposed_bad (b : Bd) (vs : List P6) (w : P6) (hl : b.ks.length ≤ 9223372036854775807) (hv2 : bdB b = false) : TC Tryd.prog 10 [bdA b, vts vs, p6A w] [] (fun v _ => v = .imm (.bool true)) := by
  have c2 := valid_tc b hl
  rw [hv2] at c2
  (refine TC_of_T Γ_ok Tryd.func10 rfl (by kernel_rfl) ?_; simp only [Tryd.ntmps10, Tryd.results10, List.length_cons, List.length_nil, Nat.reduceSub, Nat.reduceAdd, List.replicate, List.cons_append, List.nil_append])
  (have cl1 := head_tc; have dl1 := c2; repeat' (first | with_reducible refine T_seq_drawT (id := 4) Γ_ok drawsAny pl10_4 (by kernel_rfl) (fun K hK => ?_) | with_reducible refine T_last_drawT (id := 4) Γ_ok drawsAny pl10_4 (by kernel_rfl) (fun K hK => ?_) | with_reducible refine T_seq_drawT (id := 11) Γ_ok drawsAny pl10_11 (by kernel_rfl) (fun K hK => ?_) | with_reducible refine T_last_drawT (id := 11) Γ_ok drawsAny pl10_11 (by kernel_rfl) (fun K hK => ?_) | with_reducible refine T_seq_drawT (id := 21) Γ_ok drawsAny pl10_21 (by kernel_rfl) (fun K hK => ?_) | with_reducible refine T_last_drawT (id := 21) Γ_ok drawsAny pl10_21 (by kernel_rfl) (fun K hK => ?_) | ((refine goB0 _ _ _ _ _ _ _ _ ?_ ?_ ?_ ?_ ?_ ?_ ?_ ?_) <;> (repeat intro hb) <;> first | exact True.intro | refine Lf.mk ?_)))
end Go.Proofs.YtddcnafocohghaaDoor

/-
  ChainProducts, where the steps are no closed chain.
-/
import Derived.Test.YtmglcamgpgkblaaWGo2
import Derived.Test.YtmglcamgpgkblaaWD1
set_option linter.unusedSimpArgs false
set_option linter.unusedVariables false
namespace Go.Proofs.Ytmglcamgpgkblaa
open Go.Ab
set_option maxRecDepth 100000 in
set_option maxHeartbeats 4000000 in
theorem products_bad (s : Sc) (hl : ScL s) (l : List Sp) (h0 : l.length ≤ 9223372036854775807) (at_ : Nat) (ha : at_ < 256) (hf : prR s l = (z6,1)) : Look Try.prog 4 [scA s,sps l,.imm (.int .u8 at_)] (.imm (.bool true)) := by
  have c0 := head_tc
  have c2 := prod_tc s hl l h0
  refine Look.mk trivial ?_
  rw [hf] at c2
  (refine TC_of_T Γ_ok Try.func4 rfl (by kernel_rfl) ?_;simp only [Try.ntmps4,Try.results4,List.length_cons,List.length_nil,Nat.reduceSub,Nat.reduceAdd,List.replicate,List.cons_append,List.nil_append])
  (have cl1 := c0;have cl2 := c2;repeat' (first|with_reducible refine T_seq_drawT (id := 6) Γ_ok drawsAny pl4_6 (by kernel_rfl) (fun K hK=>?_)|with_reducible refine T_last_drawT (id := 6) Γ_ok drawsAny pl4_6 (by kernel_rfl) (fun K hK=>?_)|with_reducible refine T_seq_drawT (id := 21) Γ_ok drawsAny pl4_21 (by kernel_rfl) (fun K hK=>?_)|with_reducible refine T_last_drawT (id := 21) Γ_ok drawsAny pl4_21 (by kernel_rfl) (fun K hK=>?_)|with_reducible refine T_seq_drawT (id := 23) Γ_ok drawsAny pl4_23 (by kernel_rfl) (fun K hK=>?_)|with_reducible refine T_last_drawT (id := 23) Γ_ok drawsAny pl4_23 (by kernel_rfl) (fun K hK=>?_)|with_reducible refine T_seq_drawT (id := 29) Γ_ok drawsAny pl4_29 (by kernel_rfl) (fun K hK=>?_)|with_reducible refine T_last_drawT (id := 29) Γ_ok drawsAny pl4_29 (by kernel_rfl) (fun K hK=>?_)|((refine goB0 _ _ _ _ _ _ _ _ ?_ ?_ ?_ ?_ ?_ ?_ ?_ ?_) <;> (repeat intro hb) <;> first|exact True.intro|refine Lf.mk ?_)))
end Go.Proofs.Ytmglcamgpgkblaa

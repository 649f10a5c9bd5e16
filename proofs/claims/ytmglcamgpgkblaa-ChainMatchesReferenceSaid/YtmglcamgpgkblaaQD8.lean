/-
  ChainMatchesReference.
-/
import Derived.Test.YtmglcamgpgkblaaQGo
import Derived.Test.YtmglcamgpgkblaaQD1
import Derived.Test.YtmglcamgpgkblaaQR11
set_option linter.unusedSimpArgs false
set_option linter.unusedVariables false
namespace Go.Proofs.Ytmglcamgpgkblaa
open Go.Ab
set_option maxRecDepth 100000 in
set_option maxHeartbeats 4000000 in
theorem ref_law (s : Sc) (hl : ScL s) (l : List Sp) (h0 : l.length ≤ 9223372036854775807) (n : Int) : Look Try.prog 3 [scA s,sps l,.imm (.int .i64 n)] (.imm (.bool true)) := by
  have hbs : ∀ x : Int, (x == x) = true := fun x => beq_self_eq_true x
  have c0 := head_tc
  have c1 := few_tc s hl
  have c2 := rvalid_tc s hl
  have c3 := prod_tc s hl l h0
  have c4 := rproduct_tc s hl l h0
  have c5 := Through_fresh s hl n
  have c6 := rThrough_fresh s hl n
  have c7 := Shortest_fresh s hl
  have c8 := rShortest_fresh s hl
  have u1 := same_tc (shR s).1 (shR s).1 (by have := sh_len s; omega) (by have := sh_len s; omega)
  have u2 := same_tc (thR s n).1 (thR s n).1 (by have := th_len s n; omega) (by have := th_len s n; omega)
  rw [decide_eq_true rfl] at u1 u2
  generalize prR s l = r0 at c3 c4
  generalize shR s = r1 at c7 c8 u1
  generalize thR s n = r2 at c5 c6 u2
  obtain ⟨v0, x0⟩ := r0
  obtain ⟨l1, v1, x1⟩ := r1
  obtain ⟨l2, v2, x2⟩ := r2
  simp only [] at *
  refine Look.mk trivial ?_
  generalize tf (ScOk s) = ok at c2
  generalize (decide (s.notes.length ≤ 24) && decide (s.pairs.length ≤ 40)) = few at c1
  (refine TC_of_T Γ_ok Try.func3 rfl (by kernel_rfl) ?_;simp only [Try.ntmps3,Try.results3,List.length_cons,List.length_nil,Nat.reduceSub,Nat.reduceAdd,List.replicate,List.cons_append,List.nil_append])
  (have cl1 := c0;have cl2 := c1;have cl3 := c2;have cl4 := c3;have cl5 := c4;have dl1 := u1;have dl2 := u2;have cf1 := c5;have cf2 := c6;have cf3 := c7;have cf4 := c8;have sx1 := hbs;((refine goU1 _ _ _ _ _ _ _ _ _ _ _ _ ?_ ?_ ?_ ?_ ?_ ?_ ?_ ?_ ?_ ?_ ?_ ?_) <;> (repeat intro hb) <;> first|exact True.intro|refine Lf.mk ?_))
end Go.Proofs.Ytmglcamgpgkblaa

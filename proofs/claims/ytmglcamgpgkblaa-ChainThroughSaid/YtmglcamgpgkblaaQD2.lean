/-
  ChainNone.
-/
import Derived.Test.YtmglcamgpgkblaaQGo
import Derived.Test.YtmglcamgpgkblaaQD1
set_option linter.unusedSimpArgs false
set_option linter.unusedVariables false
namespace Go.Proofs.Ytmglcamgpgkblaa
open Go.Ab
set_option maxRecDepth 100000 in
set_option maxHeartbeats 4000000 in
theorem none_law (s : Sc) (hl : ScL s) (l : List Sp) (h0 : l.length ≤ 9223372036854775807) (n : Int) : Look Try.prog 6 [scA s, sps l, .imm (.int .i64 n)] (.imm (.bool true)) := by
  have hbs : ∀ x : Int, (x == x) = true := fun x => beq_self_eq_true x
  have c0 := head_tc
  have c1 := few_tc s hl
  have c2 := Shortest_fresh s hl
  have c3 := prod_tc s hl l h0
  have c4 := Through_fresh s hl n
  have F1 := fun h => sh_none (s := s) h l n
  have F3 := sh_code s
  have F4 := pr_cases s l
  refine Look.mk trivial ?_
  cases hfew : decide (s.notes.length ≤ 24) && decide (s.pairs.length ≤ 40) with
  | false =>
    rw [hfew] at c1
    (refine TC_of_T Γ_ok Try.func6 rfl (by kernel_rfl) ?_; simp only [Try.ntmps6, Try.results6, List.length_cons, List.length_nil, Nat.reduceSub, Nat.reduceAdd, List.replicate, List.cons_append, List.nil_append])
    (have cl1 := c0; have cl2 := c1; ((have sx1 : (0 : Nat) + 0 = 0 := rfl; refine goL1 _ _ _ _ _ _ _ _ ?_ ?_ ?_ ?_ ?_ ?_ ?_ ?_) <;> (repeat intro hb) <;> first | exact True.intro | refine Lf.mk ?_))
  | true =>
    rw [hfew] at c1
    generalize shR s = sh at c2 F1 F3
    obtain ⟨best, v, e⟩ := sh
    generalize prR s l = pr at c3 F1 F4
    obtain ⟨w, f⟩ := pr
    generalize thR s n = th at c4 F1
    obtain ⟨tl, tv, g⟩ := th
    simp only [] at F1 F3 F4
    rcases F3 with rfl | rfl | rfl
    · (refine TC_of_T Γ_ok Try.func6 rfl (by kernel_rfl) ?_; simp only [Try.ntmps6, Try.results6, List.length_cons, List.length_nil, Nat.reduceSub, Nat.reduceAdd, List.replicate, List.cons_append, List.nil_append])
      (have cl1 := c0; have cl2 := c1; have cf1 := c2; ((have sx1 : (0 : Nat) + 0 = 0 := rfl; refine goL1 _ _ _ _ _ _ _ _ ?_ ?_ ?_ ?_ ?_ ?_ ?_ ?_) <;> (repeat intro hb) <;> first | exact True.intro | refine Lf.mk ?_))
    · (refine TC_of_T Γ_ok Try.func6 rfl (by kernel_rfl) ?_; simp only [Try.ntmps6, Try.results6, List.length_cons, List.length_nil, Nat.reduceSub, Nat.reduceAdd, List.replicate, List.cons_append, List.nil_append])
      (have cl1 := c0; have cl2 := c1; have cf1 := c2; ((have sx1 : (0 : Nat) + 0 = 0 := rfl; refine goL1 _ _ _ _ _ _ _ _ ?_ ?_ ?_ ?_ ?_ ?_ ?_ ?_) <;> (repeat intro hb) <;> first | exact True.intro | refine Lf.mk ?_))
    · obtain ⟨f1, f2⟩ := F1 rfl
      have hw : w = ⟨0, 0, 0, 0, 0, 0⟩ := by
        rcases F4 with rfl | F4
        · rcases f1 with ⟨_, f1⟩ | f1
          · exact f1
          · cases f1
        · cases F4; rfl
      subst hw
      have hf : f = 0 ∨ f = 1 := by rcases f1 with ⟨f1, _⟩ | f1 <;> omega
      clear F1 F4 f1
      have key : ∀ f, (f = 0 ∨ f = 1) → Look Try.prog 14 [scA s, sps l] (.tup [p6A ⟨0, 0, 0, 0, 0, 0⟩, .imm (.int .i64 f)]) → Look Try.prog 6 [scA s, sps l, .imm (.int .i64 n)] (.imm (.bool true)) := by
        intro f hf c3
        refine Look.mk trivial ?_
        rcases f2 with rfl | ⟨rfl, hn⟩
        · rcases hf with rfl | rfl
          · (refine TC_of_T Γ_ok Try.func6 rfl (by kernel_rfl) ?_; simp only [Try.ntmps6, Try.results6, List.length_cons, List.length_nil, Nat.reduceSub, Nat.reduceAdd, List.replicate, List.cons_append, List.nil_append])
            (have cl1 := c0; have cl2 := c1; have cf1 := c2; have cl3 := c3; have cf2 := c4; ((have sx1 : (0 : Nat) + 0 = 0 := rfl; refine goL1 _ _ _ _ _ _ _ _ ?_ ?_ ?_ ?_ ?_ ?_ ?_ ?_) <;> (repeat intro hb) <;> first | exact True.intro | refine Lf.mk ?_))
          · (refine TC_of_T Γ_ok Try.func6 rfl (by kernel_rfl) ?_; simp only [Try.ntmps6, Try.results6, List.length_cons, List.length_nil, Nat.reduceSub, Nat.reduceAdd, List.replicate, List.cons_append, List.nil_append])
            (have cl1 := c0; have cl2 := c1; have cf1 := c2; have cl3 := c3; have cf2 := c4; ((have sx1 : (0 : Nat) + 0 = 0 := rfl; refine goL1 _ _ _ _ _ _ _ _ ?_ ?_ ?_ ?_ ?_ ?_ ?_ ?_) <;> (repeat intro hb) <;> first | exact True.intro | refine Lf.mk ?_))
        · have hn2 : (decide (n < 0) || decide (n ≥ s.notes.length)) = true := by
            rw [Bool.or_eq_true, decide_eq_true_eq, decide_eq_true_eq]; exact hn
          rcases hf with rfl | rfl
          · (refine TC_of_T Γ_ok Try.func6 rfl (by kernel_rfl) ?_; simp only [Try.ntmps6, Try.results6, List.length_cons, List.length_nil, Nat.reduceSub, Nat.reduceAdd, List.replicate, List.cons_append, List.nil_append])
            (have cl1 := c0; have cl2 := c1; have cf1 := c2; have cl3 := c3; have cf2 := c4; ((have sx1 : (0 : Nat) + 0 = 0 := rfl; refine goL1 _ _ _ _ _ _ _ _ ?_ ?_ ?_ ?_ ?_ ?_ ?_ ?_) <;> (repeat intro hb) <;> first | exact True.intro | refine Lf.mk ?_))
            rw [hn2]
          · (refine TC_of_T Γ_ok Try.func6 rfl (by kernel_rfl) ?_; simp only [Try.ntmps6, Try.results6, List.length_cons, List.length_nil, Nat.reduceSub, Nat.reduceAdd, List.replicate, List.cons_append, List.nil_append])
            (have cl1 := c0; have cl2 := c1; have cf1 := c2; have cl3 := c3; have cf2 := c4; ((have sx1 : (0 : Nat) + 0 = 0 := rfl; refine goL1 _ _ _ _ _ _ _ _ ?_ ?_ ?_ ?_ ?_ ?_ ?_ ?_) <;> (repeat intro hb) <;> first | exact True.intro | refine Lf.mk ?_))
            rw [hn2]
      exact (key f hf c3).1
end Go.Proofs.Ytmglcamgpgkblaa

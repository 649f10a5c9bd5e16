/-
  ChainThrough.
-/
import Derived.Test.YtmglcamgpgkblaaQGo3
import Derived.Test.YtmglcamgpgkblaaQD2
set_option linter.unusedSimpArgs false
set_option linter.unusedVariables false
namespace Go.Proofs.Ytmglcamgpgkblaa
open Go.Ab
theorem th_code (s : Sc) (n : Int) : (thR s n).2.2 = 0 ∨ (thR s n).2.2 = 1 ∨ (thR s n).2.2 = 4 := by
  rcases th_cases s n with ⟨_, k⟩ | ⟨hs, j, rfl, hj, ⟨_, k⟩ | ⟨w, p, h2, h3, h4, h5, h6, h7, k⟩⟩
  · rw [k]; exact .inr (.inl rfl)
  · rw [k]; exact .inr (.inr rfl)
  · rw [k]; exact .inl rfl
set_option maxRecDepth 100000 in
set_option maxHeartbeats 4000000 in
theorem through_law (s : Sc) (hl : ScL s) (n m : Int) : Look Try.prog 8 [scA s, .imm (.int .i64 n), .imm (.int .i64 m)] (.imm (.bool true)) := by
  have hbs : ∀ x : Int, (x == x) = true := fun x => beq_self_eq_true x
  have c0 := head_tc
  have c1 := few_tc s hl
  have c2 := Shortest_fresh s hl
  have F1 := th_code s n
  have F2 := th_short (s := s) (n := n)
  have F3 := th_len s n
  have F4 := th_bad (s := s) (n := n)
  have F5 := sh_len s
  refine Look.mk trivial ?_
  cases hfew : decide (s.notes.length ≤ 24) && decide (s.pairs.length ≤ 40) with
  | false =>
    rw [hfew] at c1
    (refine TC_of_T Γ_ok Try.func8 rfl (by kernel_rfl) ?_; simp only [Try.ntmps8, Try.results8, List.length_cons, List.length_nil, Nat.reduceSub, Nat.reduceAdd, List.replicate, List.cons_append, List.nil_append])
    (have cl1 := c0; have cl2 := c1; have sx1 : (0 : Nat) + 0 = 0 := rfl; repeat' (first | with_reducible refine T_seq_drawT (id := 10) Γ_ok drawsAny pl8_10 (by kernel_rfl) (fun K hK => ?_) | with_reducible refine T_last_drawT (id := 10) Γ_ok drawsAny pl8_10 (by kernel_rfl) (fun K hK => ?_) | ((refine goU1 _ _ _ _ _ _ _ _ _ _ _ _ ?_ ?_ ?_ ?_ ?_ ?_ ?_ ?_ ?_ ?_ ?_ ?_) <;> (repeat intro hb) <;> first | exact True.intro | refine Lf.mk ?_)))
  | true =>
    rw [hfew] at c1
    rcases F1 with e0 | e0 | e0
    · obtain ⟨g1, g2, g3, g4, g5, g6, g7⟩ := F2 e0
      have g8 : (thR s n).1.length ≠ 0 := fun h => F4 (.inr h) e0
      have c3 := prod_tc s hl (thR s n).1 (by omega)
      have c4 := same_tc (shR s).1 (shR s).1 (by omega) (by omega)
      rw [decide_eq_true rfl] at c4
      have c5 := prod_tc s hl [⟨n, m, 1⟩, ⟨m, n, 1⟩] (by simp)
      have c6 := prod_tc s hl [⟨n, m, 2⟩, ⟨m, n, 2⟩] (by simp)
      have B1 := fun h => th_beside (s := s) (n := n) (m := m) e0 (k := 1) h
      have B2 := fun h => th_beside (s := s) (n := n) (m := m) e0 (k := 2) h
      have B3 := th_len s m
      have c8 := Through_fresh s hl m
      have hz := p6_ne g7
      have c7 := Through_fresh s hl n
      rw [g6] at c3
      generalize prR s [⟨n, m, 1⟩, ⟨m, n, 1⟩] = r1 at c5 B1
      generalize prR s [⟨n, m, 2⟩, ⟨m, n, 2⟩] = r2 at c6 B2
      obtain ⟨w1, f1⟩ := r1
      obtain ⟨w2, f2⟩ := r2
      have c9 := Through_fresh s hl (gs (shR s).1 0).fr
      rw [g3] at c9
      simp only [] at B1 B2
      generalize thR s m = tm at c8 B1 B2 B3
      obtain ⟨b, bv, be⟩ := tm
      generalize thR s n = tn at *
      obtain ⟨a, v, e⟩ := tn
      generalize shR s = sh at *
      obtain ⟨best, sv, se⟩ := sh
      simp only [] at *
      subst e0; subst g1
      have hnn : decide (n = n) = true := decide_eq_true rfl
      have hge : decide ((a.length : Int) ≥ (best.length : Int)) = true := decide_eq_true (by omega)
      clear F2 F4
      (refine TC_of_T Γ_ok Try.func8 rfl (by kernel_rfl) ?_; simp only [Try.ntmps8, Try.results8, List.length_cons, List.length_nil, Nat.reduceSub, Nat.reduceAdd, List.replicate, List.cons_append, List.nil_append])
      (have cl1 := c0; have cl2 := c1; have cf1 := c2; have cf2 := c7; have sx1 := (And.intro hbs (And.intro hz (And.intro g4 (And.intro hnn hge)))); repeat' (first | with_reducible refine T_seq_drawT (id := 10) Γ_ok drawsAny pl8_10 (by kernel_rfl) (fun K hK => ?_) | with_reducible refine T_last_drawT (id := 10) Γ_ok drawsAny pl8_10 (by kernel_rfl) (fun K hK => ?_) | ((refine goU1 _ _ _ _ _ _ _ _ _ _ _ _ ?_ ?_ ?_ ?_ ?_ ?_ ?_ ?_ ?_ ?_ ?_ ?_) <;> (repeat intro hb) <;> first | exact True.intro | refine Lf.mk ?_)))
      (have dl1 := c3; have dl2 := c4; have cf1 := c9; have sx1 := (And.intro hbs (And.intro hz (And.intro g4 (And.intro hnn hge)))); repeat' (first | with_reducible refine T_seq_drawT (id := 10) Γ_ok drawsAny pl8_10 (by kernel_rfl) (fun K hK => ?_) | with_reducible refine T_last_drawT (id := 10) Γ_ok drawsAny pl8_10 (by kernel_rfl) (fun K hK => ?_) | ((refine goU1 _ _ _ _ _ _ _ _ _ _ _ _ ?_ ?_ ?_ ?_ ?_ ?_ ?_ ?_ ?_ ?_ ?_ ?_) <;> (repeat intro hb) <;> first | exact True.intro | refine Lf.mk ?_)))
      refine T_rounds 3 ?_
      (have dl1 := c5; have dl2 := c6; have cf1 := c8; have sx1 := (And.intro hbs (And.intro hz (And.intro g4 (And.intro hnn hge)))); repeat' (first | with_reducible refine T_seq_drawT (id := 10) Γ_ok drawsAny pl8_10 (by kernel_rfl) (fun K hK => ?_) | with_reducible refine T_last_drawT (id := 10) Γ_ok drawsAny pl8_10 (by kernel_rfl) (fun K hK => ?_) | ((refine goU1 _ _ _ _ _ _ _ _ _ _ _ _ ?_ ?_ ?_ ?_ ?_ ?_ ?_ ?_ ?_ ?_ ?_ ?_) <;> (repeat intro hb) <;> first | exact True.intro | refine Lf.mk ?_)))
      have hh : be = 0 ∧ b.length ≤ a.length + 2 ∧ a.length ≤ b.length + 2 := hb.elim B1 B2
      obtain ⟨rfl, h1, h2⟩ := hh
      refine congrArg (fun b => AV.imm (.bool b)) ?_
      rw [decide_eq_true (by omega), decide_eq_true (by omega)]; rfl
    · have c7 := Through_fresh s hl n
      generalize thR s n = tn at *
      obtain ⟨a, v, e⟩ := tn
      simp only [] at e0
      subst e0
      clear F2 F4
      (refine TC_of_T Γ_ok Try.func8 rfl (by kernel_rfl) ?_; simp only [Try.ntmps8, Try.results8, List.length_cons, List.length_nil, Nat.reduceSub, Nat.reduceAdd, List.replicate, List.cons_append, List.nil_append])
      (have cl1 := c0; have cl2 := c1; have cf1 := c7; have sx1 : (0 : Nat) + 0 = 0 := rfl; repeat' (first | with_reducible refine T_seq_drawT (id := 10) Γ_ok drawsAny pl8_10 (by kernel_rfl) (fun K hK => ?_) | with_reducible refine T_last_drawT (id := 10) Γ_ok drawsAny pl8_10 (by kernel_rfl) (fun K hK => ?_) | ((refine goU1 _ _ _ _ _ _ _ _ _ _ _ _ ?_ ?_ ?_ ?_ ?_ ?_ ?_ ?_ ?_ ?_ ?_ ?_) <;> (repeat intro hb) <;> first | exact True.intro | refine Lf.mk ?_)))
    · have c7 := Through_fresh s hl n
      generalize thR s n = tn at *
      obtain ⟨a, v, e⟩ := tn
      simp only [] at e0
      subst e0
      clear F2 F4
      (refine TC_of_T Γ_ok Try.func8 rfl (by kernel_rfl) ?_; simp only [Try.ntmps8, Try.results8, List.length_cons, List.length_nil, Nat.reduceSub, Nat.reduceAdd, List.replicate, List.cons_append, List.nil_append])
      (have cl1 := c0; have cl2 := c1; have cf1 := c7; have sx1 : (0 : Nat) + 0 = 0 := rfl; repeat' (first | with_reducible refine T_seq_drawT (id := 10) Γ_ok drawsAny pl8_10 (by kernel_rfl) (fun K hK => ?_) | with_reducible refine T_last_drawT (id := 10) Γ_ok drawsAny pl8_10 (by kernel_rfl) (fun K hK => ?_) | ((refine goU1 _ _ _ _ _ _ _ _ _ _ _ _ ?_ ?_ ?_ ?_ ?_ ?_ ?_ ?_ ?_ ?_ ?_ ?_) <;> (repeat intro hb) <;> first | exact True.intro | refine Lf.mk ?_)))
end Go.Proofs.Ytmglcamgpgkblaa

/-
  ChainShortest.
-/
import Derived.Test.YtmglcamgpgkblaaQGo
import Derived.Test.YtmglcamgpgkblaaQGo2
import Derived.Test.YtmglcamgpgkblaaQC3
set_option linter.unusedSimpArgs false
set_option linter.unusedVariables false
namespace Go.Proofs.Ytmglcamgpgkblaa
open Go.Ab
theorem p6_ne {v : P6} (h : v ≠ z6) : (v.a == 0 && (v.b == 0 && (v.c == 0 && (v.d == 0 && (v.e == 0 && v.f == 0))))) = false := by
  rw [Bool.eq_false_iff]
  intro hc
  simp only [Bool.and_eq_true, beq_iff_eq] at hc
  exact h (P6.ext' hc.1 hc.2.1 hc.2.2.1 hc.2.2.2.1 hc.2.2.2.2.1 hc.2.2.2.2.2)
theorem sh_len (s : Sc) : (shR s).1.length ≤ 400 := by
  rcases sh_cases s with ⟨_, k⟩ | ⟨_, _, k⟩ | ⟨hs, m, u, p, k1, k2, k3, k4⟩
  · rw [k]; simp
  · rw [k]; simp
  · rw [k4, stps_len]
    have := hs.sz
    unfold SzOk at this
    have := k1.le
    omega
theorem th_len (s : Sc) (n : Int) : (thR s n).1.length ≤ 400 := by
  rcases th_cases s n with ⟨_, k⟩ | ⟨hs, j, rfl, hj, ⟨_, k⟩ | ⟨w, p, h2, h3, h4, h5, h6, h7, k⟩⟩
  · rw [k]; simp
  · rw [k]; simp
  · rw [k, stps_len]
    have := hs.sz
    unfold SzOk at this
    omega
set_option maxRecDepth 100000 in
set_option maxHeartbeats 4000000 in
theorem shortest_law (s : Sc) (hl : ScL s) (l : List Sp) (h0 : l.length ≤ 9223372036854775807) : Look Try.prog 5 [scA s, sps l] (.imm (.bool true)) := by
  refine Look.mk trivial ?_
  have hbs : ∀ x : Int, (x == x) = true := fun x => beq_self_eq_true x
  have c0 := head_tc
  have c1 := few_tc s hl
  have c2 := Shortest_fresh s hl
  have c3 := prod_tc s hl (shR s).1 (by have := sh_len s; omega)
  have c4 := prod_tc s hl l h0
  have F1 := sh_ok (s := s)
  have F2 := sh_least (s := s) (l := l)
  have F3 := sh_code s
  have F4 := pr_cases s l
  have F5 := sh_len s
  have F6 := pr_len (s := s) (l := l)
  cases hfew : decide (s.notes.length ≤ 24) && decide (s.pairs.length ≤ 40) with
  | false =>
    rw [hfew] at c1
    (refine TC_of_T Γ_ok Try.func5 rfl (by kernel_rfl) ?_; simp only [Try.ntmps5, Try.results5, List.length_cons, List.length_nil, Nat.reduceSub, Nat.reduceAdd, List.replicate, List.cons_append, List.nil_append])
    (have cl1 := c0; have cl2 := c1; ((have sx1 : (0 : Nat) + 0 = 0 := rfl; refine goL1 _ _ _ _ _ _ _ _ ?_ ?_ ?_ ?_ ?_ ?_ ?_ ?_) <;> (repeat intro hb) <;> first | exact True.intro | refine Lf.mk ?_))
  | true =>
    rw [hfew] at c1
    generalize shR s = sh at c2 c3 F1 F2 F3 F5
    obtain ⟨best, v, e⟩ := sh
    simp only [] at F1 F2 F3 F5 c3
    generalize prR s l = pr at c4 F2 F4 F6
    obtain ⟨w, f⟩ := pr
    simp only [] at F2 F4 F6
    rcases F3 with rfl | he
    · obtain ⟨f1, f2⟩ := F1 rfl
      rw [f1] at c3
      have hz := p6_ne f2
      rcases F4 with rfl | F4
      · by_cases hw : w = ⟨0, 0, 0, 0, 0, 0⟩
        · subst hw
          clear F2
          (refine TC_of_T Γ_ok Try.func5 rfl (by kernel_rfl) ?_; simp only [Try.ntmps5, Try.results5, List.length_cons, List.length_nil, Nat.reduceSub, Nat.reduceAdd, List.replicate, List.cons_append, List.nil_append])
          (have cl1 := c0; have cl2 := c1; have cf1 := c2; have dl1 := c3; have dl2 := c4; have sx1 := (And.intro hbs hz); ((refine goL1 _ _ _ _ _ _ _ _ ?_ ?_ ?_ ?_ ?_ ?_ ?_ ?_) <;> (repeat intro hb) <;> first | exact True.intro | refine Lf.mk ?_))
        · have hz2 := p6_ne (v := w) hw
          obtain ⟨_, g2, g3, g4⟩ := F2 rfl hw
          by_cases hlen : l.length = best.length
          · have c5 := earlier_tc l best (F6 rfl) hlen (by omega)
            rw [g4 hlen] at c5
            (refine TC_of_T Γ_ok Try.func5 rfl (by kernel_rfl) ?_; simp only [Try.ntmps5, Try.results5, List.length_cons, List.length_nil, Nat.reduceSub, Nat.reduceAdd, List.replicate, List.cons_append, List.nil_append])
            (have cl1 := c0; have cl2 := c1; have cf1 := c2; have dl1 := c3; have dl2 := c4; have dl3 := c5; have sx1 := (And.intro hbs (And.intro hz hz2)); ((refine goL1 _ _ _ _ _ _ _ _ ?_ ?_ ?_ ?_ ?_ ?_ ?_ ?_) <;> (repeat intro hb) <;> first | exact True.intro | refine Lf.mk ?_))
          · have e1 : decide ((best.length : Int) < (l.length : Int)) = true := decide_eq_true (by omega)
            (refine TC_of_T Γ_ok Try.func5 rfl (by kernel_rfl) ?_; simp only [Try.ntmps5, Try.results5, List.length_cons, List.length_nil, Nat.reduceSub, Nat.reduceAdd, List.replicate, List.cons_append, List.nil_append])
            (have cl1 := c0; have cl2 := c1; have cf1 := c2; have dl1 := c3; have dl2 := c4; have sx1 := (And.intro hbs (And.intro hz (And.intro hz2 e1))); ((refine goB1 _ _ _ _ _ _ _ _ ?_ ?_ ?_ ?_ ?_ ?_ ?_ ?_) <;> (repeat intro hb) <;> first | exact True.intro | refine Lf.mk ?_))
      · cases F4
        clear F2
        (refine TC_of_T Γ_ok Try.func5 rfl (by kernel_rfl) ?_; simp only [Try.ntmps5, Try.results5, List.length_cons, List.length_nil, Nat.reduceSub, Nat.reduceAdd, List.replicate, List.cons_append, List.nil_append])
        (have cl1 := c0; have cl2 := c1; have cf1 := c2; have dl1 := c3; have dl2 := c4; have sx1 := (And.intro hbs hz); ((refine goL1 _ _ _ _ _ _ _ _ ?_ ?_ ?_ ?_ ?_ ?_ ?_ ?_) <;> (repeat intro hb) <;> first | exact True.intro | refine Lf.mk ?_))
    · have hcase : (w, f) = ((⟨0, 0, 0, 0, 0, 0⟩ : P6), f) ∨ f = 1 := by
        rcases F4 with rfl | F4
        · refine .inl ?_
          by_cases hw : w = z6
          · rw [hw]; rfl
          · have := (F2 rfl hw).1
            omega
        · cases F4; exact .inr rfl
      clear F1 F2
      have hx : ∀ e, (e = 1 ∨ e = 4) → Fresh Try.prog 19 [scA s] (resA (best, v, e)) → Look Try.prog 5 [scA s, sps l] (.imm (.bool true)) := by
        intro e he c2
        rcases hcase with hc | rfl
        · simp only [Prod.mk.injEq, and_true] at hc
          subst hc
          rcases F4 with rfl | F4
          · rcases he with rfl | rfl
            · refine Look.mk trivial ?_
              (refine TC_of_T Γ_ok Try.func5 rfl (by kernel_rfl) ?_; simp only [Try.ntmps5, Try.results5, List.length_cons, List.length_nil, Nat.reduceSub, Nat.reduceAdd, List.replicate, List.cons_append, List.nil_append])
              (have cl1 := c0; have cl2 := c1; have cf1 := c2; have dl1 := c4; have sx1 := hbs; ((refine goL1 _ _ _ _ _ _ _ _ ?_ ?_ ?_ ?_ ?_ ?_ ?_ ?_) <;> (repeat intro hb) <;> first | exact True.intro | refine Lf.mk ?_))
            · refine Look.mk trivial ?_
              (refine TC_of_T Γ_ok Try.func5 rfl (by kernel_rfl) ?_; simp only [Try.ntmps5, Try.results5, List.length_cons, List.length_nil, Nat.reduceSub, Nat.reduceAdd, List.replicate, List.cons_append, List.nil_append])
              (have cl1 := c0; have cl2 := c1; have cf1 := c2; have dl1 := c4; have sx1 := hbs; ((refine goL1 _ _ _ _ _ _ _ _ ?_ ?_ ?_ ?_ ?_ ?_ ?_ ?_) <;> (repeat intro hb) <;> first | exact True.intro | refine Lf.mk ?_))
          · cases F4
            rcases he with rfl | rfl
            · refine Look.mk trivial ?_
              (refine TC_of_T Γ_ok Try.func5 rfl (by kernel_rfl) ?_; simp only [Try.ntmps5, Try.results5, List.length_cons, List.length_nil, Nat.reduceSub, Nat.reduceAdd, List.replicate, List.cons_append, List.nil_append])
              (have cl1 := c0; have cl2 := c1; have cf1 := c2; have dl1 := c4; have sx1 := hbs; ((refine goL1 _ _ _ _ _ _ _ _ ?_ ?_ ?_ ?_ ?_ ?_ ?_ ?_) <;> (repeat intro hb) <;> first | exact True.intro | refine Lf.mk ?_))
            · refine Look.mk trivial ?_
              (refine TC_of_T Γ_ok Try.func5 rfl (by kernel_rfl) ?_; simp only [Try.ntmps5, Try.results5, List.length_cons, List.length_nil, Nat.reduceSub, Nat.reduceAdd, List.replicate, List.cons_append, List.nil_append])
              (have cl1 := c0; have cl2 := c1; have cf1 := c2; have dl1 := c4; have sx1 := hbs; ((refine goL1 _ _ _ _ _ _ _ _ ?_ ?_ ?_ ?_ ?_ ?_ ?_ ?_) <;> (repeat intro hb) <;> first | exact True.intro | refine Lf.mk ?_))
        · rcases he with rfl | rfl
          · refine Look.mk trivial ?_
            (refine TC_of_T Γ_ok Try.func5 rfl (by kernel_rfl) ?_; simp only [Try.ntmps5, Try.results5, List.length_cons, List.length_nil, Nat.reduceSub, Nat.reduceAdd, List.replicate, List.cons_append, List.nil_append])
            (have cl1 := c0; have cl2 := c1; have cf1 := c2; have dl1 := c4; have sx1 := hbs; ((refine goL1 _ _ _ _ _ _ _ _ ?_ ?_ ?_ ?_ ?_ ?_ ?_ ?_) <;> (repeat intro hb) <;> first | exact True.intro | refine Lf.mk ?_))
          · refine Look.mk trivial ?_
            (refine TC_of_T Γ_ok Try.func5 rfl (by kernel_rfl) ?_; simp only [Try.ntmps5, Try.results5, List.length_cons, List.length_nil, Nat.reduceSub, Nat.reduceAdd, List.replicate, List.cons_append, List.nil_append])
            (have cl1 := c0; have cl2 := c1; have cf1 := c2; have dl1 := c4; have sx1 := hbs; ((refine goL1 _ _ _ _ _ _ _ _ ?_ ?_ ?_ ?_ ?_ ?_ ?_ ?_) <;> (repeat intro hb) <;> first | exact True.intro | refine Lf.mk ?_))
      exact (hx e he c2).1
end Go.Proofs.Ytmglcamgpgkblaa

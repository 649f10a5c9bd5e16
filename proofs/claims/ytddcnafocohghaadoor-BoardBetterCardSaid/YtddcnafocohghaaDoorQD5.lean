/-
  BoardBetter: the walk of the law.
-/
import Derived.Test.YtddcnafocohghaaDoorQGo
import Derived.Test.YtddcnafocohghaaDoorQC4
import Derived.Test.YtddcnafocohghaaDoorQP6
set_option linter.unusedSimpArgs false
set_option linter.unusedVariables false
namespace Go.Proofs.YtddcnafocohghaaDoor
open Go.Ab
set_option maxRecDepth 100000 in
set_option maxHeartbeats 4000000 in
theorem better_law (b : Bd) (vs : List P6) (span tol : Int) (k : Ky) (hl : b.ks.length ≤ 9223372036854775807) (hv : vs.length * 48 ≤ 140737488351232) : Look Tryd.prog 8 [bdA b, vts vs, .imm (.int .i64 span), .imm (.int .i64 tol), kyA k] (.imm (.bool true)) := by
  have c1 := chord_tc b vs hl hv
  refine Look.mk trivial ?_
  by_cases he : (chordR b vs).2 = 0
  · obtain ⟨l, h1, _, hf, _⟩ := chordR_get he
    have hbd := chordR_val he
    have hg := bdB_iff.1 hbd
    have hl2 := hg.len
    have hll : l.length ≤ 9223372036854775807 := by have := hf.2.1; omega
    have c2 := chord_tc ⟨b.ks, span, b.tol⟩ vs (by show b.ks.length ≤ _; omega) hv
    have c3 := chord_tc ⟨b.ks, b.span, tol⟩ vs (by show b.ks.length ≤ _; omega) hv
    have c4 := chord_tc ⟨b.ks ++ [k], b.span, b.tol⟩ vs (by simp; omega) hv
    have c5 := valid_tc ⟨b.ks ++ [k], b.span, b.tol⟩ (by simp; omega)
    have f2 : b.span < span → span ≤ 1000 → (chordR ⟨b.ks, span, b.tol⟩ vs).2 = 0 ∧ lexB l (chordR ⟨b.ks, span, b.tol⟩ vs).1 = false := fun p q => by
      obtain ⟨m, e1, e2⟩ := better_span h1 p q
      rw [e1]; exact ⟨rfl, e2⟩
    have f3 : b.tol < tol → tol ≤ 50000 → (chordR ⟨b.ks, b.span, tol⟩ vs).2 = 0 ∨ (chordR ⟨b.ks, b.span, tol⟩ vs).2 = 2 := fun p q => better_tol he p q
    have f4 : bdB ⟨b.ks ++ [k], b.span, b.tol⟩ = true → (chordR ⟨b.ks ++ [k], b.span, b.tol⟩ vs).2 = 0 ∨ (chordR ⟨b.ks ++ [k], b.span, b.tol⟩ vs).2 = 2 := fun p => better_more he p
    have hml : (chordR ⟨b.ks, span, b.tol⟩ vs).1.length ≤ 9223372036854775807 := by
      unfold chordR
      split
      · split
        · split
          · rename_i t ht
            have := (prodL_mem.1 (List.mem_of_find?_eq_some ht)).1
            have e2 : (optR ⟨b.ks, span, b.tol⟩ vs).1.length ≤ vs.length := by
              unfold optR
              split
              · simp
              · split
                · simp
                · split
                  · simp
                  · simp [optL]
            show t.length ≤ _
            omega
          · simp
        · simp
      · simp
    have c6 := less_tc l (chordR ⟨b.ks, span, b.tol⟩ vs).1 hll hml
    rw [h1] at c1
    simp only [] at c1
    generalize (chordR ⟨b.ks, span, b.tol⟩ vs).2 = e2 at c2 f2
    generalize lexB l (chordR ⟨b.ks, span, b.tol⟩ vs).1 = g2 at c6 f2
    generalize (chordR ⟨b.ks, span, b.tol⟩ vs).1 = m at c2 c6
    generalize (chordR ⟨b.ks, b.span, tol⟩ vs).2 = e3 at c3 f3
    generalize (chordR ⟨b.ks, b.span, tol⟩ vs).1 = l3 at c3
    generalize (chordR ⟨b.ks ++ [k], b.span, b.tol⟩ vs).2 = e4 at c4 f4
    generalize (chordR ⟨b.ks ++ [k], b.span, b.tol⟩ vs).1 = l4 at c4
    generalize bdB ⟨b.ks ++ [k], b.span, b.tol⟩ = g5 at c5 f4
    have hlen : (b.ks ++ [k]).length = b.ks.length + 1 := by simp
    unfold bdA bdL kys at c4 c5
    dsimp only at c4 c5
    rw [hlen] at c4 c5
    clear hf h1 he
    have hv5 : ∀ i j, i < b.ks.length + 1 → j < 9 → catE b.ks.length (fun i j => catE 0 (fun _ _ => AV.top) (fun i j => kyE b.ks i j) i j) (fun i j => nth (kyL k) (i * 9 + j)) i j = kyE (b.ks ++ [k]) i j := fun i j hi hj => by
      rw [← ky_snoc b.ks k hi hj]; rfl
    (refine TC_of_T Γ_ok Tryd.func8 rfl (by kernel_rfl) ?_; simp only [Tryd.ntmps8, Tryd.results8, List.length_cons, List.length_nil, Nat.reduceSub, Nat.reduceAdd, List.replicate, List.cons_append, List.nil_append])
    (have cl1 := head_tc; have dm1 := c1; have dm2 := c2; have dm3 := c3; have dm4 := c4; have dl1 := c5; have dl2 := c6; repeat' (first | with_reducible refine T_seq_drawT (id := 13) Γ_ok drawsAny pl8_13 (by kernel_rfl) (fun K hK => ?_) | with_reducible refine T_last_drawT (id := 13) Γ_ok drawsAny pl8_13 (by kernel_rfl) (fun K hK => ?_) | ((refine goR0 _ _ _ _ _ _ _ _ ?_ ?_ ?_ ?_ ?_ ?_ ?_ ?_) <;> (repeat intro hb) <;> first | exact True.intro | refine Lf.mk ?_)))
    · rename_i hsp
      have := f2 hsp.1 hsp.2
      rcases hb with hb | hb
      · exact absurd this.1 hb
      · rw [this.2] at hb; cases hb
    all_goals
      refine congrArg (fun b => AV.imm (.bool b)) ?_
      rcases f4 hb with h | h <;> rw [h] <;> rfl
  · generalize (chordR b vs).1 = l at c1
    generalize (chordR b vs).2 = e at c1 he
    (refine TC_of_T Γ_ok Tryd.func8 rfl (by kernel_rfl) ?_; simp only [Tryd.ntmps8, Tryd.results8, List.length_cons, List.length_nil, Nat.reduceSub, Nat.reduceAdd, List.replicate, List.cons_append, List.nil_append])
    (have cl1 := head_tc; have cm1 := c1; repeat' (first | with_reducible refine T_seq_drawT (id := 13) Γ_ok drawsAny pl8_13 (by kernel_rfl) (fun K hK => ?_) | with_reducible refine T_last_drawT (id := 13) Γ_ok drawsAny pl8_13 (by kernel_rfl) (fun K hK => ?_) | ((refine goR0 _ _ _ _ _ _ _ _ ?_ ?_ ?_ ?_ ?_ ?_ ?_ ?_) <;> (repeat intro hb) <;> first | exact True.intro | refine Lf.mk ?_)))
end Go.Proofs.YtddcnafocohghaaDoor

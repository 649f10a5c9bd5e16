/-
  MergeCommon: the walk of the law.
-/
import Derived.Test.YthikkiacgmgdhaaQGo
import Derived.Test.YthikkiacgmgdhaaQM27
set_option linter.unusedSimpArgs false
set_option linter.unusedVariables false
namespace Go.Proofs.Ythikkiacgmgdhaa
open Go.Ab

theorem nodup_len : ∀ (n : Nat) (l : List Int), l.Nodup → (∀ x ∈ l, 0 ≤ x ∧ x < n) → l.length ≤ n
  | 0, l, _, h => by
    cases l with
    | nil => simp
    | cons x l => have := h x (by simp); omega
  | n + 1, l, hd, h => by
    by_cases hm : (n : Int) ∈ l
    · have h1 := nodup_len n (l.erase n) (hd.erase _) (fun x hx => by
        have h2 := (hd.mem_erase_iff.1 hx)
        have := h x h2.2
        have : x ≠ n := h2.1
        omega)
      rw [List.length_erase_of_mem hm] at h1
      omega
    · have := nodup_len n l hd (fun x hx => by
        have := h x hx
        have : x ≠ n := fun e => hm (e ▸ hx)
        omega)
      omega
theorem enB_maj {n : Int} {x : En} (h : enB n x = true) (hn : n ≤ 8) : n < 2 * x.v.length := by
  have hl := enB_len h hn
  unfold enB at h
  simp only [Bool.and_eq_true, decide_eq_true_eq] at h
  have := h.1.2
  rw [wrapI (by omega) (by omega)] at this
  exact this
theorem com_pos {n : Int} {a b : En} (h : cntB n = true ∧ enB n a = true ∧ enB n b = true) : 0 < (botL a.v b.v a.v.length).length := by
  have hn8 : 1 ≤ n ∧ n ≤ 8 := by have := h.1; unfold cntB at this; simp at this; omega
  have ha := enB_ris h.2.1
  have hb := enB_ris h.2.2
  have ma := enB_maj h.2.1 hn8.2
  have mb := enB_maj h.2.2 hn8.2
  rcases Nat.eq_zero_or_pos (botL a.v b.v a.v.length).length with h0 | h0
  · exfalso
    have hnil := List.length_eq_zero_iff.1 h0
    unfold botL at hnil
    rw [List.take_length, List.filter_eq_nil_iff] at hnil
    have hd : (a.v ++ b.v).Nodup := by
      rw [List.nodup_append]
      refine ⟨ha.1.imp fun h => by omega, hb.1.imp fun h => by omega, fun x hx y hy e => ?_⟩
      subst e
      exact hnil x hx (hasB_iff.2 hy)
    have := nodup_len n.toNat (a.v ++ b.v) hd (fun x hx => by
      rcases List.mem_append.1 hx with h1 | h1
      · have := ha.2 x h1; omega
      · have := hb.2 x h1; omega)
    rw [List.length_append] at this
    omega
  · exact h0
theorem com_has (a b : List Int) (d : Int) : hasB (botL a b a.length) d = (hasB a d && hasB b d) := by
  unfold botL
  rw [List.take_length]
  cases h : hasB (a.filter (hasB b)) d with
  | true =>
    have := List.mem_filter.1 (hasB_iff.1 h)
    rw [hasB_iff.2 this.1, this.2]; rfl
  | false =>
    cases h2 : (hasB a d && hasB b d) with
    | false => rfl
    | true =>
      simp only [Bool.and_eq_true] at h2
      have := hasB_iff.2 (List.mem_filter.2 ⟨hasB_iff.1 h2.1, h2.2⟩)
      rw [h] at this
      cases this

set_option maxRecDepth 100000 in
set_option maxHeartbeats 8000000 in
theorem common_law (n : Int) (a b : En) (d : Int) (ha : a.v.length ≤ 9223372036854775807) (hb' : b.v.length ≤ 9223372036854775807) : Look Try.prog 7 [.imm (.int .i64 n), enA a, enA b, .imm (.int .i64 d)] (.imm (.bool true)) := by
  have c1 := common_tc n a b ha hb'
  rw [com_eq] at c1
  unfold rcomR at c1
  have r1 := rentry_tc n a ha
  have r2 := rentry_tc n b hb'
  have q1 := rhas_tc a.v d ha
  have q2 := rhas_tc b.v d hb'
  refine Look.mk trivial ?_
  by_cases h : cntB n = true ∧ enB n a = true ∧ enB n b = true
  · rw [if_pos h] at c1
    have hp := com_pos h
    have hh := com_has a.v b.v d
    have hn8 : n ≤ 8 := by have := h.1; unfold cntB at this; simp at this; omega
    have hla := enB_len h.2.1 hn8
    have hlb := botL_len a.v b.v a.v.length
    generalize botL a.v b.v a.v.length = l at c1 hp hh hlb
    simp only [] at c1
    have q3 := rhas_tc l d (by omega)
    rw [hh] at q3
    (refine TC_of_T Γ_ok Try.func7 rfl (by kernel_rfl) ?_; simp only [Try.ntmps7, Try.results7, List.length_cons, List.length_nil, Nat.reduceSub, Nat.reduceAdd, List.replicate, List.cons_append, List.nil_append])
    (have cl1 := head_tc; have cm1 := c1; have dl1 := q1; have dl2 := q2; have dl3 := q3; have sx1 := @beq_self_eq_true Int _ _; have sx2 : (0 : Nat) + 0 = 0 := rfl; repeat' (first | with_reducible refine T_seq_drawT (id := 5) Γ_ok drawsAny pl7_5 (by kernel_rfl) (fun K hK => ?_) | with_reducible refine T_last_drawT (id := 5) Γ_ok drawsAny pl7_5 (by kernel_rfl) (fun K hK => ?_) | ((refine goR2 _ _ _ _ _ _ _ _ ?_ ?_ ?_ ?_ ?_ ?_ ?_ ?_) <;> (repeat intro hb) <;> first | exact True.intro | refine Lf.mk ?_)))
    rw [decide_eq_true (by omega)]
    simp
  · rw [if_neg h] at c1
    simp only [] at c1
    (refine TC_of_T Γ_ok Try.func7 rfl (by kernel_rfl) ?_; simp only [Try.ntmps7, Try.results7, List.length_cons, List.length_nil, Nat.reduceSub, Nat.reduceAdd, List.replicate, List.cons_append, List.nil_append])
    (have cl1 := head_tc; have cm1 := c1; have dl1 := r1; have dl2 := r2; have sx1 := @beq_self_eq_true Int _ _; have sx2 : (0 : Nat) + 0 = 0 := rfl; repeat' (first | with_reducible refine T_seq_drawT (id := 5) Γ_ok drawsAny pl7_5 (by kernel_rfl) (fun K hK => ?_) | with_reducible refine T_last_drawT (id := 5) Γ_ok drawsAny pl7_5 (by kernel_rfl) (fun K hK => ?_) | ((refine goR2 _ _ _ _ _ _ _ _ ?_ ?_ ?_ ?_ ?_ ?_ ?_ ?_) <;> (repeat intro hb) <;> first | exact True.intro | refine Lf.mk ?_)))
    refine congrArg (fun b => AV.imm (.bool b)) ?_
    cases hq : (decide (n ≥ 1) && decide (n ≤ 8) && enB n a && enB n b) with
    | false => rfl
    | true =>
      simp only [Bool.and_eq_true, decide_eq_true_eq] at hq
      exact absurd ⟨by unfold cntB; simp [hq.1.1.1, hq.1.1.2], hq.1.2, hq.2⟩ h
end Go.Proofs.Ythikkiacgmgdhaa

/-
  Contract of the binary search by sections, for rising logs of at most 1000000 takes.
-/
import Derived.Test.YtnomenmakhielaaW3
set_option linter.unusedSimpArgs false
set_option linter.unusedVariables false
namespace Go.Proofs.Ytnomenmakhielaa
open Go.Ab

set_option maxRecDepth 100000 in
set_option maxHeartbeats 400000 in
theorem nan_tc (a : Int) : Look Try.prog 46 [.imm (.int .i64 a)] (.imm (.bool false)) := by
  refine Look.mk trivial ?_
  refine TC_of_T Γ_ok Try.func46 rfl (by kernel_rfl) ?_
  simp only [Try.ntmps46, Try.results46, List.length_cons, List.length_nil, Nat.reduceSub, Nat.reduceAdd, List.replicate, List.cons_append, List.nil_append]
  repeat' (first
    | (with_reducible refine hK _ ?_; clear hK K)
    | ((with_reducible apply DC_call); (focus exact rfl); (focus exact rfl); (focus exact rfl); intro N hN; (simp only [go_sem, ↓reduceIte, Nat.reduceAdd, Nat.reduceSub, Nat.reduceMul, Nat.reduceLT, Nat.reduceLeDiff, Nat.reduceEqDiff, Nat.reduceGT, Int.reduceToNat, Int.reduceBEq, Int.reduceBNe]; try simp (disch := omega) only [wrapI, wrapU, half_sum, toNat_sub1, toNat_add1, Int.toNat_natCast]))
    | ((with_reducible first | refine T_seq_region Γ_ok (fun K hK => ?_) | refine T_last_region Γ_ok (fun K hK => ?_) | refine TO_callN rfl (fun N hN => ?_) | refine DCT_fork Γ_ok (fun K2 hK2 => ?_) | refine DCT_last Γ_ok ?_ | refine DC_ev Γ_ok ?_ | refine TO_ev Γ_ok ?_ | refine retQ_r ?_ | refine retQ_n ?_); (simp only [go_sem, ↓reduceIte, Nat.reduceAdd, Nat.reduceSub, Nat.reduceMul, Nat.reduceLT, Nat.reduceLeDiff, Nat.reduceEqDiff, Nat.reduceGT, Int.reduceToNat, Int.reduceBEq, Int.reduceBNe]; try simp (disch := omega) only [wrapI, wrapU, half_sum, toNat_sub1, toNat_add1, Int.toNat_natCast]))
    | (with_reducible refine hK2 _ ?_ ?_ <;> clear hK2 K2)
    | with_reducible refine gC_false ?_ | with_reducible refine gC_true ?_
    | (with_reducible refine hN _ _ ?_; clear hN N)
    | (with_reducible refine hN _ _ (dInl rfl) ?_; clear hN N)
    | ((with_reducible refine hN _ _ (.inr ?_) ?_); (focus (simp only [go_sem, ↓reduceIte, Nat.reduceAdd, Nat.reduceSub, Nat.reduceMul, Nat.reduceLT, Nat.reduceLeDiff, Nat.reduceEqDiff, Nat.reduceGT, Int.reduceToNat, Int.reduceBEq, Int.reduceBNe]; try simp (disch := omega) only [wrapI, wrapU, half_sum, toNat_sub1, toNat_add1, Int.toNat_natCast])); clear hN N)
    | with_reducible refine T_seq ?_ | with_reducible refine T_block ?_ | with_reducible refine T_ret ?_ | with_reducible refine T_exit ?_ | with_reducible refine T_skip ?_ | with_reducible refine T_label ?_
    | with_reducible refine thenQ_n ?_ | with_reducible refine thenQ_e ?_ | with_reducible refine thenQ_r ?_ | with_reducible refine blockQ_n ?_ | with_reducible refine blockQ_e ?_ | with_reducible refine blockQ_r ?_
    | with_reducible refine blockQ_o (by decide) ?_
    | ((with_reducible refine T_cond _ rfl (fun hb => ?_) (fun hb => ?_)) <;> first | (cases hb; done) | (simp only [decide_eq_true_eq, decide_eq_false_iff_not, Bool.and_eq_true, Bool.or_eq_true, Bool.and_eq_false_imp, Bool.or_eq_false_iff, Bool.not_eq_true', Bool.not_eq_false', beq_iff_eq, bne_iff_ne, ne_eq, beq_eq_false_iff_ne, Int.not_lt, Int.not_le, ge_iff_le, gt_iff_lt] at hb) | skip)
    | (with_reducible refine And.intro (by first | exact trivial | omega | (intro hg; simp at hg ⊢ <;> omega) | (simp <;> omega)) ?_)
    | assumption | omega)
  all_goals simp

def cmpI (a b : Int) : Int := if a < b then -1 else if b < a then 1 else 0
theorem cmpI_neg {a b : Int} : cmpI a b < 0 ↔ a < b := by unfold cmpI; split <;> (try split) <;> omega
theorem cmpI_nn {a b : Int} : 0 ≤ cmpI a b ↔ b ≤ a := by unfold cmpI; split <;> (try split) <;> omega
theorem cmpI_zero {a b : Int} : cmpI a b = 0 ↔ a = b := by unfold cmpI; split <;> (try split) <;> omega

set_option maxRecDepth 100000 in
set_option maxHeartbeats 400000 in
theorem cmp_tc (a b : Int) : Look Try.prog 33 [.imm (.int .i64 a), .imm (.int .i64 b)] (.imm (.int .i64 (cmpI a b))) := by
  refine Look.mk trivial ?_
  refine TC_of_T Γ_ok Try.func33 rfl (by kernel_rfl) ?_
  simp only [Try.ntmps33, Try.results33, List.length_cons, List.length_nil, Nat.reduceSub, Nat.reduceAdd, List.replicate, List.cons_append, List.nil_append]
  repeat' (first
    | (with_reducible refine hK _ ?_; clear hK K)
    | ((with_reducible first | apply callGoal_lookA (nan_tc _) | apply dCall_lookA (nan_tc _)); (case hC => first | exact trivial | (simp only [go_sem, and_self]; done) | (simp only [go_sem]; omega)); (case hc => ((repeat' (first | exact CvL.nil | exact Cv.nil_view | refine CvL.cons ?_ ?_ | exact Cv.imm rfl | (refine Cv.free ?_; simp [Free, FreeL] <;> assumption) | (refine Cv.free (fun _ _ => FreeL_nth ?_ _); simp [Free, FreeL]; done) | refine Cv.agg ?_ | (apply Cv.own; (case hob => (with_unfolding_all exact rfl)); (case hz => decide); (case hE => (first | (intro _ _ _ _; rfl) | (intro i j hi hj; (rcases i with _ | _ | i) <;> (rcases j with _ | _ | _ | _ | j) <;> first | rfl | (exfalso; omega)))); (case hf => (intro _ _; simp; done))) | (refine Cv.pvE ?_ ?_ (by decide); (focus (first | (intro _ _ _ _; rfl) | (intro i j hi hj; (rcases i with _ | _ | i) <;> (rcases j with _ | _ | _ | _ | j) <;> first | rfl | (exfalso; omega)))); (focus (intro _ _; simp; done))) | (apply Cv.ownS; (case hob => (with_unfolding_all exact rfl)); (case hz => decide); (case hle => (first | omega | (simp only [decide_eq_true_eq] at hg; omega) | (simp; omega))); (case hE => (intro _ _ _ _; first | (rw [Nat.zero_add]; done) | (rw [Nat.zero_add]; rfl))); (case hf => (intro _ _; simp; done))) | (refine Cv.viewE (by decide) ?_ ?_; (focus (intro _ _ _ _; first | rfl)); (focus (intro _ _; simp; done))) | refine Cv.ptr (by with_unfolding_all rfl) (by with_unfolding_all rfl) ?_ | refine Cv.fn ?_ ?_)); done)))
    | ((with_reducible first | apply gC_lookA (fun hg => (nan_tc _)) | apply dCall_lookGA (fun hg => (nan_tc _))); (case hC => (intro hg; first | exact trivial | exact hg | (simp only [hg, and_self, implies_true]; done) | (simp only [go_sem, hg, and_self, implies_true]; done))); (case hc => (intro hg; ((repeat' (first | exact CvL.nil | exact Cv.nil_view | refine CvL.cons ?_ ?_ | exact Cv.imm rfl | (refine Cv.free ?_; simp [Free, FreeL] <;> assumption) | (refine Cv.free (fun _ _ => FreeL_nth ?_ _); simp [Free, FreeL]; done) | refine Cv.agg ?_ | (apply Cv.own; (case hob => (with_unfolding_all exact rfl)); (case hz => decide); (case hE => (first | (intro _ _ _ _; rfl) | (intro i j hi hj; (rcases i with _ | _ | i) <;> (rcases j with _ | _ | _ | _ | j) <;> first | rfl | (exfalso; omega)))); (case hf => (intro _ _; simp; done))) | (refine Cv.pvE ?_ ?_ (by decide); (focus (first | (intro _ _ _ _; rfl) | (intro i j hi hj; (rcases i with _ | _ | i) <;> (rcases j with _ | _ | _ | _ | j) <;> first | rfl | (exfalso; omega)))); (focus (intro _ _; simp; done))) | (apply Cv.ownS; (case hob => (with_unfolding_all exact rfl)); (case hz => decide); (case hle => (first | omega | (simp only [decide_eq_true_eq] at hg; omega) | (simp; omega))); (case hE => (intro _ _ _ _; first | (rw [Nat.zero_add]; done) | (rw [Nat.zero_add]; rfl))); (case hf => (intro _ _; simp; done))) | (refine Cv.viewE (by decide) ?_ ?_; (focus (intro _ _ _ _; first | rfl)); (focus (intro _ _; simp; done))) | refine Cv.ptr (by with_unfolding_all rfl) (by with_unfolding_all rfl) ?_ | refine Cv.fn ?_ ?_)); done))))
    | ((with_reducible apply DC_call); (focus exact rfl); (focus exact rfl); (focus exact rfl); intro N hN; (simp only [go_sem, ↓reduceIte, Nat.reduceAdd, Nat.reduceSub, Nat.reduceMul, Nat.reduceLT, Nat.reduceLeDiff, Nat.reduceEqDiff, Nat.reduceGT, Int.reduceToNat, Int.reduceBEq, Int.reduceBNe]; try simp (disch := omega) only [wrapI, wrapU, half_sum, toNat_sub1, toNat_add1, Int.toNat_natCast]))
    | ((with_reducible first | refine T_seq_region Γ_ok (fun K hK => ?_) | refine T_last_region Γ_ok (fun K hK => ?_) | refine TO_callN rfl (fun N hN => ?_) | refine DCT_fork Γ_ok (fun K2 hK2 => ?_) | refine DCT_last Γ_ok ?_ | refine DC_ev Γ_ok ?_ | refine TO_ev Γ_ok ?_ | refine retQ_r ?_ | refine retQ_n ?_); (simp only [go_sem, ↓reduceIte, Nat.reduceAdd, Nat.reduceSub, Nat.reduceMul, Nat.reduceLT, Nat.reduceLeDiff, Nat.reduceEqDiff, Nat.reduceGT, Int.reduceToNat, Int.reduceBEq, Int.reduceBNe]; try simp (disch := omega) only [wrapI, wrapU, half_sum, toNat_sub1, toNat_add1, Int.toNat_natCast]))
    | (with_reducible refine hK2 _ ?_ ?_ <;> clear hK2 K2)
    | with_reducible refine gC_false ?_ | with_reducible refine gC_true ?_
    | (with_reducible refine hN _ _ ?_; clear hN N)
    | (with_reducible refine hN _ _ (dInl rfl) ?_; clear hN N)
    | ((with_reducible refine hN _ _ (.inr ?_) ?_); (focus (simp only [go_sem, ↓reduceIte, Nat.reduceAdd, Nat.reduceSub, Nat.reduceMul, Nat.reduceLT, Nat.reduceLeDiff, Nat.reduceEqDiff, Nat.reduceGT, Int.reduceToNat, Int.reduceBEq, Int.reduceBNe]; try simp (disch := omega) only [wrapI, wrapU, half_sum, toNat_sub1, toNat_add1, Int.toNat_natCast])); clear hN N)
    | with_reducible refine T_seq ?_ | with_reducible refine T_block ?_ | with_reducible refine T_ret ?_ | with_reducible refine T_exit ?_ | with_reducible refine T_skip ?_ | with_reducible refine T_label ?_
    | with_reducible refine thenQ_n ?_ | with_reducible refine thenQ_e ?_ | with_reducible refine thenQ_r ?_ | with_reducible refine blockQ_n ?_ | with_reducible refine blockQ_e ?_ | with_reducible refine blockQ_r ?_
    | with_reducible refine blockQ_o (by decide) ?_
    | ((with_reducible refine T_cond _ rfl (fun hb => ?_) (fun hb => ?_)) <;> first | (cases hb; done) | (simp only [decide_eq_true_eq, decide_eq_false_iff_not, Bool.and_eq_true, Bool.or_eq_true, Bool.and_eq_false_imp, Bool.or_eq_false_iff, Bool.not_eq_true', Bool.not_eq_false', beq_iff_eq, bne_iff_ne, ne_eq, beq_eq_false_iff_ne, Int.not_lt, Int.not_le, ge_iff_le, gt_iff_lt] at hb) | skip)
    | (with_reducible refine And.intro (by first | exact trivial | omega | (intro hg; simp at hg ⊢ <;> omega) | (simp <;> omega)) ?_)
    | assumption | omega)
  all_goals (unfold cmpI; congr 2; split <;> (try split) <;> omega)

set_option maxRecDepth 100000 in
set_option maxHeartbeats 400000 in
theorem ix1_tc (s c n d k : Int) (v0 : AV) : Look Try.prog 42 [.agg [.imm (.int .i64 s), .imm (.int .i64 c), .imm (.int .i64 n), .imm (.int .i64 d)], .imm (.int .i64 k), .rptr 2 (nth [v0, .fn (.func 39) [] []])] (.imm (.int .i64 (cmpI s k))) := by
  refine Look.mk trivial ?_
  refine TC_of_T Γ_ok Try.func42 rfl (by kernel_rfl) ?_
  simp only [Try.ntmps42, Try.results42, List.length_cons, List.length_nil, Nat.reduceSub, Nat.reduceAdd, List.replicate, List.cons_append, List.nil_append]
  repeat' (first
    | (with_reducible refine hK _ ?_; clear hK K)
    | ((with_reducible first | apply callGoal_lookA (section_tc _ _ _ _) | apply dCall_lookA (section_tc _ _ _ _) | apply callGoal_lookA (cmp_tc _ _) | apply dCall_lookA (cmp_tc _ _)); (case hC => first | exact trivial | (simp only [go_sem, and_self]; done) | (simp only [go_sem]; omega)); (case hc => ((repeat' (first | exact CvL.nil | exact Cv.nil_view | refine CvL.cons ?_ ?_ | exact Cv.imm rfl | (refine Cv.free ?_; simp [Free, FreeL] <;> assumption) | (refine Cv.free (fun _ _ => FreeL_nth ?_ _); simp [Free, FreeL]; done) | refine Cv.agg ?_ | (apply Cv.own; (case hob => (with_unfolding_all exact rfl)); (case hz => decide); (case hE => (first | (intro _ _ _ _; rfl) | (intro i j hi hj; (rcases i with _ | _ | i) <;> (rcases j with _ | _ | _ | _ | j) <;> first | rfl | (exfalso; omega)))); (case hf => (intro _ _; simp; done))) | (refine Cv.pvE ?_ ?_ (by decide); (focus (first | (intro _ _ _ _; rfl) | (intro i j hi hj; (rcases i with _ | _ | i) <;> (rcases j with _ | _ | _ | _ | j) <;> first | rfl | (exfalso; omega)))); (focus (intro _ _; simp; done))) | (apply Cv.ownS; (case hob => (with_unfolding_all exact rfl)); (case hz => decide); (case hle => (first | omega | (simp only [decide_eq_true_eq] at hg; omega) | (simp; omega))); (case hE => (intro _ _ _ _; first | (rw [Nat.zero_add]; done) | (rw [Nat.zero_add]; rfl))); (case hf => (intro _ _; simp; done))) | (refine Cv.viewE (by decide) ?_ ?_; (focus (intro _ _ _ _; first | rfl)); (focus (intro _ _; simp; done))) | refine Cv.ptr (by with_unfolding_all rfl) (by with_unfolding_all rfl) ?_ | refine Cv.fn ?_ ?_)); done)))
    | ((with_reducible first | apply gC_lookA (fun hg => (section_tc _ _ _ _)) | apply dCall_lookGA (fun hg => (section_tc _ _ _ _)) | apply gC_lookA (fun hg => (cmp_tc _ _)) | apply dCall_lookGA (fun hg => (cmp_tc _ _))); (case hC => (intro hg; first | exact trivial | exact hg | (simp only [hg, and_self, implies_true]; done) | (simp only [go_sem, hg, and_self, implies_true]; done))); (case hc => (intro hg; ((repeat' (first | exact CvL.nil | exact Cv.nil_view | refine CvL.cons ?_ ?_ | exact Cv.imm rfl | (refine Cv.free ?_; simp [Free, FreeL] <;> assumption) | (refine Cv.free (fun _ _ => FreeL_nth ?_ _); simp [Free, FreeL]; done) | refine Cv.agg ?_ | (apply Cv.own; (case hob => (with_unfolding_all exact rfl)); (case hz => decide); (case hE => (first | (intro _ _ _ _; rfl) | (intro i j hi hj; (rcases i with _ | _ | i) <;> (rcases j with _ | _ | _ | _ | j) <;> first | rfl | (exfalso; omega)))); (case hf => (intro _ _; simp; done))) | (refine Cv.pvE ?_ ?_ (by decide); (focus (first | (intro _ _ _ _; rfl) | (intro i j hi hj; (rcases i with _ | _ | i) <;> (rcases j with _ | _ | _ | _ | j) <;> first | rfl | (exfalso; omega)))); (focus (intro _ _; simp; done))) | (apply Cv.ownS; (case hob => (with_unfolding_all exact rfl)); (case hz => decide); (case hle => (first | omega | (simp only [decide_eq_true_eq] at hg; omega) | (simp; omega))); (case hE => (intro _ _ _ _; first | (rw [Nat.zero_add]; done) | (rw [Nat.zero_add]; rfl))); (case hf => (intro _ _; simp; done))) | (refine Cv.viewE (by decide) ?_ ?_; (focus (intro _ _ _ _; first | rfl)); (focus (intro _ _; simp; done))) | refine Cv.ptr (by with_unfolding_all rfl) (by with_unfolding_all rfl) ?_ | refine Cv.fn ?_ ?_)); done))))
    | ((with_reducible apply DC_call); (focus exact rfl); (focus exact rfl); (focus exact rfl); intro N hN; (simp only [go_sem, ↓reduceIte, Nat.reduceAdd, Nat.reduceSub, Nat.reduceMul, Nat.reduceLT, Nat.reduceLeDiff, Nat.reduceEqDiff, Nat.reduceGT, Int.reduceToNat, Int.reduceBEq, Int.reduceBNe]; try simp (disch := omega) only [wrapI, wrapU, half_sum, toNat_sub1, toNat_add1, Int.toNat_natCast]))
    | ((with_reducible first | refine T_seq_region Γ_ok (fun K hK => ?_) | refine T_last_region Γ_ok (fun K hK => ?_) | refine TO_callN rfl (fun N hN => ?_) | refine DCT_fork Γ_ok (fun K2 hK2 => ?_) | refine DCT_last Γ_ok ?_ | refine DC_ev Γ_ok ?_ | refine TO_ev Γ_ok ?_ | refine retQ_r ?_ | refine retQ_n ?_); (simp only [go_sem, ↓reduceIte, Nat.reduceAdd, Nat.reduceSub, Nat.reduceMul, Nat.reduceLT, Nat.reduceLeDiff, Nat.reduceEqDiff, Nat.reduceGT, Int.reduceToNat, Int.reduceBEq, Int.reduceBNe]; try simp (disch := omega) only [wrapI, wrapU, half_sum, toNat_sub1, toNat_add1, Int.toNat_natCast]))
    | (with_reducible refine hK2 _ ?_ ?_ <;> clear hK2 K2)
    | with_reducible refine gC_false ?_ | with_reducible refine gC_true ?_
    | (with_reducible refine hN _ _ ?_; clear hN N)
    | (with_reducible refine hN _ _ (dInl rfl) ?_; clear hN N)
    | ((with_reducible refine hN _ _ (.inr ?_) ?_); (focus (simp only [go_sem, ↓reduceIte, Nat.reduceAdd, Nat.reduceSub, Nat.reduceMul, Nat.reduceLT, Nat.reduceLeDiff, Nat.reduceEqDiff, Nat.reduceGT, Int.reduceToNat, Int.reduceBEq, Int.reduceBNe]; try simp (disch := omega) only [wrapI, wrapU, half_sum, toNat_sub1, toNat_add1, Int.toNat_natCast])); clear hN N)
    | with_reducible refine T_seq ?_ | with_reducible refine T_block ?_ | with_reducible refine T_ret ?_ | with_reducible refine T_exit ?_ | with_reducible refine T_skip ?_ | with_reducible refine T_label ?_
    | with_reducible refine thenQ_n ?_ | with_reducible refine thenQ_e ?_ | with_reducible refine thenQ_r ?_ | with_reducible refine blockQ_n ?_ | with_reducible refine blockQ_e ?_ | with_reducible refine blockQ_r ?_
    | with_reducible refine blockQ_o (by decide) ?_
    | ((with_reducible refine T_cond _ rfl (fun hb => ?_) (fun hb => ?_)) <;> first | (cases hb; done) | (simp only [decide_eq_true_eq, decide_eq_false_iff_not, Bool.and_eq_true, Bool.or_eq_true, Bool.and_eq_false_imp, Bool.or_eq_false_iff, Bool.not_eq_true', Bool.not_eq_false', beq_iff_eq, bne_iff_ne, ne_eq, beq_eq_false_iff_ne, Int.not_lt, Int.not_le, ge_iff_le, gt_iff_lt] at hb) | skip)
    | (with_reducible refine And.intro (by first | exact trivial | omega | (intro hg; simp at hg ⊢ <;> omega) | (simp <;> omega)) ?_)
    | assumption | omega)

/-- How many have a lesser section. -/
def low (l : List Tk) (k : Int) : Nat := (l.takeWhile fun t => decide (t.s < k)).length

theorem low_eq {l : List Tk} {k : Int} {i : Nat} (hi : i ≤ l.length) (h1 : ∀ j, j < i → (gt l j).s < k) (h2 : ∀ j, i ≤ j → j < l.length → k ≤ (gt l j).s) : low l k = i := by
  unfold low
  induction l generalizing i with
  | nil => simp at hi ⊢; omega
  | cons t l ih =>
    cases i with
    | zero =>
      have := h2 0 (Nat.le_refl _) (by simp)
      simp only [gt, List.getD_cons_zero] at this
      simp [List.takeWhile_cons, show ¬ t.s < k by omega]
    | succ i =>
      have := h1 0 (by omega)
      simp only [gt, List.getD_cons_zero] at this
      simp only [List.takeWhile_cons, this, decide_true, if_true, List.length_cons]
      congr 1
      refine ih (by simpa using hi) (fun j hj => ?_) (fun j hj hl => ?_)
      · have := h1 (j + 1) (by omega); simpa [gt] using this
      · have := h2 (j + 1) (by omega) (by simpa using hl); simpa [gt] using this

theorem Ris.lt {l : List Tk} (h : Ris l) : ∀ {i j : Nat}, i < j → j < l.length → (gt l i).s < (gt l j).s := by
  intro i j hij hj
  induction j with
  | zero => omega
  | succ j ih =>
    by_cases e : i = j
    · rw [e]; exact h j hj
    · exact Int.lt_trans (ih (by omega) (by omega)) (h j hj)

open Classical in
set_option maxRecDepth 100000 in
set_option maxHeartbeats 400000 in
theorem bs_tc (l : List Tk) (k : Int) (v0 : AV) (hv : Free v0) (hl : l.length ≤ 1000000) (hr : Ris l) : Look Try.prog 41 [tks l, .imm (.int .i64 k), .fn (.func 42) [] [.rptr 2 (nth [v0, .fn (.func 39) [] []])]]
    (.tup [.imm (.int .i64 (low l k)), .imm (.bool (decide (low l k < l.length ∧ (gt l (low l k)).s = k)))]) := by
  refine Look.mk (by simp [Pl, PlL]) ?_
  refine TC_of_T Γ_ok Try.func41 rfl (by kernel_rfl) ?_
  simp only [Try.ntmps41, Try.results41, List.length_cons, List.length_nil, Nat.reduceSub, Nat.reduceAdd, List.replicate, List.cons_append, List.nil_append]
  repeat' (first
    | (with_reducible refine hK _ ?_; clear hK K)
    | ((with_reducible apply DC_call); (focus exact rfl); (focus exact rfl); (focus exact rfl); intro N hN; (simp only [go_sem, ↓reduceIte, Nat.reduceAdd, Nat.reduceSub, Nat.reduceMul, Nat.reduceLT, Nat.reduceLeDiff, Nat.reduceEqDiff, Nat.reduceGT, Int.reduceToNat, Int.reduceBEq, Int.reduceBNe]; try simp (disch := omega) only [wrapI, wrapU, half_sum, toNat_sub1, toNat_add1, Int.toNat_natCast]))
    | ((with_reducible first | refine T_seq_region Γ_ok (fun K hK => ?_) | refine T_last_region Γ_ok (fun K hK => ?_) | refine TO_callN rfl (fun N hN => ?_) | refine DCT_fork Γ_ok (fun K2 hK2 => ?_) | refine DCT_last Γ_ok ?_ | refine DC_ev Γ_ok ?_ | refine TO_ev Γ_ok ?_ | refine retQ_r ?_ | refine retQ_n ?_); (simp only [go_sem, ↓reduceIte, Nat.reduceAdd, Nat.reduceSub, Nat.reduceMul, Nat.reduceLT, Nat.reduceLeDiff, Nat.reduceEqDiff, Nat.reduceGT, Int.reduceToNat, Int.reduceBEq, Int.reduceBNe]; try simp (disch := omega) only [wrapI, wrapU, half_sum, toNat_sub1, toNat_add1, Int.toNat_natCast]))
    | (with_reducible refine hK2 _ ?_ ?_ <;> clear hK2 K2)
    | with_reducible refine gC_false ?_ | with_reducible refine gC_true ?_
    | (with_reducible refine hN _ _ ?_; clear hN N)
    | (with_reducible refine hN _ _ (dInl rfl) ?_; clear hN N)
    | ((with_reducible refine hN _ _ (.inr ?_) ?_); (focus (simp only [go_sem, ↓reduceIte, Nat.reduceAdd, Nat.reduceSub, Nat.reduceMul, Nat.reduceLT, Nat.reduceLeDiff, Nat.reduceEqDiff, Nat.reduceGT, Int.reduceToNat, Int.reduceBEq, Int.reduceBNe]; try simp (disch := omega) only [wrapI, wrapU, half_sum, toNat_sub1, toNat_add1, Int.toNat_natCast])); clear hN N)
    | with_reducible refine T_seq ?_ | with_reducible refine T_block ?_ | with_reducible refine T_ret ?_ | with_reducible refine T_exit ?_ | with_reducible refine T_skip ?_ | with_reducible refine T_label ?_
    | with_reducible refine thenQ_n ?_ | with_reducible refine thenQ_e ?_ | with_reducible refine thenQ_r ?_ | with_reducible refine blockQ_n ?_ | with_reducible refine blockQ_e ?_ | with_reducible refine blockQ_r ?_
    | with_reducible refine blockQ_o (by decide) ?_
    | ((with_reducible refine T_cond _ rfl (fun hb => ?_) (fun hb => ?_)) <;> first | (cases hb; done) | (simp only [decide_eq_true_eq, decide_eq_false_iff_not, Bool.and_eq_true, Bool.or_eq_true, Bool.and_eq_false_imp, Bool.or_eq_false_iff, Bool.not_eq_true', Bool.not_eq_false', beq_iff_eq, bne_iff_ne, ne_eq, beq_eq_false_iff_ne, Int.not_lt, Int.not_le, ge_iff_le, gt_iff_lt] at hb) | skip)
    | (with_reducible refine And.intro (by first | exact trivial | omega | (intro hg; simp at hg ⊢ <;> omega) | (simp <;> omega)) ?_)
    | assumption | omega)
  refine T_loopW (fun m st => ∃ lo hi : Nat, lo ≤ hi ∧ hi ≤ l.length ∧ m + lo = hi ∧ (∀ j, j < lo → (gt l j).s < k) ∧ (∀ j, hi ≤ j → j < l.length → k ≤ (gt l j).s) ∧
      st = ⟨[tks l, .imm (.int .i64 k), .fn (.func 42) [] [.rptr 2 (nth [v0, .fn (.func 39) [] []])], .top, .top, .top, .imm (.int .i64 0), .imm (.bool false), .imm (.int .i64 l.length), .imm (.int .i64 lo), .imm (.int .i64 hi)] ++ List.replicate 38 .top, []⟩)
    l.length ⟨_, ?_, 0, l.length, Nat.zero_le _, Nat.le_refl _, rfl, fun j hj => by omega, fun j hj => by omega, rfl⟩ ?_
  · ((try simp only [List.length_append, List.length_cons, List.length_nil, Nat.zero_add]); refine Wk.intro [] (by decide) (by decide) (by intro o ho; simp at ho ⊢ <;> omega) ?_ ?_ <;> repeat' (first | exact WkVL.nil | refine WkVL.cons ?_ ?_ | exact WkV.top | exact WkV.imm rfl | exact WkV.imm (by simp) | exact WkV.optr rfl | exact WkV.own rfl (by simp) | exact WkV.nil_own (.inl rfl) | exact WkV.map rfl | (refine WkV.free ?_; simp [Free, FreeL] <;> assumption) | (refine WkV.free (fun _ _ => FreeL_nth ?_ _); simp [Free, FreeL]; done) | refine WkV.agg ?_ | refine WkV.tup ?_ | refine WkV.fn ?_ ?_ | exact WkO.dead | exact WkO.mpE rfl trivial | refine WkO.box ?_ rfl | refine WkO.arr ?_ | refine And.intro ?_ (And.intro (fun h => h) ?_) | exact trivial | (intro i j hi hj)))
  rintro m st ⟨lo, hi, h1, h2, h3, h4, h5, rfl⟩
  (simp only [go_sem, ↓reduceIte, Nat.reduceAdd, Nat.reduceSub, Nat.reduceMul, Nat.reduceLT, Nat.reduceLeDiff, Nat.reduceEqDiff, Nat.reduceGT, Int.reduceToNat, Int.reduceBEq, Int.reduceBNe]; try simp (disch := omega) only [wrapI, wrapU, half_sum, toNat_sub1, toNat_add1, Int.toNat_natCast])
  repeat' (first
    | (with_reducible refine hK _ ?_; clear hK K)
    | ((with_reducible first | apply callGoal_lookA (ix1_tc _ _ _ _ _ _) | apply dCall_lookA (ix1_tc _ _ _ _ _ _)); (case hC => first | exact trivial | (simp only [go_sem, and_self]; done) | (simp only [go_sem]; omega)); (case hc => ((repeat' (first | exact CvL.nil | exact Cv.nil_view | refine CvL.cons ?_ ?_ | exact Cv.imm rfl | (refine Cv.free ?_; simp [Free, FreeL] <;> assumption) | (refine Cv.free (fun _ _ => FreeL_nth ?_ _); simp [Free, FreeL]; done) | refine Cv.agg ?_ | (apply Cv.own; (case hob => (with_unfolding_all exact rfl)); (case hz => decide); (case hE => (first | (intro _ _ _ _; rfl) | (intro i j hi hj; (rcases i with _ | _ | i) <;> (rcases j with _ | _ | _ | _ | j) <;> first | rfl | (exfalso; omega)))); (case hf => (intro _ _; simp; done))) | (refine Cv.pvE ?_ ?_ (by decide); (focus (first | (intro _ _ _ _; rfl) | (intro i j hi hj; (rcases i with _ | _ | i) <;> (rcases j with _ | _ | _ | _ | j) <;> first | rfl | (exfalso; omega)))); (focus (intro _ _; simp; done))) | (apply Cv.ownS; (case hob => (with_unfolding_all exact rfl)); (case hz => decide); (case hle => (first | omega | (simp only [decide_eq_true_eq] at hg; omega) | (simp; omega))); (case hE => (intro _ _ _ _; first | (rw [Nat.zero_add]; done) | (rw [Nat.zero_add]; rfl))); (case hf => (intro _ _; simp; done))) | (refine Cv.viewE (by decide) ?_ ?_; (focus (intro _ _ _ _; first | rfl)); (focus (intro _ _; simp; done))) | refine Cv.ptr (by with_unfolding_all rfl) (by with_unfolding_all rfl) ?_ | refine Cv.fn ?_ ?_)); done)))
    | ((with_reducible first | apply gC_lookA (fun hg => (ix1_tc _ _ _ _ _ _)) | apply dCall_lookGA (fun hg => (ix1_tc _ _ _ _ _ _))); (case hC => (intro hg; first | exact trivial | exact hg | (simp only [hg, and_self, implies_true]; done) | (simp only [go_sem, hg, and_self, implies_true]; done))); (case hc => (intro hg; ((repeat' (first | exact CvL.nil | exact Cv.nil_view | refine CvL.cons ?_ ?_ | exact Cv.imm rfl | (refine Cv.free ?_; simp [Free, FreeL] <;> assumption) | (refine Cv.free (fun _ _ => FreeL_nth ?_ _); simp [Free, FreeL]; done) | refine Cv.agg ?_ | (apply Cv.own; (case hob => (with_unfolding_all exact rfl)); (case hz => decide); (case hE => (first | (intro _ _ _ _; rfl) | (intro i j hi hj; (rcases i with _ | _ | i) <;> (rcases j with _ | _ | _ | _ | j) <;> first | rfl | (exfalso; omega)))); (case hf => (intro _ _; simp; done))) | (refine Cv.pvE ?_ ?_ (by decide); (focus (first | (intro _ _ _ _; rfl) | (intro i j hi hj; (rcases i with _ | _ | i) <;> (rcases j with _ | _ | _ | _ | j) <;> first | rfl | (exfalso; omega)))); (focus (intro _ _; simp; done))) | (apply Cv.ownS; (case hob => (with_unfolding_all exact rfl)); (case hz => decide); (case hle => (first | omega | (simp only [decide_eq_true_eq] at hg; omega) | (simp; omega))); (case hE => (intro _ _ _ _; first | (rw [Nat.zero_add]; done) | (rw [Nat.zero_add]; rfl))); (case hf => (intro _ _; simp; done))) | (refine Cv.viewE (by decide) ?_ ?_; (focus (intro _ _ _ _; first | rfl)); (focus (intro _ _; simp; done))) | refine Cv.ptr (by with_unfolding_all rfl) (by with_unfolding_all rfl) ?_ | refine Cv.fn ?_ ?_)); done))))
    | ((with_reducible apply DC_call); (focus exact rfl); (focus exact rfl); (focus exact rfl); intro N hN; (simp only [go_sem, ↓reduceIte, Nat.reduceAdd, Nat.reduceSub, Nat.reduceMul, Nat.reduceLT, Nat.reduceLeDiff, Nat.reduceEqDiff, Nat.reduceGT, Int.reduceToNat, Int.reduceBEq, Int.reduceBNe]; try simp (disch := omega) only [wrapI, wrapU, half_sum, toNat_sub1, toNat_add1, Int.toNat_natCast]))
    | ((with_reducible first | refine T_seq_region Γ_ok (fun K hK => ?_) | refine T_last_region Γ_ok (fun K hK => ?_) | refine TO_callN rfl (fun N hN => ?_) | refine DCT_fork Γ_ok (fun K2 hK2 => ?_) | refine DCT_last Γ_ok ?_ | refine DC_ev Γ_ok ?_ | refine TO_ev Γ_ok ?_ | refine retQ_r ?_ | refine retQ_n ?_); (simp only [go_sem, ↓reduceIte, Nat.reduceAdd, Nat.reduceSub, Nat.reduceMul, Nat.reduceLT, Nat.reduceLeDiff, Nat.reduceEqDiff, Nat.reduceGT, Int.reduceToNat, Int.reduceBEq, Int.reduceBNe]; try simp (disch := omega) only [wrapI, wrapU, half_sum, toNat_sub1, toNat_add1, Int.toNat_natCast]))
    | (with_reducible refine hK2 _ ?_ ?_ <;> clear hK2 K2)
    | with_reducible refine gC_false ?_ | with_reducible refine gC_true ?_
    | (with_reducible refine hN _ _ ?_; clear hN N)
    | (with_reducible refine hN _ _ (dInl rfl) ?_; clear hN N)
    | ((with_reducible refine hN _ _ (.inr ?_) ?_); (focus (simp only [go_sem, ↓reduceIte, Nat.reduceAdd, Nat.reduceSub, Nat.reduceMul, Nat.reduceLT, Nat.reduceLeDiff, Nat.reduceEqDiff, Nat.reduceGT, Int.reduceToNat, Int.reduceBEq, Int.reduceBNe]; try simp (disch := omega) only [wrapI, wrapU, half_sum, toNat_sub1, toNat_add1, Int.toNat_natCast])); clear hN N)
    | with_reducible refine T_seq ?_ | with_reducible refine T_block ?_ | with_reducible refine T_ret ?_ | with_reducible refine T_exit ?_ | with_reducible refine T_skip ?_ | with_reducible refine T_label ?_
    | with_reducible refine thenQ_n ?_ | with_reducible refine thenQ_e ?_ | with_reducible refine thenQ_r ?_ | with_reducible refine blockQ_n ?_ | with_reducible refine blockQ_e ?_ | with_reducible refine blockQ_r ?_
    | with_reducible refine blockQ_o (by decide) ?_
    | ((with_reducible refine T_cond _ rfl (fun hb => ?_) (fun hb => ?_)) <;> first | (cases hb; done) | (simp only [decide_eq_true_eq, decide_eq_false_iff_not, Bool.and_eq_true, Bool.or_eq_true, Bool.and_eq_false_imp, Bool.or_eq_false_iff, Bool.not_eq_true', Bool.not_eq_false', beq_iff_eq, bne_iff_ne, ne_eq, beq_eq_false_iff_ne, Int.not_lt, Int.not_le, ge_iff_le, gt_iff_lt] at hb) | skip)
    | (with_reducible refine And.intro (by first | exact trivial | omega | (intro hg; simp at hg ⊢ <;> omega) | (simp <;> omega)) ?_)
    | assumption | omega)
  · have hb2 := cmpI_neg.1 hb
    refine ⟨hi - ((lo + hi) / 2 + 1), by omega, _, ?_, (lo + hi) / 2 + 1, hi, by omega, by omega, by omega, fun j hj => ?_, h5, rfl⟩
    · ((try simp only [List.length_append, List.length_cons, List.length_nil, Nat.zero_add]); refine Wk.intro [] (by decide) (by decide) (by intro o ho; simp at ho ⊢ <;> omega) ?_ ?_ <;> repeat' (first | exact WkVL.nil | refine WkVL.cons ?_ ?_ | exact WkV.top | exact WkV.imm rfl | exact WkV.imm (by simp) | exact WkV.optr rfl | exact WkV.own rfl (by simp) | exact WkV.nil_own (.inl rfl) | exact WkV.map rfl | (refine WkV.free ?_; simp [Free, FreeL] <;> assumption) | (refine WkV.free (fun _ _ => FreeL_nth ?_ _); simp [Free, FreeL]; done) | refine WkV.agg ?_ | refine WkV.tup ?_ | refine WkV.fn ?_ ?_ | exact WkO.dead | exact WkO.mpE rfl trivial | refine WkO.box ?_ rfl | refine WkO.arr ?_ | refine And.intro ?_ (And.intro (fun h => h) ?_) | exact trivial | (intro i j hi hj)))
    · by_cases e : j = (lo + hi) / 2
      · rw [e]; exact hb2
      · exact Int.lt_trans (hr.lt (by omega) (by omega)) hb2
  · have hb2 := cmpI_nn.1 hb
    refine ⟨(lo + hi) / 2 - lo, by omega, _, ?_, lo, (lo + hi) / 2, by omega, by omega, by omega, h4, fun j hj hjl => ?_, rfl⟩
    · ((try simp only [List.length_append, List.length_cons, List.length_nil, Nat.zero_add]); refine Wk.intro [] (by decide) (by decide) (by intro o ho; simp at ho ⊢ <;> omega) ?_ ?_ <;> repeat' (first | exact WkVL.nil | refine WkVL.cons ?_ ?_ | exact WkV.top | exact WkV.imm rfl | exact WkV.imm (by simp) | exact WkV.optr rfl | exact WkV.own rfl (by simp) | exact WkV.nil_own (.inl rfl) | exact WkV.map rfl | (refine WkV.free ?_; simp [Free, FreeL] <;> assumption) | (refine WkV.free (fun _ _ => FreeL_nth ?_ _); simp [Free, FreeL]; done) | refine WkV.agg ?_ | refine WkV.tup ?_ | refine WkV.fn ?_ ?_ | exact WkO.dead | exact WkO.mpE rfl trivial | refine WkO.box ?_ rfl | refine WkO.arr ?_ | refine And.intro ?_ (And.intro (fun h => h) ?_) | exact trivial | (intro i j hi hj)))
    · by_cases e : j = (lo + hi) / 2
      · rw [e]; exact hb2
      · exact Int.le_trans hb2 (Int.le_of_lt (hr.lt (by omega) (by omega)))
  · have e : low l k = lo := low_eq (by omega) h4 fun j hj => h5 j (by omega)
    rw [e]
    congr 3
    refine immD ?_
    simp [cmpI_zero]
end Go.Proofs.Ytnomenmakhielaa

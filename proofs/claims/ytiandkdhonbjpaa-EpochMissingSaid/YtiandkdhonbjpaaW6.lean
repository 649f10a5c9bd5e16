/-
  Contracts of the references' Take, Valid, Index and Find.
-/
import Derived.Test.YtiandkdhonbjpaaW5
set_option linter.unusedSimpArgs false
set_option linter.unusedVariables false
namespace Go.Proofs.Ytiandkdhonbjpaa
open Go.Ab

set_option maxRecDepth 100000 in
set_option maxHeartbeats 400000 in
theorem rtake_tc (s c n d : Int) : Look Try.prog 31 [.agg [.imm (.int .i64 s), .imm (.int .i64 c), .imm (.int .i64 n), .imm (.int .i64 d)]] (.imm (.bool (takeB s c n d))) := by
  refine Look.mk trivial ?_
  refine TC_of_T Γ_ok Try.func31 rfl (by kernel_rfl) ?_
  simp only [Try.ntmps31, Try.results31, List.length_cons, List.length_nil, Nat.reduceSub, Nat.reduceAdd, List.replicate, List.cons_append, List.nil_append]
  repeat' (first
    | (with_reducible refine hK _ ?_; clear hK K)
    | ((with_reducible refine T_seq_region Γ_ok (fun K hK => ?_)); (simp only [go_sem, ↓reduceIte, Nat.reduceAdd, Nat.reduceSub, Nat.reduceMul, Nat.reduceLT, Nat.reduceLeDiff, Nat.reduceEqDiff, Nat.reduceGT, Int.reduceToNat, Int.reduceBEq, Int.reduceBNe]; try simp (disch := omega) only [wrapI, wrapU, half_sum, toNat_sub1, toNat_add1, Int.toNat_natCast]))
    | ((with_reducible refine T_last_region Γ_ok (fun K hK => ?_)); (simp only [go_sem, ↓reduceIte, Nat.reduceAdd, Nat.reduceSub, Nat.reduceMul, Nat.reduceLT, Nat.reduceLeDiff, Nat.reduceEqDiff, Nat.reduceGT, Int.reduceToNat, Int.reduceBEq, Int.reduceBNe]; try simp (disch := omega) only [wrapI, wrapU, half_sum, toNat_sub1, toNat_add1, Int.toNat_natCast]))
    | ((with_reducible refine TO_callN rfl (fun N hN => ?_)); (simp only [go_sem, ↓reduceIte, Nat.reduceAdd, Nat.reduceSub, Nat.reduceMul, Nat.reduceLT, Nat.reduceLeDiff, Nat.reduceEqDiff, Nat.reduceGT, Int.reduceToNat, Int.reduceBEq, Int.reduceBNe]; try simp (disch := omega) only [wrapI, wrapU, half_sum, toNat_sub1, toNat_add1, Int.toNat_natCast]))
    | (with_reducible refine hN _ _ ?_; clear hN N)
    | (with_reducible refine hN _ _ (dInl rfl) ?_; clear hN N)
    | ((with_reducible refine hN _ _ (.inr ?_) ?_); (focus (simp only [go_sem, ↓reduceIte, Nat.reduceAdd, Nat.reduceSub, Nat.reduceMul, Nat.reduceLT, Nat.reduceLeDiff, Nat.reduceEqDiff, Nat.reduceGT, Int.reduceToNat, Int.reduceBEq, Int.reduceBNe]; try simp (disch := omega) only [wrapI, wrapU, half_sum, toNat_sub1, toNat_add1, Int.toNat_natCast])); clear hN N)
    | ((with_reducible apply DC_call); (focus exact rfl); (focus exact rfl); (focus exact rfl); intro N hN; (simp only [go_sem, ↓reduceIte, Nat.reduceAdd, Nat.reduceSub, Nat.reduceMul, Nat.reduceLT, Nat.reduceLeDiff, Nat.reduceEqDiff, Nat.reduceGT, Int.reduceToNat, Int.reduceBEq, Int.reduceBNe]; try simp (disch := omega) only [wrapI, wrapU, half_sum, toNat_sub1, toNat_add1, Int.toNat_natCast]))
    | ((with_reducible refine DC_ev Γ_ok ?_); (simp only [go_sem, ↓reduceIte, Nat.reduceAdd, Nat.reduceSub, Nat.reduceMul, Nat.reduceLT, Nat.reduceLeDiff, Nat.reduceEqDiff, Nat.reduceGT, Int.reduceToNat, Int.reduceBEq, Int.reduceBNe]; try simp (disch := omega) only [wrapI, wrapU, half_sum, toNat_sub1, toNat_add1, Int.toNat_natCast]))
    | ((with_reducible refine TO_ev Γ_ok ?_); (simp only [go_sem, ↓reduceIte, Nat.reduceAdd, Nat.reduceSub, Nat.reduceMul, Nat.reduceLT, Nat.reduceLeDiff, Nat.reduceEqDiff, Nat.reduceGT, Int.reduceToNat, Int.reduceBEq, Int.reduceBNe]; try simp (disch := omega) only [wrapI, wrapU, half_sum, toNat_sub1, toNat_add1, Int.toNat_natCast]))
    | with_reducible refine T_seq ?_
    | with_reducible refine T_block ?_
    | with_reducible refine T_ret ?_
    | with_reducible refine T_exit ?_
    | with_reducible refine T_skip ?_
    | with_reducible refine T_label ?_
    | with_reducible refine thenQ_n ?_ | with_reducible refine thenQ_e ?_ | with_reducible refine thenQ_r ?_ | with_reducible refine blockQ_n ?_ | with_reducible refine blockQ_e ?_ | with_reducible refine blockQ_r ?_
    | with_reducible refine blockQ_o (by decide) ?_ | ((with_reducible refine retQ_r ?_); (simp only [go_sem, ↓reduceIte, Nat.reduceAdd, Nat.reduceSub, Nat.reduceMul, Nat.reduceLT, Nat.reduceLeDiff, Nat.reduceEqDiff, Nat.reduceGT, Int.reduceToNat, Int.reduceBEq, Int.reduceBNe]; try simp (disch := omega) only [wrapI, wrapU, half_sum, toNat_sub1, toNat_add1, Int.toNat_natCast])) | ((with_reducible refine retQ_n ?_); (simp only [go_sem, ↓reduceIte, Nat.reduceAdd, Nat.reduceSub, Nat.reduceMul, Nat.reduceLT, Nat.reduceLeDiff, Nat.reduceEqDiff, Nat.reduceGT, Int.reduceToNat, Int.reduceBEq, Int.reduceBNe]; try simp (disch := omega) only [wrapI, wrapU, half_sum, toNat_sub1, toNat_add1, Int.toNat_natCast]))
    | ((with_reducible refine T_cond _ rfl (fun hb => ?_) (fun hb => ?_)) <;> first | (cases hb; done) | (simp only [decide_eq_true_eq, decide_eq_false_iff_not, Bool.and_eq_true, Bool.or_eq_true, Bool.and_eq_false_imp, Bool.or_eq_false_iff, Bool.not_eq_true', Bool.not_eq_false', beq_iff_eq, bne_iff_ne, ne_eq, beq_eq_false_iff_ne, Int.not_lt, Int.not_le, ge_iff_le, gt_iff_lt] at hb) | skip)
    | (with_reducible refine And.intro (by first | exact trivial | omega | (intro hg; simp at hg ⊢ <;> omega) | (simp <;> omega)) ?_)
    | assumption | omega)
  all_goals (refine congrArg (fun b => AV.imm (.bool b)) ?_; unfold takeB; grind)

open Classical in
set_option maxRecDepth 100000 in
set_option maxHeartbeats 400000 in
theorem rvalid_tc (l : List Tk) (hl : l.length ≤ 9223372036854775807) : Look Try.prog 12 [tks l] (.imm (.bool (decide (Val l)))) := by
  refine Look.mk trivial ?_
  refine TC_of_T Γ_ok Try.func12 rfl (by kernel_rfl) ?_
  simp only [Try.ntmps12, Try.results12, List.length_cons, List.length_nil, Nat.reduceSub, Nat.reduceAdd, List.replicate, List.cons_append, List.nil_append]
  repeat' (first
    | (with_reducible refine hK _ ?_; clear hK K)
    | ((with_reducible refine T_seq_region Γ_ok (fun K hK => ?_)); (simp only [go_sem, ↓reduceIte, Nat.reduceAdd, Nat.reduceSub, Nat.reduceMul, Nat.reduceLT, Nat.reduceLeDiff, Nat.reduceEqDiff, Nat.reduceGT, Int.reduceToNat, Int.reduceBEq, Int.reduceBNe]; try simp (disch := omega) only [wrapI, wrapU, half_sum, toNat_sub1, toNat_add1, Int.toNat_natCast]))
    | ((with_reducible refine T_last_region Γ_ok (fun K hK => ?_)); (simp only [go_sem, ↓reduceIte, Nat.reduceAdd, Nat.reduceSub, Nat.reduceMul, Nat.reduceLT, Nat.reduceLeDiff, Nat.reduceEqDiff, Nat.reduceGT, Int.reduceToNat, Int.reduceBEq, Int.reduceBNe]; try simp (disch := omega) only [wrapI, wrapU, half_sum, toNat_sub1, toNat_add1, Int.toNat_natCast]))
    | ((with_reducible refine TO_callN rfl (fun N hN => ?_)); (simp only [go_sem, ↓reduceIte, Nat.reduceAdd, Nat.reduceSub, Nat.reduceMul, Nat.reduceLT, Nat.reduceLeDiff, Nat.reduceEqDiff, Nat.reduceGT, Int.reduceToNat, Int.reduceBEq, Int.reduceBNe]; try simp (disch := omega) only [wrapI, wrapU, half_sum, toNat_sub1, toNat_add1, Int.toNat_natCast]))
    | (with_reducible refine hN _ _ ?_; clear hN N)
    | (with_reducible refine hN _ _ (dInl rfl) ?_; clear hN N)
    | ((with_reducible refine hN _ _ (.inr ?_) ?_); (focus (simp only [go_sem, ↓reduceIte, Nat.reduceAdd, Nat.reduceSub, Nat.reduceMul, Nat.reduceLT, Nat.reduceLeDiff, Nat.reduceEqDiff, Nat.reduceGT, Int.reduceToNat, Int.reduceBEq, Int.reduceBNe]; try simp (disch := omega) only [wrapI, wrapU, half_sum, toNat_sub1, toNat_add1, Int.toNat_natCast])); clear hN N)
    | ((with_reducible apply DC_call); (focus exact rfl); (focus exact rfl); (focus exact rfl); intro N hN; (simp only [go_sem, ↓reduceIte, Nat.reduceAdd, Nat.reduceSub, Nat.reduceMul, Nat.reduceLT, Nat.reduceLeDiff, Nat.reduceEqDiff, Nat.reduceGT, Int.reduceToNat, Int.reduceBEq, Int.reduceBNe]; try simp (disch := omega) only [wrapI, wrapU, half_sum, toNat_sub1, toNat_add1, Int.toNat_natCast]))
    | ((with_reducible refine DC_ev Γ_ok ?_); (simp only [go_sem, ↓reduceIte, Nat.reduceAdd, Nat.reduceSub, Nat.reduceMul, Nat.reduceLT, Nat.reduceLeDiff, Nat.reduceEqDiff, Nat.reduceGT, Int.reduceToNat, Int.reduceBEq, Int.reduceBNe]; try simp (disch := omega) only [wrapI, wrapU, half_sum, toNat_sub1, toNat_add1, Int.toNat_natCast]))
    | ((with_reducible refine TO_ev Γ_ok ?_); (simp only [go_sem, ↓reduceIte, Nat.reduceAdd, Nat.reduceSub, Nat.reduceMul, Nat.reduceLT, Nat.reduceLeDiff, Nat.reduceEqDiff, Nat.reduceGT, Int.reduceToNat, Int.reduceBEq, Int.reduceBNe]; try simp (disch := omega) only [wrapI, wrapU, half_sum, toNat_sub1, toNat_add1, Int.toNat_natCast]))
    | with_reducible refine T_seq ?_
    | with_reducible refine T_block ?_
    | with_reducible refine T_ret ?_
    | with_reducible refine T_exit ?_
    | with_reducible refine T_skip ?_
    | with_reducible refine T_label ?_
    | with_reducible refine thenQ_n ?_ | with_reducible refine thenQ_e ?_ | with_reducible refine thenQ_r ?_ | with_reducible refine blockQ_n ?_ | with_reducible refine blockQ_e ?_ | with_reducible refine blockQ_r ?_
    | with_reducible refine blockQ_o (by decide) ?_ | ((with_reducible refine retQ_r ?_); (simp only [go_sem, ↓reduceIte, Nat.reduceAdd, Nat.reduceSub, Nat.reduceMul, Nat.reduceLT, Nat.reduceLeDiff, Nat.reduceEqDiff, Nat.reduceGT, Int.reduceToNat, Int.reduceBEq, Int.reduceBNe]; try simp (disch := omega) only [wrapI, wrapU, half_sum, toNat_sub1, toNat_add1, Int.toNat_natCast])) | ((with_reducible refine retQ_n ?_); (simp only [go_sem, ↓reduceIte, Nat.reduceAdd, Nat.reduceSub, Nat.reduceMul, Nat.reduceLT, Nat.reduceLeDiff, Nat.reduceEqDiff, Nat.reduceGT, Int.reduceToNat, Int.reduceBEq, Int.reduceBNe]; try simp (disch := omega) only [wrapI, wrapU, half_sum, toNat_sub1, toNat_add1, Int.toNat_natCast]))
    | ((with_reducible refine T_cond _ rfl (fun hb => ?_) (fun hb => ?_)) <;> first | (cases hb; done) | (simp only [decide_eq_true_eq, decide_eq_false_iff_not, Bool.and_eq_true, Bool.or_eq_true, Bool.and_eq_false_imp, Bool.or_eq_false_iff, Bool.not_eq_true', Bool.not_eq_false', beq_iff_eq, bne_iff_ne, ne_eq, beq_eq_false_iff_ne, Int.not_lt, Int.not_le, ge_iff_le, gt_iff_lt] at hb) | skip)
    | (with_reducible refine And.intro (by first | exact trivial | omega | (intro hg; simp at hg ⊢ <;> omega) | (simp <;> omega)) ?_)
    | assumption | omega)
  refine T_loopW (fun m st => ∃ i : Nat, i ≤ l.length ∧ m + i = l.length ∧ (∀ j, j < i → OkT (gt l j)) ∧ (∀ j, j + 1 < i → (gt l j).s < (gt l (j + 1)).s) ∧ st = ⟨[tks l, .top, .imm (.bool false), .imm (.int .i64 i)] ++ List.replicate 30 .top, []⟩)
    l.length ⟨_, Wk.refl _, 0, Nat.zero_le _, rfl, fun j hj => by omega, fun j hj => by omega, rfl⟩ ?_
  rintro m st ⟨i, h1, h2, h3, h4, rfl⟩
  (simp only [go_sem, ↓reduceIte, Nat.reduceAdd, Nat.reduceSub, Nat.reduceMul, Nat.reduceLT, Nat.reduceLeDiff, Nat.reduceEqDiff, Nat.reduceGT, Int.reduceToNat, Int.reduceBEq, Int.reduceBNe]; try simp (disch := omega) only [wrapI, wrapU, half_sum, toNat_sub1, toNat_add1, Int.toNat_natCast])
  repeat' (first
    | (with_reducible refine hK _ ?_; clear hK K)
    | ((with_reducible refine T_seq_region Γ_ok (fun K hK => ?_)); (simp only [go_sem, ↓reduceIte, Nat.reduceAdd, Nat.reduceSub, Nat.reduceMul, Nat.reduceLT, Nat.reduceLeDiff, Nat.reduceEqDiff, Nat.reduceGT, Int.reduceToNat, Int.reduceBEq, Int.reduceBNe]; try simp (disch := omega) only [wrapI, wrapU, half_sum, toNat_sub1, toNat_add1, Int.toNat_natCast]))
    | ((with_reducible refine T_last_region Γ_ok (fun K hK => ?_)); (simp only [go_sem, ↓reduceIte, Nat.reduceAdd, Nat.reduceSub, Nat.reduceMul, Nat.reduceLT, Nat.reduceLeDiff, Nat.reduceEqDiff, Nat.reduceGT, Int.reduceToNat, Int.reduceBEq, Int.reduceBNe]; try simp (disch := omega) only [wrapI, wrapU, half_sum, toNat_sub1, toNat_add1, Int.toNat_natCast]))
    | ((with_reducible refine T_seq_draw (id := 4) Γ_ok drawsAny [(0, [], []), (1, [], []), (2, [0, 1], []), (3, [0, 1, 2], []), (4, [0, 1, 2, 3], []), (5, [0, 1, 2, 3, 4], []), (6, [0, 1, 2, 3, 4, 5], []), (7, [0, 1, 2, 3, 4, 5, 6], []), (8, [0, 1, 2, 3, 4, 5, 6, 7], []), (9, [0, 1, 2, 3, 4, 5, 6, 7, 8], []), (10, [0, 1, 2, 3, 4, 5, 6, 7, 8, 9], []), (11, [0, 1, 2, 3, 4, 5, 6, 7, 8, 9], []), (12, [0, 1, 2, 3, 4, 5, 6, 7, 8, 9, 10, 11], []), (13, [0, 1, 2, 3, 4, 5, 6, 7, 8, 9, 10, 11, 12], []), (14, [0, 1, 2, 3, 4, 5, 6, 7, 8, 9, 10, 11, 12, 13], []), (15, [0, 1, 2, 3, 4, 5, 6, 7, 8, 9], []), (16, [0, 1, 2, 3, 4, 5, 6, 7, 8, 9], []), (17, [0, 1, 2, 3, 4, 5, 6, 7, 8, 9, 16], []), (18, [0, 1, 2, 3, 4, 5, 6, 7, 8, 9, 15, 16, 17], []), (19, [0, 1, 2, 3, 4, 5, 6, 7, 8, 9, 15, 16, 17, 18], []), (20, [0, 1, 2, 3, 4, 5, 6, 7, 8, 9, 15, 16, 17, 18, 19], []), (21, [0, 1, 2, 3, 4, 5, 6, 7, 8, 9, 10, 11, 12, 13, 14, 15, 16, 17, 18, 19, 20], []), (22, [0, 1, 2, 3, 4, 5, 6, 7, 8, 9, 10, 11, 12, 13, 14, 15, 16, 17, 18, 19, 20, 21], []), (23, [0, 1, 2, 3, 4, 5, 6, 7, 8, 9, 10, 11, 12, 13, 14, 15, 16, 17, 18, 19, 20, 21, 22], [])] (by kernel_rfl) (fun K hK => ?_)); (simp only [go_sem, ↓reduceIte, Nat.reduceAdd, Nat.reduceSub, Nat.reduceMul, Nat.reduceLT, Nat.reduceLeDiff, Nat.reduceEqDiff, Nat.reduceGT, Int.reduceToNat, Int.reduceBEq, Int.reduceBNe]; try simp (disch := omega) only [wrapI, wrapU, half_sum, toNat_sub1, toNat_add1, Int.toNat_natCast]))
    | ((with_reducible refine T_last_draw (id := 4) Γ_ok drawsAny [(0, [], []), (1, [], []), (2, [0, 1], []), (3, [0, 1, 2], []), (4, [0, 1, 2, 3], []), (5, [0, 1, 2, 3, 4], []), (6, [0, 1, 2, 3, 4, 5], []), (7, [0, 1, 2, 3, 4, 5, 6], []), (8, [0, 1, 2, 3, 4, 5, 6, 7], []), (9, [0, 1, 2, 3, 4, 5, 6, 7, 8], []), (10, [0, 1, 2, 3, 4, 5, 6, 7, 8, 9], []), (11, [0, 1, 2, 3, 4, 5, 6, 7, 8, 9], []), (12, [0, 1, 2, 3, 4, 5, 6, 7, 8, 9, 10, 11], []), (13, [0, 1, 2, 3, 4, 5, 6, 7, 8, 9, 10, 11, 12], []), (14, [0, 1, 2, 3, 4, 5, 6, 7, 8, 9, 10, 11, 12, 13], []), (15, [0, 1, 2, 3, 4, 5, 6, 7, 8, 9], []), (16, [0, 1, 2, 3, 4, 5, 6, 7, 8, 9], []), (17, [0, 1, 2, 3, 4, 5, 6, 7, 8, 9, 16], []), (18, [0, 1, 2, 3, 4, 5, 6, 7, 8, 9, 15, 16, 17], []), (19, [0, 1, 2, 3, 4, 5, 6, 7, 8, 9, 15, 16, 17, 18], []), (20, [0, 1, 2, 3, 4, 5, 6, 7, 8, 9, 15, 16, 17, 18, 19], []), (21, [0, 1, 2, 3, 4, 5, 6, 7, 8, 9, 10, 11, 12, 13, 14, 15, 16, 17, 18, 19, 20], []), (22, [0, 1, 2, 3, 4, 5, 6, 7, 8, 9, 10, 11, 12, 13, 14, 15, 16, 17, 18, 19, 20, 21], []), (23, [0, 1, 2, 3, 4, 5, 6, 7, 8, 9, 10, 11, 12, 13, 14, 15, 16, 17, 18, 19, 20, 21, 22], [])] (by kernel_rfl) (fun K hK => ?_)); (simp only [go_sem, ↓reduceIte, Nat.reduceAdd, Nat.reduceSub, Nat.reduceMul, Nat.reduceLT, Nat.reduceLeDiff, Nat.reduceEqDiff, Nat.reduceGT, Int.reduceToNat, Int.reduceBEq, Int.reduceBNe]; try simp (disch := omega) only [wrapI, wrapU, half_sum, toNat_sub1, toNat_add1, Int.toNat_natCast]))
    | ((with_reducible apply gC_lookA (fun hg => (rtake_tc _ _ _ _))); (case hC => (intro hg; first | exact trivial | exact hg | (simp only [hg, and_self, implies_true]; done) | (simp only [go_sem, hg, and_self, implies_true]; done))); (case hc => (intro hg; ((repeat' (first | exact CvL.nil | refine CvL.cons ?_ ?_ | exact Cv.imm rfl | (refine Cv.free ?_; simp [Free, FreeL] <;> assumption) | (refine Cv.free (fun _ _ => FreeL_nth ?_ _); simp [Free, FreeL]; done) | refine Cv.agg ?_ | (refine Cv.own (by with_unfolding_all rfl) (by decide) ?_ ?_; (focus (first | (intro _ _ _ _; rfl) | (intro i j hi hj; (rcases i with _ | _ | i) <;> (rcases j with _ | _ | _ | _ | j) <;> first | rfl | (exfalso; omega)))); (focus (intro _ _; simp; done))) | (refine Cv.pvE ?_ ?_ (by decide); (focus (first | (intro _ _ _ _; rfl) | (intro i j hi hj; (rcases i with _ | _ | i) <;> (rcases j with _ | _ | _ | _ | j) <;> first | rfl | (exfalso; omega)))); (focus (intro _ _; simp; done))) | refine Cv.ptr (by with_unfolding_all rfl) (by with_unfolding_all rfl) ?_ | refine Cv.fn ?_ ?_)); done))))
    | ((with_reducible apply callGoal_lookA (rtake_tc _ _ _ _)); (case hC => first | exact trivial | (simp only [go_sem, and_self]; done) | (simp only [go_sem]; omega)); (case hc => ((repeat' (first | exact CvL.nil | refine CvL.cons ?_ ?_ | exact Cv.imm rfl | (refine Cv.free ?_; simp [Free, FreeL] <;> assumption) | (refine Cv.free (fun _ _ => FreeL_nth ?_ _); simp [Free, FreeL]; done) | refine Cv.agg ?_ | (refine Cv.own (by with_unfolding_all rfl) (by decide) ?_ ?_; (focus (first | (intro _ _ _ _; rfl) | (intro i j hi hj; (rcases i with _ | _ | i) <;> (rcases j with _ | _ | _ | _ | j) <;> first | rfl | (exfalso; omega)))); (focus (intro _ _; simp; done))) | (refine Cv.pvE ?_ ?_ (by decide); (focus (first | (intro _ _ _ _; rfl) | (intro i j hi hj; (rcases i with _ | _ | i) <;> (rcases j with _ | _ | _ | _ | j) <;> first | rfl | (exfalso; omega)))); (focus (intro _ _; simp; done))) | refine Cv.ptr (by with_unfolding_all rfl) (by with_unfolding_all rfl) ?_ | refine Cv.fn ?_ ?_)); done)))
    | ((with_reducible apply dCall_lookA (rtake_tc _ _ _ _)); (case hC => first | exact trivial | (simp only [go_sem, and_self]; done) | (simp only [go_sem]; omega)); (case hc => ((repeat' (first | exact CvL.nil | refine CvL.cons ?_ ?_ | exact Cv.imm rfl | (refine Cv.free ?_; simp [Free, FreeL] <;> assumption) | (refine Cv.free (fun _ _ => FreeL_nth ?_ _); simp [Free, FreeL]; done) | refine Cv.agg ?_ | (refine Cv.own (by with_unfolding_all rfl) (by decide) ?_ ?_; (focus (first | (intro _ _ _ _; rfl) | (intro i j hi hj; (rcases i with _ | _ | i) <;> (rcases j with _ | _ | _ | _ | j) <;> first | rfl | (exfalso; omega)))); (focus (intro _ _; simp; done))) | (refine Cv.pvE ?_ ?_ (by decide); (focus (first | (intro _ _ _ _; rfl) | (intro i j hi hj; (rcases i with _ | _ | i) <;> (rcases j with _ | _ | _ | _ | j) <;> first | rfl | (exfalso; omega)))); (focus (intro _ _; simp; done))) | refine Cv.ptr (by with_unfolding_all rfl) (by with_unfolding_all rfl) ?_ | refine Cv.fn ?_ ?_)); done)))
    | ((with_reducible apply dCall_lookGA (fun hg => (rtake_tc _ _ _ _))); (case hC => (intro hg; first | exact trivial | exact hg | (simp only [hg, and_self, implies_true]; done) | (simp only [go_sem, hg, and_self, implies_true]; done))); (case hc => (intro hg; ((repeat' (first | exact CvL.nil | refine CvL.cons ?_ ?_ | exact Cv.imm rfl | (refine Cv.free ?_; simp [Free, FreeL] <;> assumption) | (refine Cv.free (fun _ _ => FreeL_nth ?_ _); simp [Free, FreeL]; done) | refine Cv.agg ?_ | (refine Cv.own (by with_unfolding_all rfl) (by decide) ?_ ?_; (focus (first | (intro _ _ _ _; rfl) | (intro i j hi hj; (rcases i with _ | _ | i) <;> (rcases j with _ | _ | _ | _ | j) <;> first | rfl | (exfalso; omega)))); (focus (intro _ _; simp; done))) | (refine Cv.pvE ?_ ?_ (by decide); (focus (first | (intro _ _ _ _; rfl) | (intro i j hi hj; (rcases i with _ | _ | i) <;> (rcases j with _ | _ | _ | _ | j) <;> first | rfl | (exfalso; omega)))); (focus (intro _ _; simp; done))) | refine Cv.ptr (by with_unfolding_all rfl) (by with_unfolding_all rfl) ?_ | refine Cv.fn ?_ ?_)); done))))
    | ((with_reducible refine TO_callN rfl (fun N hN => ?_)); (simp only [go_sem, ↓reduceIte, Nat.reduceAdd, Nat.reduceSub, Nat.reduceMul, Nat.reduceLT, Nat.reduceLeDiff, Nat.reduceEqDiff, Nat.reduceGT, Int.reduceToNat, Int.reduceBEq, Int.reduceBNe]; try simp (disch := omega) only [wrapI, wrapU, half_sum, toNat_sub1, toNat_add1, Int.toNat_natCast]))
    | (with_reducible refine hN _ _ ?_; clear hN N)
    | (with_reducible refine hN _ _ (dInl rfl) ?_; clear hN N)
    | ((with_reducible refine hN _ _ (.inr ?_) ?_); (focus (simp only [go_sem, ↓reduceIte, Nat.reduceAdd, Nat.reduceSub, Nat.reduceMul, Nat.reduceLT, Nat.reduceLeDiff, Nat.reduceEqDiff, Nat.reduceGT, Int.reduceToNat, Int.reduceBEq, Int.reduceBNe]; try simp (disch := omega) only [wrapI, wrapU, half_sum, toNat_sub1, toNat_add1, Int.toNat_natCast])); clear hN N)
    | ((with_reducible apply DC_call); (focus exact rfl); (focus exact rfl); (focus exact rfl); intro N hN; (simp only [go_sem, ↓reduceIte, Nat.reduceAdd, Nat.reduceSub, Nat.reduceMul, Nat.reduceLT, Nat.reduceLeDiff, Nat.reduceEqDiff, Nat.reduceGT, Int.reduceToNat, Int.reduceBEq, Int.reduceBNe]; try simp (disch := omega) only [wrapI, wrapU, half_sum, toNat_sub1, toNat_add1, Int.toNat_natCast]))
    | ((with_reducible refine DC_ev Γ_ok ?_); (simp only [go_sem, ↓reduceIte, Nat.reduceAdd, Nat.reduceSub, Nat.reduceMul, Nat.reduceLT, Nat.reduceLeDiff, Nat.reduceEqDiff, Nat.reduceGT, Int.reduceToNat, Int.reduceBEq, Int.reduceBNe]; try simp (disch := omega) only [wrapI, wrapU, half_sum, toNat_sub1, toNat_add1, Int.toNat_natCast]))
    | ((with_reducible refine TO_ev Γ_ok ?_); (simp only [go_sem, ↓reduceIte, Nat.reduceAdd, Nat.reduceSub, Nat.reduceMul, Nat.reduceLT, Nat.reduceLeDiff, Nat.reduceEqDiff, Nat.reduceGT, Int.reduceToNat, Int.reduceBEq, Int.reduceBNe]; try simp (disch := omega) only [wrapI, wrapU, half_sum, toNat_sub1, toNat_add1, Int.toNat_natCast]))
    | with_reducible refine T_seq ?_
    | with_reducible refine T_block ?_
    | with_reducible refine T_ret ?_
    | with_reducible refine T_exit ?_
    | with_reducible refine T_skip ?_
    | with_reducible refine T_label ?_
    | with_reducible refine thenQ_n ?_ | with_reducible refine thenQ_e ?_ | with_reducible refine thenQ_r ?_ | with_reducible refine blockQ_n ?_ | with_reducible refine blockQ_e ?_ | with_reducible refine blockQ_r ?_
    | with_reducible refine blockQ_o (by decide) ?_ | ((with_reducible refine retQ_r ?_); (simp only [go_sem, ↓reduceIte, Nat.reduceAdd, Nat.reduceSub, Nat.reduceMul, Nat.reduceLT, Nat.reduceLeDiff, Nat.reduceEqDiff, Nat.reduceGT, Int.reduceToNat, Int.reduceBEq, Int.reduceBNe]; try simp (disch := omega) only [wrapI, wrapU, half_sum, toNat_sub1, toNat_add1, Int.toNat_natCast])) | ((with_reducible refine retQ_n ?_); (simp only [go_sem, ↓reduceIte, Nat.reduceAdd, Nat.reduceSub, Nat.reduceMul, Nat.reduceLT, Nat.reduceLeDiff, Nat.reduceEqDiff, Nat.reduceGT, Int.reduceToNat, Int.reduceBEq, Int.reduceBNe]; try simp (disch := omega) only [wrapI, wrapU, half_sum, toNat_sub1, toNat_add1, Int.toNat_natCast]))
    | ((with_reducible refine T_cond _ rfl (fun hb => ?_) (fun hb => ?_)) <;> first | (cases hb; done) | (simp only [decide_eq_true_eq, decide_eq_false_iff_not, Bool.and_eq_true, Bool.or_eq_true, Bool.and_eq_false_imp, Bool.or_eq_false_iff, Bool.not_eq_true', Bool.not_eq_false', beq_iff_eq, bne_iff_ne, ne_eq, beq_eq_false_iff_ne, Int.not_lt, Int.not_le, ge_iff_le, gt_iff_lt] at hb) | skip)
    | (with_reducible refine And.intro (by first | exact trivial | omega | (intro hg; simp at hg ⊢ <;> omega) | (simp <;> omega)) ?_)
    | assumption | omega)
  · refine immD ⟨fun h => Bool.noConfusion h, fun h => ?_⟩
    rcases hb with hb | ⟨h5, h6⟩
    · have := h.1 i (by omega)
      unfold OkT at this
      rw [this] at hb
      cases hb
    · have := h.2 (i - 1) (by omega)
      rw [show i - 1 + 1 = i by omega] at this
      omega
  · refine ⟨l.length - (i + 1), by omega, _, ?_, i + 1, by omega, by omega, fun j hj => ?_, fun j hj => ?_, rfl⟩
    · ((try simp only [List.length_append, List.length_cons, List.length_nil, Nat.zero_add]); refine Wk.intro [] (by decide) (by decide) (by intro o ho; simp at ho ⊢ <;> omega) ?_ ?_ <;> repeat' (first | exact WkVL.nil | refine WkVL.cons ?_ ?_ | exact WkV.top | exact WkV.imm rfl | exact WkV.imm (by simp) | exact WkV.optr rfl | exact WkV.own rfl (by simp) | exact WkV.nil_own (.inl rfl) | (refine WkV.free ?_; simp [Free, FreeL] <;> assumption) | (refine WkV.free (fun _ _ => FreeL_nth ?_ _); simp [Free, FreeL]; done) | refine WkV.agg ?_ | refine WkV.tup ?_ | refine WkV.fn ?_ ?_ | exact WkO.dead | refine WkO.box ?_ rfl | refine WkO.arr ?_ | refine And.intro ?_ (And.intro (fun h => h) ?_) | exact trivial | (intro i j hi hj)))
    · by_cases e : j = i
      · rw [e]; exact hb.1
      · exact h3 j (by omega)
    · by_cases e : j + 1 = i
      · have := hb.2 (by omega)
        rw [← e] at this
        simpa using this
      · exact h4 j (by omega)
  · exact immD ⟨fun _ => ⟨fun j hj => h3 j (by omega), fun j hj => h4 j (by omega)⟩, fun _ => rfl⟩

/-- The reference's index: where the section is, or -1. -/
def rix (l : List Tk) (k : Int) : Int := if h : ∃ i, i < l.length ∧ (gt l i).s = k then (l.findIdx fun t => decide (t.s = k) : Nat) else -1

theorem rix_first {l : List Tk} {k : Int} {i : Nat} (hi : i < l.length) (he : (gt l i).s = k) (hb : ∀ j, j < i → (gt l j).s ≠ k) : rix l k = i := by
  unfold rix
  rw [dif_pos ⟨i, hi, he⟩]
  congr 1
  rw [List.findIdx_eq hi]
  have hg : ∀ {j} (hj : j < l.length), l[j] = gt l j := fun hj => by simp [gt, hj]
  refine ⟨by rw [hg]; simpa using he, fun j hj => ?_⟩
  rw [hg]
  simpa using hb j hj

theorem rix_none {l : List Tk} {k : Int} (h : ∀ j, j < l.length → (gt l j).s ≠ k) : rix l k = -1 := by
  unfold rix
  rw [dif_neg fun ⟨i, hi, he⟩ => h i hi he]

theorem rix_lt (l : List Tk) (k : Int) : rix l k < l.length := by
  unfold rix
  split
  · rename_i h
    obtain ⟨i, hi, he⟩ := h
    have : (l.findIdx fun t => decide (t.s = k)) < l.length := List.findIdx_lt_length_of_exists ⟨gt l i, by simp [gt, hi], by simpa using he⟩
    omega
  · omega

set_option maxRecDepth 100000 in
set_option maxHeartbeats 400000 in
theorem rix_tc (l : List Tk) (k : Int) (hl : l.length ≤ 9223372036854775807) : Look Try.prog 33 [tks l, .imm (.int .i64 k)] (.imm (.int .i64 (rix l k))) := by
  refine Look.mk trivial ?_
  refine TC_of_T Γ_ok Try.func33 rfl (by kernel_rfl) ?_
  simp only [Try.ntmps33, Try.results33, List.length_cons, List.length_nil, Nat.reduceSub, Nat.reduceAdd, List.replicate, List.cons_append, List.nil_append]
  repeat' (first
    | (with_reducible refine hK _ ?_; clear hK K)
    | ((with_reducible refine T_seq_region Γ_ok (fun K hK => ?_)); (simp only [go_sem, ↓reduceIte, Nat.reduceAdd, Nat.reduceSub, Nat.reduceMul, Nat.reduceLT, Nat.reduceLeDiff, Nat.reduceEqDiff, Nat.reduceGT, Int.reduceToNat, Int.reduceBEq, Int.reduceBNe]; try simp (disch := omega) only [wrapI, wrapU, half_sum, toNat_sub1, toNat_add1, Int.toNat_natCast]))
    | ((with_reducible refine T_last_region Γ_ok (fun K hK => ?_)); (simp only [go_sem, ↓reduceIte, Nat.reduceAdd, Nat.reduceSub, Nat.reduceMul, Nat.reduceLT, Nat.reduceLeDiff, Nat.reduceEqDiff, Nat.reduceGT, Int.reduceToNat, Int.reduceBEq, Int.reduceBNe]; try simp (disch := omega) only [wrapI, wrapU, half_sum, toNat_sub1, toNat_add1, Int.toNat_natCast]))
    | ((with_reducible refine TO_callN rfl (fun N hN => ?_)); (simp only [go_sem, ↓reduceIte, Nat.reduceAdd, Nat.reduceSub, Nat.reduceMul, Nat.reduceLT, Nat.reduceLeDiff, Nat.reduceEqDiff, Nat.reduceGT, Int.reduceToNat, Int.reduceBEq, Int.reduceBNe]; try simp (disch := omega) only [wrapI, wrapU, half_sum, toNat_sub1, toNat_add1, Int.toNat_natCast]))
    | (with_reducible refine hN _ _ ?_; clear hN N)
    | (with_reducible refine hN _ _ (dInl rfl) ?_; clear hN N)
    | ((with_reducible refine hN _ _ (.inr ?_) ?_); (focus (simp only [go_sem, ↓reduceIte, Nat.reduceAdd, Nat.reduceSub, Nat.reduceMul, Nat.reduceLT, Nat.reduceLeDiff, Nat.reduceEqDiff, Nat.reduceGT, Int.reduceToNat, Int.reduceBEq, Int.reduceBNe]; try simp (disch := omega) only [wrapI, wrapU, half_sum, toNat_sub1, toNat_add1, Int.toNat_natCast])); clear hN N)
    | ((with_reducible apply DC_call); (focus exact rfl); (focus exact rfl); (focus exact rfl); intro N hN; (simp only [go_sem, ↓reduceIte, Nat.reduceAdd, Nat.reduceSub, Nat.reduceMul, Nat.reduceLT, Nat.reduceLeDiff, Nat.reduceEqDiff, Nat.reduceGT, Int.reduceToNat, Int.reduceBEq, Int.reduceBNe]; try simp (disch := omega) only [wrapI, wrapU, half_sum, toNat_sub1, toNat_add1, Int.toNat_natCast]))
    | ((with_reducible refine DC_ev Γ_ok ?_); (simp only [go_sem, ↓reduceIte, Nat.reduceAdd, Nat.reduceSub, Nat.reduceMul, Nat.reduceLT, Nat.reduceLeDiff, Nat.reduceEqDiff, Nat.reduceGT, Int.reduceToNat, Int.reduceBEq, Int.reduceBNe]; try simp (disch := omega) only [wrapI, wrapU, half_sum, toNat_sub1, toNat_add1, Int.toNat_natCast]))
    | ((with_reducible refine TO_ev Γ_ok ?_); (simp only [go_sem, ↓reduceIte, Nat.reduceAdd, Nat.reduceSub, Nat.reduceMul, Nat.reduceLT, Nat.reduceLeDiff, Nat.reduceEqDiff, Nat.reduceGT, Int.reduceToNat, Int.reduceBEq, Int.reduceBNe]; try simp (disch := omega) only [wrapI, wrapU, half_sum, toNat_sub1, toNat_add1, Int.toNat_natCast]))
    | with_reducible refine T_seq ?_
    | with_reducible refine T_block ?_
    | with_reducible refine T_ret ?_
    | with_reducible refine T_exit ?_
    | with_reducible refine T_skip ?_
    | with_reducible refine T_label ?_
    | with_reducible refine thenQ_n ?_ | with_reducible refine thenQ_e ?_ | with_reducible refine thenQ_r ?_ | with_reducible refine blockQ_n ?_ | with_reducible refine blockQ_e ?_ | with_reducible refine blockQ_r ?_
    | with_reducible refine blockQ_o (by decide) ?_ | ((with_reducible refine retQ_r ?_); (simp only [go_sem, ↓reduceIte, Nat.reduceAdd, Nat.reduceSub, Nat.reduceMul, Nat.reduceLT, Nat.reduceLeDiff, Nat.reduceEqDiff, Nat.reduceGT, Int.reduceToNat, Int.reduceBEq, Int.reduceBNe]; try simp (disch := omega) only [wrapI, wrapU, half_sum, toNat_sub1, toNat_add1, Int.toNat_natCast])) | ((with_reducible refine retQ_n ?_); (simp only [go_sem, ↓reduceIte, Nat.reduceAdd, Nat.reduceSub, Nat.reduceMul, Nat.reduceLT, Nat.reduceLeDiff, Nat.reduceEqDiff, Nat.reduceGT, Int.reduceToNat, Int.reduceBEq, Int.reduceBNe]; try simp (disch := omega) only [wrapI, wrapU, half_sum, toNat_sub1, toNat_add1, Int.toNat_natCast]))
    | ((with_reducible refine T_cond _ rfl (fun hb => ?_) (fun hb => ?_)) <;> first | (cases hb; done) | (simp only [decide_eq_true_eq, decide_eq_false_iff_not, Bool.and_eq_true, Bool.or_eq_true, Bool.and_eq_false_imp, Bool.or_eq_false_iff, Bool.not_eq_true', Bool.not_eq_false', beq_iff_eq, bne_iff_ne, ne_eq, beq_eq_false_iff_ne, Int.not_lt, Int.not_le, ge_iff_le, gt_iff_lt] at hb) | skip)
    | (with_reducible refine And.intro (by first | exact trivial | omega | (intro hg; simp at hg ⊢ <;> omega) | (simp <;> omega)) ?_)
    | assumption | omega)
  refine T_loopW (fun m st => ∃ i : Nat, i ≤ l.length ∧ m + i = l.length ∧ (∀ j, j < i → (gt l j).s ≠ k) ∧ st = ⟨[tks l, .imm (.int .i64 k), .top, .top, .imm (.int .i64 0), .imm (.int .i64 i)] ++ List.replicate 14 .top, []⟩)
    l.length ⟨_, Wk.refl _, 0, Nat.zero_le _, rfl, fun j hj => by omega, rfl⟩ ?_
  rintro m st ⟨i, h1, h2, h3, rfl⟩
  (simp only [go_sem, ↓reduceIte, Nat.reduceAdd, Nat.reduceSub, Nat.reduceMul, Nat.reduceLT, Nat.reduceLeDiff, Nat.reduceEqDiff, Nat.reduceGT, Int.reduceToNat, Int.reduceBEq, Int.reduceBNe]; try simp (disch := omega) only [wrapI, wrapU, half_sum, toNat_sub1, toNat_add1, Int.toNat_natCast])
  repeat' (first
    | (with_reducible refine hK _ ?_; clear hK K)
    | ((with_reducible refine T_seq_region Γ_ok (fun K hK => ?_)); (simp only [go_sem, ↓reduceIte, Nat.reduceAdd, Nat.reduceSub, Nat.reduceMul, Nat.reduceLT, Nat.reduceLeDiff, Nat.reduceEqDiff, Nat.reduceGT, Int.reduceToNat, Int.reduceBEq, Int.reduceBNe]; try simp (disch := omega) only [wrapI, wrapU, half_sum, toNat_sub1, toNat_add1, Int.toNat_natCast]))
    | ((with_reducible refine T_last_region Γ_ok (fun K hK => ?_)); (simp only [go_sem, ↓reduceIte, Nat.reduceAdd, Nat.reduceSub, Nat.reduceMul, Nat.reduceLT, Nat.reduceLeDiff, Nat.reduceEqDiff, Nat.reduceGT, Int.reduceToNat, Int.reduceBEq, Int.reduceBNe]; try simp (disch := omega) only [wrapI, wrapU, half_sum, toNat_sub1, toNat_add1, Int.toNat_natCast]))
    | ((with_reducible refine TO_callN rfl (fun N hN => ?_)); (simp only [go_sem, ↓reduceIte, Nat.reduceAdd, Nat.reduceSub, Nat.reduceMul, Nat.reduceLT, Nat.reduceLeDiff, Nat.reduceEqDiff, Nat.reduceGT, Int.reduceToNat, Int.reduceBEq, Int.reduceBNe]; try simp (disch := omega) only [wrapI, wrapU, half_sum, toNat_sub1, toNat_add1, Int.toNat_natCast]))
    | (with_reducible refine hN _ _ ?_; clear hN N)
    | (with_reducible refine hN _ _ (dInl rfl) ?_; clear hN N)
    | ((with_reducible refine hN _ _ (.inr ?_) ?_); (focus (simp only [go_sem, ↓reduceIte, Nat.reduceAdd, Nat.reduceSub, Nat.reduceMul, Nat.reduceLT, Nat.reduceLeDiff, Nat.reduceEqDiff, Nat.reduceGT, Int.reduceToNat, Int.reduceBEq, Int.reduceBNe]; try simp (disch := omega) only [wrapI, wrapU, half_sum, toNat_sub1, toNat_add1, Int.toNat_natCast])); clear hN N)
    | ((with_reducible apply DC_call); (focus exact rfl); (focus exact rfl); (focus exact rfl); intro N hN; (simp only [go_sem, ↓reduceIte, Nat.reduceAdd, Nat.reduceSub, Nat.reduceMul, Nat.reduceLT, Nat.reduceLeDiff, Nat.reduceEqDiff, Nat.reduceGT, Int.reduceToNat, Int.reduceBEq, Int.reduceBNe]; try simp (disch := omega) only [wrapI, wrapU, half_sum, toNat_sub1, toNat_add1, Int.toNat_natCast]))
    | ((with_reducible refine DC_ev Γ_ok ?_); (simp only [go_sem, ↓reduceIte, Nat.reduceAdd, Nat.reduceSub, Nat.reduceMul, Nat.reduceLT, Nat.reduceLeDiff, Nat.reduceEqDiff, Nat.reduceGT, Int.reduceToNat, Int.reduceBEq, Int.reduceBNe]; try simp (disch := omega) only [wrapI, wrapU, half_sum, toNat_sub1, toNat_add1, Int.toNat_natCast]))
    | ((with_reducible refine TO_ev Γ_ok ?_); (simp only [go_sem, ↓reduceIte, Nat.reduceAdd, Nat.reduceSub, Nat.reduceMul, Nat.reduceLT, Nat.reduceLeDiff, Nat.reduceEqDiff, Nat.reduceGT, Int.reduceToNat, Int.reduceBEq, Int.reduceBNe]; try simp (disch := omega) only [wrapI, wrapU, half_sum, toNat_sub1, toNat_add1, Int.toNat_natCast]))
    | with_reducible refine T_seq ?_
    | with_reducible refine T_block ?_
    | with_reducible refine T_ret ?_
    | with_reducible refine T_exit ?_
    | with_reducible refine T_skip ?_
    | with_reducible refine T_label ?_
    | with_reducible refine thenQ_n ?_ | with_reducible refine thenQ_e ?_ | with_reducible refine thenQ_r ?_ | with_reducible refine blockQ_n ?_ | with_reducible refine blockQ_e ?_ | with_reducible refine blockQ_r ?_
    | with_reducible refine blockQ_o (by decide) ?_ | ((with_reducible refine retQ_r ?_); (simp only [go_sem, ↓reduceIte, Nat.reduceAdd, Nat.reduceSub, Nat.reduceMul, Nat.reduceLT, Nat.reduceLeDiff, Nat.reduceEqDiff, Nat.reduceGT, Int.reduceToNat, Int.reduceBEq, Int.reduceBNe]; try simp (disch := omega) only [wrapI, wrapU, half_sum, toNat_sub1, toNat_add1, Int.toNat_natCast])) | ((with_reducible refine retQ_n ?_); (simp only [go_sem, ↓reduceIte, Nat.reduceAdd, Nat.reduceSub, Nat.reduceMul, Nat.reduceLT, Nat.reduceLeDiff, Nat.reduceEqDiff, Nat.reduceGT, Int.reduceToNat, Int.reduceBEq, Int.reduceBNe]; try simp (disch := omega) only [wrapI, wrapU, half_sum, toNat_sub1, toNat_add1, Int.toNat_natCast]))
    | ((with_reducible refine T_cond _ rfl (fun hb => ?_) (fun hb => ?_)) <;> first | (cases hb; done) | (simp only [decide_eq_true_eq, decide_eq_false_iff_not, Bool.and_eq_true, Bool.or_eq_true, Bool.and_eq_false_imp, Bool.or_eq_false_iff, Bool.not_eq_true', Bool.not_eq_false', beq_iff_eq, bne_iff_ne, ne_eq, beq_eq_false_iff_ne, Int.not_lt, Int.not_le, ge_iff_le, gt_iff_lt] at hb) | skip)
    | (with_reducible refine And.intro (by first | exact trivial | omega | (intro hg; simp at hg ⊢ <;> omega) | (simp <;> omega)) ?_)
    | assumption | omega)
  · rw [rix_first (by omega) hb h3]
  · refine ⟨l.length - (i + 1), by omega, _, ?_, i + 1, by omega, by omega, fun j hj => ?_, rfl⟩
    · ((try simp only [List.length_append, List.length_cons, List.length_nil, Nat.zero_add]); refine Wk.intro [] (by decide) (by decide) (by intro o ho; simp at ho ⊢ <;> omega) ?_ ?_ <;> repeat' (first | exact WkVL.nil | refine WkVL.cons ?_ ?_ | exact WkV.top | exact WkV.imm rfl | exact WkV.imm (by simp) | exact WkV.optr rfl | exact WkV.own rfl (by simp) | exact WkV.nil_own (.inl rfl) | (refine WkV.free ?_; simp [Free, FreeL] <;> assumption) | (refine WkV.free (fun _ _ => FreeL_nth ?_ _); simp [Free, FreeL]; done) | refine WkV.agg ?_ | refine WkV.tup ?_ | refine WkV.fn ?_ ?_ | exact WkO.dead | refine WkO.box ?_ rfl | refine WkO.arr ?_ | refine And.intro ?_ (And.intro (fun h => h) ?_) | exact trivial | (intro i j hi hj)))
    · by_cases e : j = i
      · rw [e]; exact hb
      · exact h3 j (by omega)
  · rw [rix_none fun j hj => h3 j (by omega)]

theorem low_spec {l : List Tk} (k : Int) (hr : Ris l) : low l k ≤ l.length ∧ (∀ j, j < low l k → (gt l j).s < k) ∧ (∀ j, low l k ≤ j → j < l.length → k ≤ (gt l j).s) := by
  have key : ∃ i, i ≤ l.length ∧ (∀ j, j < i → (gt l j).s < k) ∧ (∀ j, i ≤ j → j < l.length → k ≤ (gt l j).s) := by
    by_cases h : ∃ i, i < l.length ∧ k ≤ (gt l i).s
    · obtain ⟨i, ⟨hi, hk⟩, hmin⟩ := exists_min (p := fun i => i < l.length ∧ k ≤ (gt l i).s) (m := h.choose) h.choose_spec
      refine ⟨i, by omega, fun j hj => ?_, fun j hj hjl => ?_⟩
      · have : ¬ (j < l.length ∧ k ≤ (gt l j).s) := fun q => by have := hmin j q; omega
        have hjl : j < l.length := by omega
        exact Int.not_le.1 fun q => this ⟨hjl, q⟩
      · by_cases e : i = j
        · rw [← e]; exact hk
        · exact Int.le_trans hk (Int.le_of_lt (hr.lt (by omega) hjl))
    · exact ⟨l.length, Nat.le_refl _, fun j hj => Int.not_le.1 fun q => h ⟨j, hj, q⟩, fun j h1 h2 => by omega⟩
  obtain ⟨i, h1, h2, h3⟩ := key
  rw [low_eq h1 h2 h3]
  exact ⟨h1, h2, h3⟩

theorem rix_low {l : List Tk} (k : Int) (hr : Ris l) : rix l k = if low l k < l.length ∧ (gt l (low l k)).s = k then (low l k : Int) else -1 := by
  obtain ⟨h1, h2, h3⟩ := low_spec k hr
  split
  · rename_i h
    exact rix_first h.1 h.2 fun j hj => by have := h2 j hj; omega
  · rename_i h
    refine rix_none fun j hj e => ?_
    by_cases q : j < low l k
    · have := h2 j q; omega
    · have h4 := h3 (low l k) (Nat.le_refl _) (by omega)
      by_cases e2 : low l k = j
      · exact h ⟨by omega, by rw [e2]; exact e⟩
      · have := hr.lt (i := low l k) (j := j) (by omega) hj
        omega

open Classical in
set_option maxRecDepth 100000 in
set_option maxHeartbeats 400000 in
theorem rfind_tc (l : List Tk) (k : Int) (hl : l.length ≤ 9223372036854775807) : Look Try.prog 24 [tks l, .imm (.int .i64 k)] (.tup [tkA (findV l k).1, .imm (.int .i64 (findV l k).2)]) := by
  refine Look.mk (by simp [Pl, PlL]) ?_
  refine TC_of_T Γ_ok Try.func24 rfl (by kernel_rfl) ?_
  simp only [Try.ntmps24, Try.results24, List.length_cons, List.length_nil, Nat.reduceSub, Nat.reduceAdd, List.replicate, List.cons_append, List.nil_append]
  have hq := rix_lt l k
  repeat' (first
    | (with_reducible refine hK _ ?_; clear hK K)
    | ((with_reducible refine T_seq_region Γ_ok (fun K hK => ?_)); (simp only [go_sem, ↓reduceIte, Nat.reduceAdd, Nat.reduceSub, Nat.reduceMul, Nat.reduceLT, Nat.reduceLeDiff, Nat.reduceEqDiff, Nat.reduceGT, Int.reduceToNat, Int.reduceBEq, Int.reduceBNe]; try simp (disch := omega) only [wrapI, wrapU, half_sum, toNat_sub1, toNat_add1, Int.toNat_natCast]))
    | ((with_reducible refine T_last_region Γ_ok (fun K hK => ?_)); (simp only [go_sem, ↓reduceIte, Nat.reduceAdd, Nat.reduceSub, Nat.reduceMul, Nat.reduceLT, Nat.reduceLeDiff, Nat.reduceEqDiff, Nat.reduceGT, Int.reduceToNat, Int.reduceBEq, Int.reduceBNe]; try simp (disch := omega) only [wrapI, wrapU, half_sum, toNat_sub1, toNat_add1, Int.toNat_natCast]))
    | ((with_reducible apply gC_lookA (fun hg => (rvalid_tc l hl))); (case hC => (intro hg; first | exact trivial | exact hg | (simp only [hg, and_self, implies_true]; done) | (simp only [go_sem, hg, and_self, implies_true]; done))); (case hc => (intro hg; ((repeat' (first | exact CvL.nil | refine CvL.cons ?_ ?_ | exact Cv.imm rfl | (refine Cv.free ?_; simp [Free, FreeL] <;> assumption) | (refine Cv.free (fun _ _ => FreeL_nth ?_ _); simp [Free, FreeL]; done) | refine Cv.agg ?_ | (refine Cv.own (by with_unfolding_all rfl) (by decide) ?_ ?_; (focus (first | (intro _ _ _ _; rfl) | (intro i j hi hj; (rcases i with _ | _ | i) <;> (rcases j with _ | _ | _ | _ | j) <;> first | rfl | (exfalso; omega)))); (focus (intro _ _; simp; done))) | (refine Cv.pvE ?_ ?_ (by decide); (focus (first | (intro _ _ _ _; rfl) | (intro i j hi hj; (rcases i with _ | _ | i) <;> (rcases j with _ | _ | _ | _ | j) <;> first | rfl | (exfalso; omega)))); (focus (intro _ _; simp; done))) | refine Cv.ptr (by with_unfolding_all rfl) (by with_unfolding_all rfl) ?_ | refine Cv.fn ?_ ?_)); done))))
    | ((with_reducible apply callGoal_lookA (rvalid_tc l hl)); (case hC => first | exact trivial | (simp only [go_sem, and_self]; done) | (simp only [go_sem]; omega)); (case hc => ((repeat' (first | exact CvL.nil | refine CvL.cons ?_ ?_ | exact Cv.imm rfl | (refine Cv.free ?_; simp [Free, FreeL] <;> assumption) | (refine Cv.free (fun _ _ => FreeL_nth ?_ _); simp [Free, FreeL]; done) | refine Cv.agg ?_ | (refine Cv.own (by with_unfolding_all rfl) (by decide) ?_ ?_; (focus (first | (intro _ _ _ _; rfl) | (intro i j hi hj; (rcases i with _ | _ | i) <;> (rcases j with _ | _ | _ | _ | j) <;> first | rfl | (exfalso; omega)))); (focus (intro _ _; simp; done))) | (refine Cv.pvE ?_ ?_ (by decide); (focus (first | (intro _ _ _ _; rfl) | (intro i j hi hj; (rcases i with _ | _ | i) <;> (rcases j with _ | _ | _ | _ | j) <;> first | rfl | (exfalso; omega)))); (focus (intro _ _; simp; done))) | refine Cv.ptr (by with_unfolding_all rfl) (by with_unfolding_all rfl) ?_ | refine Cv.fn ?_ ?_)); done)))
    | ((with_reducible apply dCall_lookA (rvalid_tc l hl)); (case hC => first | exact trivial | (simp only [go_sem, and_self]; done) | (simp only [go_sem]; omega)); (case hc => ((repeat' (first | exact CvL.nil | refine CvL.cons ?_ ?_ | exact Cv.imm rfl | (refine Cv.free ?_; simp [Free, FreeL] <;> assumption) | (refine Cv.free (fun _ _ => FreeL_nth ?_ _); simp [Free, FreeL]; done) | refine Cv.agg ?_ | (refine Cv.own (by with_unfolding_all rfl) (by decide) ?_ ?_; (focus (first | (intro _ _ _ _; rfl) | (intro i j hi hj; (rcases i with _ | _ | i) <;> (rcases j with _ | _ | _ | _ | j) <;> first | rfl | (exfalso; omega)))); (focus (intro _ _; simp; done))) | (refine Cv.pvE ?_ ?_ (by decide); (focus (first | (intro _ _ _ _; rfl) | (intro i j hi hj; (rcases i with _ | _ | i) <;> (rcases j with _ | _ | _ | _ | j) <;> first | rfl | (exfalso; omega)))); (focus (intro _ _; simp; done))) | refine Cv.ptr (by with_unfolding_all rfl) (by with_unfolding_all rfl) ?_ | refine Cv.fn ?_ ?_)); done)))
    | ((with_reducible apply dCall_lookGA (fun hg => (rvalid_tc l hl))); (case hC => (intro hg; first | exact trivial | exact hg | (simp only [hg, and_self, implies_true]; done) | (simp only [go_sem, hg, and_self, implies_true]; done))); (case hc => (intro hg; ((repeat' (first | exact CvL.nil | refine CvL.cons ?_ ?_ | exact Cv.imm rfl | (refine Cv.free ?_; simp [Free, FreeL] <;> assumption) | (refine Cv.free (fun _ _ => FreeL_nth ?_ _); simp [Free, FreeL]; done) | refine Cv.agg ?_ | (refine Cv.own (by with_unfolding_all rfl) (by decide) ?_ ?_; (focus (first | (intro _ _ _ _; rfl) | (intro i j hi hj; (rcases i with _ | _ | i) <;> (rcases j with _ | _ | _ | _ | j) <;> first | rfl | (exfalso; omega)))); (focus (intro _ _; simp; done))) | (refine Cv.pvE ?_ ?_ (by decide); (focus (first | (intro _ _ _ _; rfl) | (intro i j hi hj; (rcases i with _ | _ | i) <;> (rcases j with _ | _ | _ | _ | j) <;> first | rfl | (exfalso; omega)))); (focus (intro _ _; simp; done))) | refine Cv.ptr (by with_unfolding_all rfl) (by with_unfolding_all rfl) ?_ | refine Cv.fn ?_ ?_)); done))))
    | ((with_reducible apply gC_lookA (fun hg => (rix_tc l _ hl))); (case hC => (intro hg; first | exact trivial | exact hg | (simp only [hg, and_self, implies_true]; done) | (simp only [go_sem, hg, and_self, implies_true]; done))); (case hc => (intro hg; ((repeat' (first | exact CvL.nil | refine CvL.cons ?_ ?_ | exact Cv.imm rfl | (refine Cv.free ?_; simp [Free, FreeL] <;> assumption) | (refine Cv.free (fun _ _ => FreeL_nth ?_ _); simp [Free, FreeL]; done) | refine Cv.agg ?_ | (refine Cv.own (by with_unfolding_all rfl) (by decide) ?_ ?_; (focus (first | (intro _ _ _ _; rfl) | (intro i j hi hj; (rcases i with _ | _ | i) <;> (rcases j with _ | _ | _ | _ | j) <;> first | rfl | (exfalso; omega)))); (focus (intro _ _; simp; done))) | (refine Cv.pvE ?_ ?_ (by decide); (focus (first | (intro _ _ _ _; rfl) | (intro i j hi hj; (rcases i with _ | _ | i) <;> (rcases j with _ | _ | _ | _ | j) <;> first | rfl | (exfalso; omega)))); (focus (intro _ _; simp; done))) | refine Cv.ptr (by with_unfolding_all rfl) (by with_unfolding_all rfl) ?_ | refine Cv.fn ?_ ?_)); done))))
    | ((with_reducible apply callGoal_lookA (rix_tc l _ hl)); (case hC => first | exact trivial | (simp only [go_sem, and_self]; done) | (simp only [go_sem]; omega)); (case hc => ((repeat' (first | exact CvL.nil | refine CvL.cons ?_ ?_ | exact Cv.imm rfl | (refine Cv.free ?_; simp [Free, FreeL] <;> assumption) | (refine Cv.free (fun _ _ => FreeL_nth ?_ _); simp [Free, FreeL]; done) | refine Cv.agg ?_ | (refine Cv.own (by with_unfolding_all rfl) (by decide) ?_ ?_; (focus (first | (intro _ _ _ _; rfl) | (intro i j hi hj; (rcases i with _ | _ | i) <;> (rcases j with _ | _ | _ | _ | j) <;> first | rfl | (exfalso; omega)))); (focus (intro _ _; simp; done))) | (refine Cv.pvE ?_ ?_ (by decide); (focus (first | (intro _ _ _ _; rfl) | (intro i j hi hj; (rcases i with _ | _ | i) <;> (rcases j with _ | _ | _ | _ | j) <;> first | rfl | (exfalso; omega)))); (focus (intro _ _; simp; done))) | refine Cv.ptr (by with_unfolding_all rfl) (by with_unfolding_all rfl) ?_ | refine Cv.fn ?_ ?_)); done)))
    | ((with_reducible apply dCall_lookA (rix_tc l _ hl)); (case hC => first | exact trivial | (simp only [go_sem, and_self]; done) | (simp only [go_sem]; omega)); (case hc => ((repeat' (first | exact CvL.nil | refine CvL.cons ?_ ?_ | exact Cv.imm rfl | (refine Cv.free ?_; simp [Free, FreeL] <;> assumption) | (refine Cv.free (fun _ _ => FreeL_nth ?_ _); simp [Free, FreeL]; done) | refine Cv.agg ?_ | (refine Cv.own (by with_unfolding_all rfl) (by decide) ?_ ?_; (focus (first | (intro _ _ _ _; rfl) | (intro i j hi hj; (rcases i with _ | _ | i) <;> (rcases j with _ | _ | _ | _ | j) <;> first | rfl | (exfalso; omega)))); (focus (intro _ _; simp; done))) | (refine Cv.pvE ?_ ?_ (by decide); (focus (first | (intro _ _ _ _; rfl) | (intro i j hi hj; (rcases i with _ | _ | i) <;> (rcases j with _ | _ | _ | _ | j) <;> first | rfl | (exfalso; omega)))); (focus (intro _ _; simp; done))) | refine Cv.ptr (by with_unfolding_all rfl) (by with_unfolding_all rfl) ?_ | refine Cv.fn ?_ ?_)); done)))
    | ((with_reducible apply dCall_lookGA (fun hg => (rix_tc l _ hl))); (case hC => (intro hg; first | exact trivial | exact hg | (simp only [hg, and_self, implies_true]; done) | (simp only [go_sem, hg, and_self, implies_true]; done))); (case hc => (intro hg; ((repeat' (first | exact CvL.nil | refine CvL.cons ?_ ?_ | exact Cv.imm rfl | (refine Cv.free ?_; simp [Free, FreeL] <;> assumption) | (refine Cv.free (fun _ _ => FreeL_nth ?_ _); simp [Free, FreeL]; done) | refine Cv.agg ?_ | (refine Cv.own (by with_unfolding_all rfl) (by decide) ?_ ?_; (focus (first | (intro _ _ _ _; rfl) | (intro i j hi hj; (rcases i with _ | _ | i) <;> (rcases j with _ | _ | _ | _ | j) <;> first | rfl | (exfalso; omega)))); (focus (intro _ _; simp; done))) | (refine Cv.pvE ?_ ?_ (by decide); (focus (first | (intro _ _ _ _; rfl) | (intro i j hi hj; (rcases i with _ | _ | i) <;> (rcases j with _ | _ | _ | _ | j) <;> first | rfl | (exfalso; omega)))); (focus (intro _ _; simp; done))) | refine Cv.ptr (by with_unfolding_all rfl) (by with_unfolding_all rfl) ?_ | refine Cv.fn ?_ ?_)); done))))
    | ((with_reducible refine TO_callN rfl (fun N hN => ?_)); (simp only [go_sem, ↓reduceIte, Nat.reduceAdd, Nat.reduceSub, Nat.reduceMul, Nat.reduceLT, Nat.reduceLeDiff, Nat.reduceEqDiff, Nat.reduceGT, Int.reduceToNat, Int.reduceBEq, Int.reduceBNe]; try simp (disch := omega) only [wrapI, wrapU, half_sum, toNat_sub1, toNat_add1, Int.toNat_natCast]))
    | (with_reducible refine hN _ _ ?_; clear hN N)
    | (with_reducible refine hN _ _ (dInl rfl) ?_; clear hN N)
    | ((with_reducible refine hN _ _ (.inr ?_) ?_); (focus (simp only [go_sem, ↓reduceIte, Nat.reduceAdd, Nat.reduceSub, Nat.reduceMul, Nat.reduceLT, Nat.reduceLeDiff, Nat.reduceEqDiff, Nat.reduceGT, Int.reduceToNat, Int.reduceBEq, Int.reduceBNe]; try simp (disch := omega) only [wrapI, wrapU, half_sum, toNat_sub1, toNat_add1, Int.toNat_natCast])); clear hN N)
    | ((with_reducible apply DC_call); (focus exact rfl); (focus exact rfl); (focus exact rfl); intro N hN; (simp only [go_sem, ↓reduceIte, Nat.reduceAdd, Nat.reduceSub, Nat.reduceMul, Nat.reduceLT, Nat.reduceLeDiff, Nat.reduceEqDiff, Nat.reduceGT, Int.reduceToNat, Int.reduceBEq, Int.reduceBNe]; try simp (disch := omega) only [wrapI, wrapU, half_sum, toNat_sub1, toNat_add1, Int.toNat_natCast]))
    | ((with_reducible refine DC_ev Γ_ok ?_); (simp only [go_sem, ↓reduceIte, Nat.reduceAdd, Nat.reduceSub, Nat.reduceMul, Nat.reduceLT, Nat.reduceLeDiff, Nat.reduceEqDiff, Nat.reduceGT, Int.reduceToNat, Int.reduceBEq, Int.reduceBNe]; try simp (disch := omega) only [wrapI, wrapU, half_sum, toNat_sub1, toNat_add1, Int.toNat_natCast]))
    | ((with_reducible refine TO_ev Γ_ok ?_); (simp only [go_sem, ↓reduceIte, Nat.reduceAdd, Nat.reduceSub, Nat.reduceMul, Nat.reduceLT, Nat.reduceLeDiff, Nat.reduceEqDiff, Nat.reduceGT, Int.reduceToNat, Int.reduceBEq, Int.reduceBNe]; try simp (disch := omega) only [wrapI, wrapU, half_sum, toNat_sub1, toNat_add1, Int.toNat_natCast]))
    | with_reducible refine T_seq ?_
    | with_reducible refine T_block ?_
    | with_reducible refine T_ret ?_
    | with_reducible refine T_exit ?_
    | with_reducible refine T_skip ?_
    | with_reducible refine T_label ?_
    | with_reducible refine thenQ_n ?_ | with_reducible refine thenQ_e ?_ | with_reducible refine thenQ_r ?_ | with_reducible refine blockQ_n ?_ | with_reducible refine blockQ_e ?_ | with_reducible refine blockQ_r ?_
    | with_reducible refine blockQ_o (by decide) ?_ | ((with_reducible refine retQ_r ?_); (simp only [go_sem, ↓reduceIte, Nat.reduceAdd, Nat.reduceSub, Nat.reduceMul, Nat.reduceLT, Nat.reduceLeDiff, Nat.reduceEqDiff, Nat.reduceGT, Int.reduceToNat, Int.reduceBEq, Int.reduceBNe]; try simp (disch := omega) only [wrapI, wrapU, half_sum, toNat_sub1, toNat_add1, Int.toNat_natCast])) | ((with_reducible refine retQ_n ?_); (simp only [go_sem, ↓reduceIte, Nat.reduceAdd, Nat.reduceSub, Nat.reduceMul, Nat.reduceLT, Nat.reduceLeDiff, Nat.reduceEqDiff, Nat.reduceGT, Int.reduceToNat, Int.reduceBEq, Int.reduceBNe]; try simp (disch := omega) only [wrapI, wrapU, half_sum, toNat_sub1, toNat_add1, Int.toNat_natCast]))
    | ((with_reducible refine T_cond _ rfl (fun hb => ?_) (fun hb => ?_)) <;> first | (cases hb; done) | (simp only [decide_eq_true_eq, decide_eq_false_iff_not, Bool.and_eq_true, Bool.or_eq_true, Bool.and_eq_false_imp, Bool.or_eq_false_iff, Bool.not_eq_true', Bool.not_eq_false', beq_iff_eq, bne_iff_ne, ne_eq, beq_eq_false_iff_ne, Int.not_lt, Int.not_le, ge_iff_le, gt_iff_lt] at hb) | skip)
    | (with_reducible refine And.intro (by first | exact trivial | omega | (intro hg; simp at hg ⊢ <;> omega) | (simp <;> omega)) ?_)
    | assumption | omega)
  · unfold findV; grind
  · have e := rix_low k (Val.ris (And.left (And.left ‹(Val l ∧ 1 ≤ k) ∧ k ≤ 15›)))
    unfold findV; grind
  · have e := rix_low k (Val.ris (And.left (And.left ‹(Val l ∧ 1 ≤ k) ∧ k ≤ 15›)))
    have e2 : low l k < l.length ∧ (gt l (low l k)).s = k := by
      by_cases q : low l k < l.length ∧ (gt l (low l k)).s = k
      · exact q
      · rw [if_neg q] at e; omega
    rw [if_pos e2] at e
    rw [e, Int.toNat_natCast]
    unfold findV; grind
end Go.Proofs.Ytiandkdhonbjpaa

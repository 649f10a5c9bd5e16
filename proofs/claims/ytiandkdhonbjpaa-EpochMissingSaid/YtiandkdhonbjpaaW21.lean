/-
  Contract of EpochOrder: it answers true, for every argument.
-/
import Derived.Test.YtiandkdhonbjpaaW20
set_option linter.unusedSimpArgs false
set_option linter.unusedVariables false
namespace Go.Proofs.Ytiandkdhonbjpaa
open Go.Ab

theorem learn0 {l : List Tk} {t : Tk} (h : (learnR l t).2 = 0) : Val l ∧ OkT t ∧ ¬ knows l t.s ∧ learnR l t = (lrn l t, 0) := by
  unfold learnR at h ⊢
  by_cases c : OkT t ∧ Val l
  · rw [if_pos c] at h ⊢
    by_cases k : knows l t.s
    · rw [if_pos k] at h
      split at h <;> simp at h
    · rw [if_neg k]
      exact ⟨c.2, c.1, k, rfl⟩
  · rw [if_neg c] at h; simp at h

theorem learn_again {l : List Tk} {t : Tk} (h : (learnR l t).2 = 0) : (learnR (learnR l t).1 t).2 = 5 := by
  obtain ⟨hv, ht, hk, e⟩ := learn0 h
  have hv' := lrn_val hv ht hk
  have hm : t ∈ lrn l t := mem_lrn.2 (.inr rfl)
  rw [e]
  rcases learn_cases hv' ht with ⟨e2, _⟩ | ⟨e2, q1, q2⟩ | ⟨e2, q⟩
  · rw [e2]
  · exact absurd (mem_knows hv'.ris hm).2 q2
  · exact absurd (mem_knows hv'.ris hm).1 q

theorem learn_swap {l : List Tk} {t u : Tk} (h : (learnR l t).2 = 0) (h2 : (learnR (learnR l t).1 u).2 = 0) :
    (learnR l u).2 = 0 ∧ (learnR (learnR l u).1 t).2 = 0 ∧ (learnR (learnR l t).1 u).1 = (learnR (learnR l u).1 t).1 := by
  obtain ⟨hv, ht, hk, e⟩ := learn0 h
  obtain ⟨hv2, hu, hk2, e2⟩ := learn0 h2
  rw [e] at hk2 e2 hv2
  simp only [] at hk2 e2 hv2
  have hku : ¬ knows l u.s := fun q => by
    obtain ⟨m1, m2⟩ := knows_mem q
    exact hk2 ((knows_iff hv2.ris).2 ⟨_, mem_lrn.2 (.inl m1), m2⟩)
  have hne : t.s ≠ u.s := fun q => hk2 ((knows_iff hv2.ris).2 ⟨t, mem_lrn.2 (.inr rfl), q⟩)
  have eu : learnR l u = (lrn l u, 0) := by unfold learnR; rw [if_pos ⟨hu, hv⟩, if_neg hku]
  have hvu := lrn_val hv hu hku
  have hkt : ¬ knows (lrn l u) t.s := fun q => by
    obtain ⟨x, hx, hs⟩ := (knows_iff hvu.ris).1 q
    rcases mem_lrn.1 hx with hx | hx
    · exact hk ((knows_iff hv.ris).2 ⟨x, hx, hs⟩)
    · subst hx; exact hne hs.symm
  have et : learnR (lrn l u) t = (lrn (lrn l u) t, 0) := by unfold learnR; rw [if_pos ⟨ht, hvu⟩, if_neg hkt]
  rw [e, eu]
  simp only []
  rw [e2, et]
  refine ⟨by simp, by simp, ?_⟩
  refine Up.ext (lrn_val hv2 hu hk2).ris.up (lrn_val hvu ht hkt).ris.up fun z => ?_
  rw [mem_lrn, mem_lrn, mem_lrn, mem_lrn]
  constructor
  · rintro ((q | q) | q)
    · exact .inl (.inl q)
    · exact .inr q
    · exact .inl (.inr q)
  · rintro ((q | q) | q)
    · exact .inl (.inl q)
    · exact .inr q
    · exact .inl (.inr q)

open Classical in
set_option maxRecDepth 100000 in
set_option maxHeartbeats 400000 in
theorem law_order (log : List Tk) (t u : Tk) (hl : log.length ≤ 9223372036854775807) : Look Try.prog 5 [tks log, tkA t, tkA u] (.imm (.bool true)) := by
  refine Look.mk trivial ?_
  refine TC_of_T Γ_ok Try.func5 rfl (by kernel_rfl) ?_
  simp only [Try.ntmps5, Try.results5, List.length_cons, List.length_nil, Nat.reduceSub, Nat.reduceAdd, List.replicate, List.cons_append, List.nil_append]
  have h1 := learnR_len log t
  have h2 := learnR_len log u
  have h3 := learnR_len (learnR log t).1 u
  have h4 := learnR_len (learnR log u).1 t
  repeat' (first
    | (with_reducible refine hK _ ?_; clear hK K)
    | ((with_reducible refine T_seq_region Γ_ok (fun K hK => ?_)); (simp only [go_sem, ↓reduceIte, Nat.reduceAdd, Nat.reduceSub, Nat.reduceMul, Nat.reduceLT, Nat.reduceLeDiff, Nat.reduceEqDiff, Nat.reduceGT, Int.reduceToNat, Int.reduceBEq, Int.reduceBNe]; try simp (disch := omega) only [wrapI, wrapU, half_sum, toNat_sub1, toNat_add1, Int.toNat_natCast]))
    | ((with_reducible refine T_last_region Γ_ok (fun K hK => ?_)); (simp only [go_sem, ↓reduceIte, Nat.reduceAdd, Nat.reduceSub, Nat.reduceMul, Nat.reduceLT, Nat.reduceLeDiff, Nat.reduceEqDiff, Nat.reduceGT, Int.reduceToNat, Int.reduceBEq, Int.reduceBNe]; try simp (disch := omega) only [wrapI, wrapU, half_sum, toNat_sub1, toNat_add1, Int.toNat_natCast]))
    | fail
    | ((with_reducible apply gC_lookA (fun hg => (head_tc))); (case hC => (intro hg; first | exact trivial | exact hg | (simp only [hg, and_self, implies_true]; done) | (simp only [go_sem, hg, and_self, implies_true]; done))); (case hc => (intro hg; ((repeat' (first | exact CvL.nil | refine CvL.cons ?_ ?_ | exact Cv.imm rfl | (refine Cv.free ?_; simp [Free, FreeL] <;> assumption) | (refine Cv.free (fun _ _ => FreeL_nth ?_ _); simp [Free, FreeL]; done) | refine Cv.agg ?_ | (refine Cv.own (by with_unfolding_all rfl) (by decide) ?_ ?_; (focus (first | (intro _ _ _ _; rfl) | (intro i j hi hj; (rcases i with _ | _ | i) <;> (rcases j with _ | _ | _ | _ | j) <;> first | rfl | (exfalso; omega)))); (focus (intro _ _; simp; done))) | (refine Cv.pvE ?_ ?_ (by decide); (focus (first | (intro _ _ _ _; rfl) | (intro i j hi hj; (rcases i with _ | _ | i) <;> (rcases j with _ | _ | _ | _ | j) <;> first | rfl | (exfalso; omega)))); (focus (intro _ _; simp; done))) | refine Cv.ptr (by with_unfolding_all rfl) (by with_unfolding_all rfl) ?_ | refine Cv.fn ?_ ?_)); done))))
    | ((with_reducible apply callGoal_lookA (head_tc)); (case hC => first | exact trivial | (simp only [go_sem, and_self]; done) | (simp only [go_sem]; omega)); (case hc => ((repeat' (first | exact CvL.nil | refine CvL.cons ?_ ?_ | exact Cv.imm rfl | (refine Cv.free ?_; simp [Free, FreeL] <;> assumption) | (refine Cv.free (fun _ _ => FreeL_nth ?_ _); simp [Free, FreeL]; done) | refine Cv.agg ?_ | (refine Cv.own (by with_unfolding_all rfl) (by decide) ?_ ?_; (focus (first | (intro _ _ _ _; rfl) | (intro i j hi hj; (rcases i with _ | _ | i) <;> (rcases j with _ | _ | _ | _ | j) <;> first | rfl | (exfalso; omega)))); (focus (intro _ _; simp; done))) | (refine Cv.pvE ?_ ?_ (by decide); (focus (first | (intro _ _ _ _; rfl) | (intro i j hi hj; (rcases i with _ | _ | i) <;> (rcases j with _ | _ | _ | _ | j) <;> first | rfl | (exfalso; omega)))); (focus (intro _ _; simp; done))) | refine Cv.ptr (by with_unfolding_all rfl) (by with_unfolding_all rfl) ?_ | refine Cv.fn ?_ ?_)); done)))
    | ((with_reducible apply dCall_lookA (head_tc)); (case hC => first | exact trivial | (simp only [go_sem, and_self]; done) | (simp only [go_sem]; omega)); (case hc => ((repeat' (first | exact CvL.nil | refine CvL.cons ?_ ?_ | exact Cv.imm rfl | (refine Cv.free ?_; simp [Free, FreeL] <;> assumption) | (refine Cv.free (fun _ _ => FreeL_nth ?_ _); simp [Free, FreeL]; done) | refine Cv.agg ?_ | (refine Cv.own (by with_unfolding_all rfl) (by decide) ?_ ?_; (focus (first | (intro _ _ _ _; rfl) | (intro i j hi hj; (rcases i with _ | _ | i) <;> (rcases j with _ | _ | _ | _ | j) <;> first | rfl | (exfalso; omega)))); (focus (intro _ _; simp; done))) | (refine Cv.pvE ?_ ?_ (by decide); (focus (first | (intro _ _ _ _; rfl) | (intro i j hi hj; (rcases i with _ | _ | i) <;> (rcases j with _ | _ | _ | _ | j) <;> first | rfl | (exfalso; omega)))); (focus (intro _ _; simp; done))) | refine Cv.ptr (by with_unfolding_all rfl) (by with_unfolding_all rfl) ?_ | refine Cv.fn ?_ ?_)); done)))
    | ((with_reducible apply dCall_lookGA (fun hg => (head_tc))); (case hC => (intro hg; first | exact trivial | exact hg | (simp only [hg, and_self, implies_true]; done) | (simp only [go_sem, hg, and_self, implies_true]; done))); (case hc => (intro hg; ((repeat' (first | exact CvL.nil | refine CvL.cons ?_ ?_ | exact Cv.imm rfl | (refine Cv.free ?_; simp [Free, FreeL] <;> assumption) | (refine Cv.free (fun _ _ => FreeL_nth ?_ _); simp [Free, FreeL]; done) | refine Cv.agg ?_ | (refine Cv.own (by with_unfolding_all rfl) (by decide) ?_ ?_; (focus (first | (intro _ _ _ _; rfl) | (intro i j hi hj; (rcases i with _ | _ | i) <;> (rcases j with _ | _ | _ | _ | j) <;> first | rfl | (exfalso; omega)))); (focus (intro _ _; simp; done))) | (refine Cv.pvE ?_ ?_ (by decide); (focus (first | (intro _ _ _ _; rfl) | (intro i j hi hj; (rcases i with _ | _ | i) <;> (rcases j with _ | _ | _ | _ | j) <;> first | rfl | (exfalso; omega)))); (focus (intro _ _; simp; done))) | refine Cv.ptr (by with_unfolding_all rfl) (by with_unfolding_all rfl) ?_ | refine Cv.fn ?_ ?_)); done))))
    | ((with_reducible apply callGoal_makeA (learn_tc _ _ _)); (case hC => first | exact trivial | (simp only [go_sem, and_self]; done) | (simp only [go_sem]; omega)); (case hc => ((repeat' (first | exact CvL.nil | refine CvL.cons ?_ ?_ | exact Cv.imm rfl | (refine Cv.free ?_; simp [Free, FreeL] <;> assumption) | (refine Cv.free (fun _ _ => FreeL_nth ?_ _); simp [Free, FreeL]; done) | refine Cv.agg ?_ | (refine Cv.own (by with_unfolding_all rfl) (by decide) ?_ ?_; (focus (first | (intro _ _ _ _; rfl) | (intro i j hi hj; (rcases i with _ | _ | i) <;> (rcases j with _ | _ | _ | _ | j) <;> first | rfl | (exfalso; omega)))); (focus (intro _ _; simp; done))) | (refine Cv.pvE ?_ ?_ (by decide); (focus (first | (intro _ _ _ _; rfl) | (intro i j hi hj; (rcases i with _ | _ | i) <;> (rcases j with _ | _ | _ | _ | j) <;> first | rfl | (exfalso; omega)))); (focus (intro _ _; simp; done))) | refine Cv.ptr (by with_unfolding_all rfl) (by with_unfolding_all rfl) ?_ | refine Cv.fn ?_ ?_)); done)); (case' hn => (simp only [go_sem, ↓reduceIte, Nat.reduceAdd, Nat.reduceSub, Nat.reduceMul, Nat.reduceLT, Nat.reduceLeDiff, Nat.reduceEqDiff, Nat.reduceGT, Int.reduceToNat, Int.reduceBEq, Int.reduceBNe]; try simp (disch := omega) only [wrapI, wrapU, half_sum, toNat_sub1, toNat_add1, Int.toNat_natCast])))
    | ((with_reducible apply dCall_makeA (learn_tc _ _ _)); (case hC => first | exact trivial | (simp only [go_sem, and_self]; done) | (simp only [go_sem]; omega)); (case hc => ((repeat' (first | exact CvL.nil | refine CvL.cons ?_ ?_ | exact Cv.imm rfl | (refine Cv.free ?_; simp [Free, FreeL] <;> assumption) | (refine Cv.free (fun _ _ => FreeL_nth ?_ _); simp [Free, FreeL]; done) | refine Cv.agg ?_ | (refine Cv.own (by with_unfolding_all rfl) (by decide) ?_ ?_; (focus (first | (intro _ _ _ _; rfl) | (intro i j hi hj; (rcases i with _ | _ | i) <;> (rcases j with _ | _ | _ | _ | j) <;> first | rfl | (exfalso; omega)))); (focus (intro _ _; simp; done))) | (refine Cv.pvE ?_ ?_ (by decide); (focus (first | (intro _ _ _ _; rfl) | (intro i j hi hj; (rcases i with _ | _ | i) <;> (rcases j with _ | _ | _ | _ | j) <;> first | rfl | (exfalso; omega)))); (focus (intro _ _; simp; done))) | refine Cv.ptr (by with_unfolding_all rfl) (by with_unfolding_all rfl) ?_ | refine Cv.fn ?_ ?_)); done)); (case' hn => (simp only [go_sem, ↓reduceIte, Nat.reduceAdd, Nat.reduceSub, Nat.reduceMul, Nat.reduceLT, Nat.reduceLeDiff, Nat.reduceEqDiff, Nat.reduceGT, Int.reduceToNat, Int.reduceBEq, Int.reduceBNe]; try simp (disch := omega) only [wrapI, wrapU, half_sum, toNat_sub1, toNat_add1, Int.toNat_natCast])))
    | ((with_reducible apply gC_lookA (fun hg => (same_tc _ _ _ _))); (case hC => (intro hg; first | exact trivial | exact hg | (simp only [hg, and_self, implies_true]; done) | (simp only [go_sem, hg, and_self, implies_true]; done))); (case hc => (intro hg; ((repeat' (first | exact CvL.nil | refine CvL.cons ?_ ?_ | exact Cv.imm rfl | (refine Cv.free ?_; simp [Free, FreeL] <;> assumption) | (refine Cv.free (fun _ _ => FreeL_nth ?_ _); simp [Free, FreeL]; done) | refine Cv.agg ?_ | (refine Cv.own (by with_unfolding_all rfl) (by decide) ?_ ?_; (focus (first | (intro _ _ _ _; rfl) | (intro i j hi hj; (rcases i with _ | _ | i) <;> (rcases j with _ | _ | _ | _ | j) <;> first | rfl | (exfalso; omega)))); (focus (intro _ _; simp; done))) | (refine Cv.pvE ?_ ?_ (by decide); (focus (first | (intro _ _ _ _; rfl) | (intro i j hi hj; (rcases i with _ | _ | i) <;> (rcases j with _ | _ | _ | _ | j) <;> first | rfl | (exfalso; omega)))); (focus (intro _ _; simp; done))) | refine Cv.ptr (by with_unfolding_all rfl) (by with_unfolding_all rfl) ?_ | refine Cv.fn ?_ ?_)); done))))
    | ((with_reducible apply callGoal_lookA (same_tc _ _ _ _)); (case hC => first | exact trivial | (simp only [go_sem, and_self]; done) | (simp only [go_sem]; omega)); (case hc => ((repeat' (first | exact CvL.nil | refine CvL.cons ?_ ?_ | exact Cv.imm rfl | (refine Cv.free ?_; simp [Free, FreeL] <;> assumption) | (refine Cv.free (fun _ _ => FreeL_nth ?_ _); simp [Free, FreeL]; done) | refine Cv.agg ?_ | (refine Cv.own (by with_unfolding_all rfl) (by decide) ?_ ?_; (focus (first | (intro _ _ _ _; rfl) | (intro i j hi hj; (rcases i with _ | _ | i) <;> (rcases j with _ | _ | _ | _ | j) <;> first | rfl | (exfalso; omega)))); (focus (intro _ _; simp; done))) | (refine Cv.pvE ?_ ?_ (by decide); (focus (first | (intro _ _ _ _; rfl) | (intro i j hi hj; (rcases i with _ | _ | i) <;> (rcases j with _ | _ | _ | _ | j) <;> first | rfl | (exfalso; omega)))); (focus (intro _ _; simp; done))) | refine Cv.ptr (by with_unfolding_all rfl) (by with_unfolding_all rfl) ?_ | refine Cv.fn ?_ ?_)); done)))
    | ((with_reducible apply dCall_lookA (same_tc _ _ _ _)); (case hC => first | exact trivial | (simp only [go_sem, and_self]; done) | (simp only [go_sem]; omega)); (case hc => ((repeat' (first | exact CvL.nil | refine CvL.cons ?_ ?_ | exact Cv.imm rfl | (refine Cv.free ?_; simp [Free, FreeL] <;> assumption) | (refine Cv.free (fun _ _ => FreeL_nth ?_ _); simp [Free, FreeL]; done) | refine Cv.agg ?_ | (refine Cv.own (by with_unfolding_all rfl) (by decide) ?_ ?_; (focus (first | (intro _ _ _ _; rfl) | (intro i j hi hj; (rcases i with _ | _ | i) <;> (rcases j with _ | _ | _ | _ | j) <;> first | rfl | (exfalso; omega)))); (focus (intro _ _; simp; done))) | (refine Cv.pvE ?_ ?_ (by decide); (focus (first | (intro _ _ _ _; rfl) | (intro i j hi hj; (rcases i with _ | _ | i) <;> (rcases j with _ | _ | _ | _ | j) <;> first | rfl | (exfalso; omega)))); (focus (intro _ _; simp; done))) | refine Cv.ptr (by with_unfolding_all rfl) (by with_unfolding_all rfl) ?_ | refine Cv.fn ?_ ?_)); done)))
    | ((with_reducible apply dCall_lookGA (fun hg => (same_tc _ _ _ _))); (case hC => (intro hg; first | exact trivial | exact hg | (simp only [hg, and_self, implies_true]; done) | (simp only [go_sem, hg, and_self, implies_true]; done))); (case hc => (intro hg; ((repeat' (first | exact CvL.nil | refine CvL.cons ?_ ?_ | exact Cv.imm rfl | (refine Cv.free ?_; simp [Free, FreeL] <;> assumption) | (refine Cv.free (fun _ _ => FreeL_nth ?_ _); simp [Free, FreeL]; done) | refine Cv.agg ?_ | (refine Cv.own (by with_unfolding_all rfl) (by decide) ?_ ?_; (focus (first | (intro _ _ _ _; rfl) | (intro i j hi hj; (rcases i with _ | _ | i) <;> (rcases j with _ | _ | _ | _ | j) <;> first | rfl | (exfalso; omega)))); (focus (intro _ _; simp; done))) | (refine Cv.pvE ?_ ?_ (by decide); (focus (first | (intro _ _ _ _; rfl) | (intro i j hi hj; (rcases i with _ | _ | i) <;> (rcases j with _ | _ | _ | _ | j) <;> first | rfl | (exfalso; omega)))); (focus (intro _ _; simp; done))) | refine Cv.ptr (by with_unfolding_all rfl) (by with_unfolding_all rfl) ?_ | refine Cv.fn ?_ ?_)); done))))
    | ((with_reducible refine TO_callN rfl (fun N hN => ?_)); (simp only [go_sem, ↓reduceIte, Nat.reduceAdd, Nat.reduceSub, Nat.reduceMul, Nat.reduceLT, Nat.reduceLeDiff, Nat.reduceEqDiff, Nat.reduceGT, Int.reduceToNat, Int.reduceBEq, Int.reduceBNe]; try simp (disch := omega) only [wrapI, wrapU, half_sum, toNat_sub1, toNat_add1, Int.toNat_natCast]))
    | (with_reducible refine hN _ _ ?_; clear hN N)
    | (with_reducible refine hN _ _ (dInl rfl) ?_; clear hN N)
    | ((with_reducible refine hN _ _ (.inr ?_) ?_); (focus (simp only [go_sem, ↓reduceIte, Nat.reduceAdd, Nat.reduceSub, Nat.reduceMul, Nat.reduceLT, Nat.reduceLeDiff, Nat.reduceEqDiff, Nat.reduceGT, Int.reduceToNat, Int.reduceBEq, Int.reduceBNe]; try simp (disch := omega) only [wrapI, wrapU, half_sum, toNat_sub1, toNat_add1, Int.toNat_natCast])); clear hN N)
    | ((with_reducible apply DC_call); (focus exact rfl); (focus exact rfl); (focus exact rfl); intro N hN; (simp only [go_sem, ↓reduceIte, Nat.reduceAdd, Nat.reduceSub, Nat.reduceMul, Nat.reduceLT, Nat.reduceLeDiff, Nat.reduceEqDiff, Nat.reduceGT, Int.reduceToNat, Int.reduceBEq, Int.reduceBNe]; try simp (disch := omega) only [wrapI, wrapU, half_sum, toNat_sub1, toNat_add1, Int.toNat_natCast]))
    | ((with_reducible refine DC_ev Γ_ok ?_); (simp only [go_sem, ↓reduceIte, Nat.reduceAdd, Nat.reduceSub, Nat.reduceMul, Nat.reduceLT, Nat.reduceLeDiff, Nat.reduceEqDiff, Nat.reduceGT, Int.reduceToNat, Int.reduceBEq, Int.reduceBNe]; try simp (disch := omega) only [wrapI, wrapU, half_sum, toNat_sub1, toNat_add1, Int.toNat_natCast]))
    | ((with_reducible refine TO_ev Γ_ok ?_); (simp only [go_sem, ↓reduceIte, Nat.reduceAdd, Nat.reduceSub, Nat.reduceMul, Nat.reduceLT, Nat.reduceLeDiff, Nat.reduceEqDiff, Nat.reduceGT, Int.reduceToNat, Int.reduceBEq, Int.reduceBNe]; try simp (disch := omega) only [wrapI, wrapU, half_sum, toNat_sub1, toNat_add1, Int.toNat_natCast]))
    | with_reducible refine T_seq ?_
    | with_reducible refine T_block ?_
    | with_reducible refine T_ret ?_
    | with_reducible refine T_exit ?_
    | with_reducible refine T_skip ?_
    | with_reducible refine T_label ?_
    | with_reducible refine thenQ_n ?_ | with_reducible refine thenQ_e ?_ | with_reducible refine thenQ_r ?_ | with_reducible refine blockQ_n ?_ | with_reducible refine blockQ_e ?_ | with_reducible refine blockQ_r ?_
    | with_reducible refine blockQ_o (by decide) ?_ | ((with_reducible refine retQ_r ?_); (simp only [go_sem, ↓reduceIte, Nat.reduceAdd, Nat.reduceSub, Nat.reduceMul, Nat.reduceLT, Nat.reduceLeDiff, Nat.reduceEqDiff, Nat.reduceGT, Int.reduceToNat, Int.reduceBEq, Int.reduceBNe]; try simp (disch := omega) only [wrapI, wrapU, half_sum, toNat_sub1, toNat_add1, Int.toNat_natCast])) | ((with_reducible refine retQ_n ?_); (simp only [go_sem, ↓reduceIte, Nat.reduceAdd, Nat.reduceSub, Nat.reduceMul, Nat.reduceLT, Nat.reduceLeDiff, Nat.reduceEqDiff, Nat.reduceGT, Int.reduceToNat, Int.reduceBEq, Int.reduceBNe]; try simp (disch := omega) only [wrapI, wrapU, half_sum, toNat_sub1, toNat_add1, Int.toNat_natCast]))
    | ((with_reducible refine T_cond _ rfl (fun hb => ?_) (fun hb => ?_)) <;> first | (cases hb; done) | (simp only [decide_eq_true_eq, decide_eq_false_iff_not, Bool.and_eq_true, Bool.or_eq_true, Bool.and_eq_false_imp, Bool.or_eq_false_iff, Bool.not_eq_true', Bool.not_eq_false', beq_iff_eq, bne_iff_ne, ne_eq, beq_eq_false_iff_ne, Int.not_lt, Int.not_le, ge_iff_le, gt_iff_lt] at hb) | skip)
    | (with_reducible refine And.intro (by first | exact trivial | omega | (intro hg; simp at hg ⊢ <;> omega) | (simp <;> omega)) ?_)
    | assumption | omega)
  · exfalso
    have h0 : (learnR log t).2 = 0 := by simpa using ‹((learnR log t).snd != 0) = false›
    exact hb (learn_again h0)
  · exfalso
    have h0 : (learnR log t).2 = 0 := by simpa using ‹((learnR log t).snd != 0) = false›
    have h5 : (learnR (learnR log t).1 u).2 = 0 := by simpa using ‹((learnR (learnR log t).fst u).snd != 0) = false›
    exact hb (learn_swap h0 h5).1
  · have h0 : (learnR log t).2 = 0 := by simpa using ‹((learnR log t).snd != 0) = false›
    have h5 : (learnR (learnR log t).1 u).2 = 0 := by simpa using ‹((learnR (learnR log t).fst u).snd != 0) = false›
    obtain ⟨_, q2, q3⟩ := learn_swap h0 h5
    simp [q2, q3]
end Go.Proofs.Ytiandkdhonbjpaa

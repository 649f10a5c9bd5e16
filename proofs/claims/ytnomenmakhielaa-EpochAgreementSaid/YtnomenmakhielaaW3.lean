/-
  Contract of epoch.Valid: it reports whether all takes are valid and the sections rise.
-/
import Derived.Test.YtnomenmakhielaaW2
set_option linter.unusedSimpArgs false
set_option linter.unusedVariables false
namespace Go.Proofs.Ytnomenmakhielaa
open Go.Ab

def OkT (t : Tk) : Prop := takeB t.s t.c t.n t.d = true
def Val (l : List Tk) : Prop := (∀ i, i < l.length → OkT (gt l i)) ∧ Ris l

theorem gt_mem {l : List Tk} {i : Nat} (h : i < l.length) : gt l i ∈ l := by unfold gt; simp [h]

theorem OkT.sec {t : Tk} (h : OkT t) : 1 ≤ t.s ∧ t.s ≤ 15 := by
  unfold OkT takeB at h
  split at h
  · cases h
  · omega

theorem Val.low_bound {l : List Tk} (h : Val l) : ∀ i, i < l.length → (i : Int) + 1 ≤ (gt l i).s := by
  intro i
  induction i with
  | zero => intro hi; have := (h.1 0 hi).sec; omega
  | succ i ih => intro hi; have := ih (by omega); have := h.2 i hi; omega

theorem Val.len {l : List Tk} (h : Val l) : l.length ≤ 15 := by
  rcases Nat.eq_zero_or_pos l.length with h0 | h0
  · omega
  · have h1 := h.low_bound (l.length - 1) (by omega)
    have h2 := (h.1 (l.length - 1) (by omega)).sec
    omega

open Classical in
set_option maxRecDepth 100000 in
set_option maxHeartbeats 400000 in
theorem valid_tc (l : List Tk) (hl : l.length ≤ 9223372036854775807) : Look Try.prog 15 [tks l] (.imm (.bool (decide (Val l)))) := by
  refine Look.mk trivial ?_
  refine TC_of_T Γ_ok Try.func15 rfl (by kernel_rfl) ?_
  simp only [Try.ntmps15, Try.results15, List.length_cons, List.length_nil, Nat.reduceSub, Nat.reduceAdd, List.replicate, List.cons_append, List.nil_append]
  repeat' (first
    | (with_reducible refine hK _ ?_; clear hK K)
    | ((with_reducible apply DC_call); (focus exact rfl); (focus exact rfl); (focus exact rfl); intro N hN; (simp only [go_sem, ↓reduceIte, Nat.reduceAdd, Nat.reduceSub, Nat.reduceMul, Nat.reduceLT, Nat.reduceLeDiff, Nat.reduceEqDiff, Nat.reduceGT, Int.reduceToNat, Int.reduceBEq, Int.reduceBNe]; try simp (disch := omega) only [wrapI, wrapU, half_sum, toNat_sub1, toNat_add1, Int.toNat_natCast]))
    | ((with_reducible first | refine T_seq_region Γ_ok (fun K hK => ?_) | refine T_last_region Γ_ok (fun K hK => ?_) | refine TO_callN rfl (fun N hN => ?_) | refine DCT_fork Γ_ok (fun K2 hK2 => ?_) | refine DCT_last Γ_ok ?_ | refine DC_ev Γ_ok ?_ | refine TO_ev Γ_ok ?_ | refine retQ_r ?_ | refine retQ_n ?_); (simp only [go_sem, ↓reduceIte, Nat.reduceAdd, Nat.reduceSub, Nat.reduceMul, Nat.reduceLT, Nat.reduceLeDiff, Nat.reduceEqDiff, Nat.reduceGT, Int.reduceToNat, Int.reduceBEq, Int.reduceBNe]; try simp (disch := omega) only [wrapI, wrapU, half_sum, toNat_sub1, toNat_add1, Int.toNat_natCast]))
    | (with_reducible refine hK2 _ ?_ ?_ <;> clear hK2 K2)
    | with_reducible refine gC_false ?_ | with_reducible refine gC_true ?_
    | (with_reducible refine hN _ _ ?_; clear hN N)
    | (with_reducible refine hN _ _ (dInl rfl) ?_; clear hN N)
    | ((with_reducible refine hN _ _ (.inr ?_) ?_); (focus (simp only [go_sem, ↓reduceIte, Nat.reduceAdd, Nat.reduceSub, Nat.reduceMul, Nat.reduceLT, Nat.reduceLeDiff, Nat.reduceEqDiff, Nat.reduceGT, Int.reduceToNat, Int.reduceBEq, Int.reduceBNe]; try simp (disch := omega) only [wrapI, wrapU, half_sum, toNat_sub1, toNat_add1, Int.toNat_natCast])); clear hN N)
    | with_reducible refine T_seq ?_ | with_reducible refine T_block ?_ | with_reducible refine T_ret ?_ | with_reducible refine T_exit ?_ | with_reducible refine T_skip ?_ | with_reducible refine T_label ?_
    | with_reducible refine thenQ_n ?_ | with_reducible refine thenQ_e ?_ | with_reducible refine thenQ_r ?_ | with_reducible refine blockQ_n ?_ | with_reducible refine blockQ_e ?_ | with_reducible refine blockQ_r ?_
    | with_reducible refine blockQ_o (by decide) ?_
    | ((with_reducible refine T_cond _ rfl (fun hb => ?_) (fun hb => ?_)) <;> first | (cases hb; done) | (simp only [decide_eq_true_eq, decide_eq_false_iff_not, Bool.and_eq_true, Bool.or_eq_true, Bool.and_eq_false_imp, Bool.or_eq_false_iff, Bool.not_eq_true', Bool.not_eq_false', beq_iff_eq, bne_iff_ne, ne_eq, beq_eq_false_iff_ne, Int.not_lt, Int.not_le, ge_iff_le, gt_iff_lt] at hb) | skip)
    | (with_reducible refine And.intro (by first | exact trivial | omega | (intro hg; simp at hg ⊢ <;> omega) | (simp <;> omega)) ?_)
    | assumption | omega)
  refine T_loopW (fun m st => ∃ i : Nat, i ≤ l.length ∧ m + i = l.length ∧ (∀ j, j < i → OkT (gt l j)) ∧ st = ⟨[tks l, .top, .imm (.bool false), .top, .top, tks l, .imm (.int .i64 l.length), .imm (.int .i64 i)] ++ List.replicate 10 .top, []⟩)
    l.length ⟨_, Wk.refl _, 0, Nat.zero_le _, rfl, fun j hj => by omega, rfl⟩ ?_
  rintro m st ⟨i, h1, h2, h3, rfl⟩
  (simp only [go_sem, ↓reduceIte, Nat.reduceAdd, Nat.reduceSub, Nat.reduceMul, Nat.reduceLT, Nat.reduceLeDiff, Nat.reduceEqDiff, Nat.reduceGT, Int.reduceToNat, Int.reduceBEq, Int.reduceBNe]; try simp (disch := omega) only [wrapI, wrapU, half_sum, toNat_sub1, toNat_add1, Int.toNat_natCast])
  repeat' (first
    | (with_reducible refine hK _ ?_; clear hK K)
    | ((with_reducible refine callGoal_inline Γ_ok Try.func21 rfl (by kernel_rfl) (by first | exact trivial | (simp only [go_sem, and_self]; done) | (simp only [go_sem]; omega)) ?_); simp only [Try.ntmps21, Try.results21, List.length_cons, List.length_nil, Nat.reduceSub, Nat.reduceAdd, List.replicate, List.cons_append, List.nil_append])
    | ((with_reducible first | apply callGoal_lookA (take_tc _ _ _ _) | apply dCall_lookA (take_tc _ _ _ _) | apply callGoal_lookA (rising_tc _ hl) | apply dCall_lookA (rising_tc _ hl)); (case hC => first | exact trivial | (simp only [go_sem, and_self]; done) | (simp only [go_sem]; omega)); (case hc => ((repeat' (first | exact CvL.nil | exact Cv.nil_view | refine CvL.cons ?_ ?_ | exact Cv.imm rfl | (refine Cv.free ?_; simp [Free, FreeL] <;> assumption) | (refine Cv.free (fun _ _ => FreeL_nth ?_ _); simp [Free, FreeL]; done) | refine Cv.agg ?_ | (apply Cv.own; (case hob => (with_unfolding_all exact rfl)); (case hz => decide); (case hE => (first | (intro _ _ _ _; rfl) | (intro i j hi hj; (rcases i with _ | _ | i) <;> (rcases j with _ | _ | _ | _ | j) <;> first | rfl | (exfalso; omega)))); (case hf => (intro _ _; simp; done))) | (refine Cv.pvE ?_ ?_ (by decide); (focus (first | (intro _ _ _ _; rfl) | (intro i j hi hj; (rcases i with _ | _ | i) <;> (rcases j with _ | _ | _ | _ | j) <;> first | rfl | (exfalso; omega)))); (focus (intro _ _; simp; done))) | (apply Cv.ownS; (case hob => (with_unfolding_all exact rfl)); (case hz => decide); (case hle => (first | omega | (simp only [decide_eq_true_eq] at hg; omega) | (simp; omega))); (case hE => (intro _ _ _ _; first | (rw [Nat.zero_add]; done) | (rw [Nat.zero_add]; rfl))); (case hf => (intro _ _; simp; done))) | (refine Cv.viewE (by decide) ?_ ?_; (focus (intro _ _ _ _; first | rfl)); (focus (intro _ _; simp; done))) | refine Cv.ptr (by with_unfolding_all rfl) (by with_unfolding_all rfl) ?_ | refine Cv.fn ?_ ?_)); done)))
    | ((with_reducible first | apply gC_lookA (fun hg => (take_tc _ _ _ _)) | apply dCall_lookGA (fun hg => (take_tc _ _ _ _)) | apply gC_lookA (fun hg => (rising_tc _ hl)) | apply dCall_lookGA (fun hg => (rising_tc _ hl))); (case hC => (intro hg; first | exact trivial | exact hg | (simp only [hg, and_self, implies_true]; done) | (simp only [go_sem, hg, and_self, implies_true]; done))); (case hc => (intro hg; ((repeat' (first | exact CvL.nil | exact Cv.nil_view | refine CvL.cons ?_ ?_ | exact Cv.imm rfl | (refine Cv.free ?_; simp [Free, FreeL] <;> assumption) | (refine Cv.free (fun _ _ => FreeL_nth ?_ _); simp [Free, FreeL]; done) | refine Cv.agg ?_ | (apply Cv.own; (case hob => (with_unfolding_all exact rfl)); (case hz => decide); (case hE => (first | (intro _ _ _ _; rfl) | (intro i j hi hj; (rcases i with _ | _ | i) <;> (rcases j with _ | _ | _ | _ | j) <;> first | rfl | (exfalso; omega)))); (case hf => (intro _ _; simp; done))) | (refine Cv.pvE ?_ ?_ (by decide); (focus (first | (intro _ _ _ _; rfl) | (intro i j hi hj; (rcases i with _ | _ | i) <;> (rcases j with _ | _ | _ | _ | j) <;> first | rfl | (exfalso; omega)))); (focus (intro _ _; simp; done))) | (apply Cv.ownS; (case hob => (with_unfolding_all exact rfl)); (case hz => decide); (case hle => (first | omega | (simp only [decide_eq_true_eq] at hg; omega) | (simp; omega))); (case hE => (intro _ _ _ _; first | (rw [Nat.zero_add]; done) | (rw [Nat.zero_add]; rfl))); (case hf => (intro _ _; simp; done))) | (refine Cv.viewE (by decide) ?_ ?_; (focus (intro _ _ _ _; first | rfl)); (focus (intro _ _; simp; done))) | refine Cv.ptr (by with_unfolding_all rfl) (by with_unfolding_all rfl) ?_ | refine Cv.fn ?_ ?_)); done))))
    | ((with_reducible apply DC_call); (focus exact rfl); (focus exact rfl); (focus exact rfl); intro N hN; (simp only [go_sem, ↓reduceIte, Nat.reduceAdd, Nat.reduceSub, Nat.reduceMul, Nat.reduceLT, Nat.reduceLeDiff, Nat.reduceEqDiff, Nat.reduceGT, Int.reduceToNat, Int.reduceBEq, Int.reduceBNe]; try simp (disch := omega) only [wrapI, wrapU, half_sum, toNat_sub1, toNat_add1, Int.toNat_natCast]))
    | ((with_reducible first | refine T_seq_region Γ_ok (fun K hK => ?_) | refine T_last_region Γ_ok (fun K hK => ?_) | refine TO_callN rfl (fun N hN => ?_) | refine DCT_fork Γ_ok (fun K2 hK2 => ?_) | refine DCT_last Γ_ok ?_ | refine DC_ev Γ_ok ?_ | refine TO_ev Γ_ok ?_ | refine retQ_r ?_ | refine retQ_n ?_); (simp only [go_sem, ↓reduceIte, Nat.reduceAdd, Nat.reduceSub, Nat.reduceMul, Nat.reduceLT, Nat.reduceLeDiff, Nat.reduceEqDiff, Nat.reduceGT, Int.reduceToNat, Int.reduceBEq, Int.reduceBNe]; try simp (disch := omega) only [wrapI, wrapU, half_sum, toNat_sub1, toNat_add1, Int.toNat_natCast]))
    | (with_reducible refine hK2 _ ?_ ?_ <;> clear hK2 K2)
    | with_reducible refine gC_false ?_ | with_reducible refine gC_true ?_
    | (with_reducible refine hN _ _ ?_; clear hN N)
    | (with_reducible refine hN _ _ (dInl rfl) ?_; clear hN N)
    | ((with_reducible refine hN _ _ (.inr ?_) ?_); (focus (simp only [go_sem, ↓reduceIte, Nat.reduceAdd, Nat.reduceSub, Nat.reduceMul, Nat.reduceLT, Nat.reduceLeDiff, Nat.reduceEqDiff, Nat.reduceGT, Int.reduceToNat, Int.reduceBEq, Int.reduceBNe]; try simp (disch := omega) only [wrapI, wrapU, half_sum, toNat_sub1, toNat_add1, Int.toNat_natCast])); clear hN N)
    | with_reducible refine T_seq ?_ | with_reducible refine T_block ?_ | with_reducible refine T_ret ?_ | with_reducible refine T_exit ?_ | with_reducible refine T_skip ?_ | with_reducible refine T_label ?_
    | with_reducible refine thenQ_n ?_ | with_reducible refine thenQ_e ?_ | with_reducible refine thenQ_r ?_ | with_reducible refine blockQ_n ?_ | with_reducible refine blockQ_e ?_ | with_reducible refine blockQ_r ?_
    | with_reducible refine blockQ_o (by decide) ?_
    | ((with_reducible refine T_cond _ rfl (fun hb => ?_) (fun hb => ?_)) <;> first | (cases hb; done) | (simp only [decide_eq_true_eq, decide_eq_false_iff_not, Bool.and_eq_true, Bool.or_eq_true, Bool.and_eq_false_imp, Bool.or_eq_false_iff, Bool.not_eq_true', Bool.not_eq_false', beq_iff_eq, bne_iff_ne, ne_eq, beq_eq_false_iff_ne, Int.not_lt, Int.not_le, ge_iff_le, gt_iff_lt] at hb) | skip)
    | (with_reducible refine And.intro (by first | exact trivial | omega | (intro hg; simp at hg ⊢ <;> omega) | (simp <;> omega)) ?_)
    | assumption | omega)
  · exact immD ⟨fun h => Bool.noConfusion h, fun h => by have := h.1 i (by omega); unfold OkT at this; simp_all⟩
  · refine ⟨l.length - (i + 1), by omega, _, ?_, i + 1, by omega, by omega, fun j hj => ?_, rfl⟩
    · ((try simp only [List.length_append, List.length_cons, List.length_nil, Nat.zero_add]); refine Wk.intro [] (by decide) (by decide) (by intro o ho; simp at ho ⊢ <;> omega) ?_ ?_ <;> repeat' (first | exact WkVL.nil | refine WkVL.cons ?_ ?_ | exact WkV.top | exact WkV.imm rfl | exact WkV.imm (by simp) | exact WkV.optr rfl | exact WkV.own rfl (by simp) | exact WkV.nil_own (.inl rfl) | exact WkV.map rfl | (refine WkV.free ?_; simp [Free, FreeL] <;> assumption) | (refine WkV.free (fun _ _ => FreeL_nth ?_ _); simp [Free, FreeL]; done) | refine WkV.agg ?_ | refine WkV.tup ?_ | refine WkV.fn ?_ ?_ | exact WkO.dead | exact WkO.mpE rfl trivial | refine WkO.box ?_ rfl | refine WkO.arr ?_ | refine And.intro ?_ (And.intro (fun h => h) ?_) | exact trivial | (intro i j hi hj)))
    · by_cases hji : j = i
      · rw [hji]; assumption
      · exact h3 j (by omega)
  · exact immD ⟨fun h => ⟨fun j hj => h3 j (by omega), of_decide_eq_true h⟩, fun h => decide_eq_true h.2⟩
end Go.Proofs.Ytnomenmakhielaa

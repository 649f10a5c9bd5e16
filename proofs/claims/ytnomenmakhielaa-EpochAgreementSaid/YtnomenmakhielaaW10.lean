/-
  Contract of epoch.Learn.
-/
import Derived.Test.YtnomenmakhielaaW9
set_option linter.unusedSimpArgs false
set_option linter.unusedVariables false
namespace Go.Proofs.Ytnomenmakhielaa
open Go.Ab

/-- Is a section known? -/
def knows (l : List Tk) (k : Int) : Prop := low l k < l.length ∧ (gt l (low l k)).s = k

noncomputable def learnR (l : List Tk) (t : Tk) : List Tk × Int :=
  open Classical in if OkT t ∧ Val l then (if knows l t.s then (if gt l (low l t.s) = t then ([], 5) else ([], 23)) else (lrn l t, 0)) else ([], 1)

theorem Tk.ext_iff' {a b : Tk} : a = b ↔ a.s = b.s ∧ a.c = b.c ∧ a.n = b.n ∧ a.d = b.d := by
  cases a; cases b; simp

theorem find_cases (l : List Tk) (k : Int) : (findV l k = (⟨0, 0, 0, 0⟩, 1) ∧ ¬ (Val l ∧ 1 ≤ k ∧ k ≤ 15)) ∨ (findV l k = (gt l (low l k), 0) ∧ Val l ∧ 1 ≤ k ∧ k ≤ 15 ∧ knows l k) ∨ (findV l k = (⟨0, 0, 0, 0⟩, 4) ∧ Val l ∧ 1 ≤ k ∧ k ≤ 15 ∧ ¬ knows l k) := by
  unfold findV knows
  split
  · rename_i h
    split
    · rename_i h2; exact .inr (.inl ⟨rfl, h.1, h.2.1, h.2.2, h2⟩)
    · rename_i h2; exact .inr (.inr ⟨rfl, h.1, h.2.1, h.2.2, h2⟩)
  · rename_i h; exact .inl ⟨rfl, h⟩
theorem find4 {l : List Tk} {k : Int} (h : (findV l k).2 = 4) : Val l ∧ ¬ knows l k := by
  rcases find_cases l k with ⟨e, h2⟩ | ⟨e, h2⟩ | ⟨e, h2⟩
  · rw [e] at h; simp at h
  · rw [e] at h; simp at h
  · exact ⟨h2.1, h2.2.2.2⟩

open Classical in
set_option maxRecDepth 100000 in
set_option maxHeartbeats 400000 in
theorem learn_raw (l : List Tk) (t : Tk) (hl : l.length ≤ 9223372036854775807) : TC Try.prog 10 [tks l, tkA t] [] (fun v σ' =>
    (v = .tup [.imm (.slice none 0 0), .imm (.int .i64 (learnR l t).2)] ∧ (learnR l t).1.length = 0) ∨ ∃ k E', v = .tup [.own k 0 (learnR l t).1.length none, .imm (.int .i64 (learnR l t).2)] ∧ nthO σ' k = .arr 41 4 (learnR l t).1.length E' ∧ ∀ i j, i < (learnR l t).1.length → E' i j = tkE (learnR l t).1 i j) := by
  refine TC_of_T Γ_ok Try.func10 rfl (by kernel_rfl) ?_
  simp only [Try.ntmps10, Try.results10, List.length_cons, List.length_nil, Nat.reduceSub, Nat.reduceAdd, List.replicate, List.cons_append, List.nil_append]
  repeat' (first
    | (with_reducible refine hK _ ?_; clear hK K)
    | ((with_reducible apply dCall_any); (focus ((with_reducible refine callGoal_inline Γ_ok Try.func21 rfl (by kernel_rfl) (by first | exact trivial | (simp only [go_sem, and_self]; done) | (simp only [go_sem]; omega)) ?_); simp only [Try.ntmps21, Try.results21, List.length_cons, List.length_nil, Nat.reduceSub, Nat.reduceAdd, List.replicate, List.cons_append, List.nil_append])))
    | (with_reducible exact And.intro rfl rfl)
    | ((with_reducible apply callGoal_makeA (with_tc l (Nat.le_trans (find4 hb).1.len (by decide)) (find4 hb).1.ris _)); (case hC => first | exact trivial | (simp only [go_sem, and_self]; done) | (simp only [go_sem]; omega)); (case hc => ((repeat' (first | exact CvL.nil | exact Cv.nil_view | refine CvL.cons ?_ ?_ | exact Cv.imm rfl | (refine Cv.free ?_; simp [Free, FreeL] <;> assumption) | (refine Cv.free (fun _ _ => FreeL_nth ?_ _); simp [Free, FreeL]; done) | refine Cv.agg ?_ | (apply Cv.own; (case hob => (with_unfolding_all exact rfl)); (case hz => decide); (case hE => (first | (intro _ _ _ _; rfl) | (intro i j hi hj; (rcases i with _ | _ | i) <;> (rcases j with _ | _ | _ | _ | j) <;> first | rfl | (exfalso; omega)))); (case hf => (intro _ _; simp; done))) | (refine Cv.pvE ?_ ?_ (by decide); (focus (first | (intro _ _ _ _; rfl) | (intro i j hi hj; (rcases i with _ | _ | i) <;> (rcases j with _ | _ | _ | _ | j) <;> first | rfl | (exfalso; omega)))); (focus (intro _ _; simp; done))) | (apply Cv.ownS; (case hob => (with_unfolding_all exact rfl)); (case hz => decide); (case hle => (first | omega | (simp only [decide_eq_true_eq] at hg; omega) | (simp; omega))); (case hE => (intro _ _ _ _; first | (rw [Nat.zero_add]; done) | (rw [Nat.zero_add]; rfl))); (case hf => (intro _ _; simp; done))) | (refine Cv.viewE (by decide) ?_ ?_; (focus (intro _ _ _ _; first | rfl)); (focus (intro _ _; simp; done))) | refine Cv.ptr (by with_unfolding_all rfl) (by with_unfolding_all rfl) ?_ | refine Cv.fn ?_ ?_)); done)); (case' hn => (simp only [go_sem, ↓reduceIte, Nat.reduceAdd, Nat.reduceSub, Nat.reduceMul, Nat.reduceLT, Nat.reduceLeDiff, Nat.reduceEqDiff, Nat.reduceGT, Int.reduceToNat, Int.reduceBEq, Int.reduceBNe]; try simp (disch := omega) only [wrapI, wrapU, half_sum, toNat_sub1, toNat_add1, Int.toNat_natCast])))
    | ((with_reducible apply dCall_makeA (with_tc l (Nat.le_trans (find4 hb).1.len (by decide)) (find4 hb).1.ris _)); (case hC => first | exact trivial | (simp only [go_sem, and_self]; done) | (simp only [go_sem]; omega)); (case hc => ((repeat' (first | exact CvL.nil | exact Cv.nil_view | refine CvL.cons ?_ ?_ | exact Cv.imm rfl | (refine Cv.free ?_; simp [Free, FreeL] <;> assumption) | (refine Cv.free (fun _ _ => FreeL_nth ?_ _); simp [Free, FreeL]; done) | refine Cv.agg ?_ | (apply Cv.own; (case hob => (with_unfolding_all exact rfl)); (case hz => decide); (case hE => (first | (intro _ _ _ _; rfl) | (intro i j hi hj; (rcases i with _ | _ | i) <;> (rcases j with _ | _ | _ | _ | j) <;> first | rfl | (exfalso; omega)))); (case hf => (intro _ _; simp; done))) | (refine Cv.pvE ?_ ?_ (by decide); (focus (first | (intro _ _ _ _; rfl) | (intro i j hi hj; (rcases i with _ | _ | i) <;> (rcases j with _ | _ | _ | _ | j) <;> first | rfl | (exfalso; omega)))); (focus (intro _ _; simp; done))) | (apply Cv.ownS; (case hob => (with_unfolding_all exact rfl)); (case hz => decide); (case hle => (first | omega | (simp only [decide_eq_true_eq] at hg; omega) | (simp; omega))); (case hE => (intro _ _ _ _; first | (rw [Nat.zero_add]; done) | (rw [Nat.zero_add]; rfl))); (case hf => (intro _ _; simp; done))) | (refine Cv.viewE (by decide) ?_ ?_; (focus (intro _ _ _ _; first | rfl)); (focus (intro _ _; simp; done))) | refine Cv.ptr (by with_unfolding_all rfl) (by with_unfolding_all rfl) ?_ | refine Cv.fn ?_ ?_)); done)); (case' hn => (simp only [go_sem, ↓reduceIte, Nat.reduceAdd, Nat.reduceSub, Nat.reduceMul, Nat.reduceLT, Nat.reduceLeDiff, Nat.reduceEqDiff, Nat.reduceGT, Int.reduceToNat, Int.reduceBEq, Int.reduceBNe]; try simp (disch := omega) only [wrapI, wrapU, half_sum, toNat_sub1, toNat_add1, Int.toNat_natCast])))
    | ((with_reducible first | apply callGoal_lookA (take_tc _ _ _ _) | apply dCall_lookA (take_tc _ _ _ _) | apply callGoal_lookA (find_tc l _ hl) | apply dCall_lookA (find_tc l _ hl)); (case hC => first | exact trivial | (simp only [go_sem, and_self]; done) | (simp only [go_sem]; omega)); (case hc => ((repeat' (first | exact CvL.nil | exact Cv.nil_view | refine CvL.cons ?_ ?_ | exact Cv.imm rfl | (refine Cv.free ?_; simp [Free, FreeL] <;> assumption) | (refine Cv.free (fun _ _ => FreeL_nth ?_ _); simp [Free, FreeL]; done) | refine Cv.agg ?_ | (apply Cv.own; (case hob => (with_unfolding_all exact rfl)); (case hz => decide); (case hE => (first | (intro _ _ _ _; rfl) | (intro i j hi hj; (rcases i with _ | _ | i) <;> (rcases j with _ | _ | _ | _ | j) <;> first | rfl | (exfalso; omega)))); (case hf => (intro _ _; simp; done))) | (refine Cv.pvE ?_ ?_ (by decide); (focus (first | (intro _ _ _ _; rfl) | (intro i j hi hj; (rcases i with _ | _ | i) <;> (rcases j with _ | _ | _ | _ | j) <;> first | rfl | (exfalso; omega)))); (focus (intro _ _; simp; done))) | (apply Cv.ownS; (case hob => (with_unfolding_all exact rfl)); (case hz => decide); (case hle => (first | omega | (simp only [decide_eq_true_eq] at hg; omega) | (simp; omega))); (case hE => (intro _ _ _ _; first | (rw [Nat.zero_add]; done) | (rw [Nat.zero_add]; rfl))); (case hf => (intro _ _; simp; done))) | (refine Cv.viewE (by decide) ?_ ?_; (focus (intro _ _ _ _; first | rfl)); (focus (intro _ _; simp; done))) | refine Cv.ptr (by with_unfolding_all rfl) (by with_unfolding_all rfl) ?_ | refine Cv.fn ?_ ?_)); done)))
    | ((with_reducible first | apply gC_lookA (fun hg => (take_tc _ _ _ _)) | apply dCall_lookGA (fun hg => (take_tc _ _ _ _)) | apply gC_lookA (fun hg => (find_tc l _ hl)) | apply dCall_lookGA (fun hg => (find_tc l _ hl))); (case hC => (intro hg; first | exact trivial | exact hg | (simp only [hg, and_self, implies_true]; done) | (simp only [go_sem, hg, and_self, implies_true]; done))); (case hc => (intro hg; ((repeat' (first | exact CvL.nil | exact Cv.nil_view | refine CvL.cons ?_ ?_ | exact Cv.imm rfl | (refine Cv.free ?_; simp [Free, FreeL] <;> assumption) | (refine Cv.free (fun _ _ => FreeL_nth ?_ _); simp [Free, FreeL]; done) | refine Cv.agg ?_ | (apply Cv.own; (case hob => (with_unfolding_all exact rfl)); (case hz => decide); (case hE => (first | (intro _ _ _ _; rfl) | (intro i j hi hj; (rcases i with _ | _ | i) <;> (rcases j with _ | _ | _ | _ | j) <;> first | rfl | (exfalso; omega)))); (case hf => (intro _ _; simp; done))) | (refine Cv.pvE ?_ ?_ (by decide); (focus (first | (intro _ _ _ _; rfl) | (intro i j hi hj; (rcases i with _ | _ | i) <;> (rcases j with _ | _ | _ | _ | j) <;> first | rfl | (exfalso; omega)))); (focus (intro _ _; simp; done))) | (apply Cv.ownS; (case hob => (with_unfolding_all exact rfl)); (case hz => decide); (case hle => (first | omega | (simp only [decide_eq_true_eq] at hg; omega) | (simp; omega))); (case hE => (intro _ _ _ _; first | (rw [Nat.zero_add]; done) | (rw [Nat.zero_add]; rfl))); (case hf => (intro _ _; simp; done))) | (refine Cv.viewE (by decide) ?_ ?_; (focus (intro _ _ _ _; first | rfl)); (focus (intro _ _; simp; done))) | refine Cv.ptr (by with_unfolding_all rfl) (by with_unfolding_all rfl) ?_ | refine Cv.fn ?_ ?_)); done))))
    | ((with_reducible apply DC_call); (focus exact rfl); (focus exact rfl); (focus exact rfl); intro N hN; (simp only [go_sem, ↓reduceIte, Nat.reduceAdd, Nat.reduceSub, Nat.reduceMul, Nat.reduceLT, Nat.reduceLeDiff, Nat.reduceEqDiff, Nat.reduceGT, Int.reduceToNat, Int.reduceBEq, Int.reduceBNe]; try simp (disch := omega) only [wrapI, wrapU, half_sum, toNat_sub1, toNat_add1, Int.toNat_natCast]))
    | ((with_reducible first | refine T_seq_region Γ_ok (fun K hK => ?_) | refine T_last_region Γ_ok (fun K hK => ?_) | refine T_seq_draw (id := 7) Γ_ok drawsAny [(0, [], []), (2, [], []), (1, [0], [2]), (3, [0, 1, 2], []), (4, [0, 1, 2, 3], []), (5, [0, 1, 2, 3, 4], []), (6, [0, 1, 2, 3, 4, 5], [])] (by kernel_rfl) (fun K hK => ?_) | refine T_last_draw (id := 7) Γ_ok drawsAny [(0, [], []), (2, [], []), (1, [0], [2]), (3, [0, 1, 2], []), (4, [0, 1, 2, 3], []), (5, [0, 1, 2, 3, 4], []), (6, [0, 1, 2, 3, 4, 5], [])] (by kernel_rfl) (fun K hK => ?_) | refine TO_callN rfl (fun N hN => ?_) | refine DCT_fork Γ_ok (fun K2 hK2 => ?_) | refine DCT_last Γ_ok ?_ | refine DC_ev Γ_ok ?_ | refine TO_ev Γ_ok ?_ | refine retQ_r ?_ | refine retQ_n ?_); (simp only [go_sem, ↓reduceIte, Nat.reduceAdd, Nat.reduceSub, Nat.reduceMul, Nat.reduceLT, Nat.reduceLeDiff, Nat.reduceEqDiff, Nat.reduceGT, Int.reduceToNat, Int.reduceBEq, Int.reduceBNe]; try simp (disch := omega) only [wrapI, wrapU, half_sum, toNat_sub1, toNat_add1, Int.toNat_natCast]))
    | (with_reducible refine hK2 _ ?_ ?_ <;> clear hK2 K2)
    | with_reducible refine gC_false ?_ | with_reducible refine gC_true ?_
    | (with_reducible refine hN _ _ ?_; clear hN N)
    | (with_reducible refine hN _ _ (dInl rfl) ?_; clear hN N)
    | ((with_reducible refine hN _ _ (.inr ?_) ?_); (focus (simp only [go_sem, ↓reduceIte, Nat.reduceAdd, Nat.reduceSub, Nat.reduceMul, Nat.reduceLT, Nat.reduceLeDiff, Nat.reduceEqDiff, Nat.reduceGT, Int.reduceToNat, Int.reduceBEq, Int.reduceBNe]; try simp (disch := omega) only [wrapI, wrapU, half_sum, toNat_sub1, toNat_add1, Int.toNat_natCast])); clear hN N)
    | with_reducible refine T_seq ?_ | with_reducible refine T_block ?_ | with_reducible refine T_ret ?_ | with_reducible refine T_exit ?_ | with_reducible refine T_skip ?_ | with_reducible refine T_label ?_
    | with_reducible refine thenQ_n ?_ | with_reducible refine thenQ_e ?_ | with_reducible refine thenQ_r ?_ | with_reducible refine blockQ_n ?_ | with_reducible refine blockQ_e ?_ | with_reducible refine blockQ_r ?_
    | with_reducible refine blockQ_o (by decide) ?_
    | ((with_reducible refine T_cond _ rfl (fun hb => ?_) (fun hb => ?_)) <;> first | (cases hb; done) | (simp only [decide_eq_true_eq, decide_eq_false_iff_not, Bool.and_eq_true, Bool.or_eq_true, Bool.and_eq_false_imp, Bool.or_eq_false_iff, Bool.not_eq_true', Bool.not_eq_false', beq_iff_eq, bne_iff_ne, ne_eq, beq_eq_false_iff_ne, Int.not_lt, Int.not_le, ge_iff_le, gt_iff_lt] at hb) | skip)
    | (with_reducible refine And.intro (by first | exact trivial | omega | (intro hg; simp at hg ⊢ <;> omega) | (simp <;> omega)) ?_)
    | assumption | omega)
  · left
    have e : learnR l t = ([], 1) := by unfold learnR; rw [if_neg]; rintro ⟨h, _⟩; unfold OkT at h; rw [hb] at h; cases h
    simp [e]
  all_goals have hok : OkT t := by assumption
  all_goals have hs := hok.sec
  all_goals have hc := find_cases l t.s
  all_goals generalize findV l t.s = q at *
  all_goals rcases hc with ⟨rfl, h2⟩ | ⟨rfl, h2, h3, h4, h5⟩ | ⟨rfl, h2, h3, h4, h5⟩
  all_goals try (exfalso; simp at *; done)
  all_goals try (exfalso; exact h2 ⟨by assumption, hs⟩)
  · left
    have e : learnR l t = ([], 1) := by unfold learnR; rw [if_neg]; rintro ⟨_, h⟩; exact h2 ⟨h, hs⟩
    simp [e]
  · right
    have e : learnR l t = (lrn l t, 0) := by unfold learnR; rw [if_pos ⟨hok, h2⟩, if_neg h5]
    rw [e]
    exact ⟨3, _, rfl, rfl, fun _ _ _ => rfl⟩
  · left
    have e : learnR l t = ([], 5) := by unfold learnR; rw [if_pos ⟨hok, h2⟩, if_pos h5, if_pos (Tk.ext_iff'.2 hb)]
    simp [e]
  · left
    have e : learnR l t = ([], 23) := by unfold learnR; rw [if_pos ⟨hok, h2⟩, if_pos h5, if_neg]; intro h; rw [Tk.ext_iff'] at h; exact hb h.1 h.2.1 h.2.2.1 h.2.2.2
    simp [e]

theorem learn_tc (l : List Tk) (t : Tk) (hl : l.length ≤ 9223372036854775807) : Makes Try.prog 10 [tks l, tkA t] (.tup [ownT (learnR l t).1, .imm (.int .i64 (learnR l t).2)]) [tkO (learnR l t).1] :=
  Makes.lst (fun i j => tkE_pl _ i j) trivial (learn_raw l t hl)
end Go.Proofs.Ytnomenmakhielaa

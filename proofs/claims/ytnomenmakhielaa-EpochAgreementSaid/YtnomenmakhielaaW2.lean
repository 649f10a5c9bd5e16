/-
  Contract of the method rising of a log by sections, for logs of any length that a slice can have.
-/
import Derived.Test.YtnomenmakhielaaW1
import Derived.Test.YtnomenmakhielaaAb19
set_option linter.unusedSimpArgs false
set_option linter.unusedVariables false
namespace Go.Proofs.Ytnomenmakhielaa
open Go.Ab

/-- A take. -/
structure Tk where
  s : Int
  c : Int
  n : Int
  d : Int

@[go_sem, reducible] def tkL (t : Tk) : List AV := [.imm (.int .i64 t.s), .imm (.int .i64 t.c), .imm (.int .i64 t.n), .imm (.int .i64 t.d)]
@[go_sem, reducible] def tkA (t : Tk) : AV := .agg (tkL t)
def gt (l : List Tk) (i : Nat) : Tk := l.getD i ⟨0, 0, 0, 0⟩
def tkE (l : List Tk) (i j : Nat) : AV := nth (tkL (gt l i)) j
@[go_sem] theorem tkE_0 (l : List Tk) (i : Nat) : tkE l i 0 = .imm (.int .i64 (gt l i).s) := rfl
@[go_sem] theorem tkE_1 (l : List Tk) (i : Nat) : tkE l i 1 = .imm (.int .i64 (gt l i).c) := rfl
@[go_sem] theorem tkE_2 (l : List Tk) (i : Nat) : tkE l i 2 = .imm (.int .i64 (gt l i).n) := rfl
@[go_sem] theorem tkE_3 (l : List Tk) (i : Nat) : tkE l i 3 = .imm (.int .i64 (gt l i).d) := rfl
theorem immD {b : Bool} {p : Prop} {_ : Decidable p} (h : b = true ↔ p) : AV.imm (.bool b) = .imm (.bool (decide p)) := by
  congr 2
  cases b with
  | true => exact (decide_eq_true (h.1 rfl)).symm
  | false => exact (decide_eq_false fun q => by cases h.2 q).symm
theorem tkE_cases (l : List Tk) (i j : Nat) (Q : AV → Prop) (h0 : ∀ v, Q (.imm v)) (ht : Q .top) : Q (tkE l i j) := by
  match j with
  | 0 => exact h0 _
  | 1 => exact h0 _
  | 2 => exact h0 _
  | 3 => exact h0 _
  | j + 4 => exact ht
@[simp] theorem tkE_free (l : List Tk) (i j : Nat) : Free (tkE l i j) := tkE_cases l i j Free (fun _ => trivial) trivial
@[simp] theorem tkE_pl (l : List Tk) (i j : Nat) : Pl (tkE l i j) := tkE_cases l i j Pl (fun _ => trivial) trivial
@[go_sem, reducible] def tks (l : List Tk) : AV := .view l.length 4 (tkE l)
@[go_sem, reducible] def srt (l : List Tk) : AV := .agg [tks l, .fn (.func 39) [] []]

set_option maxRecDepth 100000 in
set_option maxHeartbeats 400000 in
theorem section_tc (s c n d : Int) : Look Try.prog 39 [.agg [.imm (.int .i64 s), .imm (.int .i64 c), .imm (.int .i64 n), .imm (.int .i64 d)]] (.imm (.int .i64 s)) := by
  refine Look.mk trivial ?_
  refine TC_of_T Γ_ok Try.func39 rfl (by kernel_rfl) ?_
  simp only [Try.ntmps39, Try.results39, List.length_cons, List.length_nil, Nat.reduceSub, Nat.reduceAdd, List.replicate, List.cons_append, List.nil_append]
  repeat' (first
    | (with_reducible refine hK _ ?_; clear hK K)
    | ((with_reducible apply DC_call); (focus exact rfl); (focus exact rfl); (focus exact rfl); intro N hN; (simp only [go_sem, ↓reduceIte, Nat.reduceAdd, Nat.reduceSub, Nat.reduceMul, Nat.reduceLT, Nat.reduceLeDiff, Nat.reduceEqDiff, Nat.reduceGT, Int.reduceToNat, Int.reduceBEq, Int.reduceBNe]; try simp (disch := omega) only [wrapI, wrapU, half_sum, toNat_sub1, toNat_add1, Int.toNat_natCast]))
    | ((with_reducible first | refine T_seq_region Γ_ok (fun K hK => ?_) | refine T_last_region Γ_ok (fun K hK => ?_) | refine TO_callN rfl (fun N hN => ?_) | refine DCT_fork Γ_ok (fun K2 hK2 => ?_) | refine DCT_last Γ_ok ?_ | refine DC_ev Γ_ok ?_ | refine TO_ev Γ_ok ?_ | refine retQ_r ?_ | refine retQ_n ?_); (simp only [go_sem, ↓reduceIte, Nat.reduceAdd, Nat.reduceSub, Nat.reduceMul, Nat.reduceLT, Nat.reduceLeDiff, Nat.reduceEqDiff, Nat.reduceGT, Int.reduceToNat, Int.reduceBEq, Int.reduceBNe]; try simp (disch := omega) only [wrapI, wrapU, half_sum, toNat_sub1, toNat_add1, Int.toNat_natCast]))
    | (with_reducible refine hK2 _ ?_ ?_ <;> clear hK2 K2)
    | with_reducible refine gC_false ?_ | with_reducible refine gC_true ?_
    | (with_reducible refine hN _ _ ?_; clear hN N)
    | (with_reducible refine hN _ _ (dInl rfl) ?_; clear hN N)
    | ((with_reducible refine hN _ _ (.inr ?_) ?_); (focus (simp only [go_sem, ↓reduceIte, Nat.reduceAdd, Nat.reduceSub, Nat.reduceMul, Nat.reduceLT, Nat.reduceLeDiff, Nat.reduceEqDiff, Nat.reduceGT, Int.reduceToNat, Int.reduceBEq, Int.reduceBNe]; try simp (disch := omega) only [wrapI, wrapU, half_sum, toNat_sub1, toNat_add1, Int.toNat_natCast])); clear hN N)
    | with_reducible refine T_seq ?_ | with_reducible refine T_block ?_ | with_reducible refine T_ret ?_ | with_reducible refine T_exit ?_ | with_reducible refine T_skip ?_ | with_reducible refine T_label ?_
    | with_reducible refine thenQ_n ?_ | with_reducible refine thenQ_e ?_ | with_reducible refine thenQ_r ?_ | with_reducible refine blockQ_n ?_ | with_reducible refine blockQ_e ?_ | with_reducible refine blockQ_r ?_
    | with_reducible refine blockQ_o (by decide) ?_
    | ((with_reducible refine T_cond _ rfl (fun hb => ?_) (fun hb => ?_)) <;> first | (cases hb; done) | (simp only [decide_eq_true_eq, decide_eq_false_iff_not, Bool.and_eq_true, Bool.or_eq_true, Bool.and_eq_false_imp, Bool.or_eq_false_iff, Bool.not_eq_true', Bool.not_eq_false', beq_iff_eq, bne_iff_ne, ne_eq, beq_eq_false_iff_ne, Int.not_lt, Int.not_le, ge_iff_le, gt_iff_lt] at hb) | skip)
    | (with_reducible refine And.intro (by first | exact trivial | omega | (intro hg; simp at hg ⊢ <;> omega) | (simp <;> omega)) ?_)
    | assumption | omega)
  all_goals rfl

def Ris (l : List Tk) : Prop := ∀ i, i + 1 < l.length → (gt l i).s < (gt l (i + 1)).s

open Classical in
set_option maxRecDepth 100000 in
set_option maxHeartbeats 400000 in
theorem rising_tc (l : List Tk) (hl : l.length ≤ 9223372036854775807) : Look Try.prog 25 [srt l] (.imm (.bool (decide (Ris l)))) := by
  refine Look.mk trivial ?_
  refine TC_of_T Γ_ok Try.func25 rfl (by kernel_rfl) ?_
  simp only [Try.ntmps25, Try.results25, List.length_cons, List.length_nil, Nat.reduceSub, Nat.reduceAdd, List.replicate, List.cons_append, List.nil_append]
  repeat' (first
    | (with_reducible refine hK _ ?_; clear hK K)
    | ((with_reducible apply DC_call); (focus exact rfl); (focus exact rfl); (focus exact rfl); intro N hN; (simp only [go_sem, ↓reduceIte, Nat.reduceAdd, Nat.reduceSub, Nat.reduceMul, Nat.reduceLT, Nat.reduceLeDiff, Nat.reduceEqDiff, Nat.reduceGT, Int.reduceToNat, Int.reduceBEq, Int.reduceBNe]; try simp (disch := omega) only [wrapI, wrapU, half_sum, toNat_sub1, toNat_add1, Int.toNat_natCast]))
    | ((with_reducible first | refine T_seq_region Γ_ok (fun K hK => ?_) | refine T_last_region Γ_ok (fun K hK => ?_) | refine TO_callN rfl (fun N hN => ?_) | refine DCT_fork Γ_ok (fun K2 hK2 => ?_) | refine DCT_last Γ_ok ?_ | refine DC_ev Γ_ok ?_ | refine TO_ev Γ_ok ?_ | refine retQ_r ?_ | refine retQ_n ?_); (simp only [go_sem, ↓reduceIte, Nat.reduceAdd, Nat.reduceSub, Nat.reduceMul, Nat.reduceLT, Nat.reduceLeDiff, Nat.reduceEqDiff, Nat.reduceGT, Int.reduceToNat, Int.reduceBEq, Int.reduceBNe]; try simp (disch := omega) only [wrapI, wrapU, half_sum, toNat_sub1, toNat_add1, Int.toNat_natCast]))
    | (with_reducible refine hK2 _ ?_ ?_ <;> clear hK2 K2)
    | with_reducible refine gC_false ?_ | with_reducible refine gC_true ?_
    | (with_reducible refine hN _ _ ?_; clear hN N)
    | (with_reducible refine hN _ _ (dInl rfl) ?_; clear hN N)
    | ((with_reducible refine hN _ _ (.inr ?_) ?_); (focus (simp only [go_sem, ↓reduceIte, Nat.reduceAdd, Nat.reduceSub, Nat.reduceMul, Nat.reduceLT, Nat.reduceLeDiff, Nat.reduceEqDiff, Nat.reduceGT, Int.reduceToNat, Int.reduceBEq, Int.reduceBNe]; try simp (disch := omega) only [wrapI, wrapU, half_sum, toNat_sub1, toNat_add1, Int.toNat_natCast])); clear hN N)
    | with_reducible refine T_seq ?_ | with_reducible refine T_block ?_ | with_reducible refine T_ret ?_ | with_reducible refine T_exit ?_ | with_reducible refine T_skip ?_ | with_reducible refine T_label ?_
    | with_reducible refine thenQ_n ?_ | with_reducible refine thenQ_e ?_ | with_reducible refine thenQ_r ?_ | with_reducible refine blockQ_n ?_ | with_reducible refine blockQ_e ?_ | with_reducible refine blockQ_r ?_
    | with_reducible refine blockQ_o (by decide) ?_
    | ((with_reducible refine T_cond _ rfl (fun hb => ?_) (fun hb => ?_)) <;> first | (cases hb; done) | (simp only [decide_eq_true_eq, decide_eq_false_iff_not, Bool.and_eq_true, Bool.or_eq_true, Bool.and_eq_false_imp, Bool.or_eq_false_iff, Bool.not_eq_true', Bool.not_eq_false', beq_iff_eq, bne_iff_ne, ne_eq, beq_eq_false_iff_ne, Int.not_lt, Int.not_le, ge_iff_le, gt_iff_lt] at hb) | skip)
    | (with_reducible refine And.intro (by first | exact trivial | omega | (intro hg; simp at hg ⊢ <;> omega) | (simp <;> omega)) ?_)
    | assumption | omega)
  refine T_loopW (fun m st => ∃ i : Nat, 1 ≤ i ∧ m + i = l.length + 1 ∧ (∀ j, j + 1 < i → (gt l j).s < (gt l (j + 1)).s) ∧ st = ⟨[srt l, .optr 0 0 0, .imm (.bool false), .imm (.int .i64 i)] ++ List.replicate 25 .top, [.box 75 [tks l, .fn (.func 39) [] []]]⟩)
    l.length ⟨_, Wk.refl _, 1, Nat.le_refl _, rfl, fun j hj => by omega, rfl⟩ ?_
  rintro m st ⟨i, h1, h2, h3, rfl⟩
  (simp only [go_sem, ↓reduceIte, Nat.reduceAdd, Nat.reduceSub, Nat.reduceMul, Nat.reduceLT, Nat.reduceLeDiff, Nat.reduceEqDiff, Nat.reduceGT, Int.reduceToNat, Int.reduceBEq, Int.reduceBNe]; try simp (disch := omega) only [wrapI, wrapU, half_sum, toNat_sub1, toNat_add1, Int.toNat_natCast])
  repeat' (first
    | (with_reducible refine hK _ ?_; clear hK K)
    | ((with_reducible first | apply callGoal_lookA (section_tc _ _ _ _) | apply dCall_lookA (section_tc _ _ _ _)); (case hC => first | exact trivial | (simp only [go_sem, and_self]; done) | (simp only [go_sem]; omega)); (case hc => ((repeat' (first | exact CvL.nil | exact Cv.nil_view | refine CvL.cons ?_ ?_ | exact Cv.imm rfl | (refine Cv.free ?_; simp [Free, FreeL] <;> assumption) | (refine Cv.free (fun _ _ => FreeL_nth ?_ _); simp [Free, FreeL]; done) | refine Cv.agg ?_ | (apply Cv.own; (case hob => (with_unfolding_all exact rfl)); (case hz => decide); (case hE => (first | (intro _ _ _ _; rfl) | (intro i j hi hj; (rcases i with _ | _ | i) <;> (rcases j with _ | _ | _ | _ | j) <;> first | rfl | (exfalso; omega)))); (case hf => (intro _ _; simp; done))) | (refine Cv.pvE ?_ ?_ (by decide); (focus (first | (intro _ _ _ _; rfl) | (intro i j hi hj; (rcases i with _ | _ | i) <;> (rcases j with _ | _ | _ | _ | j) <;> first | rfl | (exfalso; omega)))); (focus (intro _ _; simp; done))) | (apply Cv.ownS; (case hob => (with_unfolding_all exact rfl)); (case hz => decide); (case hle => (first | omega | (simp only [decide_eq_true_eq] at hg; omega) | (simp; omega))); (case hE => (intro _ _ _ _; first | (rw [Nat.zero_add]; done) | (rw [Nat.zero_add]; rfl))); (case hf => (intro _ _; simp; done))) | (refine Cv.viewE (by decide) ?_ ?_; (focus (intro _ _ _ _; first | rfl)); (focus (intro _ _; simp; done))) | refine Cv.ptr (by with_unfolding_all rfl) (by with_unfolding_all rfl) ?_ | refine Cv.fn ?_ ?_)); done)))
    | ((with_reducible first | apply gC_lookA (fun hg => (section_tc _ _ _ _)) | apply dCall_lookGA (fun hg => (section_tc _ _ _ _))); (case hC => (intro hg; first | exact trivial | exact hg | (simp only [hg, and_self, implies_true]; done) | (simp only [go_sem, hg, and_self, implies_true]; done))); (case hc => (intro hg; ((repeat' (first | exact CvL.nil | exact Cv.nil_view | refine CvL.cons ?_ ?_ | exact Cv.imm rfl | (refine Cv.free ?_; simp [Free, FreeL] <;> assumption) | (refine Cv.free (fun _ _ => FreeL_nth ?_ _); simp [Free, FreeL]; done) | refine Cv.agg ?_ | (apply Cv.own; (case hob => (with_unfolding_all exact rfl)); (case hz => decide); (case hE => (first | (intro _ _ _ _; rfl) | (intro i j hi hj; (rcases i with _ | _ | i) <;> (rcases j with _ | _ | _ | _ | j) <;> first | rfl | (exfalso; omega)))); (case hf => (intro _ _; simp; done))) | (refine Cv.pvE ?_ ?_ (by decide); (focus (first | (intro _ _ _ _; rfl) | (intro i j hi hj; (rcases i with _ | _ | i) <;> (rcases j with _ | _ | _ | _ | j) <;> first | rfl | (exfalso; omega)))); (focus (intro _ _; simp; done))) | (apply Cv.ownS; (case hob => (with_unfolding_all exact rfl)); (case hz => decide); (case hle => (first | omega | (simp only [decide_eq_true_eq] at hg; omega) | (simp; omega))); (case hE => (intro _ _ _ _; first | (rw [Nat.zero_add]; done) | (rw [Nat.zero_add]; rfl))); (case hf => (intro _ _; simp; done))) | (refine Cv.viewE (by decide) ?_ ?_; (focus (intro _ _ _ _; first | rfl)); (focus (intro _ _; simp; done))) | refine Cv.ptr (by with_unfolding_all rfl) (by with_unfolding_all rfl) ?_ | refine Cv.fn ?_ ?_)); done))))
    | ((with_reducible apply DC_call); (focus exact rfl); (focus exact rfl); (focus exact rfl); intro N hN; (simp only [go_sem, ↓reduceIte, Nat.reduceAdd, Nat.reduceSub, Nat.reduceMul, Nat.reduceLT, Nat.reduceLeDiff, Nat.reduceEqDiff, Nat.reduceGT, Int.reduceToNat, Int.reduceBEq, Int.reduceBNe]; try simp (disch := omega) only [wrapI, wrapU, half_sum, toNat_sub1, toNat_add1, Int.toNat_natCast]))
    | ((with_reducible first | refine T_seq_region Γ_ok (fun K hK => ?_) | refine T_last_region Γ_ok (fun K hK => ?_) | refine T_seq_draw (id := 4) Γ_ok drawsAny [(0, [], []), (1, [0], []), (2, [], []), (3, [2], []), (4, [], []), (5, [4], []), (6, [2, 3, 4, 5], []), (7, [2, 3, 4, 5, 6], []), (9, [], []), (10, [9], []), (11, [], []), (12, [11], []), (13, [], []), (14, [11, 12, 13], []), (15, [11, 12, 13, 14], []), (8, [0, 1, 2, 3, 4, 5, 6, 7], [9, 10, 11, 12, 13, 14, 15]), (16, [0, 1, 2, 3, 4, 5, 6, 7, 8, 9, 10, 11, 12, 13, 14, 15], []), (17, [0, 1, 2, 3, 4, 5, 6, 7, 8, 9, 10, 11, 12, 13, 14, 15, 16], [])] (by kernel_rfl) (fun K hK => ?_) | refine T_last_draw (id := 4) Γ_ok drawsAny [(0, [], []), (1, [0], []), (2, [], []), (3, [2], []), (4, [], []), (5, [4], []), (6, [2, 3, 4, 5], []), (7, [2, 3, 4, 5, 6], []), (9, [], []), (10, [9], []), (11, [], []), (12, [11], []), (13, [], []), (14, [11, 12, 13], []), (15, [11, 12, 13, 14], []), (8, [0, 1, 2, 3, 4, 5, 6, 7], [9, 10, 11, 12, 13, 14, 15]), (16, [0, 1, 2, 3, 4, 5, 6, 7, 8, 9, 10, 11, 12, 13, 14, 15], []), (17, [0, 1, 2, 3, 4, 5, 6, 7, 8, 9, 10, 11, 12, 13, 14, 15, 16], [])] (by kernel_rfl) (fun K hK => ?_) | refine TO_callN rfl (fun N hN => ?_) | refine DCT_fork Γ_ok (fun K2 hK2 => ?_) | refine DCT_last Γ_ok ?_ | refine DC_ev Γ_ok ?_ | refine TO_ev Γ_ok ?_ | refine retQ_r ?_ | refine retQ_n ?_); (simp only [go_sem, ↓reduceIte, Nat.reduceAdd, Nat.reduceSub, Nat.reduceMul, Nat.reduceLT, Nat.reduceLeDiff, Nat.reduceEqDiff, Nat.reduceGT, Int.reduceToNat, Int.reduceBEq, Int.reduceBNe]; try simp (disch := omega) only [wrapI, wrapU, half_sum, toNat_sub1, toNat_add1, Int.toNat_natCast]))
    | (with_reducible refine hK2 _ ?_ ?_ <;> clear hK2 K2)
    | with_reducible refine gC_false ?_ | with_reducible refine gC_true ?_
    | (with_reducible refine hN _ _ ?_; clear hN N)
    | (with_reducible refine hN _ _ (dInl rfl) ?_; clear hN N)
    | ((with_reducible refine hN _ _ (.inr ?_) ?_); (focus (simp only [go_sem, ↓reduceIte, Nat.reduceAdd, Nat.reduceSub, Nat.reduceMul, Nat.reduceLT, Nat.reduceLeDiff, Nat.reduceEqDiff, Nat.reduceGT, Int.reduceToNat, Int.reduceBEq, Int.reduceBNe]; try simp (disch := omega) only [wrapI, wrapU, half_sum, toNat_sub1, toNat_add1, Int.toNat_natCast])); clear hN N)
    | with_reducible refine T_seq ?_ | with_reducible refine T_block ?_ | with_reducible refine T_ret ?_ | with_reducible refine T_exit ?_ | with_reducible refine T_skip ?_ | with_reducible refine T_label ?_
    | with_reducible refine thenQ_n ?_ | with_reducible refine thenQ_e ?_ | with_reducible refine thenQ_r ?_ | with_reducible refine blockQ_n ?_ | with_reducible refine blockQ_e ?_ | with_reducible refine blockQ_r ?_
    | with_reducible refine blockQ_o (by decide) ?_
    | ((with_reducible refine T_cond _ rfl (fun hb => ?_) (fun hb => ?_)) <;> first | (cases hb; done) | (simp only [decide_eq_true_eq, decide_eq_false_iff_not, Bool.and_eq_true, Bool.or_eq_true, Bool.and_eq_false_imp, Bool.or_eq_false_iff, Bool.not_eq_true', Bool.not_eq_false', beq_iff_eq, bne_iff_ne, ne_eq, beq_eq_false_iff_ne, Int.not_lt, Int.not_le, ge_iff_le, gt_iff_lt] at hb) | skip)
    | (with_reducible refine And.intro (by first | exact trivial | omega | (intro hg; simp at hg ⊢ <;> omega) | (simp <;> omega)) ?_)
    | assumption | omega)
  · congr 2
    symm
    exact decide_eq_false fun hr => by have := hr (i - 1) (by omega); rw [show i - 1 + 1 = i by omega] at this; omega
  · refine ⟨l.length + 1 - (i + 1), by omega, _, ?_, i + 1, by omega, by omega, fun j hj => ?_, rfl⟩
    · ((try simp only [List.length_append, List.length_cons, List.length_nil, Nat.zero_add]); refine Wk.intro [0] (by decide) (by decide) (by intro o ho; simp at ho ⊢ <;> omega) ?_ ?_ <;> repeat' (first | exact WkVL.nil | refine WkVL.cons ?_ ?_ | exact WkV.top | exact WkV.imm rfl | exact WkV.imm (by simp) | exact WkV.optr rfl | exact WkV.own rfl (by simp) | exact WkV.nil_own (.inl rfl) | exact WkV.map rfl | (refine WkV.free ?_; simp [Free, FreeL] <;> assumption) | (refine WkV.free (fun _ _ => FreeL_nth ?_ _); simp [Free, FreeL]; done) | refine WkV.agg ?_ | refine WkV.tup ?_ | refine WkV.fn ?_ ?_ | exact WkO.dead | exact WkO.mpE rfl trivial | refine WkO.box ?_ rfl | refine WkO.arr ?_ | refine And.intro ?_ (And.intro (fun h => h) ?_) | exact trivial | (intro i j hi hj)))
    · by_cases hji : j + 1 = i
      · rw [show j = i - 1 by omega, show i - 1 + 1 = i by omega]; assumption
      · exact h3 j (by omega)
  · congr 2
    symm
    exact decide_eq_true fun j hj => h3 j (by omega)
end Go.Proofs.Ytnomenmakhielaa

/-
  Parts joined: W9 W10 W11 W12 W13 W14.
-/
import Derived.Test.YtnomenmakhielaaDoorQGo
import Derived.Test.YtnomenmakhielaaDoorQW8
set_option linter.unusedSimpArgs false
set_option linter.unusedVariables false
namespace Go.Proofs.YtnomenmakhielaaDoor
open Go.Ab

/-- The log with one more take. -/
def lrn (l : List Tk) (x : Tk) : List Tk := ins l (low l x.s) x

set_option maxRecDepth 100000 in
set_option maxHeartbeats 400000 in
theorem with_raw (l : List Tk) (hl : l.length ≤ 1000000) (hr : Ris l) (x : Tk) : TC Tryd.prog 74 [srt l, tkA x] [] (fun v σ' => ∃ a b c d, v = .agg [.own 4 0 (lrn l x).length none, .fn (.func 85) [] []] ∧ σ' = [a, b, c, d, tkO (lrn l x)]) := by
  (refine TC_of_T Γ_ok Tryd.func74 rfl (by kernel_rfl) ?_; simp only [Tryd.ntmps74, Tryd.results74, List.length_cons, List.length_nil, Nat.reduceSub, Nat.reduceAdd, List.replicate, List.cons_append, List.nil_append])
  have hlow := (low_spec x.s hr).1
  (have cl1 := fun u1 u2 u3 u4 => section_tc u1 u2 u3 u4; have cl2 := fun u1 => index_tc l u1 hl hr; have cm1 := clone_tc l (by omega); have ct1 := TurnsAt.mk [3] (insert_tc l hl _ hlow x); repeat' (first | with_reducible refine T_seq_drawT (id := 1) Γ_ok drawsAny pl74_1 (by kernel_rfl) (fun K hK => ?_) | with_reducible refine T_last_drawT (id := 1) Γ_ok drawsAny pl74_1 (by kernel_rfl) (fun K hK => ?_) | with_reducible refine T_seq_drawT (id := 2) Γ_ok drawsAny pl74_2 (by kernel_rfl) (fun K hK => ?_) | with_reducible refine T_last_drawT (id := 2) Γ_ok drawsAny pl74_2 (by kernel_rfl) (fun K hK => ?_) | ((refine goR0 _ _ _ _ _ _ _ _ ?_ ?_ ?_ ?_ ?_ ?_ ?_ ?_) <;> (repeat intro hb) <;> first | exact True.intro | refine Lf.mk ?_)))
  all_goals exact ⟨_, _, _, _, rfl, rfl⟩

@[go_sem, reducible] def srtO (l : List Tk) : AV := .agg [ownT l, .fn (.func 85) [] []]
theorem with_tc (l : List Tk) (hl : l.length ≤ 1000000) (hr : Ris l) (x : Tk) : Makes Tryd.prog 74 [srt l, tkA x] (srtO (lrn l x)) [tkO (lrn l x)] := by
  refine ⟨(with_raw l hl hr x).weak fun v σ' ⟨a, b, c, d, hv, hs⟩ => ⟨[4], _, _, by simp, by simp, by simp [hs], ?_, ?_, rfl, rfl⟩, by simp [VF, VFL], fun a ha => by simp only [List.mem_singleton] at ha; subst ha; exact tkO_pl _⟩
  · rw [hv]
    (repeat' (first | exact WkVL.nil | refine WkVL.cons ?_ ?_ | exact WkV.top | exact WkV.imm rfl | exact WkV.imm (by simp) | exact WkV.optr rfl | exact WkV.own rfl (by simp) | exact WkV.map rfl | (refine WkV.free ?_; simp [Free, FreeL] <;> assumption) | (refine WkV.free (fun _ _ => FreeL_nth ?_ _); simp [Free, FreeL]; done) | refine WkV.agg ?_ | refine WkV.tup ?_ | refine WkV.fn ?_ ?_ | exact WkO.dead | exact WkO.raw | refine WkO.ghost ?_ | exact WkO.mpE rfl trivial | refine WkO.box ?_ rfl | refine WkO.arr ?_ | refine And.intro ?_ (And.intro (by first | exact fun h => h | exact fun _ => rfl | exact nofun) ?_) | exact trivial | (intro _ _ _ _)))
  · rw [hs]
    (repeat' (first | exact WkVL.nil | refine WkVL.cons ?_ ?_ | exact WkV.top | exact WkV.imm rfl | exact WkV.imm (by simp) | exact WkV.optr rfl | exact WkV.own rfl (by simp) | exact WkV.map rfl | (refine WkV.free ?_; simp [Free, FreeL] <;> assumption) | (refine WkV.free (fun _ _ => FreeL_nth ?_ _); simp [Free, FreeL]; done) | refine WkV.agg ?_ | refine WkV.tup ?_ | refine WkV.fn ?_ ?_ | exact WkO.dead | exact WkO.raw | refine WkO.ghost ?_ | exact WkO.mpE rfl trivial | refine WkO.box ?_ rfl | refine WkO.arr ?_ | refine And.intro ?_ (And.intro (by first | exact fun h => h | exact fun _ => rfl | exact nofun) ?_) | exact trivial | (intro _ _ _ _)))
end Go.Proofs.YtnomenmakhielaaDoor
namespace Go.Proofs.YtnomenmakhielaaDoor
open Go.Ab

/-- Is a section known? -/
def knows (l : List Tk) (k : Int) : Prop := low l k < l.length ∧ (gt l (low l k)).s = k

noncomputable def learnR (l : List Tk) (t : Tk) : List Tk × Int :=
  open Classical in if OkT t ∧ Val l then (if knows l t.s then (if gt l (low l t.s) = t then ([], 5) else ([], 23)) else (lrn l t, 0)) else ([], 1)

theorem Tk.ext_iff' {a b : Tk} : a = b ↔ a.s = b.s ∧ a.c = b.c ∧ a.n = b.n ∧ a.d = b.d := by
  cases a; cases b; simp

theorem find_cases (l : List Tk) (k : Int) : (findV l k = (⟨0, 0, 0, 0⟩, 1) ∧ ¬ (Val l ∧ 1 ≤ k ∧ k ≤ 15)) ∨ (findV l k = (gt l (low l k), 0) ∧ Val l ∧ 1 ≤ k ∧ k ≤ 15 ∧ knows l k) ∨ (findV l k = (⟨0, 0, 0, 0⟩, 4) ∧ Val l ∧ 1 ≤ k ∧ k ≤ 15 ∧ ¬ knows l k) := by
  unfold findV knows
  split
  · rename_i h
    split
    · rename_i h2; exact .inr (.inl ⟨rfl, h.1, h.2.1, h.2.2, h2⟩)
    · rename_i h2; exact .inr (.inr ⟨rfl, h.1, h.2.1, h.2.2, h2⟩)
  · rename_i h; exact .inl ⟨rfl, h⟩
theorem find4 {l : List Tk} {k : Int} (h : (findV l k).2 = 4) : Val l ∧ ¬ knows l k := by
  rcases find_cases l k with ⟨e, h2⟩ | ⟨e, h2⟩ | ⟨e, h2⟩
  · rw [e] at h; simp at h
  · rw [e] at h; simp at h
  · exact ⟨h2.1, h2.2.2.2⟩

open Classical in
set_option maxRecDepth 100000 in
set_option maxHeartbeats 400000 in
theorem learn_raw (l : List Tk) (t : Tk) (hl : l.length ≤ 9223372036854775807) : TC Tryd.prog 59 [tks l, tkA t] [] (fun v σ' =>
    (v = .tup [.imm (.slice none 0 0), .imm (.int .i64 (learnR l t).2)] ∧ (learnR l t).1.length = 0) ∨ ∃ k E', v = .tup [.own k 0 (learnR l t).1.length none, .imm (.int .i64 (learnR l t).2)] ∧ nthO σ' k = .arr 33 4 (learnR l t).1.length E' ∧ ∀ i j, i < (learnR l t).1.length → E' i j = tkE (learnR l t).1 i j) := by
  (refine TC_of_T Γ_ok Tryd.func59 rfl (by kernel_rfl) ?_; simp only [Tryd.ntmps59, Tryd.results59, List.length_cons, List.length_nil, Nat.reduceSub, Nat.reduceAdd, List.replicate, List.cons_append, List.nil_append])
  repeat' (first
    | (with_reducible refine hK _ ?_; clear hK K)
    | ((with_reducible apply dCall_any); (focus ((with_reducible refine callGoal_inline Γ_ok Tryd.func73 rfl (by kernel_rfl) (by first | exact trivial | (simp only [go_sem, and_self]; done) | (simp only [go_sem]; omega)) ?_); simp only [Tryd.ntmps73, Tryd.results73, List.length_cons, List.length_nil, Nat.reduceSub, Nat.reduceAdd, List.replicate, List.cons_append, List.nil_append])))
    | (with_reducible exact And.intro rfl rfl)
    | ((with_reducible apply callGoal_makeA (with_tc l (Nat.le_trans (find4 hb).1.len (by decide)) (find4 hb).1.ris _)); (case hC => first | exact trivial | (simp only [go_sem, and_self]; done) | (simp only [go_sem]; omega)); (case hc => ((repeat' (first | exact CvL.nil | exact Cv.nil_view | refine CvL.cons ?_ ?_ | exact Cv.imm rfl | (refine Cv.free ?_; simp [Free, FreeL] <;> assumption) | (refine Cv.free (fun _ _ => FreeL_nth ?_ _); simp [Free, FreeL]; done) | refine Cv.agg ?_ | (apply Cv.own; (case hob => (with_unfolding_all exact rfl)); (case hz => decide); (case hE => (first | (intro _ _ _ _; rfl) | (intro i j hi hj; (rcases i with _ | _ | i) <;> (rcases j with _ | _ | _ | _ | j) <;> first | rfl | (exfalso; omega)))); (case hf => (intro _ _; simp; done))) | (refine Cv.pvE ?_ ?_ (by decide); (focus (first | (intro _ _ _ _; rfl) | (intro i j hi hj; (rcases i with _ | _ | i) <;> (rcases j with _ | _ | _ | _ | j) <;> first | rfl | (exfalso; omega)))); (focus (intro _ _; simp; done))) | (apply Cv.ownS; (case hob => (with_unfolding_all exact rfl)); (case hz => decide); (case hle => (first | omega | (simp only [decide_eq_true_eq] at hg; omega) | (simp; omega))); (case hE => (intro _ _ _ _; first | (rw [Nat.zero_add]; done) | (rw [Nat.zero_add]; rfl))); (case hf => (intro _ _; simp; done))) | (refine Cv.viewE (by decide) ?_ ?_; (focus (intro _ _ _ _; first | rfl)); (focus (intro _ _; simp; done))) | refine Cv.ptr (by with_unfolding_all rfl) (by with_unfolding_all rfl) ?_ | refine Cv.fn ?_ ?_)); done)); (case' hn => (simp only [go_sem, ↓reduceIte, Nat.reduceAdd, Nat.reduceSub, Nat.reduceMul, Nat.reduceLT, Nat.reduceLeDiff, Nat.reduceEqDiff, Nat.reduceGT, Int.reduceToNat, Int.reduceBEq, Int.reduceBNe]; try simp (disch := omega) only [wrapI, wrapU, half_sum, toNat_sub1, toNat_add1, Int.toNat_natCast])))
    | ((with_reducible apply dCall_makeA (with_tc l (Nat.le_trans (find4 hb).1.len (by decide)) (find4 hb).1.ris _)); (case hC => first | exact trivial | (simp only [go_sem, and_self]; done) | (simp only [go_sem]; omega)); (case hc => ((repeat' (first | exact CvL.nil | exact Cv.nil_view | refine CvL.cons ?_ ?_ | exact Cv.imm rfl | (refine Cv.free ?_; simp [Free, FreeL] <;> assumption) | (refine Cv.free (fun _ _ => FreeL_nth ?_ _); simp [Free, FreeL]; done) | refine Cv.agg ?_ | (apply Cv.own; (case hob => (with_unfolding_all exact rfl)); (case hz => decide); (case hE => (first | (intro _ _ _ _; rfl) | (intro i j hi hj; (rcases i with _ | _ | i) <;> (rcases j with _ | _ | _ | _ | j) <;> first | rfl | (exfalso; omega)))); (case hf => (intro _ _; simp; done))) | (refine Cv.pvE ?_ ?_ (by decide); (focus (first | (intro _ _ _ _; rfl) | (intro i j hi hj; (rcases i with _ | _ | i) <;> (rcases j with _ | _ | _ | _ | j) <;> first | rfl | (exfalso; omega)))); (focus (intro _ _; simp; done))) | (apply Cv.ownS; (case hob => (with_unfolding_all exact rfl)); (case hz => decide); (case hle => (first | omega | (simp only [decide_eq_true_eq] at hg; omega) | (simp; omega))); (case hE => (intro _ _ _ _; first | (rw [Nat.zero_add]; done) | (rw [Nat.zero_add]; rfl))); (case hf => (intro _ _; simp; done))) | (refine Cv.viewE (by decide) ?_ ?_; (focus (intro _ _ _ _; first | rfl)); (focus (intro _ _; simp; done))) | refine Cv.ptr (by with_unfolding_all rfl) (by with_unfolding_all rfl) ?_ | refine Cv.fn ?_ ?_)); done)); (case' hn => (simp only [go_sem, ↓reduceIte, Nat.reduceAdd, Nat.reduceSub, Nat.reduceMul, Nat.reduceLT, Nat.reduceLeDiff, Nat.reduceEqDiff, Nat.reduceGT, Int.reduceToNat, Int.reduceBEq, Int.reduceBNe]; try simp (disch := omega) only [wrapI, wrapU, half_sum, toNat_sub1, toNat_add1, Int.toNat_natCast])))
    | ((with_reducible first | apply callGoal_lookA (take_tc _ _ _ _) | apply dCall_lookA (take_tc _ _ _ _) | apply callGoal_lookA (find_tc l _ hl) | apply dCall_lookA (find_tc l _ hl)); (case hC => first | exact trivial | (simp only [go_sem, and_self]; done) | (simp only [go_sem]; omega)); (case hc => ((repeat' (first | exact CvL.nil | exact Cv.nil_view | refine CvL.cons ?_ ?_ | exact Cv.imm rfl | (refine Cv.free ?_; simp [Free, FreeL] <;> assumption) | (refine Cv.free (fun _ _ => FreeL_nth ?_ _); simp [Free, FreeL]; done) | refine Cv.agg ?_ | (apply Cv.own; (case hob => (with_unfolding_all exact rfl)); (case hz => decide); (case hE => (first | (intro _ _ _ _; rfl) | (intro i j hi hj; (rcases i with _ | _ | i) <;> (rcases j with _ | _ | _ | _ | j) <;> first | rfl | (exfalso; omega)))); (case hf => (intro _ _; simp; done))) | (refine Cv.pvE ?_ ?_ (by decide); (focus (first | (intro _ _ _ _; rfl) | (intro i j hi hj; (rcases i with _ | _ | i) <;> (rcases j with _ | _ | _ | _ | j) <;> first | rfl | (exfalso; omega)))); (focus (intro _ _; simp; done))) | (apply Cv.ownS; (case hob => (with_unfolding_all exact rfl)); (case hz => decide); (case hle => (first | omega | (simp only [decide_eq_true_eq] at hg; omega) | (simp; omega))); (case hE => (intro _ _ _ _; first | (rw [Nat.zero_add]; done) | (rw [Nat.zero_add]; rfl))); (case hf => (intro _ _; simp; done))) | (refine Cv.viewE (by decide) ?_ ?_; (focus (intro _ _ _ _; first | rfl)); (focus (intro _ _; simp; done))) | refine Cv.ptr (by with_unfolding_all rfl) (by with_unfolding_all rfl) ?_ | refine Cv.fn ?_ ?_)); done)))
    | ((with_reducible first | apply gC_lookA (fun hg => (take_tc _ _ _ _)) | apply dCall_lookGA (fun hg => (take_tc _ _ _ _)) | apply gC_lookA (fun hg => (find_tc l _ hl)) | apply dCall_lookGA (fun hg => (find_tc l _ hl))); (case hC => (intro hg; first | exact trivial | exact hg | (simp only [hg, and_self, implies_true]; done) | (simp only [go_sem, hg, and_self, implies_true]; done))); (case hc => (intro hg; ((repeat' (first | exact CvL.nil | exact Cv.nil_view | refine CvL.cons ?_ ?_ | exact Cv.imm rfl | (refine Cv.free ?_; simp [Free, FreeL] <;> assumption) | (refine Cv.free (fun _ _ => FreeL_nth ?_ _); simp [Free, FreeL]; done) | refine Cv.agg ?_ | (apply Cv.own; (case hob => (with_unfolding_all exact rfl)); (case hz => decide); (case hE => (first | (intro _ _ _ _; rfl) | (intro i j hi hj; (rcases i with _ | _ | i) <;> (rcases j with _ | _ | _ | _ | j) <;> first | rfl | (exfalso; omega)))); (case hf => (intro _ _; simp; done))) | (refine Cv.pvE ?_ ?_ (by decide); (focus (first | (intro _ _ _ _; rfl) | (intro i j hi hj; (rcases i with _ | _ | i) <;> (rcases j with _ | _ | _ | _ | j) <;> first | rfl | (exfalso; omega)))); (focus (intro _ _; simp; done))) | (apply Cv.ownS; (case hob => (with_unfolding_all exact rfl)); (case hz => decide); (case hle => (first | omega | (simp only [decide_eq_true_eq] at hg; omega) | (simp; omega))); (case hE => (intro _ _ _ _; first | (rw [Nat.zero_add]; done) | (rw [Nat.zero_add]; rfl))); (case hf => (intro _ _; simp; done))) | (refine Cv.viewE (by decide) ?_ ?_; (focus (intro _ _ _ _; first | rfl)); (focus (intro _ _; simp; done))) | refine Cv.ptr (by with_unfolding_all rfl) (by with_unfolding_all rfl) ?_ | refine Cv.fn ?_ ?_)); done))))
    | ((with_reducible apply DC_call); (focus exact rfl); (focus exact rfl); (focus exact rfl); intro N hN; (simp only [go_sem, ↓reduceIte, Nat.reduceAdd, Nat.reduceSub, Nat.reduceMul, Nat.reduceLT, Nat.reduceLeDiff, Nat.reduceEqDiff, Nat.reduceGT, Int.reduceToNat, Int.reduceBEq, Int.reduceBNe]; try simp (disch := omega) only [wrapI, wrapU, half_sum, toNat_sub1, toNat_add1, Int.toNat_natCast]))
    | ((with_reducible first | refine T_seq_region Γ_ok (fun K hK => ?_) | refine T_last_region Γ_ok (fun K hK => ?_) | refine T_seq_draw (id := 7) Γ_ok drawsAny [(0, [], []), (2, [], []), (1, [0], [2]), (3, [0, 1, 2], []), (4, [0, 1, 2, 3], []), (5, [0, 1, 2, 3, 4], []), (6, [0, 1, 2, 3, 4, 5], [])] (by kernel_rfl) (fun K hK => ?_) | refine T_last_draw (id := 7) Γ_ok drawsAny [(0, [], []), (2, [], []), (1, [0], [2]), (3, [0, 1, 2], []), (4, [0, 1, 2, 3], []), (5, [0, 1, 2, 3, 4], []), (6, [0, 1, 2, 3, 4, 5], [])] (by kernel_rfl) (fun K hK => ?_) | refine TO_callN rfl (fun N hN => ?_) | refine DCT_fork Γ_ok (fun K2 hK2 => ?_) | refine DCT_last Γ_ok ?_ | refine DC_ev Γ_ok ?_ | refine TO_ev Γ_ok ?_ | refine retQ_r ?_ | refine retQ_n ?_); (simp only [go_sem, ↓reduceIte, Nat.reduceAdd, Nat.reduceSub, Nat.reduceMul, Nat.reduceLT, Nat.reduceLeDiff, Nat.reduceEqDiff, Nat.reduceGT, Int.reduceToNat, Int.reduceBEq, Int.reduceBNe]; try simp (disch := omega) only [wrapI, wrapU, half_sum, toNat_sub1, toNat_add1, Int.toNat_natCast]))
    | (with_reducible refine hK2 _ ?_ ?_ <;> clear hK2 K2)
    | with_reducible refine gC_false ?_ | with_reducible refine gC_true ?_ | with_reducible refine dCall_true ?_
    | (with_reducible refine hN _ _ ?_; clear hN N)
    | (with_reducible refine hN _ _ (dInl rfl) ?_; clear hN N)
    | ((with_reducible refine hN _ _ (.inr ?_) ?_); (focus (simp only [go_sem, ↓reduceIte, Nat.reduceAdd, Nat.reduceSub, Nat.reduceMul, Nat.reduceLT, Nat.reduceLeDiff, Nat.reduceEqDiff, Nat.reduceGT, Int.reduceToNat, Int.reduceBEq, Int.reduceBNe]; try simp (disch := omega) only [wrapI, wrapU, half_sum, toNat_sub1, toNat_add1, Int.toNat_natCast])); all_goals (try clear hN N))
    | with_reducible refine T_seq ?_ | with_reducible refine T_block ?_ | with_reducible refine T_ret ?_ | with_reducible refine T_exit ?_ | with_reducible refine T_skip ?_ | with_reducible refine T_label ?_
    | with_reducible refine thenQ_n ?_ | with_reducible refine thenQ_e ?_ | with_reducible refine thenQ_r ?_ | with_reducible refine blockQ_n ?_ | with_reducible refine blockQ_e ?_ | with_reducible refine blockQ_r ?_
    | with_reducible refine blockQ_o (by decide) ?_
    | ((with_reducible refine T_cond _ rfl (fun hb => ?_) (fun hb => ?_)) <;> first | (cases hb; done) | (simp only [decide_eq_true_eq, decide_eq_false_iff_not, Bool.and_eq_true, Bool.or_eq_true, Bool.and_eq_false_imp, Bool.or_eq_false_iff, Bool.not_eq_true', Bool.not_eq_false', beq_iff_eq, bne_iff_ne, ne_eq, beq_eq_false_iff_ne, bne_eq_false_iff_eq, Int.not_lt, Int.not_le, ge_iff_le, gt_iff_lt] at hb) | skip)
    | (with_reducible refine And.intro (by first | exact trivial | omega | (intro hg; simp at hg ⊢ <;> omega) | (simp <;> omega)) ?_)
    | assumption | omega)
  · left
    have e : learnR l t = ([], 1) := by unfold learnR; rw [if_neg]; rintro ⟨h, _⟩; unfold OkT at h; rw [hb] at h; cases h
    simp [e]
  all_goals have hok : OkT t := by assumption
  all_goals have hs := hok.sec
  all_goals have hc := find_cases l t.s
  all_goals generalize findV l t.s = q at *
  all_goals rcases hc with ⟨rfl, h2⟩ | ⟨rfl, h2, h3, h4, h5⟩ | ⟨rfl, h2, h3, h4, h5⟩
  all_goals try (exfalso; simp at *; done)
  all_goals try (exfalso; exact h2 ⟨by assumption, hs⟩)
  · left
    have e : learnR l t = ([], 1) := by unfold learnR; rw [if_neg]; rintro ⟨_, h⟩; exact h2 ⟨h, hs⟩
    simp [e]
  · right
    have e : learnR l t = (lrn l t, 0) := by unfold learnR; rw [if_pos ⟨hok, h2⟩, if_neg h5]
    rw [e]
    exact ⟨3, _, rfl, rfl, fun _ _ _ => rfl⟩
  · left
    have e : learnR l t = ([], 5) := by unfold learnR; rw [if_pos ⟨hok, h2⟩, if_pos h5, if_pos (Tk.ext_iff'.2 hb)]
    simp [e]
  · left
    have e : learnR l t = ([], 23) := by unfold learnR; rw [if_pos ⟨hok, h2⟩, if_pos h5, if_neg]; intro h; rw [Tk.ext_iff'] at h; exact hb h.1 h.2.1 h.2.2.1 h.2.2.2
    simp [e]

theorem learn_tc (l : List Tk) (t : Tk) (hl : l.length ≤ 9223372036854775807) : Makes Tryd.prog 59 [tks l, tkA t] (.tup [ownT (learnR l t).1, .imm (.int .i64 (learnR l t).2)]) [tkO (learnR l t).1] :=
  Makes.lst (fun i j => tkE_pl _ i j) trivial (learn_raw l t hl)
end Go.Proofs.YtnomenmakhielaaDoor
namespace Go.Proofs.YtnomenmakhielaaDoor
open Go.Ab

def knAux : List Tk → Int → Nat
  | [], _ => 0
  | t :: ts, k => if t.s = k then knAux ts (k + 1) + 1 else 0
/-- How many takes the known beginning has. -/
def kn (l : List Tk) : Nat := knAux l 1

theorem gt_cons_zero (t : Tk) (l : List Tk) : gt (t :: l) 0 = t := rfl
theorem gt_cons_succ (t : Tk) (l : List Tk) (i : Nat) : gt (t :: l) (i + 1) = gt l i := by simp [gt]
theorem knAux_eq : ∀ {l : List Tk} {k : Int} {n : Nat}, n ≤ l.length → (∀ j : Nat, j < n → (gt l j).s = k + j) → (n < l.length → (gt l n).s ≠ k + n) → knAux l k = n
  | [], k, n, h, _, _ => by simp at h; simp [knAux, h]
  | t :: l, k, 0, _, _, h3 => by
    have := h3 (by simp)
    rw [gt_cons_zero] at this
    simp only [knAux]
    rw [if_neg (by simpa using this)]
  | t :: l, k, n + 1, h1, h2, h3 => by
    have h0 := h2 0 (by omega)
    rw [gt_cons_zero] at h0
    simp only [knAux]
    rw [if_pos (by simpa using h0), knAux_eq (l := l) (k := k + 1) (n := n) (by simpa using h1) (fun j hj => by have := h2 (j + 1) (by omega); rw [gt_cons_succ] at this; omega) (fun hn => by have := h3 (by simpa using hn); rw [gt_cons_succ] at this; omega)]

theorem kn_eq {l : List Tk} {n : Nat} (h1 : n ≤ l.length) (h2 : ∀ j : Nat, j < n → (gt l j).s = j + 1) (h3 : n < l.length → (gt l n).s ≠ n + 1) : kn l = n :=
  knAux_eq h1 (fun j hj => by have := h2 j hj; omega) fun hn => by have := h3 hn; omega

theorem gt_take (l : List Tk) (n i : Nat) (h : i < n) : gt (l.take n) i = gt l i := by simp [gt, List.getElem?_take, h]
theorem tkE_take (l : List Tk) (n i j : Nat) (h : i < n) : tkE (l.take n) i j = tkE l i j := by unfold tkE; rw [gt_take l n i h]

noncomputable def knownR (l : List Tk) : List Tk × Int := open Classical in if Val l then (l.take (kn l), 0) else ([], 1)

def intE (l : List Int) (i _ : Nat) : AV := .imm (.int .i64 (l.getD i 0))
@[simp] theorem intE_free (l : List Int) (i j : Nat) : Free (intE l i j) := trivial
@[simp] theorem intE_pl (l : List Int) (i j : Nat) : Pl (intE l i j) := trivial
@[go_sem] theorem intE_eq (l : List Int) (i j : Nat) : intE l i j = .imm (.int .i64 (l.getD i 0)) := rfl
@[go_sem, reducible] def ints (l : List Int) : AV := .view l.length 1 (intE l)
@[go_sem, reducible] def intO (l : List Int) : AObj := .arr 3 1 l.length (intE l)
@[go_sem, reducible] def ownI (l : List Int) : AV := .own 0 0 l.length none

theorem intE_snoc (l : List Int) (x : Int) {i : Nat} (j : Nat) (hj : j < 1) (h : i < l.length + 1) : catE l.length (intE l) (fun i j => nth [.imm (.int .i64 x)] (i * 1 + j)) i j = intE (l ++ [x]) i j := by
  unfold catE intE
  obtain rfl : j = 0 := by omega
  split
  · rename_i h1
    simp [List.getElem?_append_left h1]
  · obtain rfl : i = l.length := by omega
    simp [nth]

noncomputable def lackL (l : List Tk) (n : Nat) : List Int := open Classical in ((List.range n).map fun i : Nat => (i : Int) + 1).filter fun k => !decide (knows l k)
theorem lackL_succ (l : List Tk) (n : Nat) : lackL l (n + 1) = open Classical in if knows l ((n : Int) + 1) then lackL l n else lackL l n ++ [(n : Int) + 1] := by
  unfold lackL
  rw [List.range_succ, List.map_append, List.filter_append]
  simp only [List.map_cons, List.map_nil, List.filter_cons, List.filter_nil]
  split <;> simp_all
theorem lackL_len (l : List Tk) (n : Nat) : (lackL l n).length ≤ n := by
  unfold lackL
  refine Nat.le_trans (List.length_filter_le _ _) (by simp)

noncomputable def missingR (l : List Tk) (n : Int) : List Int × Int := open Classical in if Val l ∧ 0 ≤ n ∧ n ≤ 15 then (lackL l n.toNat, 0) else ([], 1)

end Go.Proofs.YtnomenmakhielaaDoor
namespace Go.Proofs.YtnomenmakhielaaDoor
open Go.Ab

theorem lrn_val {l : List Tk} {x : Tk} (hv : Val l) (hx : OkT x) (hk : ¬ knows l x.s) : Val (lrn l x) := by
  obtain ⟨h1, h2, h3⟩ := low_spec x.s hv.ris
  have hlen := ins_length l (low l x.s) x h1
  have hg := gt_ins l (low l x.s) x h1
  refine ⟨fun i hi => ?_, fun i hi => ?_⟩
  · unfold lrn at hi ⊢
    rw [hlen] at hi
    rw [hg]
    split
    · exact hv.1 i (by omega)
    · split
      · exact hx
      · exact hv.1 (i - 1) (by omega)
  · unfold lrn at hi ⊢
    rw [hlen] at hi
    rw [hg, hg]
    by_cases q1 : i + 1 < low l x.s
    · rw [if_pos (by omega), if_pos q1]; exact hv.2 i (by omega)
    · by_cases q2 : i + 1 = low l x.s
      · rw [if_pos (by omega), if_neg q1, if_pos q2]; exact h2 i (by omega)
      · rw [if_neg (by omega), if_neg q1, if_neg q2]
        by_cases q3 : i = low l x.s
        · rw [if_pos q3]
          have h4 := h3 (i + 1 - 1) (by omega) (by omega)
          rcases Int.lt_or_eq_of_le h4 with h5 | h5
          · exact h5
          · exfalso
            have e : i + 1 - 1 = low l x.s := by omega
            rw [e] at h5
            exact hk ⟨by omega, h5.symm⟩
        · rw [if_neg q3]
          have := hv.2 (i - 1) (by omega)
          rw [show i - 1 + 1 = i + 1 - 1 by omega] at this
          exact this

theorem learnR_val {l : List Tk} {t : Tk} (hv : Val l) (h : (learnR l t).2 = 0) : learnR l t = (lrn l t, 0) ∧ Val (learnR l t).1 := by
  unfold learnR at h ⊢
  split at h
  · rename_i h1
    rw [if_pos h1]
    split at h
    · split at h <;> simp at h
    · rename_i h2
      rw [if_neg h2]
      exact ⟨rfl, lrn_val hv h1.1 h2⟩
  · simp at h

noncomputable def mergeGo : List Tk → List Tk → List Tk × Int
  | cur, [] => (cur, 0)
  | cur, t :: ts => if (learnR cur t).2 = 0 then mergeGo (learnR cur t).1 ts else if (learnR cur t).2 = 23 then ([], 23) else mergeGo cur ts
noncomputable def mergeR (a b : List Tk) : List Tk × Int := open Classical in if Val a ∧ Val b then mergeGo a b else ([], 1)

theorem drop_gt {l : List Tk} {i : Nat} (h : i < l.length) : l.drop i = gt l i :: l.drop (i + 1) := by
  rw [List.drop_eq_getElem_cons h]
  simp [gt, h]

end Go.Proofs.YtnomenmakhielaaDoor
namespace Go.Proofs.YtnomenmakhielaaDoor
open Go.Ab

theorem ext_gt {a b : List Tk} (h : a.length = b.length) (he : ∀ i, i < a.length → gt a i = gt b i) : a = b := by
  apply List.ext_getElem h
  intro i h1 h2
  have := he i h1
  simpa [gt, h1, h2] using this

set_option maxRecDepth 100000 in
set_option maxHeartbeats 400000 in
theorem same_tc (a b : List Tk) (ha : a.length ≤ 9223372036854775807) (hbl : b.length ≤ 9223372036854775807) : Look Tryd.prog 37 [tks a, tks b] (.imm (.bool (open Classical in decide (a = b)))) := by
  refine Look.mk trivial ?_
  (refine TC_of_T Γ_ok Tryd.func37 rfl (by kernel_rfl) ?_; simp only [Tryd.ntmps37, Tryd.results37, List.length_cons, List.length_nil, Nat.reduceSub, Nat.reduceAdd, List.replicate, List.cons_append, List.nil_append])
  (((refine goR0 _ _ _ _ _ _ _ _ ?_ ?_ ?_ ?_ ?_ ?_ ?_ ?_) <;> (repeat intro hb) <;> first | exact True.intro | refine Lf.mk ?_))
  · exact immD ⟨fun h => Bool.noConfusion h, fun h => by rw [h] at hb; exact absurd rfl hb⟩
  have hlen : a.length = b.length := by (try simp at hb); omega
  refine T_loopW (fun m st => ∃ i : Nat, i ≤ a.length ∧ m + i = a.length ∧ (∀ j, j < i → gt a j = gt b j) ∧ st = ⟨[tks a, tks b, .top, .top, .imm (.bool false), .imm (.int .i64 i)] ++ List.replicate 20 .top, []⟩)
    a.length ⟨_, ?_, 0, Nat.zero_le _, rfl, fun j hj => by omega, rfl⟩ ?_
  · ((try simp only [List.length_append, List.length_cons, List.length_nil, Nat.zero_add]); refine Wk.intro [] (by decide) (by decide) (by intro o ho; simp at ho ⊢ <;> omega) ?_ ?_ <;> repeat' (first | exact WkVL.nil | refine WkVL.cons ?_ ?_ | exact WkV.top | exact WkV.imm rfl | exact WkV.imm (by simp) | exact WkV.optr rfl | exact WkV.own rfl (by simp) | exact WkV.nil_own (.inl rfl) | exact WkV.map rfl | (refine WkV.free ?_; simp [Free, FreeL] <;> assumption) | (refine WkV.free (fun _ _ => FreeL_nth ?_ _); simp [Free, FreeL]; done) | refine WkV.agg ?_ | refine WkV.tup ?_ | refine WkV.fn ?_ ?_ | exact WkO.dead | exact WkO.raw | refine WkO.ghost ?_ | exact WkO.mpE rfl trivial | refine WkO.box ?_ rfl | refine WkO.arr ?_ | refine And.intro ?_ (And.intro (by first | exact fun h => h | exact fun _ => rfl | exact nofun) ?_) | exact trivial | (intro i j hi hj)))
  rintro m st ⟨i, h1, h2, h3, rfl⟩
  (simp only [go_sem, ↓reduceIte, Nat.reduceAdd, Nat.reduceSub, Nat.reduceMul, Nat.reduceLT, Nat.reduceLeDiff, Nat.reduceEqDiff, Nat.reduceGT, Int.reduceToNat, Int.reduceBEq, Int.reduceBNe]; try simp (disch := omega) only [wrapI, wrapU, half_sum, toNat_sub1, toNat_add1, Int.toNat_natCast])
  (repeat' (first | with_reducible refine T_seq_drawT (id := 6) Γ_ok drawsAny pl37_6 (by kernel_rfl) (fun K hK => ?_) | with_reducible refine T_last_drawT (id := 6) Γ_ok drawsAny pl37_6 (by kernel_rfl) (fun K hK => ?_) | ((refine goR0 _ _ _ _ _ _ _ _ ?_ ?_ ?_ ?_ ?_ ?_ ?_ ?_) <;> (repeat intro hb) <;> first | exact True.intro | refine Lf.mk ?_)))
  · refine immD ⟨fun h => Bool.noConfusion h, fun h => ?_⟩
    subst h
    simp at hb
  · refine ⟨a.length - (i + 1), by omega, _, ?_, i + 1, by omega, by omega, fun j hj => ?_, rfl⟩
    · ((try simp only [List.length_append, List.length_cons, List.length_nil, Nat.zero_add]); refine Wk.intro [] (by decide) (by decide) (by intro o ho; simp at ho ⊢ <;> omega) ?_ ?_ <;> repeat' (first | exact WkVL.nil | refine WkVL.cons ?_ ?_ | exact WkV.top | exact WkV.imm rfl | exact WkV.imm (by simp) | exact WkV.optr rfl | exact WkV.own rfl (by simp) | exact WkV.nil_own (.inl rfl) | exact WkV.map rfl | (refine WkV.free ?_; simp [Free, FreeL] <;> assumption) | (refine WkV.free (fun _ _ => FreeL_nth ?_ _); simp [Free, FreeL]; done) | refine WkV.agg ?_ | refine WkV.tup ?_ | refine WkV.fn ?_ ?_ | exact WkO.dead | exact WkO.raw | refine WkO.ghost ?_ | exact WkO.mpE rfl trivial | refine WkO.box ?_ rfl | refine WkO.arr ?_ | refine And.intro ?_ (And.intro (by first | exact fun h => h | exact fun _ => rfl | exact nofun) ?_) | exact trivial | (intro i j hi hj)))
    · by_cases hji : j = i
      · rw [hji]; exact Tk.ext_iff'.2 (by simpa using hb)
      · exact h3 j (by omega)
  · exact immD ⟨fun _ => ext_gt hlen fun j hj => h3 j (by omega), fun _ => rfl⟩

end Go.Proofs.YtnomenmakhielaaDoor
namespace Go.Proofs.YtnomenmakhielaaDoor
open Go.Ab

theorem rix_knows {l : List Tk} {k : Int} (hr : Ris l) (h : knows l k) : rix l k = low l k := by rw [rix_low k hr]; exact if_pos h
theorem rix_not {l : List Tk} {k : Int} (hr : Ris l) (h : ¬ knows l k) : rix l k = -1 := by rw [rix_low k hr]; exact if_neg h
theorem knows_of_rix {l : List Tk} {k : Int} (hr : Ris l) (h : 0 ≤ rix l k) : knows l k := by
  by_cases hk : knows l k
  · exact hk
  · rw [rix_not hr hk] at h; omega

theorem tk_snoc (l : List Tk) (x : Tk) {i j : Nat} (h : i < l.length + 1) : catE l.length (tkE l) (fun i j => nth (tkL x) (i * 4 + j)) i j = tkE (l ++ [x]) i j := by
  unfold catE tkE gt
  split
  · rename_i h1
    simp [List.getElem?_append_left h1]
  · obtain rfl : i = l.length := by omega
    simp

theorem take_snoc {l : List Tk} {i : Nat} (h : i < l.length) : l.take (i + 1) = l.take i ++ [gt l i] := by
  rw [List.take_succ_eq_append_getElem h]
  simp [gt, h]

end Go.Proofs.YtnomenmakhielaaDoor

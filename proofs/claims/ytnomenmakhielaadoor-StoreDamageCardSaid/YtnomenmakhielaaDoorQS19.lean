/-
  The reference's way to read a record (printed by tools/s19.py).
-/
import Derived.Test.YtnomenmakhielaaDoorQGo
import Derived.Test.YtnomenmakhielaaDoorQS18
set_option linter.unusedSimpArgs false
set_option linter.unusedVariables false
namespace Go.Proofs.YtnomenmakhielaaDoor
open Go.Ab

def rdb (b : List Nat) : Nat := gb8 b 3 * 65536 + gb8 b 4 * 256 + gb8 b 5
def rdR (b : List Nat) : Rcd :=
  if gb8 b 1 = 3 then (if gb8 b 0 = 5 then ⟨gb8 b 1, gb8 b 2, 0, ⟨gb8 b 2, gb8 b 3, (gb8 b 4 : Nat) - 1, gb8 b 5⟩⟩ else ⟨gb8 b 1, gb8 b 2, 0, ⟨0, 0, 0, 0⟩⟩)
  else (if gb8 b 0 = 8 then ⟨gb8 b 1, gb8 b 2, rdb b, ⟨gb8 b 2, gb8 b 6, (gb8 b 7 : Nat) - 1, gb8 b 8⟩⟩ else ⟨gb8 b 1, gb8 b 2, rdb b, ⟨0, 0, 0, 0⟩⟩)
def readR (b : List Nat) : Rcd × Nat :=
  if b.length = 0 ∨ b.length < gb8 b 0 + 5 ∨ gb8 b 0 < 5 then (rc0, 0)
  else if (rdR b).ok = true ∧ frameN (rdR b) = b.take (frameN (rdR b)).length then (rdR b, (frameN (rdR b)).length) else (rc0, 0)
theorem sh16 {x : Nat} (hx : x < 256) : IntKind.i64.wrap ((x : Int) * 2 ^ min 16 64) = ((x * 65536 : Nat) : Int) := by rw [wrapI (by simp; omega) (by simp; omega)]; simp
theorem sh8 {x : Nat} (hx : x < 256) : IntKind.i64.wrap ((x : Int) * 2 ^ min 8 64) = ((x * 256 : Nat) : Int) := by rw [wrapI (by simp; omega) (by simp; omega)]; simp
theorem take_tcE (b : List Nat) (n : Nat) : ∀ i j, i < n → j < 1 → AV.imm (.int .u8 ((gb8 b i : Nat) : Int)) = byE (b.take n) i j := by
  intro i j hi _
  simp [byE, gb8, hi]

set_option maxRecDepth 100000 in
set_option maxHeartbeats 400000 in
theorem read_short (b : List Nat) (hb : ByOk b) (hl : b.length ≤ 9223372036854775807) (c0 : b.length = 0 ∨ b.length < gb8 b 0 + 5 ∨ gb8 b 0 < 5) : Look Tryd.prog 64 [bys b] (.tup [rcA rc0, .imm (.int .i64 0)]) := by
  refine Look.mk (by simp [Pl, PlL]) ?_
  have b0 := gb8_lt hb 0
  clear hb
  by_cases c1 : b.length = 0
  · obtain rfl : b = [] := List.length_eq_zero_iff.1 c1
    (refine TC_of_T Γ_ok Tryd.func64 rfl (by kernel_rfl) ?_; simp only [Tryd.ntmps64, Tryd.results64, List.length_cons, List.length_nil, Nat.reduceSub, Nat.reduceAdd, List.replicate, List.cons_append, List.nil_append])
    (((refine goR0 _ _ _ _ _ _ _ _ ?_ ?_ ?_ ?_ ?_ ?_ ?_ ?_) <;> (repeat intro hb) <;> first | exact True.intro | refine Lf.mk ?_))
    all_goals rfl
  · (refine TC_of_T Γ_ok Tryd.func64 rfl (by kernel_rfl) ?_; simp only [Tryd.ntmps64, Tryd.results64, List.length_cons, List.length_nil, Nat.reduceSub, Nat.reduceAdd, List.replicate, List.cons_append, List.nil_append])
    (((refine goR0 _ _ _ _ _ _ _ _ ?_ ?_ ?_ ?_ ?_ ?_ ?_ ?_) <;> (repeat intro hb) <;> first | exact True.intro | refine Lf.mk ?_))
    all_goals rfl

set_option maxRecDepth 100000 in
set_option maxHeartbeats 4000000 in
theorem rd_a (b : List Nat) (hb : ByOk b) (hl : b.length ≤ 9223372036854775807) (c0 : ¬ (b.length = 0 ∨ b.length < gb8 b 0 + 5 ∨ gb8 b 0 < 5)) (k3 : gb8 b 1 = 3) (x5 : gb8 b 0 = 5) : Look Tryd.prog 64 [bys b] (.tup [rcA (readR b).1, .imm (.int .i64 ((readR b).2 : Nat))]) := by
  refine Look.mk (by simp [Pl, PlL]) ?_
  have b0 := gb8_lt hb 0
  have b1 := gb8_lt hb 1
  have b2 := gb8_lt hb 2
  have b3 := gb8_lt hb 3
  have b4 := gb8_lt hb 4
  have b5 := gb8_lt hb 5
  have b6 := gb8_lt hb 6
  have b7 := gb8_lt hb 7
  have b8 := gb8_lt hb 8
  clear hb
  have er : rdR b = ⟨3, gb8 b 2, 0, ⟨gb8 b 2, gb8 b 3, (gb8 b 4 : Nat) - 1, gb8 b 5⟩⟩ := by unfold rdR; rw [if_pos k3, if_pos x5, k3]; rfl
  have hv := rrec_tc (rdR b)
  have hR : readR b = if (rdR b).ok = true ∧ frameN (rdR b) = b.take (frameN (rdR b)).length then (rdR b, (frameN (rdR b)).length) else (rc0, 0) := by
    unfold readR
    rw [if_neg c0]
  by_cases ok : (rdR b).ok = true
  · have hf := rframe_tc (rdR b) ok
    have hfl := frameN_len ok
    rw [ok] at hv
    simp only [ok, true_and] at hR
    rw [hR]
    rw [er] at hv hf hfl ⊢
    simp only [rcA, rcL] at hv hf
    generalize frameN ⟨3, gb8 b 2, 0, ⟨gb8 b 2, gb8 b 3, (gb8 b 4 : Nat) - 1, gb8 b 5⟩⟩ = f at hf hfl ⊢
    clear hR er ok
    have hv1 := take_tcE b f.length
    have htl : (b.take f.length).length ≤ b.length := by simp; omega
    have hby : f.length ≤ b.length → Look Tryd.prog 21 [bys f, .view f.length 1 (byE (b.take f.length))] (.imm (.bool (decide (f = b.take f.length)))) := fun fle => by
      have hby := rbytes_tc f (b.take f.length) (by omega) (by simp; omega)
      rw [show bys (b.take f.length) = .view f.length 1 (byE (b.take f.length)) by simp [bys]; omega] at hby
      exact hby
    generalize b.take f.length = t at hv1 hby htl ⊢
    (refine TC_of_T Γ_ok Tryd.func64 rfl (by kernel_rfl) ?_; simp only [Tryd.ntmps64, Tryd.results64, List.length_cons, List.length_nil, Nat.reduceSub, Nat.reduceAdd, List.replicate, List.cons_append, List.nil_append])
    repeat' (first
    | (with_reducible refine hK _ ?_; clear hK K)
    | ((with_reducible apply callGoal_makeA (hf)); (case hC => first | exact trivial | (simp only [go_sem, and_self]; done) | (simp only [go_sem]; omega)); (case hc => ((repeat' (first | exact CvL.nil | exact Cv.nil_view | refine CvL.cons ?_ ?_ | exact Cv.imm rfl | (refine Cv.free ?_; simp [Free, FreeL] <;> assumption) | (refine Cv.free (fun _ _ => FreeL_nth ?_ _); simp [Free, FreeL]; done) | refine Cv.agg ?_ | (apply Cv.own; (case hob => (with_unfolding_all exact rfl)); (case hz => decide); (case hE => (first | (intro _ _ _ _; rfl) | (intro i j hi hj; exact hv5 i j hi hj) | (intro i j hi hj; (rcases i with _ | _ | i) <;> (rcases j with _ | _ | _ | _ | j) <;> first | rfl | (exfalso; omega)))); (case hf => (intro _ _; simp; done))) | (refine Cv.pvE ?_ ?_ (by decide); (focus (first | (intro _ _ _ _; rfl) | (intro i j hi hj; exact hv5 i j hi hj) | (intro i j hi hj; (rcases i with _ | _ | i) <;> (rcases j with _ | _ | _ | _ | j) <;> first | rfl | (exfalso; omega)))); (focus (intro _ _; simp; done))) | (apply Cv.ownS; (case hob => (with_unfolding_all exact rfl)); (case hz => decide); (case hle => (first | omega | (simp only [decide_eq_true_eq] at hg; omega) | (simp; omega))); (case hE => (intro _ _ _ _; first | (rw [Nat.zero_add]; done) | (rw [Nat.zero_add]; rfl) | (simpa using hv1 _ _ (by assumption) (by assumption)) | (simpa using hv2 _ _ (by assumption) (by assumption)) | (simpa using hv3 _ _ (by assumption) (by assumption)) | (simpa using hv4 _ _ (by assumption) (by assumption)))); (case hf => (intro _ _; simp; done))) | (refine Cv.viewE (by decide) ?_ ?_; (focus (intro _ _ _ _; first | rfl | (simpa using hv1 _ _ (by assumption) (by assumption)) | (simpa using hv2 _ _ (by assumption) (by assumption)) | (simpa using hv3 _ _ (by assumption) (by assumption)) | (simpa using hv4 _ _ (by assumption) (by assumption)))); (focus (intro _ _; simp; done))) | refine Cv.ptr (by with_unfolding_all rfl) (by with_unfolding_all rfl) ?_ | refine Cv.fn ?_ ?_)); done)); (case' hn => (simp only [go_sem, ↓reduceIte, Nat.reduceAdd, Nat.reduceSub, Nat.reduceMul, Nat.reduceLT, Nat.reduceLeDiff, Nat.reduceEqDiff, Nat.reduceGT, Int.reduceToNat, Int.reduceBEq, Int.reduceBNe]; try simp (disch := omega) only [wrapI, wrapU, half_sum, toNat_sub1, toNat_add1, Int.toNat_natCast])))
    | ((with_reducible apply dCall_makeA (hf)); (case hC => first | exact trivial | (simp only [go_sem, and_self]; done) | (simp only [go_sem]; omega)); (case hc => ((repeat' (first | exact CvL.nil | exact Cv.nil_view | refine CvL.cons ?_ ?_ | exact Cv.imm rfl | (refine Cv.free ?_; simp [Free, FreeL] <;> assumption) | (refine Cv.free (fun _ _ => FreeL_nth ?_ _); simp [Free, FreeL]; done) | refine Cv.agg ?_ | (apply Cv.own; (case hob => (with_unfolding_all exact rfl)); (case hz => decide); (case hE => (first | (intro _ _ _ _; rfl) | (intro i j hi hj; exact hv5 i j hi hj) | (intro i j hi hj; (rcases i with _ | _ | i) <;> (rcases j with _ | _ | _ | _ | j) <;> first | rfl | (exfalso; omega)))); (case hf => (intro _ _; simp; done))) | (refine Cv.pvE ?_ ?_ (by decide); (focus (first | (intro _ _ _ _; rfl) | (intro i j hi hj; exact hv5 i j hi hj) | (intro i j hi hj; (rcases i with _ | _ | i) <;> (rcases j with _ | _ | _ | _ | j) <;> first | rfl | (exfalso; omega)))); (focus (intro _ _; simp; done))) | (apply Cv.ownS; (case hob => (with_unfolding_all exact rfl)); (case hz => decide); (case hle => (first | omega | (simp only [decide_eq_true_eq] at hg; omega) | (simp; omega))); (case hE => (intro _ _ _ _; first | (rw [Nat.zero_add]; done) | (rw [Nat.zero_add]; rfl) | (simpa using hv1 _ _ (by assumption) (by assumption)) | (simpa using hv2 _ _ (by assumption) (by assumption)) | (simpa using hv3 _ _ (by assumption) (by assumption)) | (simpa using hv4 _ _ (by assumption) (by assumption)))); (case hf => (intro _ _; simp; done))) | (refine Cv.viewE (by decide) ?_ ?_; (focus (intro _ _ _ _; first | rfl | (simpa using hv1 _ _ (by assumption) (by assumption)) | (simpa using hv2 _ _ (by assumption) (by assumption)) | (simpa using hv3 _ _ (by assumption) (by assumption)) | (simpa using hv4 _ _ (by assumption) (by assumption)))); (focus (intro _ _; simp; done))) | refine Cv.ptr (by with_unfolding_all rfl) (by with_unfolding_all rfl) ?_ | refine Cv.fn ?_ ?_)); done)); (case' hn => (simp only [go_sem, ↓reduceIte, Nat.reduceAdd, Nat.reduceSub, Nat.reduceMul, Nat.reduceLT, Nat.reduceLeDiff, Nat.reduceEqDiff, Nat.reduceGT, Int.reduceToNat, Int.reduceBEq, Int.reduceBNe]; try simp (disch := omega) only [wrapI, wrapU, half_sum, toNat_sub1, toNat_add1, Int.toNat_natCast])))
    | ((with_reducible first | apply callGoal_lookA (hv) | apply dCall_lookA (hv) | apply callGoal_lookA (hby (Int.ofNat_le.1 (of_decide_eq_true hg))) | apply dCall_lookA (hby (Int.ofNat_le.1 (of_decide_eq_true hg)))); (case hC => first | exact trivial | (simp only [go_sem, and_self]; done) | (simp only [go_sem]; omega)); (case hc => ((repeat' (first | exact CvL.nil | exact Cv.nil_view | refine CvL.cons ?_ ?_ | exact Cv.imm rfl | (refine Cv.free ?_; simp [Free, FreeL] <;> assumption) | (refine Cv.free (fun _ _ => FreeL_nth ?_ _); simp [Free, FreeL]; done) | refine Cv.agg ?_ | (apply Cv.own; (case hob => (with_unfolding_all exact rfl)); (case hz => decide); (case hE => (first | (intro _ _ _ _; rfl) | (intro i j hi hj; exact hv5 i j hi hj) | (intro i j hi hj; (rcases i with _ | _ | i) <;> (rcases j with _ | _ | _ | _ | j) <;> first | rfl | (exfalso; omega)))); (case hf => (intro _ _; simp; done))) | (refine Cv.pvE ?_ ?_ (by decide); (focus (first | (intro _ _ _ _; rfl) | (intro i j hi hj; exact hv5 i j hi hj) | (intro i j hi hj; (rcases i with _ | _ | i) <;> (rcases j with _ | _ | _ | _ | j) <;> first | rfl | (exfalso; omega)))); (focus (intro _ _; simp; done))) | (apply Cv.ownS; (case hob => (with_unfolding_all exact rfl)); (case hz => decide); (case hle => (first | omega | (simp only [decide_eq_true_eq] at hg; omega) | (simp; omega))); (case hE => (intro _ _ _ _; first | (rw [Nat.zero_add]; done) | (rw [Nat.zero_add]; rfl) | (simpa using hv1 _ _ (by assumption) (by assumption)) | (simpa using hv2 _ _ (by assumption) (by assumption)) | (simpa using hv3 _ _ (by assumption) (by assumption)) | (simpa using hv4 _ _ (by assumption) (by assumption)))); (case hf => (intro _ _; simp; done))) | (refine Cv.viewE (by decide) ?_ ?_; (focus (intro _ _ _ _; first | rfl | (simpa using hv1 _ _ (by assumption) (by assumption)) | (simpa using hv2 _ _ (by assumption) (by assumption)) | (simpa using hv3 _ _ (by assumption) (by assumption)) | (simpa using hv4 _ _ (by assumption) (by assumption)))); (focus (intro _ _; simp; done))) | refine Cv.ptr (by with_unfolding_all rfl) (by with_unfolding_all rfl) ?_ | refine Cv.fn ?_ ?_)); done)))
    | ((with_reducible first | apply gC_lookA (fun hg => (hv)) | apply dCall_lookGA (fun hg => (hv)) | apply gC_lookA (fun hg => (hby (Int.ofNat_le.1 (of_decide_eq_true hg)))) | apply dCall_lookGA (fun hg => (hby (Int.ofNat_le.1 (of_decide_eq_true hg))))); (case hC => (intro hg; first | exact trivial | exact hg | (simp only [hg, and_self, implies_true]; done) | (simp only [go_sem, hg, and_self, implies_true]; done))); (case hc => (intro hg; ((repeat' (first | exact CvL.nil | exact Cv.nil_view | refine CvL.cons ?_ ?_ | exact Cv.imm rfl | (refine Cv.free ?_; simp [Free, FreeL] <;> assumption) | (refine Cv.free (fun _ _ => FreeL_nth ?_ _); simp [Free, FreeL]; done) | refine Cv.agg ?_ | (apply Cv.own; (case hob => (with_unfolding_all exact rfl)); (case hz => decide); (case hE => (first | (intro _ _ _ _; rfl) | (intro i j hi hj; exact hv5 i j hi hj) | (intro i j hi hj; (rcases i with _ | _ | i) <;> (rcases j with _ | _ | _ | _ | j) <;> first | rfl | (exfalso; omega)))); (case hf => (intro _ _; simp; done))) | (refine Cv.pvE ?_ ?_ (by decide); (focus (first | (intro _ _ _ _; rfl) | (intro i j hi hj; exact hv5 i j hi hj) | (intro i j hi hj; (rcases i with _ | _ | i) <;> (rcases j with _ | _ | _ | _ | j) <;> first | rfl | (exfalso; omega)))); (focus (intro _ _; simp; done))) | (apply Cv.ownS; (case hob => (with_unfolding_all exact rfl)); (case hz => decide); (case hle => (first | omega | (simp only [decide_eq_true_eq] at hg; omega) | (simp; omega))); (case hE => (intro _ _ _ _; first | (rw [Nat.zero_add]; done) | (rw [Nat.zero_add]; rfl) | (simpa using hv1 _ _ (by assumption) (by assumption)) | (simpa using hv2 _ _ (by assumption) (by assumption)) | (simpa using hv3 _ _ (by assumption) (by assumption)) | (simpa using hv4 _ _ (by assumption) (by assumption)))); (case hf => (intro _ _; simp; done))) | (refine Cv.viewE (by decide) ?_ ?_; (focus (intro _ _ _ _; first | rfl | (simpa using hv1 _ _ (by assumption) (by assumption)) | (simpa using hv2 _ _ (by assumption) (by assumption)) | (simpa using hv3 _ _ (by assumption) (by assumption)) | (simpa using hv4 _ _ (by assumption) (by assumption)))); (focus (intro _ _; simp; done))) | refine Cv.ptr (by with_unfolding_all rfl) (by with_unfolding_all rfl) ?_ | refine Cv.fn ?_ ?_)); done))))
    | ((with_reducible apply DC_call); (focus exact rfl); (focus exact rfl); (focus exact rfl); intro N hN; (simp only [go_sem, k3, ↓reduceIte, Nat.reduceAdd, Nat.reduceSub, Nat.reduceMul, Nat.reduceLT, Nat.reduceLeDiff, Nat.reduceEqDiff, Nat.reduceGT, Int.reduceToNat, Int.reduceBEq, Int.reduceBNe]; try simp (disch := omega) only [wrapI, wrapU, half_sum, toNat_sub1, toNat_add1, Int.toNat_natCast]))
    | ((with_reducible first | refine T_seq_region Γ_ok (fun K hK => ?_) | refine T_last_region Γ_ok (fun K hK => ?_) | refine T_seq_draw (id := 4) Γ_ok drawsAny [(0, [], []), (1, [0], []), (2, [0, 1], []), (3, [0, 1, 2], []), (4, [], []), (5, [4], []), (6, [4, 5], []), (7, [4, 5, 6], []), (8, [0, 1, 2, 3, 4, 5, 6, 7], []), (9, [], [0, 1, 2, 3, 4, 5, 6, 7, 8]), (10, [0, 1, 2, 3, 4, 5, 6, 7, 8, 9], [])] (by kernel_rfl) (fun K hK => ?_) | refine T_last_draw (id := 4) Γ_ok drawsAny [(0, [], []), (1, [0], []), (2, [0, 1], []), (3, [0, 1, 2], []), (4, [], []), (5, [4], []), (6, [4, 5], []), (7, [4, 5, 6], []), (8, [0, 1, 2, 3, 4, 5, 6, 7], []), (9, [], [0, 1, 2, 3, 4, 5, 6, 7, 8]), (10, [0, 1, 2, 3, 4, 5, 6, 7, 8, 9], [])] (by kernel_rfl) (fun K hK => ?_) | refine T_seq_draw (id := 7) Γ_ok drawsAny [(0, [], []), (1, [0], []), (2, [0, 1], []), (3, [0, 1, 2], []), (4, [0, 1, 2, 3], []), (5, [], []), (6, [5], []), (7, [5, 6], []), (8, [5, 6, 7], []), (9, [5, 6, 7, 8], []), (10, [0, 1, 2, 3, 4, 5, 6, 7, 8, 9], []), (11, [], []), (12, [11], []), (13, [11, 12], []), (14, [11, 12, 13], []), (15, [0, 1, 2, 3, 4, 5, 6, 7, 8, 9, 10, 11, 12, 13, 14], []), (16, [0, 1, 2, 3, 4, 5, 6, 7, 8, 9, 10, 11, 12, 13, 14, 15], []), (17, [0, 1, 2, 3, 4, 5, 6, 7, 8, 9, 10, 11, 12, 13, 14, 15, 16], [])] (by kernel_rfl) (fun K hK => ?_) | refine T_last_draw (id := 7) Γ_ok drawsAny [(0, [], []), (1, [0], []), (2, [0, 1], []), (3, [0, 1, 2], []), (4, [0, 1, 2, 3], []), (5, [], []), (6, [5], []), (7, [5, 6], []), (8, [5, 6, 7], []), (9, [5, 6, 7, 8], []), (10, [0, 1, 2, 3, 4, 5, 6, 7, 8, 9], []), (11, [], []), (12, [11], []), (13, [11, 12], []), (14, [11, 12, 13], []), (15, [0, 1, 2, 3, 4, 5, 6, 7, 8, 9, 10, 11, 12, 13, 14], []), (16, [0, 1, 2, 3, 4, 5, 6, 7, 8, 9, 10, 11, 12, 13, 14, 15], []), (17, [0, 1, 2, 3, 4, 5, 6, 7, 8, 9, 10, 11, 12, 13, 14, 15, 16], [])] (by kernel_rfl) (fun K hK => ?_) | refine T_seq_draw (id := 10) Γ_ok drawsAny [(0, [], []), (1, [0], []), (2, [], []), (3, [2], []), (4, [2, 3], []), (5, [2, 3, 4], []), (6, [], []), (7, [6], []), (8, [6, 7], []), (9, [6, 7, 8], []), (10, [6, 7, 8, 9], []), (11, [], []), (12, [11], []), (13, [11, 12], []), (14, [11, 12, 13], []), (15, [0, 1, 2, 3, 4, 5, 6, 7, 8, 9, 10, 11, 12, 13, 14], []), (16, [0, 1, 2, 3, 4, 5, 6, 7, 8, 9, 10, 11, 12, 13, 14, 15], []), (17, [0, 1, 2, 3, 4, 5, 6, 7, 8, 9, 10, 11, 12, 13, 14, 15, 16], [])] (by kernel_rfl) (fun K hK => ?_) | refine T_last_draw (id := 10) Γ_ok drawsAny [(0, [], []), (1, [0], []), (2, [], []), (3, [2], []), (4, [2, 3], []), (5, [2, 3, 4], []), (6, [], []), (7, [6], []), (8, [6, 7], []), (9, [6, 7, 8], []), (10, [6, 7, 8, 9], []), (11, [], []), (12, [11], []), (13, [11, 12], []), (14, [11, 12, 13], []), (15, [0, 1, 2, 3, 4, 5, 6, 7, 8, 9, 10, 11, 12, 13, 14], []), (16, [0, 1, 2, 3, 4, 5, 6, 7, 8, 9, 10, 11, 12, 13, 14, 15], []), (17, [0, 1, 2, 3, 4, 5, 6, 7, 8, 9, 10, 11, 12, 13, 14, 15, 16], [])] (by kernel_rfl) (fun K hK => ?_) | refine TO_callN rfl (fun N hN => ?_) | refine DCT_fork Γ_ok (fun K2 hK2 => ?_) | refine DCT_last Γ_ok ?_ | refine DC_ev Γ_ok ?_ | refine TO_ev Γ_ok ?_ | refine retQ_r ?_ | refine retQ_n ?_); (simp only [go_sem, k3, ↓reduceIte, Nat.reduceAdd, Nat.reduceSub, Nat.reduceMul, Nat.reduceLT, Nat.reduceLeDiff, Nat.reduceEqDiff, Nat.reduceGT, Int.reduceToNat, Int.reduceBEq, Int.reduceBNe]; try simp (disch := omega) only [wrapI, wrapU, half_sum, toNat_sub1, toNat_add1, Int.toNat_natCast]))
    | (with_reducible refine hK2 _ ?_ ?_ <;> clear hK2 K2)
    | with_reducible refine gC_false ?_ | with_reducible refine gC_true ?_ | with_reducible refine dCall_true ?_
    | (with_reducible refine hN _ _ ?_; clear hN N)
    | (with_reducible refine hN _ _ (dInl rfl) ?_; clear hN N)
    | ((with_reducible refine hN _ _ (.inr ?_) ?_); (focus (simp only [go_sem, k3, ↓reduceIte, Nat.reduceAdd, Nat.reduceSub, Nat.reduceMul, Nat.reduceLT, Nat.reduceLeDiff, Nat.reduceEqDiff, Nat.reduceGT, Int.reduceToNat, Int.reduceBEq, Int.reduceBNe]; try simp (disch := omega) only [wrapI, wrapU, half_sum, toNat_sub1, toNat_add1, Int.toNat_natCast])); all_goals (try clear hN N))
    | with_reducible refine T_seq ?_ | with_reducible refine T_block ?_ | with_reducible refine T_ret ?_ | with_reducible refine T_exit ?_ | with_reducible refine T_skip ?_ | with_reducible refine T_label ?_
    | with_reducible refine thenQ_n ?_ | with_reducible refine thenQ_e ?_ | with_reducible refine thenQ_r ?_ | with_reducible refine blockQ_n ?_ | with_reducible refine blockQ_e ?_ | with_reducible refine blockQ_r ?_
    | with_reducible refine blockQ_o (by decide) ?_
    | ((with_reducible refine T_cond _ rfl (fun hb => ?_) (fun hb => ?_)) <;> first | (cases hb; done) | (simp only [decide_eq_true_eq, decide_eq_false_iff_not, Bool.and_eq_true, Bool.or_eq_true, Bool.and_eq_false_imp, Bool.or_eq_false_iff, Bool.not_eq_true', Bool.not_eq_false', beq_iff_eq, bne_iff_ne, ne_eq, beq_eq_false_iff_ne, bne_eq_false_iff_eq, Int.not_lt, Int.not_le, ge_iff_le, gt_iff_lt] at hb) | skip)
    | (with_reducible refine And.intro (by first | exact trivial | omega | (intro hg; simp at hg ⊢ <;> omega) | (simp <;> omega)) ?_)
    | assumption | omega)
    · rw [if_neg (fun e => by rw [← e] at htl; exact absurd ‹(f.length : Int) ≤ b.length → ¬ f = t› (fun h => h (by omega) e))]
      all_goals rfl
    · rw [if_pos (And.right ‹(f.length : Int) ≤ b.length ∧ f = t›)]
      all_goals rfl
  · rw [if_neg (fun h => ok h.1)] at hR
    rw [hR]
    have ok' : (rdR b).ok = false := by
      cases h : (rdR b).ok with
      | false => rfl
      | true => exact absurd h ok
    rw [ok', er] at hv
    simp only [rcA, rcL] at hv
    clear hR er ok ok'
    (refine TC_of_T Γ_ok Tryd.func64 rfl (by kernel_rfl) ?_; simp only [Tryd.ntmps64, Tryd.results64, List.length_cons, List.length_nil, Nat.reduceSub, Nat.reduceAdd, List.replicate, List.cons_append, List.nil_append])
    (have cl1 := hv; have sx1 := k3; repeat' (first | with_reducible refine T_seq_drawT (id := 4) Γ_ok drawsAny pl64_4 (by kernel_rfl) (fun K hK => ?_) | with_reducible refine T_last_drawT (id := 4) Γ_ok drawsAny pl64_4 (by kernel_rfl) (fun K hK => ?_) | with_reducible refine T_seq_drawT (id := 7) Γ_ok drawsAny pl64_7 (by kernel_rfl) (fun K hK => ?_) | with_reducible refine T_last_drawT (id := 7) Γ_ok drawsAny pl64_7 (by kernel_rfl) (fun K hK => ?_) | with_reducible refine T_seq_drawT (id := 10) Γ_ok drawsAny pl64_10 (by kernel_rfl) (fun K hK => ?_) | with_reducible refine T_last_drawT (id := 10) Γ_ok drawsAny pl64_10 (by kernel_rfl) (fun K hK => ?_) | ((refine goR1 _ _ _ _ _ _ _ _ ?_ ?_ ?_ ?_ ?_ ?_ ?_ ?_) <;> (repeat intro hb) <;> first | exact True.intro | refine Lf.mk ?_)))
    all_goals rfl

set_option maxRecDepth 100000 in
set_option maxHeartbeats 4000000 in
theorem rd_b (b : List Nat) (hb : ByOk b) (hl : b.length ≤ 9223372036854775807) (c0 : ¬ (b.length = 0 ∨ b.length < gb8 b 0 + 5 ∨ gb8 b 0 < 5)) (k3 : gb8 b 1 = 3) (x5 : gb8 b 0 ≠ 5) : Look Tryd.prog 64 [bys b] (.tup [rcA (readR b).1, .imm (.int .i64 ((readR b).2 : Nat))]) := by
  refine Look.mk (by simp [Pl, PlL]) ?_
  have b0 := gb8_lt hb 0
  have b1 := gb8_lt hb 1
  have b2 := gb8_lt hb 2
  have b3 := gb8_lt hb 3
  have b4 := gb8_lt hb 4
  have b5 := gb8_lt hb 5
  have b6 := gb8_lt hb 6
  have b7 := gb8_lt hb 7
  have b8 := gb8_lt hb 8
  clear hb
  have er : rdR b = ⟨3, gb8 b 2, 0, ⟨0, 0, 0, 0⟩⟩ := by unfold rdR; rw [if_pos k3, if_neg x5, k3]; rfl
  have hv := rrec_tc (rdR b)
  have hR : readR b = if (rdR b).ok = true ∧ frameN (rdR b) = b.take (frameN (rdR b)).length then (rdR b, (frameN (rdR b)).length) else (rc0, 0) := by
    unfold readR
    rw [if_neg c0]
  have ok : ¬ (rdR b).ok = true := by
    rw [er]
    intro h
    have h2 := (Rcd.ok_spec h).2
    simp only [] at h2
    rcases h2 with ⟨h2, _⟩ | ⟨h2, _⟩ | ⟨_, _, h2, _⟩
    · exact absurd h2 (by decide)
    · exact absurd h2 (by decide)
    · exact absurd h2 (by decide)
  rw [if_neg (fun h => ok h.1)] at hR
  rw [hR]
  have ok' : (rdR b).ok = false := by
    cases h : (rdR b).ok with
    | false => rfl
    | true => exact absurd h ok
  rw [ok', er] at hv
  simp only [rcA, rcL] at hv
  clear hR er ok ok'
  (refine TC_of_T Γ_ok Tryd.func64 rfl (by kernel_rfl) ?_; simp only [Tryd.ntmps64, Tryd.results64, List.length_cons, List.length_nil, Nat.reduceSub, Nat.reduceAdd, List.replicate, List.cons_append, List.nil_append])
  (have cl1 := hv; have sx1 := k3; repeat' (first | with_reducible refine T_seq_drawT (id := 4) Γ_ok drawsAny pl64_4 (by kernel_rfl) (fun K hK => ?_) | with_reducible refine T_last_drawT (id := 4) Γ_ok drawsAny pl64_4 (by kernel_rfl) (fun K hK => ?_) | with_reducible refine T_seq_drawT (id := 7) Γ_ok drawsAny pl64_7 (by kernel_rfl) (fun K hK => ?_) | with_reducible refine T_last_drawT (id := 7) Γ_ok drawsAny pl64_7 (by kernel_rfl) (fun K hK => ?_) | with_reducible refine T_seq_drawT (id := 10) Γ_ok drawsAny pl64_10 (by kernel_rfl) (fun K hK => ?_) | with_reducible refine T_last_drawT (id := 10) Γ_ok drawsAny pl64_10 (by kernel_rfl) (fun K hK => ?_) | ((refine goR1 _ _ _ _ _ _ _ _ ?_ ?_ ?_ ?_ ?_ ?_ ?_ ?_) <;> (repeat intro hb) <;> first | exact True.intro | refine Lf.mk ?_)))
  all_goals rfl
end Go.Proofs.YtnomenmakhielaaDoor
